/- Lemmas and contracts of functions, several texts in one. -/
import Derived.Test.YtelbfbioomcmeaaGreatDoorQ16
import Derived.Test.YtelbfbioomcmeaaGreatDoorQ14
set_option maxRecDepth 100000
set_option maxHeartbeats 4000000
set_option linter.all false
namespace Go.Proofs.YtelbfbioomcmeaaGreatDoor
open Go.RowKit
open Tryz
theorem xN (els:List (List D)) (H:aA) (hl:els.length<=140737488000000):aT prog 49 [.seq 1 els] H fun d H'=>d=.seq 1 els/\H=H':=by
 refine bM (K:=fun d=>d=.seq 1 els) ?_
 refine aN _ _ func49 rfl rfl ntmps49 results49 (by simp) fun w0 g0 Q aC=>?_
 refine tq trivial ?_;intro Nx aB Gx aG
 intro b hb
 refine aB _ ?_
 cases b with
 |true=>
  refine tq trivial ?_;intro Nx aB Gx aG
  refine rt aC trivial ?_
  have he:els=[]:=kF fun e=>Bool.noConfusion (hb fun e0=>e (gP e0))
  exact⟨_,aE _,aE _,_,he▸yT,rfl⟩
 |false=>
  refine tq trivial ?_;intro Nx aB Gx aG
  intro b1 sI
  refine cY (e:=5) u9 rfl u9 rfl ty5 rfl (by decide) (bQ (aE _) sI) (.inr ⟨b1,0,rfl,rfl,sI,aQ _ _ _⟩:Gl H 5 1 [] (.os b1 0 1 0 0) (H.bH b1 (.row 5 0 1 [])) (some b1)) (new:=els) (by exact⟨rfl,rfl⟩) (by rw[mS];show(_+_) * 1<=_;omega) fun d H6 qL kK eJ _=>?_
  refine tq trivial ?_;intro Nx aB Gx aG
  refine rt aC trivial ?_
  rw[fR] at kK
  exact⟨_,aE _,eJ,_,sF eJ kK,rfl⟩
theorem aGV {H0 H:aA} {els:List (List D)} {d:D} {ob:Option Nat} (aR:H0.le H) (hg:Gl H0 5 1 els d H ob) (hl:els.length<=140737488000000):aT prog 49 [d] H fun d' H'=>d'=.seq 1 els/\H0=H':=by
 rcases hg with⟨_,rfl,rfl⟩|⟨c,o,_,rfl,h3,h4⟩
 ·refine((xN [] H (by simp)).imp (ds:=[.val (.slice none 0 0)]) ⟨kZ,trivial⟩).post ?_
  rintro d' _ ⟨rfl,rfl⟩
  exact⟨_,H0,aR,aJ aR,rfl,rfl⟩
 ·refine aT.aXA (k:=0) (n:=els.length) h4 (by omega) ?_
  rw[iY,kW]
  have mO:=aA.N8 aR h3
  refine(xN els (H.del c) hl).post ?_
  rintro d' _ ⟨rfl,rfl⟩
  exact⟨_,H0,mO,aJ mO,rfl,rfl⟩
def WS (H0:aA) (b:Nat) (l:List UInt8) (H:aA):Prop:=H0 b=none/\H0.le H/\∃d ob,H b=some (.row 287 0 1 [[d]])/\Gl H0 5 1 (l.map bD) d H ob/\ob≠some b
theorem yA (H:aA):aT prog 91 [] H fun d H'=>∃b,d=.ep b 0 1 0 0/\WS H b [] H':=by
 refine aN _ _ func91 rfl rfl ntmps91 results91 (by simp) fun w0 g0 Q aC=>?_
 refine tq trivial ?_;intro Nx aB Gx aG
 intro b hb
 refine aB _ ?_
 refine tq trivial ?_;intro Nx aB Gx aG
 refine rt aC trivial ?_
 exact⟨_,aE _,b,rfl,hb,bQ (aE _) hb,_,none,aQ _ _ _,nJ _ _ _ _,by simp⟩
theorem XO (c:UInt8) {H0 H:aA} {b:Nat} {l:List UInt8} (h:WS H0 b l H) (hl:l.length<=1000000000):aT prog 194 [.ep b 0 1 0 0,.val (.int .u8 (c.toNat:Int))] H fun d H'=>WS H0 b (l++[c]) H':=by
 obtain⟨h0,aR,d,ob,hb,hg,rU⟩:=h
 refine aN _ _ func194 rfl rfl ntmps194 results194 (by simp) fun w0 g0 Q aC=>?_
 refine tq hb ?_;intro Nx aB Gx aG
 refine cY (e:=5) u9 rfl u9 rfl ty5 rfl (by decide) aR hg (new:=[bD c]) (by exact⟨rfl,rfl⟩) (by rw[bK];show(_+1) * 1<=_;omega) fun d' H6 qL kK eJ uD=>?_
 obtain⟨z1,z2⟩:=uD b _ hb rU
 have uS:=kK.cells
 simp only[D.cells] at uS
 (have fs:=And.intro z1 uS;refine yR ?_;try clear fs);(first|refine aG _ ?_|refine aB _ ?_|skip)
 refine tq trivial ?_;intro Nx aB Gx aG
 refine rt aC trivial ?_
 exact⟨_,aE _,h0,bQ eJ h0,d',qL,aQ _ _ _,by rw[fI];exact kK.jY fun c hc=>aP fun e=>z2 (by rw[hc,e]),z2⟩
theorem G5 (n:Nat) (hn:n<18446744073709551616) {H0 H:aA} {b:Nat} {l:List UInt8} (h:WS H0 b l H) (hl:l.length<=1000000000):aT prog 107 [.ep b 0 1 0 0,.val (.int .u64 n)] H fun d H'=>WS H0 b (l++put n) H':=by
 obtain⟨h0,aR,d,ob,hb,hg,rU⟩:=h
 have hp:=nN n hn
 refine aN _ _ func107 rfl rfl ntmps107 results107 (by simp) fun w0 g0 Q aC=>?_
 refine tq hb ?_;intro Nx aB Gx aG
 refine wE (fun _=>false) (fun _=>false) (fun _ _ d A=>A=.none/\d=.seq 1 ((put n).map bD)) (fun _ _ _ _ _=>False) fun Nx aB=>?_;have fs:=hb;refine VV ?_;(first|refine aG _ ?_|refine aB _ ?_|skip);(try clear fs)
 refine⟨bN fun eL eO=>aFk n eL hn,?_⟩
 refine cY (e:=5) u9 rfl u9 rfl ty5 rfl (by decide) aR hg (new:=(put n).map bD) (by exact⟨rfl,rfl⟩) (by rw[bK,bK];show(_+_) * 1<=_;omega) fun d' H6 qL kK eJ uD=>?_
 obtain⟨z1,z2⟩:=uD b _ hb rU
 have uS:=kK.cells
 simp only[D.cells] at uS
 (have fs:=And.intro z1 uS;refine yR ?_;try clear fs);(first|refine aG _ ?_|refine aB _ ?_|skip)
 refine tq trivial ?_;intro Nx aB Gx aG
 refine rt aC trivial ?_
 exact⟨_,aE _,h0,bQ eJ h0,d',qL,aQ _ _ _,by rw[fI];exact kK.jY fun c hc=>aP fun e=>z2 (by rw[hc,e]),z2⟩
theorem aIJ (s:List UInt8) {H0 H:aA} {b:Nat} {l:List UInt8} (h:WS H0 b l H) (hl:(l++(put s.length++s)).length<=1000000000):aT prog 108 [.ep b 0 1 0 0,.val (.string (e8 s))] H fun d H'=>WS H0 b (l++(put s.length++s)) H':=by
 rw[bJ,bJ] at hl
 have hw:IntKind.u64.wrap (s.length:Int)=(s.length:Int):=j6 (by omega)
 refine aN _ _ func108 rfl rfl ntmps108 results108 (by simp) fun w0 g0 Q aC=>?_
 refine tq (cZ jF hw) ?_;intro Nx aB Gx aG
 refine(G5 s.length (by omega) h (by omega)).mono ?_
 rintro d H1 ⟨h0,aR,dd,ob,hb,hg,rU⟩
 refine tq (cZ hb iN) ?_;intro Nx aB Gx aG
 refine cY (e:=5) u9 rfl ty9 rfl ty5 rfl (by decide) aR hg (new:=s.map bD) (by exact⟨rfl,rfl⟩) (by rw[bK,bK,bJ];show(_+_) * 1<=_;omega) fun d' H6 qL kK eJ uD=>?_
 obtain⟨z1,z2⟩:=uD b _ hb rU
 have uS:=kK.cells
 simp only[D.cells] at uS
 (have fs:=And.intro z1 uS;refine yR ?_;try clear fs);(first|refine aG _ ?_|refine aB _ ?_|skip)
 refine tq trivial ?_;intro Nx aB Gx aG
 refine rt aC trivial ?_
 exact⟨_,aE _,h0,bQ eJ h0,d',qL,aQ _ _ _,by rw[<-dN,fI];exact kK.jY fun c hc=>aP fun e=>z2 (by rw[hc,e]),z2⟩
theorem JQ {H0 H:aA} {b:Nat} {l:List UInt8} (h:WS H0 b l H) (hl:l.length<=1000000000):aT prog 101 [.ep b 0 1 0 0] H fun d H'=>d=.seq 1 (l.map bD)/\H0=H':=by
 obtain⟨h0,aR,d,ob,hb,hg,rU⟩:=h
 refine aN _ _ func101 rfl rfl ntmps101 results101 (by simp) fun w0 g0 Q aC=>?_
 refine tq hb ?_;intro Nx aB Gx aG
 refine(aGV aR hg (by rw[bK];omega)).mono ?_
 rintro d' _ ⟨rfl,rfl⟩
 refine tq trivial ?_;intro Nx aB Gx aG
 refine rt aC trivial ?_
 exact⟨_,aE _,rfl⟩
theorem iL {H:aA} {a c:Nat} {x y:gB} (h2:H a=none) (h3:H c=none):H.le ((((H.bH a x).bH c y).del a).del c):=fun b z hz=>by
 have e2:b≠a:=fun e=>by rw[e,h2] at hz;cases hz
 have e3:b≠c:=fun e=>by rw[e,h3] at hz;cases hz
 rw[bP e3,bP e2,aP e3,aP e2];exact hz
theorem aHZ {H:aA} {a c:Nat} {x y:gB} (h2:H a=none) (h3:H c=none) (hn:c≠a):(H.bH c y).le (((H.bH a x).bH c y).del a):=fun b z hz=>by
 by_cases e:b=c
 ·subst e
  rw[aQ] at hz
  rw[bP hn,aQ];exact hz
 ·rw[aP e] at hz
  have e2:b≠a:=fun e=>by rw[e,h2] at hz;cases hz
  rw[bP e2,aP e,aP e2];exact hz
def mL (l:List UInt8) (a:Nat):gB:=.row 369 0 3 [[.seq 1 (l.map bD),i64 a,i64 0]]
theorem x9 (l:List UInt8) (H:aA) (hl:l.length<=1000000000):aT prog 171 [.seq 1 (l.map bD)] H fun d H'=>∃r,H r=none/\d=.ep r 0 3 0 0/\H'=H.bH r (mL l 0):=by
 refine aN _ _ func171 rfl rfl ntmps171 results171 (by simp) fun w0 g0 Q aC=>?_
 refine tq trivial ?_;intro Nx aB Gx aG
 refine(xN _ _ (by rw[bK];omega)).mono ?_
 rintro d _ ⟨rfl,rfl⟩
 refine tq trivial ?_;intro Nx aB Gx aG
 intro r hr
 refine aB _ ?_
 refine tq trivial ?_;intro Nx aB Gx aG
 refine rt aC trivial ?_
 exact⟨_,aE _,r,hr,rfl,rfl⟩
theorem aEc (l:List UInt8) (a to r:Nat) (H:aA) (g:FuncId) (dO:List D) (dx:D) (hb:H r=some (mL l a)) (hf:aT prog g dO H fun d H'=>d=.fV [dx,i64 to,i64 0]/\H=H'):aT prog 258 [.ep r 0 3 0 0,.fn g dO] H fun d H'=>d=dx/\H'=H.bH r (mL l to):=by
 unfold mL at hb
 refine aN _ _ func258 rfl rfl ntmps258 results258 (by simp) fun w0 g0 Q aC=>?_
 refine tq hb ?_;intro Nx aB Gx aG
 refine hf.mono ?_
 rintro d _ ⟨rfl,rfl⟩
 refine tq hb ?_;intro Nx aB Gx aG
 refine rt aC trivial ?_
 exact⟨_,aE _,rfl⟩
theorem aEe (l:List UInt8) (a to r:Nat) (H:aA) (g:FuncId) (dO:List D) (dx:D) (hb:H r=some (mL l a)) (hf:aT prog g dO H fun d H'=>d=.fV [dx,i64 to,i64 0]/\H=H'):aT prog 343 [.ep r 0 3 0 0,.fn g dO] H fun d H'=>d=dx/\H'=H.bH r (mL l to):=by
 unfold mL at hb
 refine aN _ _ func343 rfl rfl ntmps343 results343 (by simp) fun w0 g0 Q aC=>?_
 refine tq hb ?_;intro Nx aB Gx aG
 refine hf.mono ?_
 rintro d _ ⟨rfl,rfl⟩
 refine tq hb ?_;intro Nx aB Gx aG
 refine rt aC trivial ?_
 exact⟨_,aE _,rfl⟩
theorem aEb (l:List UInt8) (a to r:Nat) (H:aA) (g:FuncId) (dO:List D) (dx:D) (hb:H r=some (mL l a)) (hf:aT prog g dO H fun d H'=>d=.fV [dx,i64 to,i64 0]/\H=H'):aT prog 341 [.ep r 0 3 0 0,.fn g dO] H fun d H'=>d=dx/\H'=H.bH r (mL l to):=by
 unfold mL at hb
 refine aN _ _ func341 rfl rfl ntmps341 results341 (by simp) fun w0 g0 Q aC=>?_
 refine tq hb ?_;intro Nx aB Gx aG
 refine hf.mono ?_
 rintro d _ ⟨rfl,rfl⟩
 refine tq hb ?_;intro Nx aB Gx aG
 refine rt aC trivial ?_
 exact⟨_,aE _,rfl⟩
theorem aEd (l:List UInt8) (a to r:Nat) (H:aA) (g:FuncId) (dO:List D) (dx:D) (hb:H r=some (mL l a)) (hf:aT prog g dO H fun d H'=>d=.fV [dx,i64 to,i64 0]/\H=H'):aT prog 339 [.ep r 0 3 0 0,.fn g dO] H fun d H'=>d=dx/\H'=H.bH r (mL l to):=by
 unfold mL at hb
 refine aN _ _ func339 rfl rfl ntmps339 results339 (by simp) fun w0 g0 Q aC=>?_
 refine tq hb ?_;intro Nx aB Gx aG
 refine hf.mono ?_
 rintro d _ ⟨rfl,rfl⟩
 refine tq hb ?_;intro Nx aB Gx aG
 refine rt aC trivial ?_
 exact⟨_,aE _,rfl⟩
theorem tI {l:List UInt8} {a n b x8:Nat} (h:HM l a n b) (r:Nat) (H:aA) (hb:H r=some (mL l a)) (hl:l.length<=1000000000) (hm:n<=x8) (hmm:x8<=9223372036854775807) (hn:n+b<=l.length):aT prog 172 [.ep r 0 3 0 0,i64 x8] H fun d H'=>d=i64 n/\H'=H.bH r (mL l b):=by
 have gL:=h.lt
 have aR:=h.le
 have cI:=lm bD l
 have mW:=hb
 unfold mL at mW
 have c1:aT prog 259 [.rp [.ep r 0 3 0 0],.rp [i64 x8]] H fun d H'=>d=.fV [i64 n,i64 b,i64 0]/\H=H':=by
  have q1:((x8:Int)<0)=False:=aI (by omega)
  have w1:IntKind.u64.wrap (x8:Int)=(x8:Int):=j6 (by omega)
  have q2:((x8:Int)<(n:Int))=False:=aI (by omega)
  have w2:IntKind.u64.wrap (IntKind.i64.wrap ((l.length:Int) - (b:Int)))=(l.length:Int) - b:=by rw[aY (by omega),j6 (by omega)]
  have q3:((l.length:Int) - (b:Int)<(n:Int))=False:=aI (by omega)
  have w3:IntKind.i64.wrap (n:Int)=(n:Int):=aY (by omega)
  refine aN _ _ func259 rfl rfl ntmps259 results259 (by simp) fun w0 g0 Q aC=>?_
  refine tq trivial ?_;intro Nx aB Gx aG
  refine dE (fun _ _ d A=>A=.none/\d=.fV [.val (.int .u64 n),i64 b,i64 0]) fun Nx aB=>?_;refine dst mW ?_;intro Nx aB Gx aG
  refine⟨bN fun eL eO=>aBU h eL (by omega),?_⟩
  refine dst mW ?_;intro Nx aB Gx aG
  refine tq (qN mW cI q1 w1 q2 w2 q3 w3) ?_;intro Nx aB Gx aG
  refine rt aC trivial ?_
  exact⟨_,aE _,rfl⟩
 refine aN _ _ func172 rfl rfl ntmps172 results172 (by simp) fun w0 g0 Q aC=>?_
 refine tq trivial ?_;intro Nx aB Gx aG
 intro b2 mW b3 GQ
 refine aB _ ?_
 obtain⟨mJ,s5⟩:=bT.1 GQ;refine bS 2 rfl ((aP mJ.symm).trans (aQ _ _ _)) rfl ?_;refine bS 3 rfl ((bP mJ).trans (aQ _ _ _)) rfl ?_;refine eZ _ (iL mW s5) ?_;simp only[St.gU,List.drop]
 refine tq trivial ?_;intro Nx aB Gx aG
 refine(aEc l a b r _ _ _ (i64 n) hb c1).mono ?_
 rintro d _ ⟨rfl,rfl⟩
 refine tq trivial ?_;intro Nx aB Gx aG
 refine rt aC trivial ?_
 exact⟨_,aE _,rfl⟩
theorem aIG {l:List UInt8} {a n b x8:Nat} (h:HM l a n b) (r:Nat) (H:aA) (hb:H r=some (mL l a)) (hl:l.length<=1000000000) (hm:n<=x8):aT prog 265 [.ep r 0 3 0 0,.val (.int .u64 x8)] H fun d H'=>d=.val (.int .u64 n)/\H'=H.bH r (mL l b):=by
 have mW:=hb
 unfold mL at mW
 have c1:aT prog 344 [.rp [.ep r 0 3 0 0],.rp [.val (.int .u64 x8)]] H fun d H'=>d=.fV [.val (.int .u64 n),i64 b,i64 0]/\H=H':=by
  have q2:((x8:Int)<(n:Int))=False:=aI (by omega)
  refine aN _ _ func344 rfl rfl ntmps344 results344 (by simp) fun w0 g0 Q aC=>?_
  refine tq trivial ?_;intro Nx aB Gx aG
  refine dE (fun _ _ d A=>A=.none/\d=.fV [.val (.int .u64 n),i64 b,i64 0]) fun Nx aB=>?_;refine dst mW ?_;intro Nx aB Gx aG
  refine⟨bN fun eL eO=>aBU h eL (by omega),?_⟩
  refine dst mW ?_;intro Nx aB Gx aG
  refine tq q2 ?_;intro Nx aB Gx aG
  refine rt aC trivial ?_
  exact⟨_,aE _,rfl⟩
 refine aN _ _ func265 rfl rfl ntmps265 results265 (by simp) fun w0 g0 Q aC=>?_
 refine tq trivial ?_;intro Nx aB Gx aG
 intro b2 mW b3 GQ
 refine aB _ ?_
 obtain⟨mJ,s5⟩:=bT.1 GQ;refine bS 2 rfl ((aP mJ.symm).trans (aQ _ _ _)) rfl ?_;refine bS 3 rfl ((bP mJ).trans (aQ _ _ _)) rfl ?_;refine eZ _ (iL mW s5) ?_;simp only[St.gU,List.drop]
 refine tq trivial ?_;intro Nx aB Gx aG
 refine(aEe l a b r _ _ _ (.val (.int .u64 n)) hb c1).mono ?_
 rintro d _ ⟨rfl,rfl⟩
 refine tq trivial ?_;intro Nx aB Gx aG
 refine rt aC trivial ?_
 exact⟨_,aE _,rfl⟩
theorem aGO {l:List UInt8} {a:Nat} (ha:a<l.length) (r:Nat) (H:aA) (hb:H r=some (mL l a)) (hl:l.length<=1000000000):aT prog 263 [.ep r 0 3 0 0] H fun d H'=>d=.val (.int .u8 (l[a].toNat:Int))/\H'=H.bH r (mL l (a+1)):=by
 have mW:=hb
 unfold mL at mW
 have cI:=lm bD l
 have c1:aT prog 342 [.rp [.ep r 0 3 0 0]] H fun d H'=>d=.fV [.val (.int .u8 (l[a].toNat:Int)),i64 (a+1:Nat),i64 0]/\H=H':=by
  have q2:((a:Int)=(l.length:Int))=False:=aI (by omega)
  have hg:(l.map bD)[a]?=some [.val (.int .u8 (l[a].toNat:Int))]:=by rw[cR,cP ha];rfl
  have hx:=bL a
  have cL:=bY a
  have ha':(a:Int)<(l.length:Int):=by omega
  have w3:=wS a (by omega)
  refine aN _ _ func342 rfl rfl ntmps342 results342 (by simp) fun w0 g0 Q aC=>?_
  refine tq trivial ?_;intro Nx aB Gx aG
  refine dE (fun _ _ _ _=>False) fun Nx aB=>?_;refine dst (cZ mW cI) ?_;intro Nx aB Gx aG
  refine tq q2 ?_;intro Nx aB Gx aG
  refine dE (fun _ _ _ _=>False) fun Nx aB=>?_;refine dst (qN mW cI hg hx cL ha ha' w3) ?_;intro Nx aB Gx aG
  refine tq trivial ?_;intro Nx aB Gx aG
  refine rt aC trivial ?_
  exact⟨_,aE _,rfl⟩
 refine aN _ _ func263 rfl rfl ntmps263 results263 (by simp) fun w0 g0 Q aC=>?_
 refine tq trivial ?_;intro Nx aB Gx aG
 intro b2 mW
 refine aB _ ?_
 refine fW 1 mW ?_
 refine tq trivial ?_;intro Nx aB Gx aG
 refine(aEb l a (a+1) r _ _ _ (.val (.int .u8 (l[a].toNat:Int))) hb c1).mono ?_
 rintro d _ ⟨rfl,rfl⟩
 refine tq trivial ?_;intro Nx aB Gx aG
 refine rt aC trivial ?_
 exact⟨_,aE _,rfl⟩
theorem aHz {l:List UInt8} {a n:Nat} (ha:a+n<=l.length) (r:Nat) (H:aA) (hb:H r=some (mL l a)) (hl:l.length<=1000000000):aT prog 260 [.ep r 0 3 0 0,i64 n] H fun d H'=>d=.seq 1 (((l.drop a).take n).map bD)/\H'=H.bH r (mL l (a+n)):=by
 have mW:=hb
 unfold mL at mW
 have cI:=lm bD l
 have c1:aT prog 340 [.rp [i64 n],.rp [.ep r 0 3 0 0]] H fun d H'=>d=.fV [.seq 1 (((l.drop a).take n).map bD),i64 (a+n:Nat),i64 0]/\H=H':=by
  have q1:((n:Int)<0)=False:=aI (by omega)
  have w1:IntKind.i64.wrap ((l.length:Int) - (a:Int))=(l.length:Int) - a:=aY (by omega)
  have q2:((l.length:Int) - (a:Int)<(n:Int))=False:=aI (by omega)
  have w2:IntKind.i64.wrap ((a:Int)+(n:Int))=((a+n:Nat):Int):=by rw[aY (by omega)];omega
  have hx:=bL a
  have PC:((a+n:Nat):Int).toNat=a+n:=bL _
  have AL:List.drop a (List.take (a+n) (l.map bD))=((l.drop a).take n).map bD:=by rw[List.drop_take,Nat.add_sub_cancel_left,sW,List.map_drop]
  refine aN _ _ func340 rfl rfl ntmps340 results340 (by simp) fun w0 g0 Q aC=>?_
  refine tq q1 ?_;intro Nx aB Gx aG
  refine dE (fun _ _ _ _=>False) fun Nx aB=>?_;refine dst (fJ mW cI w1 q2) ?_;intro Nx aB Gx aG
  refine tq trivial ?_;intro Nx aB Gx aG
  refine dE (fun _ _ d A=>A=.none/\d=.seq 1 (((l.drop a).take n).map bD)) fun Nx aB=>?_;refine dst (jA mW cI w2 hx PC AL) ?_;intro Nx aB Gx aG
  refine⟨by omega,by omega,by omega,bN fun eL eO=>xN _ eL (by rw[bK,dJ];omega),?_⟩
  refine dst (cZ mW w2) ?_;intro Nx aB Gx aG
  refine tq trivial ?_;intro Nx aB Gx aG
  refine rt aC trivial ?_
  exact⟨_,aE _,rfl⟩
 refine aN _ _ func260 rfl rfl ntmps260 results260 (by simp) fun w0 g0 Q aC=>?_
 refine tq trivial ?_;intro Nx aB Gx aG
 intro b2 mW b3 GQ
 refine aB _ ?_
 obtain⟨mJ,s5⟩:=bT.1 GQ;refine bS 2 rfl ((aP mJ.symm).trans (aQ _ _ _)) rfl ?_;refine bS 3 rfl ((bP mJ).trans (aQ _ _ _)) rfl ?_;refine eZ _ (iL mW s5) ?_;simp only[St.gU,List.drop]
 refine tq trivial ?_;intro Nx aB Gx aG
 refine(aEd l a (a+n) r _ _ _ (.seq 1 (((l.drop a).take n).map bD)) hb c1).mono ?_
 rintro d _ ⟨rfl,rfl⟩
 refine tq trivial ?_;intro Nx aB Gx aG
 refine rt aC trivial ?_
 exact⟨_,aE _,rfl⟩
theorem aJe {l:List UInt8} {a n b x8:Nat} (h:HM l a n b) (r:Nat) (H:aA) (hb:H r=some (mL l a)) (hl:l.length<=1000000000) (hm:n<=x8) (hmm:x8<=9223372036854775807) (hn:b+n<=l.length):aT prog 173 [.ep r 0 3 0 0,i64 x8] H fun d H'=>d=.val (.string (e8 ((l.drop b).take n)))/\H'=H.bH r (mL l (b+n)):=by
 have hby:=E5 ((l.drop b).take n)
 refine aN _ _ func173 rfl rfl ntmps173 results173 (by simp) fun w0 g0 Q aC=>?_
 refine tq trivial ?_;intro Nx aB Gx aG
 refine(tI h r _ hb hl hm hmm (by omega)).mono ?_
 rintro d _ ⟨rfl,rfl⟩
 refine tq trivial ?_;intro Nx aB Gx aG
 refine(aHz hn r _ (aQ _ _ _) hl).mono ?_
 rintro d _ ⟨rfl,rfl⟩
 refine tq hby ?_;intro Nx aB Gx aG
 refine rt aC trivial ?_
 exact⟨_,aE _,rfl⟩
theorem VU (l:List UInt8) (a r:Nat) (H:aA) (hb:H r=some (mL l a)):aT prog 175 [.ep r 0 3 0 0] H fun d H'=>d=i64 0/\H=H':=by
 unfold mL at hb
 refine aN _ _ func175 rfl rfl ntmps175 results175 (by simp) fun w0 g0 Q aC=>?_
 refine tq hb ?_;intro Nx aB Gx aG
 refine rt aC trivial ?_
 exact⟨_,aE _,rfl⟩
theorem aBF (l:List UInt8) (r:Nat) (H:aA) (hb:H r=some (mL l l.length)) (hl:l.length<=1000000000):aT prog 176 [.ep r 0 3 0 0] H fun d H'=>d=i64 0/\H=H':=by
 have he:=VU l _ r H hb
 have mW:=hb
 unfold mL at mW
 have cI:=lm bD l
 have w1:IntKind.i64.wrap ((l.length:Int) - (l.length:Int))=0:=by rw[aY (by omega)];omega
 have hlf:aT prog 261 [.ep r 0 3 0 0] H fun d H'=>d=i64 0/\H=H':=by
  refine aN _ _ func261 rfl rfl ntmps261 results261 (by simp) fun w0 g0 Q aC=>?_
  refine tq mW ?_;intro Nx aB Gx aG
  refine dE (fun _ _ _ _=>False) fun Nx aB=>?_;refine dst (dZ mW cI w1) ?_;intro Nx aB Gx aG
  refine tq trivial ?_;intro Nx aB Gx aG
  refine rt aC trivial ?_
  exact⟨_,aE _,rfl⟩
 refine aN _ _ func176 rfl rfl ntmps176 results176 (by simp) fun w0 g0 Q aC=>?_
 refine tq trivial ?_;intro Nx aB Gx aG
 refine he.mono ?_
 rintro d _ ⟨rfl,rfl⟩
 refine tq trivial ?_;intro Nx aB Gx aG
 refine hlf.mono ?_
 rintro d _ ⟨rfl,rfl⟩
 refine tq trivial ?_;intro Nx aB Gx aG
 refine rt aC trivial ?_
 exact⟨_,aE _,rfl⟩
def wP (s:ByteArray):List UInt8:=put s.size++s.data.toList
def xS (l:List ByteArray):List UInt8:=put l.length++l.flatMap wP
theorem YW {l:List ByteArray} {i:Nat} (h:i<l.length):∃r,xS l=put l.length++(l.take i).flatMap wP++(wP l[i]++r)/\put l.length++(l.take (i+1)).flatMap wP=put l.length++(l.take i).flatMap wP++wP l[i]:=by
 refine⟨(l.drop (i+1)).flatMap wP,?_,?_⟩
 ·have e:l=l.take i++l[i]::l.drop (i+1):=by rw[zL,kV]
  have e2:l.flatMap wP=(l.take i++l[i]::l.drop (i+1)).flatMap wP:=cV _ e
  unfold xS
  rw[e2,pI,wO,dN]
 ·rw[dH h,pI,zM,dN]
theorem ZN (l:List ByteArray) (H:aA) (hl:(xS l).length<=1000000000) (mA:l.length<=1000000000):aT prog 47 [fY l] H fun d H'=>d=.seq 1 ((xS l).map bD)/\H=H':=by
 have cI:=lm sD l
 have hw:IntKind.u64.wrap (l.length:Int)=(l.length:Int):=j6 (by omega)
 refine aN _ _ func47 rfl rfl ntmps47 results47 (by simp) fun w0 g0 Q aC=>?_
 refine tq @fY.eq_1 ?_;intro Nx aB Gx aG
 refine(yA _).mono ?_
 rintro d H1 ⟨b,rfl,hW⟩
 refine tq (dZ @fY.eq_1 cI hw) ?_;intro Nx aB Gx aG
 refine(G5 l.length (by omega) hW (tV _)).mono ?_
 rintro d H2 hW2
 refine tq (cZ @fY.eq_1 cI) ?_;intro Nx aB Gx aG
 refine bB l.length (fun i s=>s.df=[]/\s.fr 3=.ep b 0 1 0 0/\s.fr 20=.seq 1 (l.map sD)/\s.fr 21=i64 l.length/\s.fr 22=i64 i/\WS H b (put l.length++(l.take i).flatMap wP) s.H) ⟨rfl,rfl,rfl,rfl,rfl,by rw[pL,wD,kX];exact hW2⟩ ?_
 rintro i s hi ⟨bG,f3,f20,f21,f22,hW3⟩
 by_cases aZ:i<l.length
 case neg=>
  have p1:=lF i l.length (by omega)
  rw[dQ (by omega)] at hW3
  refine tq (gE f3 f20 f21 f22 p1) ?_;intro Nx aB Gx aG
  refine(JQ (l:=xS l) hW3 hl).mono ?_
  rintro d _ ⟨rfl,rfl⟩
  refine tq trivial ?_;intro Nx aB Gx aG
  refine rt aC bG ?_
  exact⟨_,aE _,rfl⟩
 have cN:(i:Int)<(l.length:Int):=by omega
 have p1:=lT i l.length aZ
 have hx:=bL i
 have cL:=bY i
 have b8:=jG aZ
 have w3:=wS i (by omega)
 obtain⟨r,T6,hnx⟩:=YW aZ
 rw[hnx]
 obtain⟨t,ht,sM⟩:=HQ l[i]
 have he:wP l[i]=put t.length++t:=by unfold wP;rw[ht,iN,jF]
 rw[he] at T6 ⊢
 rw[T6] at hl
 simp only[bJ] at hl
 rw[ht] at b8
 refine tq (rF f3 f20 f21 f22 p1 cI b8 hx cL aZ) ?_;intro Nx aB Gx aG
 refine(aIJ t hW3 (by simp only[bJ];omega)).mono ?_
 rintro d H3 hW4
 refine tq (gE f3 f20 f21 f22 w3) ?_;intro Nx aB Gx aG
 exact⟨aZ,bG,f3,f20,f21,rfl,hW4⟩
def s0:ByteArray:=⟨#[102]⟩
theorem aDh {H H':aA} {b o sz i:Nat} {ty:TypeId} {els:List (List D)} {el el':List D} (hd:Dom H H') (hb:H' b=some (.row ty o sz els)) (h0:H b=none) (hi:els[i]?=some el) (hr:xH H (H'.del b) el el'):J6 H H' (.ep b o sz i 0) (.rp el'):=fun w v hH hv=>by
 have h1:=NL (k:=0) hH hb hi hv
 rw[iY] at h1
 have iW:fQ w (H'.del b):=hH.less (fun c x hc=>by
  by_cases e:c=b
  ·rw[e,sX] at hc;cases hc
  ·rwa[bP e] at hc)
 simp only[D.is] at h1 ⊢
 obtain⟨b2,o2,e3,e4,e5,e6⟩:=h1
 refine⟨b2,o2,e3,?_,e5,hr.at iW e6⟩
 by_cases e:b2=b
 ·rw[e];exact h0
 ·refine hd b2 ?_
  have:(H'.del b) b2=none:=e4
  rwa[bP e] at this
theorem ZM (H:aA):aT prog 77 [.seq 1 ([1,1,102].map bD)] H fun d H'=>d=.fV [fY [s0],i64 0]/\H=H':=by
 refine bM (K:=fun d=>d=.fV [fY [s0],i64 0]) ?_
 have x1:HM [1,1,102] 0 1 1:=⟨⟨[],[1,102],rfl,rfl,rfl⟩,by decide⟩
 have x2:HM [1,1,102] 1 1 2:=⟨⟨[1],[102],rfl,rfl,rfl⟩,by decide⟩
 have hid:qO s0=true:=by decide
 obtain⟨bs,hB⟩:∃bs:List UInt8,bs=[1,1,102]:=⟨_,rfl⟩
 have nX:bs.length=3:=by rw[hB];rfl
 have hs:e8 ((bs.drop 2).take 1)=s0:=by rw[hB];rfl
 rw[<-hB] at x1 x2 ⊢
 clear hB
 refine aN _ _ func77 rfl rfl ntmps77 results77 (by simp) fun w0 g0 Q aC=>?_
 refine tq trivial ?_;intro Nx aB Gx aG
 refine(x9 bs _ (by omega)).mono ?_
 rintro d _ ⟨r,hr,rfl,rfl⟩
 refine tq trivial ?_;intro Nx aB Gx aG
 intro bt hbt
 obtain⟨hbr,aDp⟩:=bT.1 hbt
 refine aB _ ?_
 refine tq trivial ?_;intro Nx aB Gx aG
 refine(tI x1 r _ (by rw[aP (Ne.symm hbr),aQ]) (by omega) (by decide) (by decide) (by omega)).mono ?_
 rintro d _ ⟨rfl,rfl⟩
 refine tq trivial ?_;intro Nx aB Gx aG
 refine bB 1 (fun i s=>s.df=[]/\s.fr 4=.ep r 0 3 0 0/\s.fr 5=.ep bt 0 1 0 0/\s.fr 14=i64 1/\s.fr 15=i64 i/\H.le s.H/\∃d ob,s.H bt=some (.row 163 0 1 [[d]])/\ob≠some r/\ob≠some bt/\((i=0/\s.fr 6=bX ByteArray.empty/\s.H r=some (mL bs 1)/\Gl H 9 1 [] d s.H ob)\/(i=1/\s.H r=some (mL bs 3)/\Gl H 9 1 [sD s0] d s.H ob))) ⟨rfl,rfl,rfl,rfl,rfl,?_,.val (.slice none 0 0),none,?_,by simp,by simp,.inl ⟨rfl,rfl,aQ _ _ _,nJ _ _ _ _⟩⟩ ?_
 ·exact bQ (bQ (bQ (aE _) hr) aDp) hr
 ·exact(aP hbr).trans (aQ _ _ _)
 rintro i s hi ⟨bG,f4,f5,f14,f15,aR,dd,ob,QF,ho1,BO,(⟨rfl,f6,hHr,hg⟩|⟨rfl,hHr,hg⟩)⟩
 ·have t1:s0.toList=[102]:=lL [102]
  have t0:ByteArray.empty.toList=[]:=lL []
  have e1:Op.bytesLess s0.toList ByteArray.empty.toList=false:=by rw[Go.Proofs.bytesLess_eq,t1,t0];decide
  have e3:(s0.toList=ByteArray.empty.toList)=False:=aI (by rw[t1,t0];decide)
  have e4:(false||false)=false:=rfl
  refine tq (gE f4 f5 f6 f14 f15) ?_;intro Nx aB Gx aG
  refine(aJe x2 r _ hHr (by omega) (by decide) (by decide) (by omega)).mono ?_
  rw[hs]
  rintro d _ ⟨rfl,rfl⟩
  refine tq (dZ f4 f5 f6) ?_;intro Nx aB Gx aG
  refine(EH s0 _ (by unfold fC;decide)).mono ?_
  rintro d _ ⟨rfl,rfl⟩
  rw[hid]
  (first|refine aG _ ?_|refine aB _ ?_|skip)
  refine tq (lM f4 f5 f6 @bX.eq_1 e1 e3 e4) ?_;intro Nx aB Gx aG
  refine(VU bs 3 r _ (aQ _ _ _)).mono ?_
  rintro d _ ⟨rfl,rfl⟩
  have z2:(s.H.bH r (mL bs 3)) bt=some (.row 163 0 1 [[dd]]):=by rw[aP hbr];exact QF
  have mO:H.le (s.H.bH r (mL bs 3)):=bQ aR hr
  have NU:Gl H 9 1 [] dd (s.H.bH r (mL bs 3)) ob:=hg.jY fun c hc=>aP fun e=>ho1 (by rw[hc,e])
  refine tq (dZ f4 f5 z2) ?_;intro Nx aB Gx aG
  refine cY (e:=9) EW rfl EW rfl ty9 rfl (by decide) mO NU (new:=[sD s0]) (by exact⟨rfl,rfl⟩) (by decide) fun d' H6 qL kK eJ uD=>?_
  obtain⟨z3,ho3⟩:=uD bt _ z2 BO
  obtain⟨z4,ho4⟩:=uD r _ (aQ _ _ _) ho1
  have uS:=kK.cells
  simp only[D.cells] at uS
  (have fs:=And.intro z3 uS;refine yR ?_;try clear fs);(first|refine aG _ ?_|refine aB _ ?_|skip)
  refine tq f15 ?_;intro Nx aB Gx aG
  refine⟨Nat.zero_lt_one,bG,f4,f5,f14,rfl,bQ eJ aDp,_,qL,aQ _ _ _,ho4,ho3,.inr ⟨rfl,(aP (Ne.symm hbr)).trans z4,?_⟩⟩
  exact kK.jY fun c hc=>aP fun e=>ho3 (by rw[hc,e])
 ·refine tq (fJ f4 f5 f14 f15) ?_;intro Nx aB Gx aG
  refine(aBF bs r _ (by rw[nX];exact hHr) (by omega)).mono ?_
  rintro d _ ⟨rfl,rfl⟩
  refine tq f5 ?_;intro Nx aB Gx aG
  refine rt aC bG ?_
  have aIo:Dom H s.H:=fun k hk=>AA aR hk
  refine⟨_,aE _,aR,.fV [fY [s0],i64 0],pS ⟨aDh aIo QF aDp rfl ⟨?_,trivial⟩,QC aIo,trivial⟩,rfl⟩
  exact sF (aA.N8 aR aDp) (hg.jY fun c hc=>bP fun e=>BO (by rw[hc,e]))
def oX (n:Int):List UInt8:=put (IntKind.u64.wrap n).toNat
def iS {α:Type} (f:α->List UInt8) (l:List α):List UInt8:=oX l.length++l.flatMap f
def GU (t:List ByteArray) (s:ByteArray):List UInt8:=oX (FM t s)
def PG (p:Int×Int):List UInt8:=oX p.1++oX p.2
def u8B (n:Int):UInt8:=UInt8.ofNat (IntKind.u8.wrap n).toNat
def PI (t:cQ):List UInt8:=u8B (if t.m then 5 else t.k)::(if t.k=3 then oX t.r++oX t.e else if t.k=4 then iS oX t.ar else [])
def PE (t:List ByteArray) (x:tD):List UInt8:=GU t x.nm++oX x.ty
def deB (t:List ByteArray) (b:iF):List UInt8:=GU t b.nm++(iS (GU t) b.rg++(iS PG b.ol++(iS PI b.ty++(iS (PE t) b.lc++oX b.ag))))
theorem XL (n:Int):0<=IntKind.u64.wrap n/\IntKind.u64.wrap n<18446744073709551616:=by rw[IntKind.wrap_u64];omega
theorem aIF (n:Int):IntKind.u8.wrap n=((u8B n).toNat:Int):=by
 unfold u8B
 rw[qK,yJ];omega
def AT (b:Nat) (t:List ByteArray):D:=.rp [.ep b 0 1 0 0,fY t,i64 0]
theorem pF (n:Int) {H0 H:aA} {b:Nat} {t:List ByteArray} {l:List UInt8} (h:WS H0 b l H) (hl:(l++oX n).length<=1000000000):aT prog 100 [AT b t,i64 n] H fun d H'=>WS H0 b (l++oX n) H':=by
 have hn:=XL n
 have e:IntKind.u64.wrap n=((IntKind.u64.wrap n).toNat:Int):=by omega
 rw[bJ] at hl
 unfold AT
 refine aN _ _ func100 rfl rfl ntmps100 results100 (by simp) fun w0 g0 Q aC=>?_
 refine tq @fY.eq_1 ?_;intro Nx aB Gx aG
 rw[e]
 refine(G5 _ (by omega) h (by omega)).mono ?_
 intro d H' h2
 refine tq trivial ?_;intro Nx aB Gx aG
 refine rt aC trivial ?_
 exact⟨_,aE _,h2⟩
theorem NC (s:ByteArray) {H0 H:aA} {b:Nat} {t:List ByteArray} {l:List UInt8} (hs:s∈t) (ht:t.Pairwise IX) (sM:t.length<=1000000) (h:WS H0 b l H) (hl:(l++GU t s).length<=1000000000):aT prog 92 [AT b t,bX s] H fun d H'=>WS H0 b (l++GU t s) H':=by
 have LD:=aBn t s H (by omega) ht
 have hm:=qP.2 hs
 have hd:CX t s=.fV [i64 (FM t s),.val (.bool true)]:=by unfold CX;rw[aH hm,bF hm]
 rw[hd] at LD
 have FH:=pF (FM t s) (t:=t) h hl
 unfold AT fY bX at *
 refine aN _ _ func92 rfl rfl ntmps92 results92 (by simp) fun w0 g0 Q aC=>?_
 refine tq trivial ?_;intro Nx aB Gx aG
 refine LD.mono ?_
 rintro d _ ⟨rfl,rfl⟩
 refine tq trivial ?_;intro Nx aB Gx aG
 refine FH.mono ?_
 intro d H' h2
 refine tq trivial ?_;intro Nx aB Gx aG
 refine rt aC trivial ?_
 exact⟨_,aE _,h2⟩
theorem aD9 (p:Int×Int) {H0 H:aA} {b:Nat} {t:List ByteArray} {l:List UInt8} (h:WS H0 b l H) (hl:(l++PG p).length<=1000000000):aT prog 95 [AT b t,.agg (pD p)] H fun d H'=>WS H0 b (l++PG p) H':=by
 unfold PG at hl ⊢
 rw[<-dN] at hl ⊢
 have EE:(l++oX p.1).length<=1000000000:=by rw[bJ] at hl;omega
 unfold pD
 refine aN _ _ func95 rfl rfl ntmps95 results95 (by simp) fun w0 g0 Q aC=>?_
 refine tq trivial ?_;intro Nx aB Gx aG
 intro c hc
 refine aB _ ?_
 refine fW 3 hc ?_
 refine tq trivial ?_;intro Nx aB Gx aG
 refine(pF p.1 h EE).mono ?_
 intro d H1 h1
 refine tq trivial ?_;intro Nx aB Gx aG
 refine(pF p.2 h1 hl).mono ?_
 intro d H2 h2
 refine tq trivial ?_;intro Nx aB Gx aG
 refine rt aC trivial ?_
 exact⟨_,aE _,h2⟩
theorem aAy (x:tD) {H0 H:aA} {b:Nat} {t:List ByteArray} {l:List UInt8} (hs:x.nm∈t) (ht:t.Pairwise IX) (sM:t.length<=1000000) (h:WS H0 b l H) (hl:(l++PE t x).length<=1000000000):aT prog 99 [AT b t,.agg (lI x)] H fun d H'=>WS H0 b (l++PE t x) H':=by
 unfold PE at hl ⊢
 rw[<-dN] at hl ⊢
 have EE:(l++GU t x.nm).length<=1000000000:=by rw[bJ] at hl;omega
 unfold lI
 refine aN _ _ func99 rfl rfl ntmps99 results99 (by simp) fun w0 g0 Q aC=>?_
 refine tq trivial ?_;intro Nx aB Gx aG
 intro c hc
 refine aB _ ?_
 refine fW 3 hc ?_
 refine tq trivial ?_;intro Nx aB Gx aG
 refine(NC x.nm hs ht sM h EE).mono ?_
 intro d H1 h1
 refine tq trivial ?_;intro Nx aB Gx aG
 refine(pF x.ty h1 hl).mono ?_
 intro d H2 h2
 refine tq trivial ?_;intro Nx aB Gx aG
 refine rt aC trivial ?_
 exact⟨_,aE _,h2⟩
theorem aAt (l:List Int) {H0 H:aA} {b:Nat} {t:List ByteArray} {m:List UInt8} (h:WS H0 b m H) (hl:(m++iS oX l).length<=1000000000) (mA:l.length<=1000000):aT prog 195 [AT b t,.seq 1 (l.map iD),.fb 100 [AT b t] []] H fun d H'=>WS H0 b (m++iS oX l) H':=by
 have cI:=lm iD l
 have T6:∀i,∀h:i<l.length,∃r,m++iS oX l=m++oX l.length++(l.take i).flatMap oX++oX l[i]++r/\m++oX l.length++(l.take (i+1)).flatMap oX=m++oX l.length++(l.take i).flatMap oX++oX l[i]:=fun i h=>by
  refine⟨(l.drop (i+1)).flatMap oX,?_,?_⟩
  ·have e:l=l.take i++l[i]::l.drop (i+1):=by rw[zL,kV]
   have e2:l.flatMap oX=(l.take i++l[i]::l.drop (i+1)).flatMap oX:=cV _ e
   unfold iS
   rw[e2,pI,wO]
   simp only[dN]
  ·rw[dH h,pI,zM,<-dN]
 have CS:(m++oX l.length).length<=1000000000:=by unfold iS at hl;rw[<-dN,bJ] at hl;omega
 refine aN _ _ func195 rfl rfl ntmps195 results195 (by simp) fun w0 g0 Q aC=>?_
 refine tq cI ?_;intro Nx aB Gx aG
 refine(pF l.length (t:=t) h CS).mono ?_
 intro d H1 h1
 refine tq cI ?_;intro Nx aB Gx aG
 refine bB l.length (fun i s=>s.df=[]/\s.fr 2=.fb 100 [AT b t] []/\s.fr 12=.seq 1 (l.map iD)/\s.fr 13=i64 l.length/\s.fr 14=i64 i/\WS H0 b (m++oX l.length++(l.take i).flatMap oX) s.H) ⟨rfl,rfl,rfl,rfl,rfl,by rw[pL,wD,kX];exact h1⟩ ?_
 rintro i s hi ⟨bG,f2,f12,f13,f14,hW⟩
 by_cases aZ:i<l.length
 case neg=>
  have p1:=lF i l.length (by omega)
  rw[dQ (by omega)] at hW
  refine tq (dZ f13 f14 p1) ?_;intro Nx aB Gx aG
  refine rt aC bG ?_
  exact⟨_,aE _,by unfold iS;rw[<-dN];exact hW⟩
 have cN:(i:Int)<(l.length:Int):=by omega
 have p1:=lT i l.length aZ
 have hx:=bL i
 have cL:=bY i
 have b8:(l.map iD)[i]?=some (iD l[i]):=mB aZ
 have w3:=wS i (by omega)
 obtain⟨r,N0,ZH⟩:=T6 i aZ
 rw[N0,bJ] at hl
 have kM:=bZ aZ
 simp only[iD] at b8
 refine tq (pE f2 f12 f13 f14 p1 cI b8 hx cL aZ cN) ?_;intro Nx aB Gx aG
 refine(pF l[i] (t:=t) hW (by omega)).mono ?_
 intro d H2 h2
 refine tq (cZ f14 w3) ?_;intro Nx aB Gx aG
 exact⟨aZ,bG,f2,f12,f13,rfl,by rw[ZH];exact h2⟩
theorem aAv (l:List (Int×Int)) {H0 H:aA} {b:Nat} {t:List ByteArray} {m:List UInt8} (h:WS H0 b m H) (hl:(m++iS PG l).length<=1000000000) (mA:l.length<=1000000):aT prog 94 [AT b t,.seq 2 (l.map pD),.fb 95 [AT b t] []] H fun d H'=>WS H0 b (m++iS PG l) H':=by
 have cI:=lm pD l
 have T6:∀i,∀h:i<l.length,∃r,m++iS PG l=m++oX l.length++(l.take i).flatMap PG++PG l[i]++r/\m++oX l.length++(l.take (i+1)).flatMap PG=m++oX l.length++(l.take i).flatMap PG++PG l[i]:=fun i h=>by
  refine⟨(l.drop (i+1)).flatMap PG,?_,?_⟩
  ·have e:l=l.take i++l[i]::l.drop (i+1):=by rw[zL,kV]
   have e2:l.flatMap PG=(l.take i++l[i]::l.drop (i+1)).flatMap PG:=cV _ e
   unfold iS
   rw[e2,pI,wO]
   simp only[dN]
  ·rw[dH h,pI,zM,<-dN]
 have CS:(m++oX l.length).length<=1000000000:=by unfold iS at hl;rw[<-dN,bJ] at hl;omega
 refine aN _ _ func94 rfl rfl ntmps94 results94 (by simp) fun w0 g0 Q aC=>?_
 refine tq cI ?_;intro Nx aB Gx aG
 refine(pF l.length (t:=t) h CS).mono ?_
 intro d H1 h1
 refine tq cI ?_;intro Nx aB Gx aG
 refine bB l.length (fun i s=>s.df=[]/\s.fr 2=.fb 95 [AT b t] []/\s.fr 12=.seq 2 (l.map pD)/\s.fr 13=i64 l.length/\s.fr 14=i64 i/\WS H0 b (m++oX l.length++(l.take i).flatMap PG) s.H) ⟨rfl,rfl,rfl,rfl,rfl,by rw[pL,wD,kX];exact h1⟩ ?_
 rintro i s hi ⟨bG,f2,f12,f13,f14,hW⟩
 by_cases aZ:i<l.length
 case neg=>
  have p1:=lF i l.length (by omega)
  rw[dQ (by omega)] at hW
  refine tq (dZ f13 f14 p1) ?_;intro Nx aB Gx aG
  refine rt aC bG ?_
  exact⟨_,aE _,by unfold iS;rw[<-dN];exact hW⟩
 have cN:(i:Int)<(l.length:Int):=by omega
 have p1:=lT i l.length aZ
 have hx:=bL i
 have cL:=bY i
 have b8:(l.map pD)[i]?=some (pD l[i]):=mB aZ
 have w3:=wS i (by omega)
 obtain⟨r,N0,ZH⟩:=T6 i aZ
 rw[N0,bJ] at hl
 have kM:=bZ aZ
 simp only[pD] at b8
 refine tq (pE f2 f12 f13 f14 p1 cI b8 hx cL aZ cN) ?_;intro Nx aB Gx aG
 intro c hc
 refine aB _ ?_
 refine fW 7 hc ?_
 refine tq f2 ?_;intro Nx aB Gx aG
 refine(aD9 l[i] (t:=t) hW (by omega)).mono ?_
 intro d H2 h2
 refine tq (cZ f14 w3) ?_;intro Nx aB Gx aG
 exact⟨aZ,bG,f2,f12,f13,rfl,by rw[ZH];exact h2⟩
theorem aAw (l:List ByteArray) {H0 H:aA} {b:Nat} {t:List ByteArray} {m:List UInt8} (ht:t.Pairwise IX) (sM:t.length<=1000000) (hs:∀s∈l,s∈t) (h:WS H0 b m H) (hl:(m++iS (GU t) l).length<=1000000000) (mA:l.length<=1000000):aT prog 93 [AT b t,.seq 1 (l.map sD),.fb 92 [AT b t] []] H fun d H'=>WS H0 b (m++iS (GU t) l) H':=by
 have cI:=lm sD l
 have T6:∀i,∀h:i<l.length,∃r,m++iS (GU t) l=m++oX l.length++(l.take i).flatMap (GU t)++(GU t) l[i]++r/\m++oX l.length++(l.take (i+1)).flatMap (GU t)=m++oX l.length++(l.take i).flatMap (GU t)++(GU t) l[i]:=fun i h=>by
  refine⟨(l.drop (i+1)).flatMap (GU t),?_,?_⟩
  ·have e:l=l.take i++l[i]::l.drop (i+1):=by rw[zL,kV]
   have e2:l.flatMap (GU t)=(l.take i++l[i]::l.drop (i+1)).flatMap (GU t):=cV _ e
   unfold iS
   rw[e2,pI,wO]
   simp only[dN]
  ·rw[dH h,pI,zM,<-dN]
 have CS:(m++oX l.length).length<=1000000000:=by unfold iS at hl;rw[<-dN,bJ] at hl;omega
 refine aN _ _ func93 rfl rfl ntmps93 results93 (by simp) fun w0 g0 Q aC=>?_
 refine tq cI ?_;intro Nx aB Gx aG
 refine(pF l.length (t:=t) h CS).mono ?_
 intro d H1 h1
 refine tq cI ?_;intro Nx aB Gx aG
 refine bB l.length (fun i s=>s.df=[]/\s.fr 2=.fb 92 [AT b t] []/\s.fr 12=.seq 1 (l.map sD)/\s.fr 13=i64 l.length/\s.fr 14=i64 i/\WS H0 b (m++oX l.length++(l.take i).flatMap (GU t)) s.H) ⟨rfl,rfl,rfl,rfl,rfl,by rw[pL,wD,kX];exact h1⟩ ?_
 rintro i s hi ⟨bG,f2,f12,f13,f14,hW⟩
 by_cases aZ:i<l.length
 case neg=>
  have p1:=lF i l.length (by omega)
  rw[dQ (by omega)] at hW
  refine tq (dZ f13 f14 p1) ?_;intro Nx aB Gx aG
  refine rt aC bG ?_
  exact⟨_,aE _,by unfold iS;rw[<-dN];exact hW⟩
 have cN:(i:Int)<(l.length:Int):=by omega
 have p1:=lT i l.length aZ
 have hx:=bL i
 have cL:=bY i
 have b8:(l.map sD)[i]?=some (sD l[i]):=mB aZ
 have w3:=wS i (by omega)
 obtain⟨r,N0,ZH⟩:=T6 i aZ
 rw[N0,bJ] at hl
 have kM:=bZ aZ
 simp only[sD] at b8
 refine tq (pE f2 f12 f13 f14 p1 cI b8 hx cL aZ cN) ?_;intro Nx aB Gx aG
 refine(NC l[i] (hs _ kM) ht sM hW (by omega)).mono ?_
 intro d H2 h2
 refine tq (cZ f14 w3) ?_;intro Nx aB Gx aG
 exact⟨aZ,bG,f2,f12,f13,rfl,by rw[ZH];exact h2⟩
theorem aAu (l:List tD) {H0 H:aA} {b:Nat} {t:List ByteArray} {m:List UInt8} (ht:t.Pairwise IX) (sM:t.length<=1000000) (hs:∀x∈l,x.nm∈t) (h:WS H0 b m H) (hl:(m++iS (PE t) l).length<=1000000000) (mA:l.length<=1000000):aT prog 98 [AT b t,.seq 2 (l.map lI),.fb 99 [AT b t] []] H fun d H'=>WS H0 b (m++iS (PE t) l) H':=by
 have cI:=lm lI l
 have T6:∀i,∀h:i<l.length,∃r,m++iS (PE t) l=m++oX l.length++(l.take i).flatMap (PE t)++(PE t) l[i]++r/\m++oX l.length++(l.take (i+1)).flatMap (PE t)=m++oX l.length++(l.take i).flatMap (PE t)++(PE t) l[i]:=fun i h=>by
  refine⟨(l.drop (i+1)).flatMap (PE t),?_,?_⟩
  ·have e:l=l.take i++l[i]::l.drop (i+1):=by rw[zL,kV]
   have e2:l.flatMap (PE t)=(l.take i++l[i]::l.drop (i+1)).flatMap (PE t):=cV _ e
   unfold iS
   rw[e2,pI,wO]
   simp only[dN]
  ·rw[dH h,pI,zM,<-dN]
 have CS:(m++oX l.length).length<=1000000000:=by unfold iS at hl;rw[<-dN,bJ] at hl;omega
 refine aN _ _ func98 rfl rfl ntmps98 results98 (by simp) fun w0 g0 Q aC=>?_
 refine tq cI ?_;intro Nx aB Gx aG
 refine(pF l.length (t:=t) h CS).mono ?_
 intro d H1 h1
 refine tq cI ?_;intro Nx aB Gx aG
 refine bB l.length (fun i s=>s.df=[]/\s.fr 2=.fb 99 [AT b t] []/\s.fr 12=.seq 2 (l.map lI)/\s.fr 13=i64 l.length/\s.fr 14=i64 i/\WS H0 b (m++oX l.length++(l.take i).flatMap (PE t)) s.H) ⟨rfl,rfl,rfl,rfl,rfl,by rw[pL,wD,kX];exact h1⟩ ?_
 rintro i s hi ⟨bG,f2,f12,f13,f14,hW⟩
 by_cases aZ:i<l.length
 case neg=>
  have p1:=lF i l.length (by omega)
  rw[dQ (by omega)] at hW
  refine tq (dZ f13 f14 p1) ?_;intro Nx aB Gx aG
  refine rt aC bG ?_
  exact⟨_,aE _,by unfold iS;rw[<-dN];exact hW⟩
 have cN:(i:Int)<(l.length:Int):=by omega
 have p1:=lT i l.length aZ
 have hx:=bL i
 have cL:=bY i
 have b8:(l.map lI)[i]?=some (lI l[i]):=mB aZ
 have w3:=wS i (by omega)
 obtain⟨r,N0,ZH⟩:=T6 i aZ
 rw[N0,bJ] at hl
 have kM:=bZ aZ
 simp only[lI] at b8
 refine tq (pE f2 f12 f13 f14 p1 cI b8 hx cL aZ cN) ?_;intro Nx aB Gx aG
 intro c hc
 refine aB _ ?_
 refine fW 7 hc ?_
 refine tq f2 ?_;intro Nx aB Gx aG
 refine(aAy l[i] (hs _ kM) ht sM hW (by omega)).mono ?_
 intro d H2 h2
 refine tq (cZ f14 w3) ?_;intro Nx aB Gx aG
 exact⟨aZ,bG,f2,f12,f13,rfl,by rw[ZH];exact h2⟩
theorem aBC (x:cQ) {H0 H:aA} {b:Nat} {t:List ByteArray} {m:List UInt8} (h:WS H0 b m H) (hl:(m++PI x).length<=1000000000) (mA:x.ar.length<=1000000):aT prog 97 [AT b t,.agg (cE x)] H fun d H'=>WS H0 b (m++PI x) H':=by
 unfold PI at hl ⊢
 obtain⟨k,hk⟩:∃k,k=if x.m then 5 else x.k:=⟨_,rfl⟩
 rw[<-hk] at hl ⊢
 have EE:m.length<=1000000000:=by rw[bJ] at hl;omega
 have e0:∀y:List UInt8,m++(u8B k::y)=m++[u8B k]++y:=fun y=>by simp
 rw[e0] at hl ⊢
 cases hm:x.m
 all_goals
  rw[hm] at hk
  simp only[jT,fU,fE] at hk
  subst hk
  refine aN _ _ func97 rfl rfl ntmps97 results97 (by simp) fun w0 g0 Q aC=>?_
  refine tq @cE.eq_1 ?_;intro Nx aB Gx aG
  intro c hc
  refine aB _ ?_
  refine fW 3 hc ?_
  refine tq (dZ hm @AT.eq_1 aIF) ?_;intro Nx aB Gx aG
  refine(XO _ h EE).mono ?_
  intro d H1 h1
  by_cases h3:x.k=3
  ·have q3:(x.k=3)=True:=aK h3
   rw[aH h3,<-dN] at hl
   rw[aH h3,<-dN] at aC
   refine tq q3 ?_;intro Nx aB Gx aG
   refine(pF x.r (t:=t) h1 (by rw[bJ] at hl;omega)).mono ?_
   intro d H2 h2
   refine tq trivial ?_;intro Nx aB Gx aG
   refine(pF x.e (t:=t) h2 hl).mono ?_
   intro d H3 h3
   refine tq trivial ?_;intro Nx aB Gx aG
   refine rt aC trivial ?_
   exact⟨_,aE _,h3⟩
  have q3:(x.k=3)=False:=aI h3
  rw[aD h3] at hl
  rw[aD h3] at aC
  by_cases h4:x.k=4
  ·have q4:(x.k=4)=True:=aK h4
   rw[aH h4] at hl
   rw[aH h4] at aC
   refine tq (cZ q3 q4) ?_;intro Nx aB Gx aG
   refine(aAt x.ar (t:=t) h1 hl mA).mono ?_
   intro d H2 h2
   refine tq trivial ?_;intro Nx aB Gx aG
   refine rt aC trivial ?_
   exact⟨_,aE _,h2⟩
  ·have q4:(x.k=4)=False:=aI h4
   rw[aD h4,kX] at hl
   rw[aD h4,kX] at aC
   refine tq (cZ q3 q4) ?_;intro Nx aB Gx aG
   refine rt aC trivial ?_
   exact⟨_,aE _,h1⟩
theorem aAx (l:List cQ) {H0 H:aA} {b:Nat} {t:List ByteArray} {m:List UInt8} (hs:∀x∈l,x.ar.length<=1000000) (h:WS H0 b m H) (hl:(m++iS PI l).length<=1000000000) (mA:l.length<=1000000):aT prog 96 [AT b t,.seq 5 (l.map cE),.fb 97 [AT b t] []] H fun d H'=>WS H0 b (m++iS PI l) H':=by
 have cI:=lm cE l
 have T6:∀i,∀h:i<l.length,∃r,m++iS PI l=m++oX l.length++(l.take i).flatMap PI++PI l[i]++r/\m++oX l.length++(l.take (i+1)).flatMap PI=m++oX l.length++(l.take i).flatMap PI++PI l[i]:=fun i h=>by
  refine⟨(l.drop (i+1)).flatMap PI,?_,?_⟩
  ·have e:l=l.take i++l[i]::l.drop (i+1):=by rw[zL,kV]
   have e2:l.flatMap PI=(l.take i++l[i]::l.drop (i+1)).flatMap PI:=cV _ e
   unfold iS
   rw[e2,pI,wO]
   simp only[dN]
  ·rw[dH h,pI,zM,<-dN]
 have CS:(m++oX l.length).length<=1000000000:=by unfold iS at hl;rw[<-dN,bJ] at hl;omega
 refine aN _ _ func96 rfl rfl ntmps96 results96 (by simp) fun w0 g0 Q aC=>?_
 refine tq cI ?_;intro Nx aB Gx aG
 refine(pF l.length (t:=t) h CS).mono ?_
 intro d H1 h1
 refine tq cI ?_;intro Nx aB Gx aG
 refine bB l.length (fun i s=>s.df=[]/\s.fr 2=.fb 97 [AT b t] []/\s.fr 12=.seq 5 (l.map cE)/\s.fr 13=i64 l.length/\s.fr 14=i64 i/\WS H0 b (m++oX l.length++(l.take i).flatMap PI) s.H) ⟨rfl,rfl,rfl,rfl,rfl,by rw[pL,wD,kX];exact h1⟩ ?_
 rintro i s hi ⟨bG,f2,f12,f13,f14,hW⟩
 by_cases aZ:i<l.length
 case neg=>
  have p1:=lF i l.length (by omega)
  rw[dQ (by omega)] at hW
  refine tq (dZ f13 f14 p1) ?_;intro Nx aB Gx aG
  refine rt aC bG ?_
  exact⟨_,aE _,by unfold iS;rw[<-dN];exact hW⟩
 have cN:(i:Int)<(l.length:Int):=by omega
 have p1:=lT i l.length aZ
 have hx:=bL i
 have cL:=bY i
 have b8:(l.map cE)[i]?=some (cE l[i]):=mB aZ
 have w3:=wS i (by omega)
 obtain⟨r,N0,ZH⟩:=T6 i aZ
 rw[N0,bJ] at hl
 have kM:=bZ aZ
 simp only[cE] at b8
 refine tq (pE f2 f12 f13 f14 p1 cI b8 hx cL aZ cN) ?_;intro Nx aB Gx aG
 intro c hc
 refine aB _ ?_
 refine fW 7 hc ?_
 refine tq f2 ?_;intro Nx aB Gx aG
 refine(aBC l[i] (t:=t) hW (by omega) (hs _ kM)).mono ?_
 intro d H2 h2
 refine tq (cZ f14 w3) ?_;intro Nx aB Gx aG
 exact⟨aZ,bG,f2,f12,f13,rfl,by rw[ZH];exact h2⟩
theorem YK (b:iF) (t:List ByteArray) (H:aA) (fF:∀H1,aT prog 22 [.agg (iG b)] H1 fun d H'=>d=i64 0/\H1=H') (ht:t.Pairwise IX) (sM:t.length<=1000000) (FH:b.nm∈t) (Q6:∀s∈b.rg,s∈t) (QX:∀x∈b.lc,x.nm∈t) (nM:∀x∈b.ty,x.ar.length<=1000000)
  (h1:b.rg.length<=1000000) (h2:b.ol.length<=1000000) (h3:b.ty.length<=1000000) (h4:b.lc.length<=1000000) (hl:(deB t b).length<=1000000000):aT prog 44 [.agg (iG b),fY t] H fun d H'=>d=.fV [.seq 1 ((deB t b).map bD),i64 0]/\H=H':=by
 have hdl:(deB t b).length=(GU t b.nm).length+((iS (GU t) b.rg).length+((iS PG b.ol).length+((iS PI b.ty).length+((iS (PE t) b.lc).length+(oX b.ag).length)))):=by unfold deB;simp only[bJ]
 have KC:deB t b=[]++GU t b.nm++iS (GU t) b.rg++iS PG b.ol++iS PI b.ty++iS (PE t) b.lc++oX b.ag:=by unfold deB;simp
 unfold iG at fF ⊢
 unfold fY
 refine aN _ _ func44 rfl rfl ntmps44 results44 (by simp) fun w0 g0 Q aC=>?_
 refine tq trivial ?_;intro Nx aB Gx aG
 intro c hc
 refine aB _ ?_
 refine fW 2 hc ?_
 refine tq trivial ?_;intro Nx aB Gx aG
 refine(fF _).mono ?_
 rintro d _ ⟨rfl,rfl⟩
 refine tq trivial ?_;intro Nx aB Gx aG
 refine(yA _).mono ?_
 rintro d H1 ⟨w,rfl,hW⟩
 refine tq trivial ?_;intro Nx aB Gx aG
 intro e he
 refine aB _ ?_
 refine fW 6 he ?_
 refine tq trivial ?_;intro Nx aB Gx aG
 refine(NC b.nm (t:=t) FH ht sM hW (by simp only[bJ,mS];omega)).mono ?_
 intro d H2 hW2
 refine tq trivial ?_;intro Nx aB Gx aG
 refine(aAw b.rg (t:=t) ht sM Q6 hW2 (by simp only[bJ,mS];omega) h1).mono ?_
 intro d H3 hW3
 refine tq trivial ?_;intro Nx aB Gx aG
 refine(aAv b.ol (t:=t) hW3 (by simp only[bJ,mS];omega) h2).mono ?_
 intro d H4 hW4
 refine tq trivial ?_;intro Nx aB Gx aG
 refine(aAx b.ty (t:=t) nM hW4 (by simp only[bJ,mS];omega) h3).mono ?_
 intro d H5 hW5
 refine tq trivial ?_;intro Nx aB Gx aG
 refine(aAu b.lc (t:=t) ht sM QX hW5 (by simp only[bJ,mS];omega) h4).mono ?_
 intro d H6 hW6
 refine tq trivial ?_;intro Nx aB Gx aG
 refine(pF b.ag (t:=t) hW6 (by simp only[bJ,mS];omega)).mono ?_
 intro d H7 hW7
 rw[<-KC] at hW7
 refine tq trivial ?_;intro Nx aB Gx aG
 refine(JQ hW7 hl).mono ?_
 rintro d _ ⟨rfl,rfl⟩
 refine tq trivial ?_;intro Nx aB Gx aG
 refine rt aC trivial ?_
 exact⟨_,aE _,rfl⟩
end Go.Proofs.YtelbfbioomcmeaaGreatDoor

