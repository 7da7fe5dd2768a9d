/- Lemmas and contracts of functions, several texts in one. -/
import Derived.Test.YtelbfbioomcmeaaGreatDoorQ24
set_option maxRecDepth 100000
set_option maxHeartbeats 4000000
set_option linter.all false
namespace Go.Proofs.YtelbfbioomcmeaaGreatDoor
open Go.RowKit
open Tryz
def EqI (l m:List Int) (i:Nat) (s:St):Prop:=s.df=[]/\s.fr 0=.seq 1 (l.map iD)/\s.fr 1=.seq 1 (m.map iD)/\s.fr 12=i64 l.length/\s.fr 13=i64 i/\s.H=aA.none/\l.take i=m.take i
theorem aBI (l m:List Int) (hl:l.length<=140737488351232):aT prog 403 [.seq 1 (l.map iD),.seq 1 (m.map iD)] .none fun d _=>d=.val (.bool (decide (l=m))):=by
 have mA:=lm iD l
 have cI:=lm iD m
 refine aN _ _ func403 rfl rfl ntmps403 results403 (by simp) fun w0 g0 Q aC=>?_
 by_cases hlm:l.length=m.length
 case neg=>
  have q:((l.length:Int)=(m.length:Int))=False:=aI (by omega)
  refine tq (dZ mA cI q) ?_;intro Nx aB Gx aG
  refine rt aC trivial ?_
  exact⟨_,aE _,by rw[bC fun e=>hlm (by rw[e])]⟩
 have q:((l.length:Int)=(m.length:Int))=True:=aK (by omega)
 have hmm:(m.length:Int)=(l.length:Int):=by omega
 refine tq (dZ mA cI q) ?_;intro Nx aB Gx aG
 refine bB l.length (EqI l m) ⟨rfl,rfl,rfl,rfl,rfl,rfl,by simp⟩ ?_
 rintro i s hi ⟨bG,f0,f1,f12,f13,hH,uX⟩
 have hx:=bL i
 have cL:=bY i
 by_cases aZ:i<l.length
 case neg=>
  have q1:=lF i l.length (by omega)
  rw[dQ (by omega),dQ (by omega)] at uX
  refine tq (dZ f12 f13 q1) ?_;intro Nx aB Gx aG
  refine rt aC bG ?_
  exact⟨_,aE _,by rw[bF uX]⟩
 have q1:=lT i l.length (by omega)
 have him:i<m.length:=by omega
 have b8:=dL aZ
 have hgm:=dL him
 have w3:=wS i (by omega)
 by_cases h2:l[i]=m[i]
 ·have q2:(l[i]=m[i])=True:=aK h2
  refine tq (dZ f12 f13 q1) ?_;intro Nx aB Gx aG
  refine dE (fun _ _ _ _=>False) fun Nx aB=>?_;refine dst (pE f0 f1 mA cI b8 hgm hx cL aZ him q2) ?_;intro Nx aB Gx aG
  refine tq (dZ f13 w3 q2) ?_;intro Nx aB Gx aG
  refine⟨aZ,bG,f0,f1,f12,rfl,hH,?_⟩
  rw[dH aZ,dH him,uX,h2]
 ·have q2:(l[i]=m[i])=False:=aI h2
  refine tq (dZ f12 f13 q1) ?_;intro Nx aB Gx aG
  refine dE (fun _ _ _ _=>False) fun Nx aB=>?_;refine dst (pE f0 f1 mA cI b8 hgm hx cL aZ him q2) ?_;intro Nx aB Gx aG
  refine tq (dZ f13 w3 q2) ?_;intro Nx aB Gx aG
  refine rt aC bG ?_
  exact⟨_,aE _,by rw[bC];rintro rfl;exact h2 rfl⟩
theorem YY (H:aA) (l m:List Int) (hl:l.length<=140737488351232):aT prog 403 [.seq 1 (l.map iD),.seq 1 (m.map iD)] H fun d H'=>d=.val (.bool (decide (l=m)))/\H=H':=
 yE (aBI l m hl) rfl (aFU (nG _ _) (nG _ _))
theorem XK {a b:cQ}:a=b↔a.k=b.k/\a.m=b.m/\a.r=b.r/\a.e=b.e/\a.ar=b.ar:=by
 cases a;cases b;simp
theorem OW {l m:List Int} {i:Nat} (h:l.take i=m.take i) (h1:i<l.length) (h2:i<m.length) (he:l[i]=m[i]):l.take (i+1)=m.take (i+1):=by
 rw[dH h1,dH h2,h,he]
theorem aHW (a b:cQ) (H:aA) (sH:a.ar.length<=140737488351232):aT prog 40 [.agg (cE a),.agg (cE b)] H fun d H'=>d=.val (.bool (decide (a=b)))/\H=H':=by
 refine bM (K:=fun d=>d=.val (.bool (decide (a=b)))) ?_
 obtain⟨ak,am,ar,ae,aa⟩:=a
 obtain⟨bk,bm,br,be,ba⟩:=b
 have AN:=XK (a:=⟨ak,am,ar,ae,aa⟩) (b:=⟨bk,bm,br,be,ba⟩)
 simp only at AN sH
 simp only[cE]
 have oV:=lm iD aa
 have hlb:=lm iD ba
 have aR:=aE H
 refine aN _ _ func40 rfl rfl ntmps40 results40 (by simp) fun w0 g0 Q aC=>?_
 refine tq trivial ?_;intro Nx aB Gx aG
 intro c2 pZ c3 mH
 have fP:c2≠c3:=rP (aQ _ _ _) mH
 have NQ:H c3=none:=(bT.1 mH).2
 refine aB _ ?_
 refine bS 2 rfl ((aP fP).trans (aQ _ _ _)) rfl ?_
 refine bS 3 rfl ((bP fP.symm).trans (aQ _ _ _)) rfl ?_
 refine eZ H (fun x z hz=>?_) ?_
 ·have e1:x≠c2:=fun e=>by rw[e,pZ] at hz;cases hz
  have e2:x≠c3:=fun e=>by rw[e,NQ] at hz;cases hz
  show((((H.bH c2 _).bH c3 _).del c2).del c3) x=_
  rw[bP e2,bP e1,aP e2,aP e1]
  exact hz
 simp only[St.gU,List.drop]
 by_cases g1:ak=bk
 case neg=>
  have q1:(ak=bk)=False:=aI g1
  have eE:decide ((⟨ak,am,ar,ae,aa⟩:cQ)=⟨bk,bm,br,be,ba⟩)=false:=bC fun h=>g1 (AN.1 h).1
  refine tq q1 ?_;intro Nx aB Gx aG;refine rt aC trivial ?_;exact⟨_,aE _,aR,_,aJ aR,by rw[eE]⟩
 have q1:(ak=bk)=True:=aK g1
 by_cases g2:am=bm
 case neg=>
  have q2:(am=bm)=False:=aI g2
  have eE:decide ((⟨ak,am,ar,ae,aa⟩:cQ)=⟨bk,bm,br,be,ba⟩)=false:=bC fun h=>g2 (AN.1 h).2.1
  refine tq (cZ q1 q2) ?_;intro Nx aB Gx aG;refine rt aC trivial ?_;exact⟨_,aE _,aR,_,aJ aR,by rw[eE]⟩
 have q2:(am=bm)=True:=aK g2
 by_cases g3:ar=br
 case neg=>
  have q3:(ar=br)=False:=aI g3
  have eE:decide ((⟨ak,am,ar,ae,aa⟩:cQ)=⟨bk,bm,br,be,ba⟩)=false:=bC fun h=>g3 (AN.1 h).2.2.1
  refine tq (dZ q1 q2 q3) ?_;intro Nx aB Gx aG;refine rt aC trivial ?_;exact⟨_,aE _,aR,_,aJ aR,by rw[eE]⟩
 have q3:(ar=br)=True:=aK g3
 by_cases g4:ae=be
 case neg=>
  have q4:(ae=be)=False:=aI g4
  have eE:decide ((⟨ak,am,ar,ae,aa⟩:cQ)=⟨bk,bm,br,be,ba⟩)=false:=bC fun h=>g4 (AN.1 h).2.2.2.1
  refine tq (fJ q1 q2 q3 q4) ?_;intro Nx aB Gx aG;refine rt aC trivial ?_;exact⟨_,aE _,aR,_,aJ aR,by rw[eE]⟩
 have q4:(ae=be)=True:=aK g4
 by_cases g5:aa.length=ba.length
 case neg=>
  have q5:((aa.length:Int)=(ba.length:Int))=False:=aI (by omega)
  have eE:decide ((⟨ak,am,ar,ae,aa⟩:cQ)=⟨bk,bm,br,be,ba⟩)=false:=bC fun h=>g5 (by rw[(AN.1 h).2.2.2.2])
  refine tq (lM oV hlb q1 q2 q3 q4 q5) ?_;intro Nx aB Gx aG;refine rt aC trivial ?_;exact⟨_,aE _,aR,_,aJ aR,by rw[eE]⟩
 have q5:((aa.length:Int)=(ba.length:Int))=True:=aK (by omega)
 refine tq (lM oV hlb q1 q2 q3 q4 q5) ?_;intro Nx aB Gx aG
 refine bB aa.length (fun i s=>s.df=[]/\s.fr 2=.rp [i64 ak,.val (.bool am),i64 ar,i64 ae,.seq 1 (aa.map iD)]/\s.fr 3=.rp [i64 bk,.val (.bool bm),i64 br,i64 be,.seq 1 (ba.map iD)]/\s.fr 5=i64 i/\s.H=H/\aa.take i=ba.take i) ⟨rfl,rfl,rfl,rfl,rfl,rfl⟩ ?_
 rintro i s hi ⟨bG,f2,f3,f5,hH,uX⟩
 have hx:=bL i
 have cL:=bY i
 have aX:H.le s.H:=by rw[hH];exact aR
 by_cases aZ:i<aa.length
 case neg=>
  have q6:=lF i aa.length (by omega)
  rw[dQ (by omega),dQ (by omega)] at uX
  have eE:decide ((⟨ak,am,ar,ae,aa⟩:cQ)=⟨bk,bm,br,be,ba⟩)=true:=bF (AN.2 ⟨g1,g2,g3,g4,uX⟩)
  refine tq (fJ f2 f5 oV q6) ?_;intro Nx aB Gx aG
  refine rt aC bG ?_
  exact⟨_,aE _,aX,_,aJ aX,by rw[eE]⟩
 have q6:=lT i aa.length (by omega)
 have hib:i<ba.length:=by omega
 have GR:=dL aZ
 have WC:=dL hib
 have w3:=wS i (by omega)
 refine tq (fJ f2 f5 oV q6) ?_;intro Nx aB Gx aG
 by_cases he:aa[i]=ba[i]
 case neg=>
  have q7:(aa[i]=ba[i])=False:=aI he
  have eE:decide ((⟨ak,am,ar,ae,aa⟩:cQ)=⟨bk,bm,br,be,ba⟩)=false:=bC fun h=>he (by have:=(AN.1 h).2.2.2.2;subst this;rfl)
  refine dE (fun _ _ _ _=>False) fun Nx aB=>?_;refine dst (CF f2 f3 f5 oV hlb GR WC hx cL aZ hib q7) ?_;intro Nx aB Gx aG
  refine tq trivial ?_;intro Nx aB Gx aG
  refine rt aC bG ?_
  exact⟨_,aE _,aX,_,aJ aX,by rw[eE]⟩
 have q7:(aa[i]=ba[i])=True:=aK he
 refine dE (fun _ _ _ _=>False) fun Nx aB=>?_;refine dst (CF f2 f3 f5 oV hlb GR WC hx cL aZ hib q7) ?_;intro Nx aB Gx aG
 refine tq (cZ f5 w3) ?_;intro Nx aB Gx aG
 exact⟨aZ,bG,f2,f3,rfl,hH,OW uX aZ hib he⟩
theorem aEM (ts:List cQ) (t:cQ) (H:aA) (sM:ts.length<=140737488351232) (nM:∀u∈ts,u.ar.length<=140737488351232):aT prog 208 [.seq 5 (ts.map cE),.agg (cE t)] H fun d H'=>d=i64 (sE t ts 0)/\H=H':=by
 refine bM (K:=fun d=>d=i64 (sE t ts 0)) ?_
 have fB:=lm cE ts
 refine aN _ _ func208 rfl rfl ntmps208 results208 (by simp) fun w0 g0 Q aC=>?_
 refine tq @cE.eq_1 ?_;intro Nx aB Gx aG
 intro c3 mH
 refine aB _ ?_
 refine fW 3 mH ?_
 refine tq trivial ?_;intro Nx aB Gx aG
 refine bB ts.length (fun i s=>s.df=[]/\s.fr 0=.seq 5 (ts.map cE)/\s.fr 3=.rp (cE t)/\s.fr 5=i64 i/\s.H=H/\sE t ts 0=sE t (ts.drop i) i) ⟨rfl,rfl,rfl,rfl,rfl,rfl⟩ ?_
 rintro i s hi ⟨bG,f0,f3,f5,hH,hf⟩
 have hx:=bL i
 have cL:=bY i
 have aX:H.le s.H:=by rw[hH];exact aE _
 by_cases aZ:i<ts.length
 case neg=>
  have q6:=lF i ts.length (by omega)
  rw[dX (by omega)] at hf
  refine tq (fJ f0 f5 fB q6) ?_;intro Nx aB Gx aG
  refine rt aC bG ?_
  exact⟨_,aE _,aX,_,aJ aX,by rw[hf] <;> rfl⟩
 have q6:=lT i ts.length (by omega)
 have w3:=wS i (by omega)
 have LF:=nM ts[i] (bZ aZ)
 have b8:(ts.map cE)[i]?=some (cE ts[i]):=by rw[cR,cP aZ];rfl
 rw[dI aZ,sE] at hf
 obtain⟨u,hu⟩:∃u,u=ts[i]:=⟨_,rfl⟩
 rw[<-hu] at b8 hf LF
 have dK:dY prog 40 [.agg (cE u),.agg (cE t)] s.H fun d A=>A=aA.none/\d=.val (.bool (decide (u=t))):=bN fun eL eO=>aHW u t eL LF
 obtain⟨uk,um,ur,ue,ua⟩:=u
 obtain⟨tk,tm,tr,te,ta⟩:=t
 simp only[cE] at b8 f3 dK
 refine tq (fJ f0 f5 fB q6) ?_;intro Nx aB Gx aG
 by_cases he:(⟨uk,um,ur,ue,ua⟩:cQ)=⟨tk,tm,tr,te,ta⟩
 ·rw[aH he] at hf
  rw[bF he] at dK
  refine dE (fun _ _ d A=>A=.none/\d=.val (.bool true)) fun Nx aB=>?_;refine dst (qN f0 f3 f5 fB b8 hx cL aZ) ?_;intro Nx aB Gx aG
  refine⟨dK,?_⟩
  (first|refine aG _ ?_|refine aB _ ?_|skip)
  refine dst trivial ?_;intro Nx aB Gx aG
  refine tq f5 ?_;intro Nx aB Gx aG
  refine rt aC bG ?_
  exact⟨_,aE _,aX,_,aJ aX,by rw[hf] <;> rfl⟩
 ·rw[aD he] at hf
  rw[bC he] at dK
  refine dE (fun _ _ d A=>A=.none/\d=.val (.bool false)) fun Nx aB=>?_;refine dst (qN f0 f3 f5 fB b8 hx cL aZ) ?_;intro Nx aB Gx aG
  refine⟨dK,?_⟩
  (first|refine aG _ ?_|refine aB _ ?_|skip)
  refine dst trivial ?_;intro Nx aB Gx aG
  refine tq (cZ f5 w3) ?_;intro Nx aB Gx aG
  exact⟨aZ,bG,f0,f3,rfl,hH,hf⟩
theorem pG {d:List Int} {i:Nat} (h:i<d.length):(d.map iD)[i]?=some [.val (.int .i64 (d.getD i 0))]:=by
 rw[dL h,l6,cP h];rfl
theorem Gl.os {H0:aA} {e:TypeId} {d:D} {H:aA} {ob:Option Nat} {l:List Int} (h:Gl H0 e 1 (l.map iD) d H ob) (hl:0<l.length):∃c o,d=.os c o 1 0 l.length/\H0 c=none/\H c=some (.row e o 1 (l.map iD)):=by
 rcases h with⟨_,_,h⟩|⟨c,o,_,h1,h2,h3⟩
 ·rw[List.map_eq_nil_iff] at h;rw[h] at hl;simp at hl
 ·exact⟨c,o,by rw[h1,bK],h2,h3⟩
theorem WN (ts:List cQ) (n:Nat) (H:aA) (hn:n<=ts.length) (sM:ts.length<=1000000) (nM:∀u∈ts,u.ar.length<=140737488351232) (hw:vY (ts.take n)):aT prog 120 [.seq 5 (ts.map cE),i64 n] H fun d H'=>d=.seq 1 ((gX (ts.take n)).map iD)/\H=H':=by
 refine bM (K:=fun d=>d=.seq 1 ((gX (ts.take n)).map iD)) ?_
 have fB:=lm cE ts
 refine aN _ _ func120 rfl rfl ntmps120 results120 (by simp) fun w0 g0 Q aC=>?_
 refine tq trivial ?_;intro Nx aB Gx aG
 refine bB n (fun i s=>s.df=[]/\s.fr 0=.seq 5 (ts.map cE)/\s.fr 1=i64 n/\s.fr 6=i64 i/\H.le s.H/\∃ob,Gl H 3 1 ((gX (ts.take i)).map iD) (s.fr 5) s.H ob) ⟨rfl,rfl,rfl,rfl,aE _,none,nJ _ _ _ _⟩ ?_
 rintro i s hi ⟨bG,f0,f1,f6,aR,ob,hg⟩
 by_cases aZ:i<n
 case neg=>
  have q1:((i:Int)<(n:Int))=False:=aI (by omega)
  have jX:i=n:=by omega
  subst jX
  refine tq (dZ f1 f6 q1) ?_;intro Nx aB Gx aG
  refine rt aC bG ?_
  exact⟨_,aE _,aR,_,sF aR hg,rfl⟩
 have q1:((i:Int)<(n:Int))=True:=aK (by omega)
 have hx:=bL i
 have cL:=bY i
 have hit:i<ts.length:=by omega
 have w3:=wS i (by omega)
 have b8:(ts.map cE)[i]?=some (cE ts[i]):=by rw[cR,cP hit];rfl
 have LF:=nM ts[i] (bZ hit)
 have hwi:=hw i (by rw[dJ];omega)
 rw[List.getElem_take] at hwi
 have rB:=YL hit
 have hdl:(gX (ts.take i)).length=i:=by rw[xP,dJ];omega
 have hbd:=GO (ts.take i)
 rw[dJ,uI (by omega)] at hbd
 have mZ:=GY (b:=i) (fun x hx=>(hbd x hx).2) (by omega) ts[i]
 have iQ:=GX (fun x hx=>by have:=hbd x hx;omega) ts[i]
 obtain⟨dd,hdd⟩:∃dd,dd=gX (ts.take i):=⟨_,rfl⟩
 rw[<-hdd] at rB hdl mZ iQ hg
 have SZ:qB dd ts[i]=ts[i].ar.foldl (qQ dd) (if ts[i].k=3 then dd.getD ts[i].e.toNat 0 else 0):=rfl
 obtain⟨u,hu⟩:∃u,u=ts[i]:=⟨_,rfl⟩
 rw[<-hu] at b8 LF hwi rB mZ iQ SZ
 obtain⟨uk,um,ur,ue,ua⟩:=u
 simp only[cE] at b8 LF hwi SZ
 obtain⟨km,aGy⟩:∃km,km=qB dd ⟨uk,um,ur,ue,ua⟩:=⟨_,rfl⟩
 rw[<-aGy] at rB mZ iQ SZ
 have oV:=lm iD ua
 obtain⟨d5,hd5⟩:∃d5,d5=s.fr 5:=⟨_,rfl⟩
 rw[<-hd5] at hg
 (have fs:=And.intro f0 (And.intro f1 (And.intro f6 (And.intro q1 (And.intro b8 (And.intro hx (And.intro cL (And.intro hit fB)))))));(iterate 12 (first|refine aG _ ?_|refine aB _ ?_|refine cX ?_|refine cW ?_|refine eH ?_|refine cF ?_|refine cG ?_|refine cC ?_|refine bO ?_|((first|refine tS fun Nx aB=>?_|refine mE rfl rfl (by kernel_rfl) (by kernel_rfl) fun Gx aG=>?_|refine cD (by kernel_rfl) ?_|refine lJ fun A B vJ vK=>?_);refine yR ?_;(first|refine aG _ ?_|refine aB _ ?_|refine vJ ?_|refine vK ?_|skip))));(try clear fs))
 refine MK (fun s1=>s1.df=[]/\s1.fr 0=.seq 5 (ts.map cE)/\s1.fr 1=i64 n/\s1.fr 6=i64 i/\s1.H=s.H/\s1.fr 5=d5/\s1.fr 7=i64 (if uk=3 then dd.getD ue.toNat 0 else 0)) ?_ ?_
 ·by_cases h3:uk=3
  ·have q3:(uk=3)=True:=aK h3
   have hue:=hwi.1 h3
   obtain⟨c,o,f5,CP,QG⟩:=Gl.os hg (by omega)
   rw[hd5] at f5
   have NV:=pG (d:=dd) (i:=ue.toNat) (by omega)
   have h0u:0<=ue:=hue.1
   have GA:(ue<(dd.length:Int))=True:=aK (by omega)
   rw[aH h3]
   refine tq (P0 f0 f5 f6 q3 b8 hx cL hit fB QG NV h0u GA) ?_;intro Nx aB Gx aG
   exact⟨bG,f0,f1,f6,rfl,by rw[hd5,<-f5] <;> rfl,rfl⟩
  ·have q3:(uk=3)=False:=aI h3
   rw[aD h3]
   refine tq (dZ f0 f6 q3) ?_;intro Nx aB Gx aG
   exact⟨bG,f0,f1,f6,rfl,hd5.symm,rfl⟩
 rintro s1 ⟨lS,g0,g1,g6,s6,g5,g7⟩
 refine tq trivial ?_;intro Nx aB Gx aG
 refine bB ua.length (fun (j:Nat) (s':St)=>s'.df=[]/\s'.fr 0=.seq 5 (ts.map cE)/\s'.fr 1=i64 n/\s'.fr 6=i64 i/\s'.H=s.H/\s'.fr 5=d5/\s'.fr 8=i64 j/\s'.fr 7=i64 ((ua.take j).foldl (qQ dd) (if uk=3 then dd.getD ue.toNat 0 else 0))) ⟨lS,g0,g1,g6,s6,g5,rfl,g7⟩ ?_
 rintro j s2 hj ⟨mY,k0,k1,k6,iW,k5,k8,k7⟩
 have hjx:=bL j
 have GP:=bY j
 by_cases kR:j<ua.length
 case neg=>
  have q2:=lF j ua.length (by omega)
  rw[dQ (by omega),<-SZ] at k7
  have w4:IntKind.i64.wrap (km+1)=km+1:=aY (by omega)
  have NU:Gl H 3 1 (dd.map iD) (s2.fr 5) s2.H ob:=by rw[k5,iW];exact hg
  have mO:H.le s2.H:=by rw[iW];exact aR
  refine tq (CF k0 k6 k7 k8 q2 w4 b8 hx cL hit fB oV) ?_;intro Nx aB Gx aG
  refine cY (e:=3) sS rfl sS rfl ty3 rfl (by decide) mO NU (new:=[iD (km+1)]) (by exact⟨rfl,rfl⟩) (by rw[bK];show(_+1) * 8<=_;omega) fun d H6 qL kK eJ _=>?_
  rw[show[iD (km+1)]=[km+1].map iD from rfl,<-fI,<-rB] at kK
  refine tq (cZ k6 w3) ?_;intro Nx aB Gx aG
  exact⟨aZ,mY,k0,k1,rfl,eJ,qL,kK⟩
 have q2:=lT j ua.length (by omega)
 have AX:=dL kR
 have NT:=hwi.2 ua[j] (bZ kR)
 have oF:(ua.take (j+1)).foldl (qQ dd) (if uk=3 then dd.getD ue.toNat 0 else 0)=max ((ua.take j).foldl (qQ dd) (if uk=3 then dd.getD ue.toNat 0 else 0)) (dd.getD ua[j].toNat 0):=by
  rw[dH kR,zV];rfl
 obtain⟨f,hfe⟩:∃f,f=ua[j]:=⟨_,rfl⟩
 rw[<-hfe] at AX NT oF
 obtain⟨c,o,f5,CP,QG⟩:=Gl.os hg (by omega)
 have k5':=k5.trans f5
 rw[<-iW] at QG
 have NV:=pG (d:=dd) (i:=f.toNat) (by omega)
 have h0u:0<=f:=NT.1
 have GA:(f<(dd.length:Int))=True:=aK (by omega)
 have w4:=wS j (by omega)
 refine tq (aGU k0 k5' k6 k7 k8 q2 w4 b8 hx cL hit fB oV AX hjx GP kR QG NV h0u GA) ?_;intro Nx aB Gx aG
 exact⟨kR,mY,k0,k1,k6,iW,k5,rfl,by rw[oF] <;> rfl⟩
theorem aHS (ts:List cQ) (i:Int) (H:aA) (sM:ts.length<=1000000) (nM:∀u∈ts,u.ar.length<=140737488351232) (hw:vY ts):aT prog 54 [.seq 5 (ts.map cE),i64 i] H fun d H'=>d=i64 (H8 ts i)/\H=H':=by
 refine bM (K:=fun d=>d=i64 (H8 ts i)) ?_
 have fB:=lm cE ts
 have aR:=aE H
 refine aN _ _ func54 rfl rfl ntmps54 results54 (by simp) fun w0 g0 Q aC=>?_
 by_cases h1:i<0
 ·have q1:(i<0)=True:=aK h1
  refine tq q1 ?_;intro Nx aB Gx aG
  refine rt aC trivial ?_
  exact⟨_,aE _,aR,_,aJ aR,by unfold H8;rw[aD (fun h=>by have:=h.1;omega)]⟩
 have q1:(i<0)=False:=aI h1
 by_cases h2:(ts.length:Int)<=i
 ·have q2:((ts.length:Int)<=i)=True:=aK h2
  refine tq (dZ q1 q2 fB) ?_;intro Nx aB Gx aG
  refine rt aC trivial ?_
  exact⟨_,aE _,aR,_,aJ aR,by unfold H8;rw[aD (fun h=>by have:=h.2;omega)]⟩
 have q2:((ts.length:Int)<=i)=False:=aI h2
 have hR:dG ts.length i:=⟨by omega,by omega⟩
 obtain⟨n,rfl⟩:∃n:Nat,i=n:=⟨i.toNat,by omega⟩
 have w3:=wS n (by omega)
 have yX:(gX (ts.take (n+1))).length=n+1:=by rw[xP,dJ];omega
 have NV:=pG (d:=gX (ts.take (n+1))) (i:=n) (by omega)
 have hgd:(gX (ts.take (n+1))).getD n 0=H8 ts n:=by
  unfold H8
  rw[aH hR,l6,l6,bL,aAn (by omega) (by omega)]
 rw[hgd] at NV
 have hx:=bL n
 have cL:=bY n
 have cI:(List.map iD (gX (ts.take (n+1)))).length=n+1:=by rw[bK,yX]
 have hnl:n<n+1:=by omega
 have aXa:((n:Int)<((n+1:Nat):Int))=True:=aK (by omega)
 refine tq (fJ q1 q2 fB w3) ?_;intro Nx aB Gx aG
 refine(WN ts (n+1) _ (by omega) sM nM (aCx hw _)).mono ?_
 rintro d _ ⟨rfl,rfl⟩
 refine tq (jA NV hx cL cI hnl aXa) ?_;intro Nx aB Gx aG
 refine rt aC trivial ?_
 exact⟨_,aE _,aR,_,aJ aR,rfl⟩
theorem aEK (ts:List cQ) (i:Nat) (n:Int) (H:aA) (hi:i<ts.length) (sM:ts.length<=1000000) (nM:∀u∈ts,u.ar.length<=140737488351232) (hw:vY (ts.take i)):
  aT prog 119 [.seq 5 (ts.map cE),.seq 1 ((gX (ts.take i)).map iD),i64 i,i64 n] H fun d H'=>d=i64 (vI (ts.take i) n ts[i])/\H=H':=by
 refine bM (K:=fun d=>d=i64 (vI (ts.take i) n ts[i])) ?_
 have aR:=aE H
 have fB:=lm cE ts
 have hx:=bL i
 have cL:=bY i
 have b8:(ts.map cE)[i]?=some (cE ts[i]):=by rw[cR,cP hi];rfl
 have LF:=nM ts[i] (bZ hi)
 obtain⟨u,hu⟩:∃u,u=ts[i]:=⟨_,rfl⟩
 rw[<-hu] at b8 LF ⊢
 obtain⟨c,hc⟩:∃c,c=vI (ts.take i) n u:=⟨_,rfl⟩
 have eM:=hc
 unfold vI at eM
 rw[<-hc]
 have Q5:(ts.take i).length=i:=by rw[dJ];omega
 rw[Q5] at eM
 obtain⟨uk,um,ur,ue,ua⟩:=u
 simp only at eM LF
 simp only[cE] at b8
 have oV:=lm iD ua
 refine aN _ _ func119 rfl rfl ntmps119 results119 (by simp) fun w0 g0 Q aC=>?_
 refine tq (gE b8 hx cL hi fB) ?_;intro Nx aB Gx aG
 intro c9 hc9
 refine aB _ ?_
 refine fW 9 hc9 ?_
 by_cases h1:uk<0
 ·have q1:(uk<0)=True:=aK h1
  rw[aH (.inl h1)] at eM
  refine tq q1 ?_;intro Nx aB Gx aG
  refine rt aC trivial ?_
  exact⟨_,aE _,aR,_,aJ aR,by rw[eM] <;> rfl⟩
 have q1:(uk<0)=False:=aI h1
 by_cases h2:4<uk
 ·have q2:(4<uk)=True:=aK h2
  rw[aH (.inr h2)] at eM
  refine tq (cZ q1 q2) ?_;intro Nx aB Gx aG
  refine rt aC trivial ?_
  exact⟨_,aE _,aR,_,aJ aR,by rw[eM] <;> rfl⟩
 have q2:(4<uk)=False:=aI h2
 rw[aD (by omega)] at eM
 (have fs:=And.intro q1 q2;(iterate 10 (first|refine aG _ ?_|refine aB _ ?_|refine cX ?_|refine cW ?_|refine eH ?_|refine cF ?_|refine cG ?_|refine cC ?_|refine bO ?_|((first|refine tS fun Nx aB=>?_|refine mE rfl rfl (by kernel_rfl) (by kernel_rfl) fun Gx aG=>?_|refine cD (by kernel_rfl) ?_|refine lJ fun A B vJ vK=>?_);refine yR ?_;(first|refine aG _ ?_|refine aB _ ?_|refine vJ ?_|refine vK ?_|skip))));(try clear fs))
 obtain⟨dd,hdd⟩:∃dd,dd=gX (ts.take i):=⟨_,rfl⟩
 rw[<-hdd] at eM ⊢
 refine AS (fun s1=>s1.df=[]/\s1.fr 0=.seq 5 (ts.map cE)/\s1.fr 1=.seq 1 (dd.map iD)/\s1.fr 2=i64 i/\s1.fr 3=i64 n/\s1.fr 9=.rp [i64 uk,.val (.bool um),i64 ur,i64 ue,.seq 1 (ua.map iD)]/\s1.H=H/\¬((uk≠3/\(um=true\/ur≠0\/ue≠0))\/(uk≠4/\0<ua.length))) ?_ ?_
 ·by_cases h3:uk=3
  ·have q3:(uk=3)=True:=aK h3
   have h4:¬uk=4:=by omega
   have q4:(uk=4)=False:=aI h4
   by_cases h5:0<ua.length
   ·have q5:((0:Int)<(ua.length:Int))=True:=aK (by omega)
    rw[aH (.inr ⟨h4,h5⟩)] at eM
    refine tq (fJ q3 q4 q5 oV) ?_;intro Nx aB Gx aG
    refine⟨by simp,?_⟩;refine rt aC trivial ?_;exact⟨_,aE _,aR,_,aJ aR,by rw[eM] <;> rfl⟩
   ·have q5:((0:Int)<(ua.length:Int))=False:=aI (by omega)
    refine tq (fJ q3 q4 q5 oV) ?_;intro Nx aB Gx aG
    exact⟨rfl,rfl,rfl,rfl,rfl,rfl,rfl,by omega⟩
  have q3:(uk=3)=False:=aI h3
  by_cases h5:um=true
  ·rw[aH (.inl ⟨h3,.inl h5⟩)] at eM
   subst h5
   refine tq q3 ?_;intro Nx aB Gx aG
   refine⟨by simp,?_⟩;refine rt aC trivial ?_;exact⟨_,aE _,aR,_,aJ aR,by rw[eM] <;> rfl⟩
  have h5':um=false:=by simpa using h5
  subst h5'
  by_cases h6:ur=0
  case neg=>
   have q6:(ur=0)=False:=aI h6
   rw[aH (.inl ⟨h3,.inr (.inl h6)⟩)] at eM
   refine tq (cZ q3 q6) ?_;intro Nx aB Gx aG
   refine⟨by simp,?_⟩;refine rt aC trivial ?_;exact⟨_,aE _,aR,_,aJ aR,by rw[eM] <;> rfl⟩
  have q6:(ur=0)=True:=aK h6
  by_cases h7:ue=0
  case neg=>
   have q7:(ue=0)=False:=aI h7
   rw[aH (.inl ⟨h3,.inr (.inr h7)⟩)] at eM
   refine tq (dZ q3 q6 q7) ?_;intro Nx aB Gx aG
   refine⟨by simp,?_⟩;refine rt aC trivial ?_;exact⟨_,aE _,aR,_,aJ aR,by rw[eM] <;> rfl⟩
  have q7:(ue=0)=True:=aK h7
  by_cases h4:uk=4
  ·have q4:(uk=4)=True:=aK h4
   refine tq (fJ q3 q4 q6 q7) ?_;intro Nx aB Gx aG
   exact⟨rfl,rfl,rfl,rfl,rfl,rfl,rfl,by rintro(⟨_,h|h|h⟩|⟨h,_⟩) <;> first|exact h h6|exact h h7|exact h h4|cases h⟩
  have q4:(uk=4)=False:=aI h4
  by_cases h5:0<ua.length
  ·have q5:((0:Int)<(ua.length:Int))=True:=aK (by omega)
   rw[aH (.inr ⟨h4,h5⟩)] at eM
   refine tq (jA q3 q4 q5 q6 q7 oV) ?_;intro Nx aB Gx aG
   refine⟨by simp,?_⟩;refine rt aC trivial ?_;exact⟨_,aE _,aR,_,aJ aR,by rw[eM] <;> rfl⟩
  ·have q5:((0:Int)<(ua.length:Int))=False:=aI (by omega)
   refine tq (jA q3 q4 q5 q6 q7 oV) ?_;intro Nx aB Gx aG
   exact⟨rfl,rfl,rfl,rfl,rfl,rfl,rfl,by rintro(⟨_,h|h|h⟩|⟨_,h⟩) <;> first|exact h h6|exact h h7|exact h5 h|cases h⟩
 rintro s1 ⟨lS,g0,g1,g2,g3,g9,s6,hp1⟩
 rw[aD hp1] at eM
 have j9:H.le s1.H:=by rw[s6];exact aR
 (have fs:=trivial;(iterate 3 (first|refine aG _ ?_|refine aB _ ?_|refine cX ?_|refine cW ?_|refine eH ?_|refine cF ?_|refine cG ?_|refine cC ?_|refine bO ?_|((first|refine tS fun Nx aB=>?_|refine mE rfl rfl (by kernel_rfl) (by kernel_rfl) fun Gx aG=>?_|refine cD (by kernel_rfl) ?_|refine lJ fun A B vJ vK=>?_);refine yR ?_;(first|refine aG _ ?_|refine aB _ ?_|refine vJ ?_|refine vK ?_|skip))));(try clear fs))
 have hdl:dd.length=i:=by rw[hdd,xP,Q5]
 refine AS (fun s2=>s2.df=[]/\s2.fr 0=.seq 5 (ts.map cE)/\s2.fr 1=.seq 1 (dd.map iD)/\s2.fr 2=i64 i/\s2.fr 3=i64 n/\s2.fr 9=.rp [i64 uk,.val (.bool um),i64 ur,i64 ue,.seq 1 (ua.map iD)]/\s2.H=H/\s2.fr 10=i64 (if uk=3 then dd.getD ue.toNat 0 else 0)/\¬(uk=3/\(ur<0\/n<=ur\/ue<0\/(i:Int)<=ue))) ?_ ?_
 ·by_cases h3:uk=3
  case neg=>
   have q3:(uk=3)=False:=aI h3
   rw[aD h3]
   refine tq (cZ g9 q3) ?_;intro Nx aB Gx aG
   exact⟨lS,g0,g1,g2,g3,g9,s6,rfl,fun h=>h3 h.1⟩
  have q3:(uk=3)=True:=aK h3
  rw[aH h3]
  by_cases h4:ur<0
  ·have q4:(ur<0)=True:=aK h4
   rw[aH ⟨h3,.inl h4⟩] at eM
   refine tq (dZ g9 q3 q4) ?_;intro Nx aB Gx aG
   refine⟨by simp,?_⟩;refine rt aC lS ?_;exact⟨_,aE _,j9,_,aJ j9,by rw[eM] <;> rfl⟩
  have q4:(ur<0)=False:=aI h4
  by_cases h5:n<=ur
  ·have q5:(n<=ur)=True:=aK h5
   rw[aH ⟨h3,.inr (.inl h5)⟩] at eM
   refine tq (gE g3 g9 q3 q4 q5) ?_;intro Nx aB Gx aG
   refine⟨by simp,?_⟩;refine rt aC lS ?_;exact⟨_,aE _,j9,_,aJ j9,by rw[eM] <;> rfl⟩
  have q5:(n<=ur)=False:=aI h5
  by_cases h6:ue<0
  ·have q6:(ue<0)=True:=aK h6
   rw[aH ⟨h3,.inr (.inr (.inl h6))⟩] at eM
   refine tq (jA g3 g9 q3 q4 q5 q6) ?_;intro Nx aB Gx aG
   refine⟨by simp,?_⟩;refine rt aC lS ?_;exact⟨_,aE _,j9,_,aJ j9,by rw[eM] <;> rfl⟩
  have q6:(ue<0)=False:=aI h6
  by_cases h7:(i:Int)<=ue
  ·have q7:((i:Int)<=ue)=True:=aK h7
   rw[aH ⟨h3,.inr (.inr (.inr h7))⟩] at eM
   refine tq (qN g2 g3 g9 q3 q4 q5 q6 q7) ?_;intro Nx aB Gx aG
   refine⟨by simp,?_⟩;refine rt aC lS ?_;exact⟨_,aE _,j9,_,aJ j9,by rw[eM] <;> rfl⟩
  have q7:((i:Int)<=ue)=False:=aI h7
  have NV:=pG (d:=dd) (i:=ue.toNat) (by omega)
  have h0u:0<=ue:=by omega
  have WB:=lm iD dd
  have GA:ue.toNat<dd.length:=by omega
  have aHG:ue<(dd.length:Int):=by omega
  refine tq (F0 g1 g2 g3 g9 q3 q4 q5 q6 q7 NV h0u WB GA aHG) ?_;intro Nx aB Gx aG
  exact⟨lS,g0,g1,g2,g3,g9,s6,rfl,by omega⟩
 rintro s2 ⟨mY,f0,f1,f2,f3,f9,iW,f10,hp2⟩
 rw[aD hp2] at eM
 have SZ:qB dd ⟨uk,um,ur,ue,ua⟩=ua.foldl (qQ dd) (if uk=3 then dd.getD ue.toNat 0 else 0):=rfl
 have hbd:=GO (ts.take i)
 rw[Q5,<-hdd] at hbd
 have mZ:=GY (b:=i) (fun x hx=>(hbd x hx).2) (by omega) ⟨uk,um,ur,ue,ua⟩
 have iQ:=GX (fun x hx=>by have:=hbd x hx;omega) ⟨uk,um,ur,ue,ua⟩
 obtain⟨km,aGy⟩:∃km,km=qB dd ⟨uk,um,ur,ue,ua⟩:=⟨_,rfl⟩
 rw[<-aGy] at mZ iQ SZ eM
 refine tq trivial ?_;intro Nx aB Gx aG
 refine bB ua.length (fun j s=>s.df=[]/\s.fr 0=.seq 5 (ts.map cE)/\s.fr 1=.seq 1 (dd.map iD)/\s.fr 2=i64 i/\s.fr 9=.rp [i64 uk,.val (.bool um),i64 ur,i64 ue,.seq 1 (ua.map iD)]/\s.H=H/\s.fr 11=i64 j/\s.fr 10=i64 ((ua.take j).foldl (qQ dd) (if uk=3 then dd.getD ue.toNat 0 else 0))/\∀m (h:m<ua.length),m<j->¬(ua[m]<0\/(i:Int)<=ua[m])) ⟨mY,f0,f1,f2,f9,iW,rfl,f10,fun m h hm=>by omega⟩ ?_
 rintro j s3 hj ⟨KD,k0,k1,k2,k9,SW,k11,k10,eW⟩
 have uU:H.le s3.H:=by rw[SW];exact aR
 have hjx:=bL j
 have GP:=bY j
 by_cases kR:j<ua.length
 case pos=>
  have p1:=lT j ua.length (by omega)
  have AX:=dL kR
  have w4:=wS j (by omega)
  have oF:(ua.take (j+1)).foldl (qQ dd) (if uk=3 then dd.getD ue.toNat 0 else 0)=max ((ua.take j).foldl (qQ dd) (if uk=3 then dd.getD ue.toNat 0 else 0)) (dd.getD ua[j].toNat 0):=by
   rw[dH kR,zV];rfl
  have hfm:ua[j]∈ua:=bZ kR
  obtain⟨f,hfe⟩:∃f,f=ua[j]:=⟨_,rfl⟩
  rw[<-hfe] at AX oF hfm
  by_cases h4:f<0
  ·have q4:(f<0)=True:=aK h4
   rw[aH ⟨f,hfm,.inl h4⟩] at eM
   refine tq (yP k9 k11 p1 AX hjx GP kR oV q4) ?_;intro Nx aB Gx aG
   refine rt aC KD ?_
   exact⟨_,aE _,uU,_,aJ uU,by rw[eM] <;> rfl⟩
  have q4:(f<0)=False:=aI h4
  by_cases h5:(i:Int)<=f
  ·have q5:((i:Int)<=f)=True:=aK h5
   rw[aH ⟨f,hfm,.inr h5⟩] at eM
   refine tq (pE k2 k9 k11 p1 AX hjx GP kR oV q4 q5) ?_;intro Nx aB Gx aG
   refine rt aC KD ?_
   exact⟨_,aE _,uU,_,aJ uU,by rw[eM] <;> rfl⟩
  have q5:((i:Int)<=f)=False:=aI h5
  have NV:=pG (d:=dd) (i:=f.toNat) (by omega)
  have h0u:0<=f:=by omega
  have WB:=lm iD dd
  have GA:f.toNat<dd.length:=by omega
  have aHG:f<(dd.length:Int):=by omega
  refine tq (aI3 k1 k2 k9 k10 k11 p1 AX hjx GP kR oV q4 q5 NV h0u WB GA aHG w4) ?_;intro Nx aB Gx aG
  refine⟨kR,KD,k0,k1,k2,k9,SW,rfl,by rw[oF] <;> rfl,fun m hm hmj=>?_⟩
  by_cases hme:m=j
  ·subst hme;rw[<-hfe];omega
  ·exact eW m hm (by omega)
 have p1:=lF j ua.length (by omega)
 rw[dQ (by omega),<-SZ] at k10
 have hp3:¬∃f∈ua,f<0\/(i:Int)<=f:=by
  rintro⟨f,hf,hb⟩
  obtain⟨m,hm,rfl⟩:=wM hf
  exact eW m hm (by omega) hb
 rw[aD hp3] at eM
 have w5:IntKind.i64.wrap (km+1)=km+1:=aY (by omega)
 (have fs:=And.intro k9 (And.intro k10 (And.intro k11 (And.intro p1 (And.intro oV w5))));(iterate 6 (first|refine aG _ ?_|refine aB _ ?_|refine cX ?_|refine cW ?_|refine eH ?_|refine cF ?_|refine cG ?_|refine cC ?_|refine bO ?_|((first|refine tS fun Nx aB=>?_|refine mE rfl rfl (by kernel_rfl) (by kernel_rfl) fun Gx aG=>?_|refine cD (by kernel_rfl) ?_|refine lJ fun A B vJ vK=>?_);refine yR ?_;(first|refine aG _ ?_|refine aB _ ?_|refine vJ ?_|refine vK ?_|skip))));(try clear fs))
 refine AS (fun s4=>s4.df=[]/\s4.fr 0=.seq 5 (ts.map cE)/\s4.fr 2=i64 i/\s4.fr 9=.rp [i64 uk,.val (.bool um),i64 ur,i64 ue,.seq 1 (ua.map iD)]/\s4.H=H/\s4.fr 10=i64 km/\¬(uk=4/\(ua.length=0\/65535<ua.length))) ?_ ?_
 ·by_cases h4:uk=4
  case neg=>
   have q4:(uk=4)=False:=aI h4
   refine tq (cZ k9 q4) ?_;intro Nx aB Gx aG
   exact⟨KD,k0,k2,k9,SW,k10,fun h=>h4 h.1⟩
  have q4:(uk=4)=True:=aK h4
  by_cases h5:ua.length=0
  ·have q5:((ua.length:Int)=0)=True:=aK (by omega)
   rw[aH ⟨h4,.inl h5⟩] at eM
   refine tq (fJ k9 q4 q5 oV) ?_;intro Nx aB Gx aG
   refine⟨by simp,?_⟩;refine rt aC KD ?_;exact⟨_,aE _,uU,_,aJ uU,by rw[eM] <;> rfl⟩
  have q5:((ua.length:Int)=0)=False:=aI (by omega)
  by_cases h6:65535<ua.length
  ·have q6:((65535:Int)<(ua.length:Int))=True:=aK (by omega)
   rw[aH ⟨h4,.inr h6⟩] at eM
   refine tq (gE k9 q4 q5 q6 oV) ?_;intro Nx aB Gx aG
   refine⟨by simp,?_⟩;refine rt aC KD ?_;exact⟨_,aE _,uU,_,aJ uU,by rw[eM] <;> rfl⟩
  have q6:((65535:Int)<(ua.length:Int))=False:=aI (by omega)
  refine tq (gE k9 q4 q5 q6 oV) ?_;intro Nx aB Gx aG
  exact⟨KD,k0,k2,k9,SW,k10,by omega⟩
 rintro s4 ⟨aGp,m0,m2,m9,hH4,m10,hp4⟩
 rw[aD hp4] at eM
 have mP:H.le s4.H:=by rw[hH4];exact aR
 by_cases h6:32<km+1
 ·have q6:(32<km+1)=True:=aK h6
  rw[aH h6] at eM
  refine tq (dZ m10 w5 q6) ?_;intro Nx aB Gx aG
  refine rt aC aGp ?_
  exact⟨_,aE _,mP,_,aJ mP,by rw[eM] <;> rfl⟩
 have q6:(32<km+1)=False:=aI h6
 rw[aD h6] at eM
 refine tq (dZ m10 w5 q6) ?_;intro Nx aB Gx aG
 have kQ:=P9 (t:=⟨uk,um,ur,ue,ua⟩) (l:=ts.take i)
 have dK:dY prog 208 [.seq 5 ((ts.take i).map cE),.agg [i64 uk,.val (.bool um),i64 ur,i64 ue,.seq 1 (ua.map iD)]] s4.H fun d A=>A=aA.none/\d=i64 (sE ⟨uk,um,ur,ue,ua⟩ (ts.take i) 0):=bN fun eL eO=>aEM (ts.take i) ⟨uk,um,ur,ue,ua⟩ eL (by rw[Q5];omega) (fun u hu=>nM u (DI hu))
 obtain⟨r,hr⟩:∃r,r=sE ⟨uk,um,ur,ue,ua⟩ (ts.take i) 0:=⟨_,rfl⟩
 rw[<-hr] at dK kQ
 rw[sW] at dK
 have cN:i<=ts.length:=by omega
 have CR:((i:Int)<=(ts.length:Int))=True:=aK (by omega)
 simp only[i64] at dK
 refine dE (fun _ _ d A=>A=.none/\d=.val (.int .i64 r)) fun Nx aB=>?_;refine dst (qN m0 m2 m9 fB hx cL cN CR) ?_;intro Nx aB Gx aG
 refine⟨dK,?_⟩
 (first|refine aG _ ?_|refine aB _ ?_|skip)
 by_cases hm:(⟨uk,um,ur,ue,ua⟩:cQ)∈ts.take i
 ·have q7:(0<=r)=True:=aK (kQ.2 hm)
  rw[aH hm] at eM
  refine tq q7 ?_;intro Nx aB Gx aG
  refine rt aC aGp ?_
  exact⟨_,aE _,mP,_,aJ mP,by rw[eM] <;> rfl⟩
 ·have q7:(0<=r)=False:=aI fun h=>hm (kQ.1 h)
  rw[aD hm] at eM
  refine tq q7 ?_;intro Nx aB Gx aG
  refine rt aC aGp ?_
  exact⟨_,aE _,mP,_,aJ mP,by rw[eM] <;> rfl⟩
theorem aBw (ts:List cQ) (n:Int) (H:aA) (sM:ts.length<=140737488351232) (nM:∀u∈ts,u.ar.length<=140737488351232):
  aT prog 53 [.seq 5 (ts.map cE),i64 n] H fun d H'=>d=i64 (wV ts n)/\H=H':=by
 refine bM (K:=fun d=>d=i64 (wV ts n)) ?_
 have aR:=aE H
 have fB:=lm cE ts
 have O9:wV ts n=if 65535<ts.length then 15 else tW n [] ts:=rfl
 refine aN _ _ func53 rfl rfl ntmps53 results53 (by simp) fun w0 g0 Q aC=>?_
 by_cases h1:65535<ts.length
 ·have q1:((65535:Int)<(ts.length:Int))=True:=aK (by omega)
  rw[aH h1] at O9
  refine tq (cZ fB q1) ?_;intro Nx aB Gx aG
  refine rt aC trivial ?_
  exact⟨_,aE _,aR,_,aJ aR,by rw[O9] <;> rfl⟩
 have q1:((65535:Int)<(ts.length:Int))=False:=aI (by omega)
 rw[aD h1] at O9
 refine tq (cZ fB q1) ?_;intro Nx aB Gx aG
 refine aIU 5 (.seq 1 []) (fun w v hv=>kZ _ _ _ hv) ?_
 refine bB ts.length (fun i s=>s.df=[]/\s.fr 0=.seq 5 (ts.map cE)/\s.fr 1=i64 n/\s.fr 5=.seq 1 ((gX (ts.take i)).map iD)/\s.fr 6=i64 i/\s.H=H/\tW n [] (ts.take i)=0) ⟨rfl,rfl,rfl,rfl,rfl,rfl,rfl⟩ ?_
 rintro i s hi ⟨bG,f0,f1,f5,f6,hH,eX⟩
 have aX:H.le s.H:=by rw[hH];exact aR
 by_cases aZ:i<ts.length
 case neg=>
  have q2:=lF i ts.length (by omega)
  rw[dQ (by omega)] at eX
  refine tq (fJ f0 f6 fB q2) ?_;intro Nx aB Gx aG
  refine rt aC bG ?_
  exact⟨_,aE _,aX,_,aJ aX,by rw[O9,eX] <;> rfl⟩
 have q2:=lT i ts.length (by omega)
 have w3:=wS i (by omega)
 have hwf:vY (ts.take i):=DB (n:=n) fun m hm=>by simpa using GM.1 eX m hm
 have xB:=DZ (t:=ts[i]) eX
 rw[<-dH aZ,fR] at xB
 refine tq (jA f0 f1 f5 f6 fB q2) ?_;intro Nx aB Gx aG
 refine(aEK ts i n _ aZ (by omega) nM hwf).mono ?_
 rintro d _ ⟨rfl,rfl⟩
 by_cases hc:vI (ts.take i) n ts[i]=0
 case neg=>
  have q3:((vI (ts.take i) n ts[i]:Int)=0)=False:=aI (by omega)
  have AK:=HU (us:=ts.drop (i+1)) (by rw[xB];exact hc)
  rw[kV] at AK
  refine tq q3 ?_;intro Nx aB Gx aG
  refine rt aC bG ?_
  exact⟨_,aE _,aX,_,aJ aX,by rw[O9,AK,xB] <;> rfl⟩
 have aXn:vY (ts.take (i+1)):=DB (n:=n) fun m hm=>by simpa using GM.1 (xB.trans hc) m hm
 rw[hc]
 refine tq (dZ f0 f6 w3) ?_;intro Nx aB Gx aG
 refine(WN ts (i+1) _ (by omega) (by omega) nM aXn).mono ?_
 rintro d _ ⟨rfl,rfl⟩
 refine tq (cZ f6 w3) ?_;intro Nx aB Gx aG
 exact⟨aZ,bG,f0,f1,rfl,rfl,hH,xB.trans hc⟩
theorem aJi (a b:cQ) (H:aA) (sH:a.ar.length<=140737488351232):aT prog 328 [.agg (cE a),.agg (cE b)] H fun d H'=>d=.val (.bool (decide (a=b)))/\H=H':=by
 refine bM (K:=fun d=>d=.val (.bool (decide (a=b)))) ?_
 obtain⟨ak,am,ar,ae,aa⟩:=a
 obtain⟨bk,bm,br,be,ba⟩:=b
 have AN:=XK (a:=⟨ak,am,ar,ae,aa⟩) (b:=⟨bk,bm,br,be,ba⟩)
 simp only at AN sH
 simp only[cE]
 have aR:=aE H
 refine aN _ _ func328 rfl rfl ntmps328 results328 (by simp) fun w0 g0 Q aC=>?_
 refine tq trivial ?_;intro Nx aB Gx aG
 intro c2 pZ c3 mH
 have fP:c2≠c3:=rP (aQ _ _ _) mH
 have NQ:H c3=none:=(bT.1 mH).2
 refine aB _ ?_
 refine bS 2 rfl ((aP fP).trans (aQ _ _ _)) rfl ?_
 refine bS 3 rfl ((bP fP.symm).trans (aQ _ _ _)) rfl ?_
 refine eZ H (fun x z hz=>?_) ?_
 ·have e1:x≠c2:=fun e=>by rw[e,pZ] at hz;cases hz
  have e2:x≠c3:=fun e=>by rw[e,NQ] at hz;cases hz
  show((((H.bH c2 _).bH c3 _).del c2).del c3) x=_
  rw[bP e2,bP e1,aP e2,aP e1]
  exact hz
 simp only[St.gU,List.drop]
 by_cases g1:ak=bk
 case neg=>
  have q1:(ak=bk)=False:=aI g1
  have eE:decide ((⟨ak,am,ar,ae,aa⟩:cQ)=⟨bk,bm,br,be,ba⟩)=false:=bC fun h=>g1 (AN.1 h).1
  refine tq q1 ?_;intro Nx aB Gx aG;refine rt aC trivial ?_;exact⟨_,aE _,aR,_,aJ aR,by rw[eE]⟩
 have q1:(ak=bk)=True:=aK g1
 by_cases g2:am=bm
 case neg=>
  have q2:(am=bm)=False:=aI g2
  have eE:decide ((⟨ak,am,ar,ae,aa⟩:cQ)=⟨bk,bm,br,be,ba⟩)=false:=bC fun h=>g2 (AN.1 h).2.1
  refine tq (cZ q1 q2) ?_;intro Nx aB Gx aG;refine rt aC trivial ?_;exact⟨_,aE _,aR,_,aJ aR,by rw[eE]⟩
 have q2:(am=bm)=True:=aK g2
 by_cases g3:ar=br
 case neg=>
  have q3:(ar=br)=False:=aI g3
  have eE:decide ((⟨ak,am,ar,ae,aa⟩:cQ)=⟨bk,bm,br,be,ba⟩)=false:=bC fun h=>g3 (AN.1 h).2.2.1
  refine tq (dZ q1 q2 q3) ?_;intro Nx aB Gx aG;refine rt aC trivial ?_;exact⟨_,aE _,aR,_,aJ aR,by rw[eE]⟩
 have q3:(ar=br)=True:=aK g3
 by_cases g4:ae=be
 case neg=>
  have q4:(ae=be)=False:=aI g4
  have eE:decide ((⟨ak,am,ar,ae,aa⟩:cQ)=⟨bk,bm,br,be,ba⟩)=false:=bC fun h=>g4 (AN.1 h).2.2.2.1
  refine tq (fJ q1 q2 q3 q4) ?_;intro Nx aB Gx aG;refine rt aC trivial ?_;exact⟨_,aE _,aR,_,aJ aR,by rw[eE]⟩
 have q4:(ae=be)=True:=aK g4
 have eE:decide ((⟨ak,am,ar,ae,aa⟩:cQ)=⟨bk,bm,br,be,ba⟩)=decide (aa=ba):=by
  have:((⟨ak,am,ar,ae,aa⟩:cQ)=⟨bk,bm,br,be,ba⟩)=(aa=ba):=propext ⟨fun h=>(AN.1 h).2.2.2.2,fun h=>AN.2 ⟨g1,g2,g3,g4,h⟩⟩
  simp only[this]
 refine tq (fJ q1 q2 q3 q4) ?_;intro Nx aB Gx aG
 refine(YY H aa ba sH).mono ?_
 rintro d _ ⟨rfl,rfl⟩
 refine tq trivial ?_;intro Nx aB Gx aG
 refine rt aC trivial ?_
 exact⟨_,aE _,aR,_,aJ aR,by rw[eE]⟩
theorem aGa (x t:cQ) (H:aA) (sH:x.ar.length<=140737488351232):aT prog 327 [.agg (cE x),.rp (cE t)] H fun d H'=>d=.val (.bool (decide (x=t)))/\H=H':=by
 refine bM (K:=fun d=>d=.val (.bool (decide (x=t)))) ?_
 have hq:=aJi x t H sH
 obtain⟨xk,xm,xr,xe,xa⟩:=x
 obtain⟨tk,tm,tr,te,ta⟩:=t
 simp only[cE] at hq ⊢
 have aR:=aE H
 refine aN _ _ func327 rfl rfl ntmps327 results327 (by simp) fun w0 g0 Q aC=>?_
 refine tq trivial ?_;intro Nx aB Gx aG
 intro c2 pZ
 refine aB _ ?_
 refine fW 2 pZ ?_
 refine tq trivial ?_;intro Nx aB Gx aG
 refine hq.mono ?_
 rintro d _ ⟨rfl,rfl⟩
 refine tq trivial ?_;intro Nx aB Gx aG
 refine rt aC trivial ?_
 exact⟨_,aE _,aR,_,aJ aR,rfl⟩
theorem aHN (ts:List cQ) (t:cQ) (H:aA) (sM:ts.length<=140737488351232) (nM:∀u∈ts,u.ar.length<=140737488351232):aT prog 326 [.seq 5 (ts.map cE),.fn 327 [.rp (cE t)]] H fun d H'=>d=i64 (sE t ts 0)/\H=H':=by
 refine bM (K:=fun d=>d=i64 (sE t ts 0)) ?_
 have fB:=lm cE ts
 have aR:=aE H
 refine aN _ _ func326 rfl rfl ntmps326 results326 (by simp) fun w0 g0 Q aC=>?_
 refine tq fB ?_;intro Nx aB Gx aG
 refine bB ts.length (fun i s=>s.df=[]/\s.fr 0=.seq 5 (ts.map cE)/\s.fr 1=.fn 327 [.rp (cE t)]/\s.fr 7=i64 ts.length/\s.fr 8=i64 i/\s.H=H/\sE t ts 0=sE t (ts.drop i) i) ⟨rfl,rfl,rfl,rfl,rfl,rfl,rfl⟩ ?_
 rintro i s hi ⟨bG,f0,f1,f7,f8,hH,hf⟩
 have hx:=bL i
 have cL:=bY i
 have aX:H.le s.H:=by rw[hH];exact aE _
 by_cases aZ:i<ts.length
 case neg=>
  have q6:=lF i ts.length (by omega)
  rw[dX (by omega)] at hf
  refine tq (dZ f7 f8 q6) ?_;intro Nx aB Gx aG
  refine rt aC bG ?_
  exact⟨_,aE _,aX,_,aJ aX,by rw[hf] <;> rfl⟩
 have q6:=lT i ts.length (by omega)
 have w3:=wS i (by omega)
 have LF:=nM ts[i] (bZ aZ)
 have b8:(ts.map cE)[i]?=some (cE ts[i]):=by rw[cR,cP aZ];rfl
 rw[dI aZ,sE] at hf
 obtain⟨u,hu⟩:∃u,u=ts[i]:=⟨_,rfl⟩
 rw[<-hu] at b8 hf LF
 have hq:=aGa u t s.H LF
 obtain⟨uk,um,ur,ue,ua⟩:=u
 obtain⟨tk,tm,tr,te,ta⟩:=t
 simp only[cE] at b8 f1 hq
 refine tq (rF f0 f1 f7 f8 fB q6 b8 hx cL aZ) ?_;intro Nx aB Gx aG
 refine hq.mono ?_
 rintro d _ ⟨rfl,rfl⟩
 by_cases he:(⟨uk,um,ur,ue,ua⟩:cQ)=⟨tk,tm,tr,te,ta⟩
 ·rw[aH he] at hf
  rw[bF he]
  refine tq f8 ?_;intro Nx aB Gx aG
  refine rt aC bG ?_
  exact⟨_,aE _,aX,_,aJ aX,by rw[hf] <;> rfl⟩
 ·rw[aD he] at hf
  rw[bC he]
  refine tq (cZ f8 w3) ?_;intro Nx aB Gx aG
  exact⟨aZ,bG,f0,f1,f7,rfl,hH,hf⟩
theorem aG8 (ts:List cQ) (t:cQ) (H:aA) (sM:ts.length<=140737488351232) (nM:∀u∈ts,u.ar.length<=140737488351232):aT prog 249 [.seq 5 (ts.map cE),.agg (cE t)] H fun d H'=>d=.fV [i64 (max (sE t ts 0) 0),.val (.bool (decide (t∈ts)))]/\H=H':=by
 refine bM (K:=fun d=>d=.fV [i64 (max (sE t ts 0) 0),.val (.bool (decide (t∈ts)))]) ?_
 have hq:=aHN ts t H sM nM
 have kQ:=P9 (t:=t) (l:=ts)
 obtain⟨r,hr⟩:∃r,r=sE t ts 0:=⟨_,rfl⟩
 rw[<-hr] at hq kQ ⊢
 obtain⟨tk,tm,tr,te,ta⟩:=t
 simp only[cE] at hq ⊢
 have aR:=aE H
 refine aN _ _ func249 rfl rfl ntmps249 results249 (by simp) fun w0 g0 Q aC=>?_
 refine tq trivial ?_;intro Nx aB Gx aG
 intro c2 pZ
 refine aB _ ?_
 refine fW 3 pZ ?_
 refine tq trivial ?_;intro Nx aB Gx aG
 refine hq.mono ?_
 rintro d _ ⟨rfl,rfl⟩
 by_cases h0:0<=r
 ·have q0:(0<=r)=True:=aK h0
  refine tq q0 ?_;intro Nx aB Gx aG
  refine rt aC trivial ?_
  exact⟨_,aE _,aR,_,aJ aR,by rw[bF (kQ.1 h0)]⟩
 ·have q0:(0<=r)=False:=aI h0
  refine tq q0 ?_;intro Nx aB Gx aG
  refine rt aC trivial ?_
  exact⟨_,aE _,aR,_,aJ aR,by rw[bC fun h=>h0 (kQ.2 h)]⟩
def CK (H0:aA) (b:Nat) (n:Int) (ds:List Int) (H:aA):Prop:=
 ∃d ob,H b=some (.row 354 0 2 [[i64 n,d]])/\Gl H0 3 1 (ds.map iD) d H ob/\H0 b=none/\H0.le H/\ob≠some b
theorem aD5 (n:Int) (ds l:List Int) (b:Nat) (ob:Option Nat) (d:D) (H0 H:aA) (hb:H b=some (.row 354 0 2 [[i64 n,d]])) (hg:Gl H0 3 1 (ds.map iD) d H ob) (hl:l.length<=140737488351232) (hdl:ds.length<=140737488351232):
  aT prog 325 [.ep b 0 2 0 0,.seq 1 (l.map iD)] H fun r H'=>r=.fV (if ∀f∈l,0<=f/\f<ds.length then [i64 (l.foldl (qQ ds) 0),.val (.bool true)] else [i64 0,.val (.bool false)])/\H'=H:=by
 have mA:=lm iD l
 have WB:=lm iD ds
 refine aN _ _ func325 rfl rfl ntmps325 results325 (by simp) fun w0 g0 Q aC=>?_
 refine tq mA ?_;intro Nx aB Gx aG
 refine bB l.length (fun i s=>s.df=[]/\s.fr 0=.ep b 0 2 0 0/\s.fr 6=i64 ((l.take i).foldl (qQ ds) 0)/\s.fr 9=.seq 1 (l.map iD)/\s.fr 10=i64 l.length/\s.fr 11=i64 i/\s.H=H/\∀m (h:m<l.length),m<i->0<=l[m]/\l[m]<ds.length) ⟨rfl,rfl,rfl,rfl,rfl,rfl,rfl,fun m h h'=>by omega⟩ ?_
 rintro i s hi ⟨bG,f0,f6,f9,f10,f11,hH,eW⟩
 have hx:=bL i
 have cL:=bY i
 by_cases aZ:i<l.length
 case neg=>
  have q1:=lF i l.length (by omega)
  have ha:∀f∈l,0<=f/\f<ds.length:=fun f hf=>by
   obtain⟨m,hm,rfl⟩:=wM hf
   exact eW m hm (by omega)
  rw[dQ (by omega)] at f6
  refine tq (fJ f6 f10 f11 q1) ?_;intro Nx aB Gx aG
  refine rt aC bG ?_
  exact⟨_,aE _,by rw[aH ha] <;> rfl,hH⟩
 have q1:=lT i l.length (by omega)
 have w3:=wS i (by omega)
 have b8:=dL aZ
 have hbs:s.H b=some (.row 354 0 2 [[i64 n,d]]):=by rw[hH];exact hb
 have hgs:Gl H0 3 1 (ds.map iD) d s.H ob:=by rw[hH];exact hg
 obtain⟨f,hf⟩:∃f,f=l[i]:=⟨_,rfl⟩
 have kM:f∈l:=by rw[hf];exact bZ aZ
 have aIf:0<=f/\f<ds.length->∀m (h:m<l.length),m<i+1->0<=l[m]/\l[m]<ds.length:=fun h m hm hmi=>by
  by_cases e:m=i
  ·subst e;rw[<-hf];exact h
  ·exact eW m hm (by omega)
 have aF9:(l.take (i+1)).foldl (qQ ds) 0=max ((l.take i).foldl (qQ ds) 0) (ds.getD f.toNat 0):=by
  rw[dH aZ,zV,<-hf];rfl
 rw[<-hf] at b8
 obtain⟨mx,hmx⟩:∃mx,mx=(l.take i).foldl (qQ ds) 0:=⟨_,rfl⟩
 rw[<-hmx] at f6 aF9
 by_cases h1:f<0
 ·have q2:(f<0)=True:=aK h1
  have hn:¬∀f∈l,0<=f/\f<ds.length:=fun h=>by have:=h f kM;omega
  refine tq (CF f0 f6 f9 f10 f11 q1 b8 hx cL aZ mA q2) ?_;intro Nx aB Gx aG
  refine rt aC bG ?_
  exact⟨_,aE _,by rw[aD hn] <;> rfl,hH⟩
 have q2:(f<0)=False:=aI h1
 by_cases h2:f<ds.length
 case neg=>
  have hn:¬∀f∈l,0<=f/\f<ds.length:=fun h=>by have:=h f kM;omega
  rcases hgs with⟨_,hd,h0⟩|⟨c,o,_,hd,h0,QG⟩
  ·have hdn:ds=[]:=by simpa using h0
   have q3:(0<=f)=True:=aK (by omega)
   rw[hd] at hbs
   refine tq (F0 f0 f6 f9 f10 f11 q1 b8 hx cL aZ mA q2 q3 hbs) ?_;intro Nx aB Gx aG
   refine rt aC bG ?_
   exact⟨_,aE _,by rw[aD hn] <;> rfl,hH⟩
  ·have q3:((ds.length:Int)<=f)=True:=aK (by omega)
   rw[hd,WB] at hbs
   refine tq (F0 f0 f6 f9 f10 f11 q1 b8 hx cL aZ mA q2 q3 hbs) ?_;intro Nx aB Gx aG
   refine rt aC bG ?_
   exact⟨_,aE _,by rw[aD hn] <;> rfl,hH⟩
 have q3:((ds.length:Int)<=f)=False:=aI (by omega)
 obtain⟨c,o,hd,h0,QG⟩:=Gl.os hgs (by omega)
 have hgd:=pG (d:=ds) (i:=f.toNat) (by omega)
 have h0f:0<=f:=by omega
 have kQ:f.toNat<ds.length:=by omega
 rw[hd] at hbs
 refine tq (aGU f0 f6 f9 f10 f11 q1 b8 hx cL aZ mA q2 q3 hbs QG hgd h0f kQ h2 WB w3) ?_;intro Nx aB Gx aG
 exact⟨aZ,bG,f0,by rw[aF9] <;> rfl,f9,f10,rfl,hH,aIf ⟨h0f,h2⟩⟩
open Classical in
noncomputable def MO (ps:List cQ) (n:Int) (t:cQ):Nat:=
 if t.k<0\/4<t.k then 14
 else if (t.k≠3/\(t.m=true\/t.r≠0\/t.e≠0))\/(t.k≠4/\0<t.ar.length) then 2
 else if t.k=3/\(t.r<0\/n<=t.r) then 3
 else if ¬∀f∈BU t,0<=f/\f<ps.length then 3
 else if t.k=4/\(t.ar.length=0\/65535<t.ar.length) then 15
 else if 32<=qB (gX ps) t then 19
 else 0
theorem aGP {ps:List cQ} {n:Int} {t:cQ}:vI ps n t=if MO ps n t=0 then (if t∈ps then 21 else 0) else MO ps n t:=by
 unfold vI MO
 by_cases h1:t.k<0\/4<t.k
 ·rw[aH h1,aH h1];simp
 rw[aD h1,aD h1]
 by_cases h2:(t.k≠3/\(t.m=true\/t.r≠0\/t.e≠0))\/(t.k≠4/\0<t.ar.length)
 ·rw[aH h2,aH h2];simp
 rw[aD h2,aD h2]
 by_cases h3:t.k=3/\(t.r<0\/n<=t.r)
 ·rw[aH h3,aH ⟨h3.1,by omega⟩];simp
 rw[aD h3]
 have SZ:32<qB (gX ps) t+1↔32<=qB (gX ps) t:=by omega
 have uT:(if t.k=4/\(t.ar.length=0\/65535<t.ar.length) then 15 else if 32<qB (gX ps) t+1 then 19 else if t∈ps then 21 else 0)=
   if (if t.k=4/\(t.ar.length=0\/65535<t.ar.length) then 15 else if 32<=qB (gX ps) t then 19 else 0)=0 then (if t∈ps then 21 else 0) else (if t.k=4/\(t.ar.length=0\/65535<t.ar.length) then 15 else if 32<=qB (gX ps) t then 19 else 0):=by
  by_cases h5:t.k=4/\(t.ar.length=0\/65535<t.ar.length)
  ·simp only[aH h5];simp
  simp only[aD h5]
  by_cases h6:32<=qB (gX ps) t
  ·simp only[aH h6,aH (SZ.2 h6)];simp
  ·simp only[aD h6,aD (fun h=>h6 (SZ.1 h))];simp
 by_cases h4:∀f∈BU t,0<=f/\f<ps.length
 ·rw[aD (show ¬¬_ from fun h=>h h4)]
  have h5:¬(t.k=3/\(t.r<0\/n<=t.r\/t.e<0\/(ps.length:Int)<=t.e)):=by
   rintro⟨a,b⟩
   have:=h4 t.e (by unfold BU;rw[aH a];simp)
   exact h3 ⟨a,by omega⟩
  have h6:¬∃f∈t.ar,f<0\/(ps.length:Int)<=f:=by
   rintro⟨f,hf,hb⟩
   by_cases hk:t.k=3
   ·have:t.ar.length=0:=by have h7:¬(t.k≠4/\0<t.ar.length):=fun h8=>h2 (.inr h8);omega
    rw[gP this] at hf;cases hf
   ·have:=h4 f (by unfold BU;rw[aD hk];exact hf)
    omega
  rw[aD h5,aD h6]
  exact uT
 ·rw[aH h4]
  by_cases hk:t.k=3
  ·have he:¬(0<=t.e/\t.e<ps.length):=fun h=>h4 fun f hf=>by
    unfold BU at hf
    rw[aH hk,eS] at hf
    rw[hf];exact h
   rw[aH ⟨hk,by omega⟩];simp
  ·have h5:¬(t.k=3/\(t.r<0\/n<=t.r\/t.e<0\/(ps.length:Int)<=t.e)):=fun h=>hk h.1
   have h6:∃f∈t.ar,f<0\/(ps.length:Int)<=f:=kF fun hn=>h4 fun f hf=>by
    unfold BU at hf
    rw[aD hk] at hf
    exact kF fun hb=>hn ⟨f,hf,by omega⟩
   rw[aD h5,aH h6];simp
theorem aBx {d:List Int} {t:cQ} (h:t.k=3->t.ar=[]) (h0:∀x∈d,0<=x):qB d t=(BU t).foldl (qQ d) 0:=by
 unfold qB BU
 by_cases h3:t.k=3
 ·rw[aH h3,aH h3,h h3]
  have:=V3 h0 (pU _) t.e.toNat
  simp only[List.foldl_nil,DP,qQ]
  omega
 ·rw[aD h3,aD h3]
theorem aIX (ps:List cQ) (t:cQ) (n:Int) (b:Nat) (H0 H:aA) (fF:CK H0 b n (gX ps) H) (Q5:ps.length<=65535) (sH:t.ar.length<=140737488351232):
  aT prog 248 [.ep b 0 2 0 0,.agg (cE t)] H fun d H'=>d=i64 (MO ps n t)/\H0.le H'/\(MO ps n t=0->CK H0 b n (gX (ps++[t])) H'):=by
 obtain⟨d0,ob,hb,hg,uR,aR,fP⟩:=fF
 have hdl:(gX ps).length=ps.length:=xP ps
 have xB:=uM ps t
 have KG:(t.k=3->t.ar=[])->qB (gX ps) t=(BU t).foldl (qQ (gX ps)) 0:=fun h=>aBx h fun x hx=>by have:=GO ps x hx;omega
 obtain⟨c,hc⟩:∃c,c=MO ps n t:=⟨_,rfl⟩
 have eM:=hc
 unfold MO at eM
 rw[<-hc]
 have hpa:(BU t).length<=140737488351232:=by unfold BU;split <;> first|exact sH|simp
 obtain⟨pa,NZ⟩:∃pa,pa=BU t:=⟨_,rfl⟩
 rw[<-NZ] at eM KG hpa
 obtain⟨ds,hds⟩:∃ds,ds=gX ps:=⟨_,rfl⟩
 rw[<-hds] at hg hdl xB KG eM
 obtain⟨km,SZ⟩:∃km,km=qB ds t:=⟨_,rfl⟩
 rw[<-SZ] at xB KG eM
 obtain⟨uk,um,ur,ue,ua⟩:=t
 simp only[cE] at eM KG sH ⊢
 unfold BU at NZ
 simp only at NZ
 have oV:=lm iD ua
 refine aN _ _ func248 rfl rfl ntmps248 results248 (by simp) fun w0 g0 Q aC=>?_
 refine tq trivial ?_;intro Nx aB Gx aG
 intro c3 mH
 refine aB _ ?_
 refine fW 3 mH ?_
 (have fs:=trivial;(iterate 5 (first|refine aG _ ?_|refine aB _ ?_|refine cX ?_|refine cW ?_|refine eH ?_|refine cF ?_|refine cG ?_|refine cC ?_|refine bO ?_|((first|refine tS fun Nx aB=>?_|refine mE rfl rfl (by kernel_rfl) (by kernel_rfl) fun Gx aG=>?_|refine cD (by kernel_rfl) ?_|refine lJ fun A B vJ vK=>?_);refine yR ?_;(first|refine aG _ ?_|refine aB _ ?_|refine vJ ?_|refine vK ?_|skip))));(try clear fs))
 refine AS (fun s1=>s1.df=[]/\s1.fr 0=.ep b 0 2 0 0/\s1.fr 3=.rp [i64 uk,.val (.bool um),i64 ur,i64 ue,.seq 1 (ua.map iD)]/\s1.fr 5=.seq 1 (pa.map iD)/\s1.H=H/\¬(uk<0\/4<uk)/\¬((uk≠3/\(um=true\/ur≠0\/ue≠0))\/(uk≠4/\0<ua.length))/\¬(uk=3/\(ur<0\/n<=ur))) ?_ ?_
 ·by_cases h03:uk=0\/uk=1\/uk=2
  ·have h3:¬uk=3:=by omega
   have h4:¬uk=4:=by omega
   rw[aD h3] at NZ
   have Q1:=NZ.symm;subst Q1
   rw[aD (show ¬(uk<0\/4<uk) by omega)] at eM
   by_cases h5:um=true
   ·rw[aH (.inl ⟨h3,.inl h5⟩)] at eM
    subst h5
    rcases h03 with rfl|rfl|rfl <;> (refine tq trivial ?_;intro Nx aB Gx aG;refine⟨by simp,?_⟩;refine rt aC trivial ?_;exact⟨_,aE _,by rw[eM] <;> rfl,aR,fun h=>by rw[eM] at h;cases h⟩)
   have h5':um=false:=by simpa using h5
   subst h5'
   by_cases h6:ur=0
   case neg=>
    have q6:(ur=0)=False:=aI h6
    rw[aH (.inl ⟨h3,.inr (.inl h6)⟩)] at eM
    rcases h03 with rfl|rfl|rfl <;> (refine tq q6 ?_;intro Nx aB Gx aG;refine⟨by simp,?_⟩;refine rt aC trivial ?_;exact⟨_,aE _,by rw[eM] <;> rfl,aR,fun h=>by rw[eM] at h;cases h⟩)
   have q6:(ur=0)=True:=aK h6
   by_cases h7:ue=0
   case neg=>
    have q7:(ue=0)=False:=aI h7
    rw[aH (.inl ⟨h3,.inr (.inr h7)⟩)] at eM
    rcases h03 with rfl|rfl|rfl <;> (refine tq (cZ q6 q7) ?_;intro Nx aB Gx aG;refine⟨by simp,?_⟩;refine rt aC trivial ?_;exact⟨_,aE _,by rw[eM] <;> rfl,aR,fun h=>by rw[eM] at h;cases h⟩)
   have q7:(ue=0)=True:=aK h7
   by_cases h8:0<ua.length
   ·have q8:((0:Int)<(ua.length:Int))=True:=aK (by omega)
    rw[aH (.inr ⟨h4,h8⟩)] at eM
    rcases h03 with rfl|rfl|rfl <;> (refine tq (fJ q6 q7 q8 oV) ?_;intro Nx aB Gx aG;refine⟨by simp,?_⟩;refine rt aC trivial ?_;exact⟨_,aE _,by rw[eM] <;> rfl,aR,fun h=>by rw[eM] at h;cases h⟩)
   ·have q8:((0:Int)<(ua.length:Int))=False:=aI (by omega)
    have PC:¬((uk≠3/\(false=true\/ur≠0\/ue≠0))\/(uk≠4/\0<ua.length)):=by rintro(⟨_,h|h|h⟩|⟨_,h⟩) <;> first|exact h h6|exact h h7|exact h8 h|cases h
    have hx3:¬(uk=3/\(ur<0\/n<=ur)):=fun h=>h3 h.1
    rcases h03 with rfl|rfl|rfl <;> (refine tq (fJ q6 q7 q8 oV) ?_;intro Nx aB Gx aG;exact⟨rfl,rfl,rfl,rfl,rfl,by decide,PC,hx3⟩)
  by_cases h3:uk=3
  ·subst h3
   rw[aH rfl] at NZ
   have Q1:=NZ.symm;subst Q1
   rw[aD (by decide)] at eM
   by_cases h8:0<ua.length
   ·have q8:((0:Int)<(ua.length:Int))=True:=aK (by omega)
    rw[aH (.inr ⟨by decide,h8⟩)] at eM
    refine tq (cZ q8 oV) ?_;intro Nx aB Gx aG
    refine⟨by simp,?_⟩;refine rt aC trivial ?_;exact⟨_,aE _,by rw[eM] <;> rfl,aR,fun h=>by rw[eM] at h;cases h⟩
   have q8:((0:Int)<(ua.length:Int))=False:=aI (by omega)
   have PC:¬(((3:Int)≠3/\(um=true\/ur≠0\/ue≠0))\/((3:Int)≠4/\0<ua.length)):=by rintro(⟨h,_⟩|⟨_,h⟩) <;> first|exact h rfl|exact h8 h
   rw[aD PC] at eM
   by_cases h9:ur<0
   ·have q9:(ur<0)=True:=aK h9
    rw[aH ⟨rfl,.inl h9⟩] at eM
    refine tq (cZ q8 oV) ?_;intro Nx aB Gx aG
    refine dE (fun _ _ _ _=>False) fun Nx aB=>?_;refine dst (cZ q9 hb) ?_;intro Nx aB Gx aG
    refine tq trivial ?_;intro Nx aB Gx aG
    refine⟨by simp,?_⟩;refine rt aC trivial ?_;exact⟨_,aE _,by rw[eM] <;> rfl,aR,fun h=>by rw[eM] at h;cases h⟩
   have q9:(ur<0)=False:=aI h9
   by_cases h10:n<=ur
   ·have q10:(n<=ur)=True:=aK h10
    rw[aH ⟨rfl,.inr h10⟩] at eM
    refine tq (cZ q8 oV) ?_;intro Nx aB Gx aG
    refine dE (fun _ _ _ _=>False) fun Nx aB=>?_;refine dst (dZ q9 q10 hb) ?_;intro Nx aB Gx aG
    refine tq trivial ?_;intro Nx aB Gx aG
    refine⟨by simp,?_⟩;refine rt aC trivial ?_;exact⟨_,aE _,by rw[eM] <;> rfl,aR,fun h=>by rw[eM] at h;cases h⟩
   have q10:(n<=ur)=False:=aI h10
   refine tq (cZ q8 oV) ?_;intro Nx aB Gx aG
   refine dE (fun _ _ _ _=>False) fun Nx aB=>?_;refine dst (dZ q9 q10 hb) ?_;intro Nx aB Gx aG
   refine tq trivial ?_;intro Nx aB Gx aG
   exact⟨rfl,rfl,rfl,rfl,rfl,by decide,PC,by omega⟩
  rw[aD h3] at NZ
  have Q1:=NZ.symm;subst Q1
  by_cases h4:uk=4
  ·subst h4
   rw[aD (by decide)] at eM
   by_cases h5:um=true
   ·rw[aH (.inl ⟨h3,.inl h5⟩)] at eM
    subst h5
    refine tq trivial ?_;intro Nx aB Gx aG
    refine⟨by simp,?_⟩;refine rt aC trivial ?_;exact⟨_,aE _,by rw[eM] <;> rfl,aR,fun h=>by rw[eM] at h;cases h⟩
   have h5':um=false:=by simpa using h5
   subst h5'
   by_cases h6:ur=0
   case neg=>
    have q6:(ur=0)=False:=aI h6
    rw[aH (.inl ⟨h3,.inr (.inl h6)⟩)] at eM
    refine tq q6 ?_;intro Nx aB Gx aG
    refine⟨by simp,?_⟩;refine rt aC trivial ?_;exact⟨_,aE _,by rw[eM] <;> rfl,aR,fun h=>by rw[eM] at h;cases h⟩
   have q6:(ur=0)=True:=aK h6
   by_cases h7:ue=0
   case neg=>
    have q7:(ue=0)=False:=aI h7
    rw[aH (.inl ⟨h3,.inr (.inr h7)⟩)] at eM
    refine tq (cZ q6 q7) ?_;intro Nx aB Gx aG
    refine⟨by simp,?_⟩;refine rt aC trivial ?_;exact⟨_,aE _,by rw[eM] <;> rfl,aR,fun h=>by rw[eM] at h;cases h⟩
   have q7:(ue=0)=True:=aK h7
   refine tq (cZ q6 q7) ?_;intro Nx aB Gx aG
   exact⟨rfl,rfl,rfl,rfl,rfl,by decide,(by rintro(⟨_,h|h|h⟩|⟨h,_⟩) <;> first|exact h h6|exact h h7|exact h rfl|cases h),fun h=>h3 h.1⟩
  ·have q0:(uk=0)=False:=aI (by omega)
   have q1:(uk=1)=False:=aI (by omega)
   have q2:(uk=2)=False:=aI (by omega)
   have q3:(uk=3)=False:=aI (by omega)
   have q4:(uk=4)=False:=aI (by omega)
   rw[aH (show uk<0\/4<uk by omega)] at eM
   refine tq (gE q0 q1 q2 q3 q4) ?_;intro Nx aB Gx aG
   refine⟨by simp,?_⟩;refine rt aC trivial ?_;exact⟨_,aE _,by rw[eM] <;> rfl,aR,fun h=>by rw[eM] at h;cases h⟩
 rintro s1 ⟨lS,g0,g3,g5,s6,hp1,hp2,hp3⟩
 rw[aD hp1,aD hp2,aD hp3] at eM
 have j9:H0.le s1.H:=by rw[s6];exact aR
 obtain⟨H1,a0Z⟩:∃H1,H1=s1.H:=⟨_,rfl⟩
 refine tq (cZ g0 g5) ?_;intro Nx aB Gx aG
 refine(aD5 n ds pa b ob d0 H0 s1.H (by rw[s6];exact hb) (by rw[s6];exact hg) hpa (by omega)).mono ?_
 rintro d _ ⟨rfl,rfl⟩
 by_cases eW:∀f∈pa,0<=f/\f<ds.length
 case neg=>
  rw[aD eW]
  rw[aH (by rw[<-hdl];exact eW)] at eM
  refine tq trivial ?_;intro Nx aB Gx aG
  refine rt aC lS ?_;exact⟨_,aE _,by rw[eM] <;> rfl,j9,fun h=>by rw[eM] at h;cases h⟩
 rw[aH eW]
 rw[aD (show ¬¬_ from fun h=>h (by rw[<-hdl];exact eW))] at eM
 have aX2:List.foldl (qQ ds) 0 pa=km:=(KG fun h3=>by
  have h8:¬(uk≠4/\0<ua.length):=fun h=>hp2 (.inr h)
  exact gP (by omega)).symm
 rw[aX2]
 have NV:=GO ps
 have hkb:=GY (d:=ds) (b:=ps.length) (fun x hx=>(NV x (hds▸hx)).2) (by omega) ⟨uk,um,ur,ue,ua⟩
 have hkg:=GX (d:=ds) (fun x hx=>by have:=NV x (hds▸hx);omega) ⟨uk,um,ur,ue,ua⟩
 rw[<-SZ] at hkb hkg
 have w5:IntKind.i64.wrap (km+1)=km+1:=aY (by omega)
 (have fs:=trivial;(iterate 2 (first|refine aG _ ?_|refine aB _ ?_|refine cX ?_|refine cW ?_|refine eH ?_|refine cF ?_|refine cG ?_|refine cC ?_|refine bO ?_|((first|refine tS fun Nx aB=>?_|refine mE rfl rfl (by kernel_rfl) (by kernel_rfl) fun Gx aG=>?_|refine cD (by kernel_rfl) ?_|refine lJ fun A B vJ vK=>?_);refine yR ?_;(first|refine aG _ ?_|refine aB _ ?_|refine vJ ?_|refine vK ?_|skip))));(try clear fs))
 refine AS (fun s2=>s2.df=[]/\s2.fr 0=.ep b 0 2 0 0/\s2.fr 6=i64 km/\s2.H=s1.H/\¬(uk=4/\(ua.length=0\/65535<ua.length))/\¬32<=km) ?_ ?_
 ·by_cases h7:32<=km
  ·have q9:(32<=km)=True:=aK h7
   by_cases h4:uk=4
   ·have q4:(uk=4)=True:=aK h4
    by_cases h6:ua.length=0
    ·have q6:((ua.length:Int)=0)=True:=aK (by omega)
     rw[aH ⟨h4,.inl h6⟩] at eM
     refine tq (fJ g3 q4 q6 oV) ?_;intro Nx aB Gx aG
     refine⟨by simp,?_⟩
     refine rt aC lS ?_;exact⟨_,aE _,by rw[eM] <;> rfl,j9,fun h=>by rw[eM] at h;cases h⟩
    have q6:((ua.length:Int)=0)=False:=aI (by omega)
    by_cases h8:65535<ua.length
    ·have q7:((65535:Int)<(ua.length:Int))=True:=aK (by omega)
     rw[aH ⟨h4,.inr h8⟩] at eM
     refine tq (gE g3 q4 q6 q7 oV) ?_;intro Nx aB Gx aG
     refine⟨by simp,?_⟩
     refine rt aC lS ?_;exact⟨_,aE _,by rw[eM] <;> rfl,j9,fun h=>by rw[eM] at h;cases h⟩
    have q7:((65535:Int)<(ua.length:Int))=False:=aI (by omega)
    rw[aD (show ¬(uk=4/\(ua.length=0\/65535<ua.length)) by omega),aH h7] at eM
    refine tq (jA g3 q4 q6 q7 q9 oV) ?_;intro Nx aB Gx aG
    refine⟨by simp,?_⟩
    refine rt aC lS ?_;exact⟨_,aE _,by rw[eM] <;> rfl,j9,fun h=>by rw[eM] at h;cases h⟩
   ·have q4:(uk=4)=False:=aI h4
    rw[aD (show ¬(uk=4/\(ua.length=0\/65535<ua.length)) by omega),aH h7] at eM
    refine tq (fJ g3 q4 q9 oV) ?_;intro Nx aB Gx aG
    refine⟨by simp,?_⟩
    refine rt aC lS ?_;exact⟨_,aE _,by rw[eM] <;> rfl,j9,fun h=>by rw[eM] at h;cases h⟩
  ·have q9:(32<=km)=False:=aI h7
   by_cases h4:uk=4
   ·have q4:(uk=4)=True:=aK h4
    by_cases h6:ua.length=0
    ·have q6:((ua.length:Int)=0)=True:=aK (by omega)
     rw[aH ⟨h4,.inl h6⟩] at eM
     refine tq (fJ g3 q4 q6 oV) ?_;intro Nx aB Gx aG
     refine⟨by simp,?_⟩
     refine rt aC lS ?_;exact⟨_,aE _,by rw[eM] <;> rfl,j9,fun h=>by rw[eM] at h;cases h⟩
    have q6:((ua.length:Int)=0)=False:=aI (by omega)
    by_cases h8:65535<ua.length
    ·have q7:((65535:Int)<(ua.length:Int))=True:=aK (by omega)
     rw[aH ⟨h4,.inr h8⟩] at eM
     refine tq (gE g3 q4 q6 q7 oV) ?_;intro Nx aB Gx aG
     refine⟨by simp,?_⟩
     refine rt aC lS ?_;exact⟨_,aE _,by rw[eM] <;> rfl,j9,fun h=>by rw[eM] at h;cases h⟩
    have q7:((65535:Int)<(ua.length:Int))=False:=aI (by omega)
    refine tq (jA g3 q4 q6 q7 q9 oV) ?_;intro Nx aB Gx aG
    exact⟨lS,g0,rfl,rfl,by omega,h7⟩
   ·have q4:(uk=4)=False:=aI h4
    refine tq (fJ g3 q4 q9 oV) ?_;intro Nx aB Gx aG
    exact⟨lS,g0,rfl,rfl,by omega,h7⟩
 rintro s2 ⟨mY,k0,k6,iW,hp4,hp5⟩
 rw[aD hp4,aD hp5] at eM
 rw[s6] at iW
 have mW:s2.H b=some (.row 354 0 2 [[i64 n,d0]]):=by rw[iW];exact hb
 have NU:Gl H0 3 1 (ds.map iD) d0 s2.H ob:=by rw[iW];exact hg
 have mO:H0.le s2.H:=by rw[iW];exact aR
 have WB:=lm iD ds
 have B2:D.cells d0=some [d0]:=hg.cells
 refine tq (gE k0 k6 w5 mW B2) ?_;intro Nx aB Gx aG
 refine cY (e:=3) sS rfl sS rfl ty3 rfl (by decide) (mO) (NU) (new:=[iD (km+1)]) (by exact⟨rfl,rfl⟩) (by rw[WB];show(_+1) * _<=_;omega) fun d3 H3 ob3 hg3 uU hp=>?_
 obtain⟨GQ,T0⟩:=hp b _ mW fP
 have hg4:Gl H0 3 1 ((ds++[km+1]).map iD) d3 H3 ob3:=by rw[fI];exact hg3
 obtain⟨c4,o4,ZC,wQ,a01⟩:=Gl.os hg4 (by simp)
 have a07:=ZC
 subst ZC
 (have fs:=And.intro k0 GQ;refine yR ?_;try clear fs);(first|refine aG _ ?_|refine aB _ ?_|skip)
 refine tq trivial ?_;intro Nx aB Gx aG
 refine rt aC mY ?_
 refine⟨_,aE _,by rw[eM] <;> rfl,fun x z hz=>?_,fun _=>⟨_,ob3,aQ _ _ _,?_,uR,fun x z hz=>?_,T0⟩⟩
 ·have e:x≠b:=fun e=>by rw[e,uR] at hz;cases hz
  show(H3.bH b _) x=_
  rw[aP e];exact uU _ _ hz
 ·rw[xB]
  exact hg4.jY fun x hx=>aP fun e=>T0 (by rw[hx,e])
 ·have e:x≠b:=fun e=>by rw[e,uR] at hz;cases hz
  show(H3.bH b _) x=_
  rw[aP e];exact uU _ _ hz
end Go.Proofs.YtelbfbioomcmeaaGreatDoor

