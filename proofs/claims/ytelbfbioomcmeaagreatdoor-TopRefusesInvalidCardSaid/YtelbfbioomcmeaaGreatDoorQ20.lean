/- Lemmas and contracts of functions, several texts in one. -/
import Derived.Test.YtelbfbioomcmeaaGreatDoorQ19
set_option maxRecDepth 100000
set_option maxHeartbeats 4000000
set_option linter.all false
namespace Go.Proofs.YtelbfbioomcmeaaGreatDoor
open Go.RowKit
def sm {α:Type} (f:α->Nat):List α->Nat
 |[]=>0
 |x::l=>f x+sm f l
theorem ES {α:Type} (f:α->Nat):∀(l m:List α),sm f (l++m)=sm f l+sm f m
 |[],m=>by simp [sm]
 |x::l,m=>by simp only[eT,sm];rw[ES f l m];omega
theorem zE {α:Type} {f:α->Nat} {l:List α} {i:Nat} (h:i<l.length):sm f (l.take (i+1))=sm f (l.take i)+f l[i]:=by
 rw[dH h,ES];simp [sm]
theorem aCf {α:Type} (f:α->Nat) (l:List α) (i:Nat):sm f (l.take i)<=sm f l:=by
 have:=ES f (l.take i) (l.drop i)
 rw[kV] at this
 omega
theorem JH {α:Type} {f:α->Nat} {x:α}:∀{l:List α},x∈l->f x<=sm f l
 |y::l,h=>by
  simp only[sm]
  rcases eG.1 h with rfl|h
  ·omega
  ·have:=@JH α f x l h;omega
def smL (b:iF):Prop:=b.rg.length<=1000000/\b.lc.length<=1000000/\b.bl.length<=1000000
open Tryz
def clN (l:List BkS):List ByteArray:=(l.filter fun x=>decide (x.tm.k=3)).map (·.tm.nm)
def PD (b:iF) (i j:Nat):List ByteArray:=b.nm::(b.rg++((b.lc.take i).map (·.nm)++clN (b.bl.take j)))
def idL (b:iF):List ByteArray:=PD b b.lc.length b.bl.length
theorem aHK {b:iF} {i:Nat} (h:i<b.lc.length):PD b (i+1) 0=PD b i 0++[b.lc[i].nm]:=by
 unfold PD clN
 rw[dH h]
 simp only[fI,fT,pM,pL,List.filter_nil,kX,eT,dN]
theorem aHJ {b:iF} {i j:Nat} (h:j<b.bl.length):PD b i (j+1)=PD b i j++(if b.bl[j].tm.k=3 then [b.bl[j].tm.nm] else []):=by
 unfold PD clN
 rw[dH h,List.filter_append]
 by_cases e:b.bl[j].tm.k=3
 ·simp [e]
 ·simp [e]
theorem aDZ (l:List BkS):(clN l).length<=l.length:=by unfold clN;rw[bK];exact List.length_filter_le _ _
theorem WM (b:iF) (i j:Nat):(PD b i j).length<=1+b.rg.length+b.lc.length+b.bl.length:=by
 have h1:=aDZ (b.bl.take j)
 unfold PD
 rw[fN,bJ,bJ,bK,dJ]
 rw[dJ] at h1
 omega
theorem aJU (b:iF) (H:aA) (hs:smL b):aT prog 90 [.agg (iG b)] H fun d H'=>OwS H (idL b) d H'/\H.le H':=by
 obtain⟨Q6,QX,nX⟩:=hs
 have EE:=lm lI b.lc
 have sI:=lm rE b.bl
 have hid:=WM b
 refine aN _ _ func90 rfl rfl ntmps90 results90 (by simp) fun w0 g0 Q aC=>?_
 refine tq (cZ @iG.eq_1 @bX.eq_1) ?_;intro Nx aB Gx aG
 intro c1 l9
 refine aB _ ?_
 refine fW 1 l9 ?_
 refine to trivial ?_;intro Nx aB Gx aG
 intro c hc
 have B3:Gl H 9 1 [[bX b.nm]] (.os c 0 1 0 1) (H.bH c (.row 9 0 1 [[bX b.nm]])) (some c):=.inr ⟨c,0,rfl,rfl,hc,aQ _ _ _⟩
 refine cY (e:=9) EW rfl EW rfl ty9 rfl (by decide) (bQ (aE _) hc) B3 (new:=b.rg.map sD) (by exact⟨rfl,rfl⟩) (by rw[bK,nT];show(_+_) * 16<=_;omega) fun d H6 qL kK eJ _=>?_
 have ho:=OwS.of (l:=PD b 0 0) kK (by simp [PD,clN,sD]) (by simp [PD])
 refine tq EE ?_;intro Nx aB Gx aG
 refine bB b.lc.length (fun i s=>s.df=[]/\s.fr 1=.rp (iG b)/\s.fr 15=.seq 2 (b.lc.map lI)/\s.fr 16=i64 b.lc.length/\s.fr 17=i64 i/\H.le s.H/\OwS H (PD b i 0) (s.fr 3) s.H) ⟨rfl,rfl,rfl,rfl,rfl,eJ,ho⟩ ?_
 clear B3 kK eJ ho
 rintro i s hi ⟨bG,f1,f15,f16,f17,aR,ho⟩
 simp only[iG] at f1
 have hx:=bL i
 have cL:=bY i
 obtain⟨ob,hg⟩:=ho.gl
 by_cases aZ:i<b.lc.length
 case pos=>
  have p1:=lT i b.lc.length (by omega)
  have b8:=mB (f:=lI) aZ
  have w3:=wS i (by omega)
  have o9:=aHK aZ
  obtain⟨x,CW⟩:∃x,x=b.lc[i]:=⟨_,rfl⟩
  rw[<-CW] at b8 o9
  simp only[lI,bX] at b8
  have hb:=hid i 0
  refine tq (yP f15 f16 f17 p1 EE b8 hx cL aZ) ?_;intro Nx aB Gx aG
  intro c5 pT
  refine aB _ ?_
  refine fW 5 pT ?_
  refine tq trivial ?_;intro Nx aB Gx aG
  refine cY (e:=9) EW rfl EW rfl ty9 rfl (by decide) aR hg (new:=[sD x.nm]) (by exact⟨rfl,rfl⟩) (by rw[bK];show(_+1) * 16<=_;omega) fun d H6 qL kK eJ _=>?_
  have BO:=OwS.of (l:=PD b (i+1) 0) kK (by rw[o9];simp) (by simp [PD])
  refine tq (cZ f17 w3) ?_;intro Nx aB Gx aG
  exact⟨aZ,bG,f1,f15,f16,rfl,eJ,BO⟩
 have p1:=lF i b.lc.length (by omega)
 have e:i=b.lc.length:=by omega
 subst e
 refine tq (gE f1 f16 f17 p1 sI) ?_;intro Nx aB Gx aG
 refine bB b.bl.length (fun i s=>s.df=[]/\s.fr 28=.seq 7 (b.bl.map rE)/\s.fr 29=i64 b.bl.length/\s.fr 30=i64 i/\H.le s.H/\OwS H (PD b b.lc.length i) (s.fr 3) s.H) ⟨bG,rfl,rfl,rfl,aR,ho⟩ ?_
 clear bG f1 f15 f16 f17 aR ho hg aZ p1 hi hx cL
 rintro i s hi ⟨bG,f28,f29,f30,aR,ho⟩
 have hx:=bL i
 have cL:=bY i
 by_cases aZ:i<b.bl.length
 case neg=>
  have p1:=lF i b.bl.length (by omega)
  have e:i=b.bl.length:=by omega
  subst e
  refine tq (dZ f29 f30 p1) ?_;intro Nx aB Gx aG
  refine rt aC bG ?_
  exact⟨_,aE _,ho,aR⟩
 obtain⟨ob,hg⟩:=ho.gl
 have p1:=lT i b.bl.length (by omega)
 have b8:=mB (f:=rE) aZ
 have w3:=wS i (by omega)
 have o9:=aHJ (i:=b.lc.length) aZ
 obtain⟨x,CW⟩:∃x,x=b.bl[i]:=⟨_,rfl⟩
 rw[<-CW] at b8 o9
 simp only[rE,bX] at b8
 have hb:=hid b.lc.length i
 refine tq (yP f28 f29 f30 p1 sI b8 hx cL aZ) ?_;intro Nx aB Gx aG
 intro c7 NR
 refine aB _ ?_
 refine fW 7 NR ?_
 by_cases hk:x.tm.k=3
 ·have p2:(x.tm.k=3)=True:=aK hk
  rw[aH hk] at o9
  refine tq p2 ?_;intro Nx aB Gx aG
  refine cY (e:=9) EW rfl EW rfl ty9 rfl (by decide) aR hg (new:=[sD x.tm.nm]) (by exact⟨rfl,rfl⟩) (by rw[bK];show(_+1) * 16<=_;omega) fun d H6 qL kK eJ _=>?_
  have BO:=OwS.of (l:=PD b b.lc.length (i+1)) kK (by rw[o9];simp) (by simp [PD])
  refine tq (cZ f30 w3) ?_;intro Nx aB Gx aG
  exact⟨aZ,bG,f28,f29,rfl,eJ,BO⟩
 ·have p2:(x.tm.k=3)=False:=aI hk
  rw[aD hk,kX] at o9
  refine tq (dZ f30 w3 p2) ?_;intro Nx aB Gx aG
  exact⟨aZ,bG,f28,f29,rfl,aR,by rw[o9];exact ho⟩
def IY (b:iF):List ByteArray:=vN (idL b)
theorem PT (b:iF) (H:aA) (hs:smL b):aT prog 43 [.agg (iG b)] H fun d H'=>d=.seq 1 ((IY b).map sD)/\H=H':=by
 refine bM (K:=fun d=>d=.seq 1 ((IY b).map sD)) ?_
 have eB:=WM b b.lc.length b.bl.length
 have hsm:=hs
 obtain⟨Q6,QX,nX⟩:=hs
 unfold IY
 rw[<-IZ]
 refine aN _ _ func43 rfl rfl ntmps43 results43 (by simp) fun w0 g0 Q aC=>?_
 refine tq @iG.eq_1 ?_;intro Nx aB Gx aG
 intro c1 l9
 refine aB _ ?_
 refine fW 1 l9 ?_
 refine tq trivial ?_;intro Nx aB Gx aG
 refine(aJU b _ hsm).mono ?_
 rintro d H1 ⟨⟨c,o,rfl,CP,QG⟩,aR⟩
 obtain⟨L,hL⟩:∃L,L=idL b:=⟨_,rfl⟩
 have hLl:L.length<=3000001:=by rw[hL];unfold idL;omega
 rw[<-hL] at QG aC ⊢
 refine tq trivial ?_;intro Nx aB Gx aG
 refine(L4 QG (by omega)).mono ?_
 rintro d _ ⟨rfl,rfl⟩
 refine tq trivial ?_;intro Nx aB Gx aG
 have h6:=CH (aQ H1 c (.row 9 o 1 ((mM L).map sD))) (by rw[kB];omega)
 rw[kB] at h6
 refine h6.mono ?_
 rintro d _ ⟨rfl,wX,rfl,aB5⟩
 refine tq trivial ?_;intro Nx aB Gx aG
 refine rt aC trivial ?_
 have eJ:H.le (H1.bH c (.row 9 o 1 (wX.map sD))):=bQ aR CP
 have hnl:(mU (mM L)).length<=wX.length:=by have:=cV List.length aB5;rw[dJ] at this;omega
 exact⟨_,aE _,eJ,_,NK (k:=0) eJ (aQ _ _ _) CP (by rw[bK];omega),by rw[iY,<-sW,aB5]⟩
theorem X0 (b:iF) (N T:List ByteArray) (de bb:List UInt8) (H:aA) (fF:∀H1,aT prog 22 [.agg (iG b)] H1 fun d H'=>d=i64 0/\H1=H')
  (FH:∀H1,aT prog 43 [.agg (iG b)] H1 fun d H'=>d=.seq 1 (N.map sD)/\H1=H') (hnw:∀H1,aT prog 42 [.seq 1 (N.map sD)] H1 fun d H'=>d=.fV [fY T,i64 0]/\H1=H')
  (KC:∀H1,aT prog 44 [.agg (iG b),fY T] H1 fun d H'=>d=.fV [.seq 1 (de.map bD),i64 0]/\H1=H') (nX:∀H1,aT prog 45 [.agg (iG b),fY T] H1 fun d H'=>d=.fV [.seq 1 (bb.map bD),i64 0]/\H1=H')
  (hTl:T.length<=1000000000) (hl:(lD [xS T,de,bb]).length<=1000000000):aT prog 11 [.agg (iG b)] H fun d H'=>d=.fV [.seq 1 ((lD [xS T,de,bb]).map bD),i64 0]/\H=H':=by
 have EE:(xS T).length<=1000000000:=by
  have:=OX (ds:=[xS T,de,bb]) (i:=0) (by simp)
  have e:S6 [xS T,de,bb] 0=QB [xS T,de,bb] 0+(xS T).length:=rfl
  omega
 have hen:=fun H1=>ZN T H1 EE hTl
 have KI:=fun H1=>aAk [xS T,de,bb] H1 (by simp) hl
 have aHD:C8 [xS T,de,bb]=[[i64 1,.seq 1 ((xS T).map bD)],[i64 2,.seq 1 (de.map bD)],[i64 3,.seq 1 (bb.map bD)]]:=rfl
 rw[aHD] at KI
 generalize lD [xS T,de,bb]=out at *
 unfold iG at *
 unfold fY at *
 refine aN _ _ func11 rfl rfl ntmps11 results11 (by simp) fun w0 g0 Q aC=>?_
 refine tq trivial ?_;intro Nx aB Gx aG
 intro c hc
 refine aB _ ?_
 refine fW 1 hc ?_
 refine tq trivial ?_;intro Nx aB Gx aG
 refine(fF _).mono ?_
 rintro d _ ⟨rfl,rfl⟩
 refine tq trivial ?_;intro Nx aB Gx aG
 refine(FH _).mono ?_
 rintro d _ ⟨rfl,rfl⟩
 refine tq trivial ?_;intro Nx aB Gx aG
 refine(hnw _).mono ?_
 rintro d _ ⟨rfl,rfl⟩
 refine tq trivial ?_;intro Nx aB Gx aG
 refine(KC _).mono ?_
 rintro d _ ⟨rfl,rfl⟩
 refine tq trivial ?_;intro Nx aB Gx aG
 refine(nX _).mono ?_
 rintro d _ ⟨rfl,rfl⟩
 refine tq trivial ?_;intro Nx aB Gx aG
 refine(hen _).mono ?_
 rintro d _ ⟨rfl,rfl⟩
 refine tq trivial ?_;intro Nx aB Gx aG
 refine(KI _).mono ?_
 rintro d _ ⟨rfl,rfl⟩
 refine tq trivial ?_;intro Nx aB Gx aG
 refine rt aC trivial ?_
 exact⟨_,aE _,rfl⟩
def zB:List (List UInt8):=[[1,1,102],[0,0,0,0,0,0],[1,0,2]]
theorem aDB:(lD zB).length<=1000000000:=by
 unfold lD oW oW oW oW
 simp only[bJ,JD]
 decide
theorem X1 (H:aA) (fF:∀H1,aT prog 22 [.agg (iG zS)] H1 fun d H'=>d=i64 0/\H1=H'):aT prog 11 [.agg (iG zS)] H fun d H'=>d=.fV [.seq 1 ((lD zB).map bD),i64 0]/\H=H':=by
 have n0:oX 0=[0]:=by decide
 have e1:xS [s0]=[1,1,102]:=by decide
 have hx:FM [s0] s0=0:=by decide
 have e2:deB [s0] zS=[0,0,0,0,0,0]:=by
  have PC:GU [s0] s0=[0]:=by unfold GU;rw[hx];exact n0
  unfold deB zS iS
  simp only[mS,wD,kX]
  rw[PC]
  rw[show oX ((0:Nat):Int)=[0] from n0,n0];rfl
 have eN:IY zS=[s0]:=by decide
 have eI:LH [s0]=.fV [fY [s0],i64 0]:=by
  unfold LH
  rw[aH (by decide)]
  rfl
 have sm:smL zS:=⟨by decide,by decide,by decide⟩
 have hb:=aDB
 unfold zB at *
 rw[<-e1] at hb ⊢
 refine X0 zS [s0] [s0] _ _ H fF (fun H1=>?_) (fun H1=>?_) (fun H1=>?_) (fun H1=>XY _ H1 fF) (by decide) hb
 ·have:=PT zS H1 sm
  rwa[eN] at this
 ·have:=aHO [s0] H1 (by decide) (fun s hs=>by rw[eS.1 hs];unfold fC;decide)
  rwa[eI] at this
 ·have:=YK zS [s0] H1 fF (by simp) (by decide) wN (fun s hs=>by simp [zS] at hs) (fun s hs=>by simp [zS] at hs) (fun s hs=>by simp [zS] at hs) (by decide) (by decide) (by decide) (by decide) (by rw[e2];decide)
  rwa[e2] at this
def VA (r:Nat) (H K:aA):Prop:=∀c y,c≠r->H c=some y->K c=some y
theorem VA.refl (r:Nat) (H:aA):VA r H H:=fun _ _ _ h=>h
theorem VA.put {r c:Nat} {H K:aA} {x:gB} (h:VA r H K) (hc:H c=none):VA r H (K.bH c x):=fun b y hb e=>by
 rw[aP (fun e2=>by rw[e2,hc] at e;cases e)];exact h b y hb e
theorem VA.at {r:Nat} {H K:aA} {x:gB} (h:VA r H K):VA r H (K.bH r x):=fun b y hb e=>by
 rw[aP hb];exact h b y hb e
theorem VA.le {r:Nat} {H K:aA} {x:gB} (h:VA r H K):(H.bH r x).le (K.bH r x):=fun b y e=>by
 by_cases hb:b=r
 ·subst hb;rw[aQ] at e ⊢;exact e
 ·rw[aP hb] at e ⊢;exact h b y hb e
def e9:D:=.val (.slice none 0 0)
def D2 (r:Nat) (t:List ByteArray):D:=.rp [.ep r 0 3 0 0,fY t]
theorem aAz {l:List UInt8} {a n b:Nat} (h:HM l a n b) (r:Nat) (t:List ByteArray) (H:aA) (hb:H r=some (mL l a)) (hl:l.length<=1000000000) (hm:n<=65535):aT prog 185 [D2 r t] H fun d H'=>d=i64 n/\H'=H.bH r (mL l b):=by
 have w1:IntKind.i64.wrap (n:Int)=(n:Int):=aY (by omega)
 unfold D2 fY
 refine aN _ _ func185 rfl rfl ntmps185 results185 (by simp) fun w0 g0 Q aC=>?_
 refine tq trivial ?_;intro Nx aB Gx aG
 refine(aIG h r _ hb hl hm).mono ?_
 rintro d _ ⟨rfl,rfl⟩
 refine tq w1 ?_;intro Nx aB Gx aG
 refine rt aC trivial ?_
 exact⟨_,aE _,rfl⟩
theorem aD8 {l:List UInt8} {a b:Nat} (h:HM l a 0 b) (r:Nat) (H:aA) (hb:H r=some (mL l a)) (hl:l.length<=1000000000):aT prog 177 [D2 r [s0]] H fun d H'=>d=bX s0/\H'=H.bH r (mL l b):=by
 have aXc:=aAz h r [s0] H hb hl (by decide)
 have hat:=fun H1=>aJT [s0] 0 H1
 have e:UB [s0] 0=.fV [bX s0,.val (.bool true)]:=by
  unfold UB
  rw[aH (by decide)]
  rfl
 rw[e] at hat
 unfold D2 fY at *
 refine aN _ _ func177 rfl rfl ntmps177 results177 (by simp) fun w0 g0 Q aC=>?_
 refine tq trivial ?_;intro Nx aB Gx aG
 refine wE (fun t=>decide (t=some 9)) (fun t=>decide (t=some 11)) (fun _ _ d A=>A=.none/\d=.fV [bX s0,.val (.bool true)]) (fun _ _ H d H'=>d=i64 0/\H'=H.bH r (mL l b)) fun Nx aB=>?_;have fs:=trivial;refine VV ?_;(first|refine aG _ ?_|refine aB _ ?_|skip);(try clear fs)
 refine⟨aXc,bN fun eL _=>hat eL,aB _ ?_⟩
 refine tq trivial ?_;intro Nx aB Gx aG
 refine rt aC trivial ?_
 exact⟨_,aE _,rfl⟩
theorem YR {l:List UInt8} {a b:Nat} (h:HM l a 0 b) (r:Nat) (t:List ByteArray) (x:D) (H:aA) (hb:H r=some (mL l a)) (hl:l.length<=1000000000):aT prog 178 [D2 r t,x] H fun d H'=>d=e9/\H'=H.bH r (mL l b):=by
 unfold D2 fY
 refine aN _ _ func178 rfl rfl ntmps178 results178 (by simp) fun w0 g0 Q aC=>?_
 refine tq trivial ?_;intro Nx aB Gx aG
 refine(tI h r _ hb hl (by decide) (by decide) (by have:=h.le;omega)).mono ?_
 rintro d _ ⟨rfl,rfl⟩
 refine tq trivial ?_;intro Nx aB Gx aG
 refine bB 0 (fun i s=>s.df=[]/\s.H=H.bH r (mL l b)/\s.fr 5=e9/\s.fr 11=i64 0/\s.fr 12=i64 0) ⟨rfl,rfl,rfl,rfl,rfl⟩ ?_
 rintro i s hi ⟨bG,hH,f5,f11,f12⟩
 refine tq (dZ f5 f11 f12) ?_;intro Nx aB Gx aG
 refine rt aC bG ?_
 exact⟨_,aE _,hH⟩
theorem YQ {l:List UInt8} {a b:Nat} (h:HM l a 0 b) (r:Nat) (t:List ByteArray) (x:D) (H:aA) (hb:H r=some (mL l a)) (hl:l.length<=1000000000):aT prog 179 [D2 r t,x] H fun d H'=>d=e9/\H'=H.bH r (mL l b):=by
 unfold D2 fY
 refine aN _ _ func179 rfl rfl ntmps179 results179 (by simp) fun w0 g0 Q aC=>?_
 refine tq trivial ?_;intro Nx aB Gx aG
 refine(tI h r _ hb hl (by decide) (by decide) (by have:=h.le;omega)).mono ?_
 rintro d _ ⟨rfl,rfl⟩
 refine tq trivial ?_;intro Nx aB Gx aG
 refine bB 0 (fun i s=>s.df=[]/\s.H=H.bH r (mL l b)/\s.fr 5=e9/\s.fr 11=i64 0/\s.fr 12=i64 0) ⟨rfl,rfl,rfl,rfl,rfl⟩ ?_
 rintro i s hi ⟨bG,hH,f5,f11,f12⟩
 refine tq (dZ f5 f11 f12) ?_;intro Nx aB Gx aG
 refine rt aC bG ?_
 exact⟨_,aE _,hH⟩
theorem YS {l:List UInt8} {a b:Nat} (h:HM l a 0 b) (r:Nat) (t:List ByteArray) (x:D) (H:aA) (hb:H r=some (mL l a)) (hl:l.length<=1000000000):aT prog 181 [D2 r t,x] H fun d H'=>d=e9/\H'=H.bH r (mL l b):=by
 unfold D2 fY
 refine aN _ _ func181 rfl rfl ntmps181 results181 (by simp) fun w0 g0 Q aC=>?_
 refine tq trivial ?_;intro Nx aB Gx aG
 refine(tI h r _ hb hl (by decide) (by decide) (by have:=h.le;omega)).mono ?_
 rintro d _ ⟨rfl,rfl⟩
 refine tq trivial ?_;intro Nx aB Gx aG
 refine bB 0 (fun i s=>s.df=[]/\s.H=H.bH r (mL l b)/\s.fr 5=e9/\s.fr 11=i64 0/\s.fr 12=i64 0) ⟨rfl,rfl,rfl,rfl,rfl⟩ ?_
 rintro i s hi ⟨bG,hH,f5,f11,f12⟩
 refine tq (dZ f5 f11 f12) ?_;intro Nx aB Gx aG
 refine rt aC bG ?_
 exact⟨_,aE _,hH⟩
theorem YP {l:List UInt8} {a b:Nat} (h:HM l a 0 b) (r:Nat) (t:List ByteArray) (x:D) (H:aA) (hb:H r=some (mL l a)) (hl:l.length<=1000000000):aT prog 183 [D2 r t,x] H fun d H'=>d=e9/\H'=H.bH r (mL l b):=by
 unfold D2 fY
 refine aN _ _ func183 rfl rfl ntmps183 results183 (by simp) fun w0 g0 Q aC=>?_
 refine tq trivial ?_;intro Nx aB Gx aG
 refine(tI h r _ hb hl (by decide) (by decide) (by have:=h.le;omega)).mono ?_
 rintro d _ ⟨rfl,rfl⟩
 refine tq trivial ?_;intro Nx aB Gx aG
 refine bB 0 (fun i s=>s.df=[]/\s.H=H.bH r (mL l b)/\s.fr 5=e9/\s.fr 11=i64 0/\s.fr 12=i64 0) ⟨rfl,rfl,rfl,rfl,rfl⟩ ?_
 rintro i s hi ⟨bG,hH,f5,f11,f12⟩
 refine tq (dZ f5 f11 f12) ?_;intro Nx aB Gx aG
 refine rt aC bG ?_
 exact⟨_,aE _,hH⟩
theorem YI (H:aA):aT prog 78 [.seq 1 ([0,0,0,0,0,0].map bD),fY [s0]] H fun d H'=>d=.fV [.agg [bX s0,e9,e9,e9,e9,i64 0,e9],i64 0]/\H=H':=by
 have x0:HM [0,0,0,0,0,0] 0 0 1:=⟨⟨[],[0,0,0,0,0],rfl,rfl,rfl⟩,by decide⟩
 have x1:HM [0,0,0,0,0,0] 1 0 2:=⟨⟨[0],[0,0,0,0],rfl,rfl,rfl⟩,by decide⟩
 have x2:HM [0,0,0,0,0,0] 2 0 3:=⟨⟨[0,0],[0,0,0],rfl,rfl,rfl⟩,by decide⟩
 have x3:HM [0,0,0,0,0,0] 3 0 4:=⟨⟨[0,0,0],[0,0],rfl,rfl,rfl⟩,by decide⟩
 have x4:HM [0,0,0,0,0,0] 4 0 5:=⟨⟨[0,0,0,0],[0],rfl,rfl,rfl⟩,by decide⟩
 have x5:HM [0,0,0,0,0,0] 5 0 6:=⟨⟨[0,0,0,0,0],[],rfl,rfl,rfl⟩,by decide⟩
 obtain⟨bs,hB⟩:∃bs:List UInt8,bs=[0,0,0,0,0,0]:=⟨_,rfl⟩
 have nX:bs.length=6:=by rw[hB];rfl
 have QL:bs.length<=1000000000:=by omega
 rw[<-hB] at x0 x1 x2 x3 x4 x5 ⊢
 clear hB
 unfold fY
 refine aN _ _ func78 rfl rfl ntmps78 results78 (by simp) fun w0 g0 Q aC=>?_
 refine tq trivial ?_;intro Nx aB Gx aG
 intro b4 V9
 refine aB _ ?_
 refine tq trivial ?_;intro Nx aB Gx aG
 refine(x9 bs _ QL).mono ?_
 rintro d _ ⟨r,hr,rfl,rfl⟩
 obtain⟨n4r,hr0⟩:=bT.1 hr
 refine tq trivial ?_;intro Nx aB Gx aG
 intro e he
 refine aB _ ?_
 refine fW 6 he ?_
 refine tq trivial ?_;intro Nx aB Gx aG
 refine(aD8 x0 r _ (aQ _ _ _) QL).mono ?_
 rintro d _ ⟨rfl,rfl⟩
 refine tq trivial ?_;intro Nx aB Gx aG
 intro b7 hb7
 obtain⟨n7r,aIi⟩:=bT.1 hb7
 obtain⟨n74,aIi⟩:=bT.1 aIi
 have u7r:∀H x,(aA.bH H r x) b7=H b7:=fun _ _=>aP n7r
 have u4r:∀H x,(aA.bH H r x) b4=H b4:=fun _ _=>aP (Ne.symm n4r)
 have u47:∀H x,(aA.bH H b7 x) b4=H b4:=fun _ _=>aP (Ne.symm n74)
 (have fs:=trivial;refine yR ?_;try clear fs);(first|refine aG _ ?_|refine aB _ ?_|skip)
 refine tq trivial ?_;intro Nx aB Gx aG
 refine lB (YR x1 r [s0] _ _ ((aP (Ne.symm n7r)).trans (aQ _ _ _)) QL) ?_
 rintro d _ ⟨rfl,rfl⟩
 refine tq (cZ u7r @e9.eq_1) ?_;intro Nx aB Gx aG
 refine lB (YQ x2 r [s0] _ _ ((aP (Ne.symm n7r)).trans (aQ _ _ _)) QL) ?_
 rintro d _ ⟨rfl,rfl⟩
 refine tq (cZ u7r @e9.eq_1) ?_;intro Nx aB Gx aG
 refine lB (YS x3 r [s0] _ _ ((aP (Ne.symm n7r)).trans (aQ _ _ _)) QL) ?_
 rintro d _ ⟨rfl,rfl⟩
 refine tq (cZ u7r @e9.eq_1) ?_;intro Nx aB Gx aG
 refine lB (YP x4 r [s0] _ _ ((aP (Ne.symm n7r)).trans (aQ _ _ _)) QL) ?_
 rintro d _ ⟨rfl,rfl⟩
 refine tq (cZ u7r @e9.eq_1) ?_;intro Nx aB Gx aG
 refine lB (aAz x5 r [s0] _ ((aP (Ne.symm n7r)).trans (aQ _ _ _)) QL (by decide)) ?_
 rintro d _ ⟨rfl,rfl⟩
 refine tq (cZ u7r @e9.eq_1) ?_;intro Nx aB Gx aG
 refine(aBF bs r _ (by rw[aP (Ne.symm n7r),aQ,nX]) QL).mono ?_
 rintro d _ ⟨rfl,rfl⟩
 refine tq (dZ u7r u4r u47) ?_;intro Nx aB Gx aG
 refine rt aC trivial ?_
 refine⟨H,?_,?_⟩
 ·repeat(first|exact aE _|refine bQ ?_ (by assumption))
 ·exact⟨rfl,rfl⟩
theorem aGL {l:List UInt8} {a:Nat} (lim:Nat) (ha:a<l.length) (r:Nat) (t:List ByteArray) (H:aA) (hb:H r=some (mL l a)) (hl:l.length<=1000000000) (hc:l[a].toNat<lim) (hlm:lim<=1000):aT prog 345 [D2 r t,i64 lim] H fun d H'=>d=i64 l[a].toNat/\H'=H.bH r (mL l (a+1)):=by
 have w1:IntKind.i64.wrap (l[a].toNat:Int)=(l[a].toNat:Int):=aY (by omega)
 have q1:((lim:Int)<=(l[a].toNat:Int))=False:=aI (by omega)
 unfold D2 fY
 refine aN _ _ func345 rfl rfl ntmps345 results345 (by simp) fun w0 g0 Q aC=>?_
 refine tq trivial ?_;intro Nx aB Gx aG
 refine(aGO ha r _ hb hl).mono ?_
 rintro d _ ⟨rfl,rfl⟩
 refine tq (cZ w1 q1) ?_;intro Nx aB Gx aG
 refine rt aC trivial ?_
 exact⟨_,aE _,rfl⟩
def tmN:List D:=[i64 0,e9,e9,i64 0,e9,bX ByteArray.empty]
theorem aA8 (r:Nat) (t:List ByteArray) (H:aA):aT prog 351 [D2 r t] H fun d H'=>d=.agg tmN/\H=H':=by
 unfold D2 fY
 refine aN _ _ func351 rfl rfl ntmps351 results351 (by simp) fun w0 g0 Q aC=>?_
 refine tq trivial ?_;intro Nx aB Gx aG
 intro c hc
 refine aB _ ?_
 refine tq trivial ?_;intro Nx aB Gx aG
 refine rt aC trivial ?_
 exact⟨H,bQ (aE _) hc,rfl,rfl⟩
theorem aDO {l:List UInt8} {a:Nat} (ha:a<l.length) (r:Nat) (t:List ByteArray) (H:aA) (hb:H r=some (mL l a)) (hl:l.length<=1000000000) (hc:l[a]=2):aT prog 268 [D2 r t] H fun d H'=>d=.agg [i64 2,e9,e9,i64 0,e9,bX ByteArray.empty]/\H'=H.bH r (mL l (a+1)):=by
 have aJK:=fun H1 h1=>aGL (a:=a) 6 ha r t H1 h1 hl (by rw[hc];decide) (by decide)
 have IP:=fun H1=>aA8 r t H1
 rw[hc] at aJK
 have e2:((UInt8.toNat 2:Nat):Int)=2:=rfl
 unfold D2 fY tmN at *
 refine aN _ _ func268 rfl rfl ntmps268 results268 (by simp) fun w0 g0 Q aC=>?_
 refine tq trivial ?_;intro Nx aB Gx aG
 intro c2 pZ
 refine aB _ ?_
 refine tq trivial ?_;intro Nx aB Gx aG
 intro c3 mH
 refine aB _ ?_
 obtain⟨n32,NQ⟩:=bT.1 mH
 have nr2:r≠c2:=fun e=>by rw[e,pZ] at hb;cases hb
 have nr3:r≠c3:=fun e=>by rw[e,NQ] at hb;cases hb
 have u3r:∀H x,(aA.bH H r x) c3=H c3:=fun _ _=>aP (Ne.symm nr3)
 have u2r:∀H x,(aA.bH H r x) c2=H c2:=fun _ _=>aP (Ne.symm nr2)
 have u23:∀H x,(aA.bH H c3 x) c2=H c2:=fun _ _=>aP (Ne.symm n32)
 refine tq trivial ?_;intro Nx aB Gx aG
 refine lB (aJK _ ((aP nr3).trans ((aP nr2).trans hb))) ?_
 rintro d _ ⟨rfl,rfl⟩
 refine tq e2 ?_;intro Nx aB Gx aG
 refine lB (VU l (a+1) r _ (aQ _ _ _)) ?_
 rintro d _ ⟨rfl,rfl⟩
 refine tq u3r ?_;intro Nx aB Gx aG
 refine(IP _).mono ?_
 rintro d _ ⟨rfl,rfl⟩
 refine tq trivial ?_;intro Nx aB Gx aG
 intro c5 pT
 refine aB _ ?_
 obtain⟨n5r,TX⟩:=bT.1 pT
 obtain⟨n53,TX⟩:=bT.1 TX
 obtain⟨n52,TX⟩:=bT.1 TX
 have u25:∀H x,(aA.bH H c5 x) c2=H c2:=fun _ _=>aP (Ne.symm n52)
 refine tq (fJ @e9.eq_1 u25 u2r u23) ?_;intro Nx aB Gx aG
 refine rt aC trivial ?_
 have k2:(H.bH r (mL l (a+1))) c2=none:=by rw[aP (Ne.symm nr2)];exact pZ
 have k5:(H.bH r (mL l (a+1))) c5=none:=by rw[aP n5r];exact TX
 refine⟨H.bH r (mL l (a+1)),?_,?_⟩
 ·repeat(first|exact aE _|refine bQ ?_ (by assumption)|refine aA.aH2 ?_ _ _)
 ·exact⟨rfl,rfl⟩
theorem aA9 (g:FuncId) (r:Nat) (t:List ByteArray) (H:aA):aT prog 266 [D2 r t,i64 0,.fn g []] H fun d H'=>d=e9/\H=H':=by
 unfold D2 fY
 refine aN _ _ func266 rfl rfl ntmps266 results266 (by simp) fun w0 g0 Q aC=>?_
 refine tq trivial ?_;intro Nx aB Gx aG
 refine bB 0 (fun i s=>s.df=[]/\s.H=H/\s.fr 1=i64 0/\s.fr 7=e9/\s.fr 8=i64 0) ⟨rfl,rfl,rfl,rfl,rfl⟩ ?_
 rintro i s hi ⟨bG,hH,f1,f7,f8⟩
 refine tq (dZ f1 f7 f8) ?_;intro Nx aB Gx aG
 refine rt aC bG ?_
 exact⟨_,aE _,hH.symm⟩
theorem aA0 (r:Nat) (t:List ByteArray) (H:aA) (hb:H r=some (mL [1,0,2] 1)):aT prog 187 [D2 r t] H fun d H'=>d=.agg [e9,i64 2,e9,e9,i64 0,e9,bX ByteArray.empty]/\H'=H.bH r (mL [1,0,2] 3):=by
 have x1:HM [1,0,2] 1 0 2:=⟨⟨[1],[2],rfl,rfl,rfl⟩,by decide⟩
 have nX:([1,0,2]:List UInt8).length<=1000000000:=by decide
 have o9:=fun H1=>aA9 267 r t H1
 have B5:=fun H1 h1=>aDO (l:=[1,0,2]) (a:=2) (by decide) r t H1 h1 nX rfl
 have hcn:=fun H1 h1=>tI x1 r H1 h1 nX (show 0<=65535 by decide) (by decide) (by decide)
 generalize ([1,0,2]:List UInt8)=bs at *
 unfold D2 fY at *
 refine aN _ _ func187 rfl rfl ntmps187 results187 (by simp) fun w0 g0 Q aC=>?_
 refine tq trivial ?_;intro Nx aB Gx aG
 intro c2 pZ
 refine aB _ ?_
 have nr2:r≠c2:=fun e=>by rw[e,pZ] at hb;cases hb
 have u2r:∀H x,(aA.bH H r x) c2=H c2:=fun _ _=>aP (Ne.symm nr2)
 refine tq trivial ?_;intro Nx aB Gx aG
 refine lB (hcn _ ((aP nr2).trans hb)) ?_
 rintro d _ ⟨rfl,rfl⟩
 refine tq trivial ?_;intro Nx aB Gx aG
 refine(o9 _).mono ?_
 rintro d _ ⟨rfl,rfl⟩
 refine tq trivial ?_;intro Nx aB Gx aG
 intro c3 mH
 obtain⟨n3r,NQ⟩:=bT.1 mH
 obtain⟨n32,NQ⟩:=bT.1 NQ
 have u3r:∀H x,(aA.bH H r x) c3=H c3:=fun _ _=>aP n3r
 have u23:∀H x,(aA.bH H c3 x) c2=H c2:=fun _ _=>aP (Ne.symm n32)
 (have fs:=@e9.eq_1;refine yR ?_;try clear fs);(first|refine aG _ ?_|refine aB _ ?_|skip)
 refine tq trivial ?_;intro Nx aB Gx aG
 refine lB (B5 _ ((aP (Ne.symm n3r)).trans (aQ _ _ _))) ?_
 rintro d _ ⟨rfl,rfl⟩
 refine tq (fJ @e9.eq_1 u3r u2r u23) ?_;intro Nx aB Gx aG
 refine rt aC trivial ?_
 have k2:(H.bH r (mL bs 3)) c2=none:=by rw[aP (Ne.symm nr2)];exact pZ
 have k3:(H.bH r (mL bs 3)) c3=none:=by rw[aP n3r];exact NQ
 refine⟨H.bH r (mL bs 3),?_,?_⟩
 ·refine bQ (bQ (VA.le ?_) k3) k2
  repeat(first|exact VA.refl _ _|refine VA.put ?_ (by assumption)|refine VA.at ?_)
 ·exact⟨rfl,rfl⟩
theorem XX (H:aA) (t:List ByteArray):aT prog 79 [.seq 1 ([1,0,2].map bD),fY t] H fun d H'=>d=.fV [.seq 7 [[e9,i64 2,e9,e9,i64 0,e9,bX ByteArray.empty]],i64 0]/\H=H':=by
 have x0:HM [1,0,2] 0 1 1:=⟨⟨[],[0,2],rfl,rfl,rfl⟩,by decide⟩
 have nX:([1,0,2]:List UInt8).length<=1000000000:=by decide
 have GQ:([1,0,2]:List UInt8).length=3:=rfl
 have hbk:=fun r H1 h1=>aA0 r t H1 h1
 have hcn:=fun r H1 h1=>tI x0 r H1 h1 nX (show 1<=65535 by decide) (by decide) (by decide)
 have hen:=fun r H1 h1=>aBF [1,0,2] r H1 h1 nX
 have hnr:=fun H1=>x9 [1,0,2] H1 nX
 have yY:∀r H0 H1,H0 r=none->H0.le H1->H1 r=some (mL [1,0,2] 1)->aT prog 186 [D2 r t,i64 1,.fn 187 []] H1 fun d H'=>∃ob,H0.le H'/\H' r=some (mL [1,0,2] 3)/\Gl H0 46 7 [[e9,i64 2,e9,e9,i64 0,e9,bX ByteArray.empty]] d H' ob/\ob≠some r:=fun r H0 H1 h0 aR h1=>by
  unfold D2 fY at *
  refine aN _ _ func186 rfl rfl ntmps186 results186 (by simp) fun w0 g0 Q aC=>?_
  refine tq trivial ?_;intro Nx aB Gx aG
  refine bB 1 (fun i s=>s.df=[]/\s.fr 0=D2 r t/\s.fr 1=i64 1/\s.fr 2=.fn 187 []/\s.fr 8=i64 i/\((i=0/\s.H=H1/\s.fr 7=e9)\/(i=1/\∃ob,H0.le s.H/\s.H r=some (mL [1,0,2] 3)/\Gl H0 46 7 [[e9,i64 2,e9,e9,i64 0,e9,bX ByteArray.empty]] (s.fr 7) s.H ob/\ob≠some r))) ⟨rfl,rfl,rfl,rfl,rfl,.inl ⟨rfl,rfl,rfl⟩⟩ ?_
  unfold D2 fY
  rintro i s hi ⟨bG,f0,f1,f2,f8,(⟨rfl,hH,f7⟩|⟨rfl,ob,mO,hr,hg,rU⟩)⟩
  ·refine tq (dZ f0 f1 f8) ?_;intro Nx aB Gx aG
   refine lB (VU [1,0,2] 1 r _ (by rw[hH];exact h1)) ?_
   rintro d _ ⟨rfl,rfl⟩
   refine tq (dZ f0 f2 f7) ?_;intro Nx aB Gx aG
   rw[hH]
   refine lB (hbk r _ h1) ?_
   rintro d _ ⟨rfl,rfl⟩
   refine tq @e9.eq_1 ?_;intro Nx aB Gx aG
   refine cY (e:=46) aIC rfl aIC rfl aPP rfl (by decide) (bQ aR h0) (nJ H0 46 7 _) (new:=[[e9,i64 2,e9,e9,i64 0,e9,bX ByteArray.empty]]) (by exact⟨rfl,rfl⟩) (by decide) fun d' H6 qL kK eJ uD=>?_
   obtain⟨z4,ho4⟩:=uD r _ (aQ _ _ _) (by simp)
   refine tq f8 ?_;intro Nx aB Gx aG
   exact⟨Nat.zero_lt_one,bG,f0,f1,f2,rfl,.inr ⟨by first|rfl|trivial,qL,eJ,z4,kK,ho4⟩⟩
  ·refine tq (cZ f1 f8) ?_;intro Nx aB Gx aG
   refine rt aC bG ?_
   exact⟨_,aE _,ob,mO,hr,hg,rU⟩
 refine bM (K:=fun d=>d=.fV [.seq 7 [[e9,i64 2,e9,e9,i64 0,e9,bX ByteArray.empty]],i64 0]) ?_
 generalize ([1,0,2]:List UInt8)=bs at *
 unfold D2 fY at *
 refine aN _ _ func79 rfl rfl ntmps79 results79 (by simp) fun w0 g0 Q aC=>?_
 refine tq trivial ?_;intro Nx aB Gx aG
 refine(hnr _).mono ?_
 rintro d _ ⟨r,hr,rfl,rfl⟩
 refine tq trivial ?_;intro Nx aB Gx aG
 intro e he
 refine aB _ ?_
 refine fW 6 he ?_
 refine tq trivial ?_;intro Nx aB Gx aG
 refine lB (hcn r _ (aQ _ _ _)) ?_
 rintro d _ ⟨rfl,rfl⟩
 refine tq trivial ?_;intro Nx aB Gx aG
 refine lB (yY r H _ hr (bQ (aE _) hr) (aQ _ _ _)) ?_
 rintro d H2 ⟨ob,mO,hr2,hg,rU⟩
 refine tq trivial ?_;intro Nx aB Gx aG
 refine lB (hen r _ (by rw[GQ];exact hr2)) ?_
 rintro d _ ⟨rfl,rfl⟩
 refine tq trivial ?_;intro Nx aB Gx aG
 refine rt aC trivial ?_
 exact⟨_,aE _,mO,_,pS (TT (sF mO hg) (aJ mO)),rfl⟩
def zD:D:=.agg [bX s0,e9,e9,e9,e9,i64 0,.seq 7 [[e9,i64 2,e9,e9,i64 0,e9,bX ByteArray.empty]]]
theorem U6 {f:FuncId} {K:D->aA->Prop} {H:aA} (h:aT prog f [.agg (iG zS)] H K):aT prog f [zD] H K:=h.imp (ds:=[zD]) ⟨aBo ⟨oG _,kZ,kZ,kZ,kZ,oG _,aEG ⟨⟨kZ,oG _,kZ,kZ,oG _,kZ,oG _,trivial⟩,trivial⟩,trivial⟩,trivial⟩
theorem aDD (H:aA):aT prog 43 [.agg (iG zS)] H fun d H'=>d=.seq 1 ([s0].map sD)/\H=H':=by
 have:=PT zS H ⟨by decide,by decide,by decide⟩
 rwa[show IY zS=[s0] by decide] at this
theorem XZ (H:aA) (fF:∀H1,aT prog 22 [.agg (iG zS)] H1 fun d H'=>d=i64 0/\H1=H'):aT prog 26 [.seq 1 ((lD zB).map bD)] H fun d H'=>d=.fV [zD,i64 0]/\H=H':=by
 have hrd:=fun H1=>aHj zB H1 (by decide) aDB
 have aHD:C8 zB=[[i64 1,.seq 1 ([1,1,102].map bD)],[i64 2,.seq 1 ([0,0,0,0,0,0].map bD)],[i64 3,.seq 1 ([1,0,2].map bD)]]:=rfl
 rw[aHD] at hrd
 have fF:=fun H1=>U6 (fF H1)
 have FH:=fun H1=>U6 (aDD H1)
 have jX:=ZM
 have KC:=YI
 have nX:=fun H1=>XX H1 [s0]
 have yX:=fun H1=>UC [s0] H1
 generalize lD zB=bs at *
 generalize ([1,1,102]:List UInt8).map bD=b1 at *
 generalize ([0,0,0,0,0,0]:List UInt8).map bD=b2 at *
 generalize ([1,0,2]:List UInt8).map bD=b3 at *
 unfold zD e9 fY at *
 refine aN _ _ func26 rfl rfl ntmps26 results26 (by simp) fun w0 g0 Q aC=>?_
 refine tq trivial ?_;intro Nx aB Gx aG
 intro c2 pZ
 refine aB _ ?_
 refine tq trivial ?_;intro Nx aB Gx aG
 refine(hrd _).mono ?_
 rintro d _ ⟨rfl,rfl⟩
 have w2:IntKind.i64.wrap 2=2:=aY (by omega)
 refine tq w2 ?_;intro Nx aB Gx aG
 refine(jX _).mono ?_
 rintro d _ ⟨rfl,rfl⟩
 refine tq trivial ?_;intro Nx aB Gx aG
 refine(KC _).mono ?_
 rintro d _ ⟨rfl,rfl⟩
 refine tq trivial ?_;intro Nx aB Gx aG
 intro c7 NR
 refine aB _ ?_
 obtain⟨n72,a05⟩:=bT.1 NR
 have u27:∀H x,(aA.bH H c7 x) c2=H c2:=fun _ _=>aP (Ne.symm n72)
 refine tq trivial ?_;intro Nx aB Gx aG
 refine(nX _).mono ?_
 rintro d _ ⟨rfl,rfl⟩
 refine tq trivial ?_;intro Nx aB Gx aG
 refine(fF _).mono ?_
 rintro d _ ⟨rfl,rfl⟩
 refine tq trivial ?_;intro Nx aB Gx aG
 refine(FH _).mono ?_
 rintro d _ ⟨rfl,rfl⟩
 refine tq trivial ?_;intro Nx aB Gx aG
 refine(yX _).mono ?_
 rintro d _ ⟨rfl,rfl⟩
 refine tq u27 ?_;intro Nx aB Gx aG
 refine rt aC trivial ?_
 refine⟨H,?_,rfl⟩
 repeat(first|exact aE _|refine bQ ?_ (by assumption))
theorem aFH (H:aA):aT prog 25 [] H fun d H'=>d=zD/\H=H':=by
 refine aN _ _ func25 rfl rfl ntmps25 results25 (by simp) fun w0 g0 Q aC=>?_
 refine tq trivial ?_;intro Nx aB Gx aG
 intro c0 CP
 refine aB _ ?_
 refine tq trivial ?_;intro Nx aB Gx aG
 refine rt aC trivial ?_
 exact⟨H,bQ (aE _) CP,rfl,rfl⟩
theorem aD1 (H:aA) (fF:∀H1,aT prog 22 [.agg (iG zS)] H1 fun d H'=>d=i64 0/\H1=H'):aT prog 7 [] H fun d H'=>d=.val (.bool true)/\H=H':=by
 have hen:=fun H1=>U6 (X1 H1 fF)
 have KC:=fun H1=>XZ H1 fF
 have hsm:=aFH
 have e1:(s0.toList=ByteArray.toList ⟨#[102]⟩)=True:=aK rfl
 generalize lD zB=bs at *
 unfold zD e9 bX at *
 refine aN _ _ func7 rfl rfl ntmps7 results7 (by simp) fun w0 g0 Q aC=>?_
 refine tq trivial ?_;intro Nx aB Gx aG
 refine(hsm _).mono ?_
 rintro d _ ⟨rfl,rfl⟩
 refine tq trivial ?_;intro Nx aB Gx aG
 refine(hen _).mono ?_
 rintro d _ ⟨rfl,rfl⟩
 refine tq trivial ?_;intro Nx aB Gx aG
 refine(KC _).mono ?_
 rintro d _ ⟨rfl,rfl⟩
 refine tq trivial ?_;intro Nx aB Gx aG
 intro c3 mH
 refine aB _ ?_
 refine fW 3 mH ?_
 refine tq e1 ?_;intro Nx aB Gx aG
 refine rt aC trivial ?_
 exact⟨_,aE _,rfl⟩
end Go.Proofs.YtelbfbioomcmeaaGreatDoor

