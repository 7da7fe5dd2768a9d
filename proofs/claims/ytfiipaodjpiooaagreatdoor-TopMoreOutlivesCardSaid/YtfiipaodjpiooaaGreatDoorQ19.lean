/- Lemmas and contracts of functions, several texts in one. -/
import Derived.Test.YtfiipaodjpiooaaGreatDoorQ18
set_option maxRecDepth 100000
set_option maxHeartbeats 4000000
set_option linter.all false
namespace Go.Proofs.YtfiipaodjpiooaaGreatDoor
open Go.RowKit
theorem aFy {cx:Cx} {c:Code} {Q:Exit->St->Prop} {s:St} (H0:aC) (hd:Dom H0 s.H) (hk:∀w,iK w s.H->iK w H0) (h:W cx c Q (s.dY H0)):W cx c Q s:=fun a w m=>h a w (m.go (xT hd w) (hk w m.H))
theorem V4 {H0 H':aC} {w:World} (hH:iK w H') {α:Type} {f g:α->D} {b:Nat}:∀{l:List α} {k:Nat},(∀x∈l,GB H0 H' (f x) (g x))->eB w H'.others b 1 k (l.map fun x=>[f x])->eB w H0.others b 1 k (l.map fun x=>[g x])
 |[],k,_,_=>by simp [eB]
 |x::l,k,hf,h=>by
  simp only[eU,eB,dL] at h ⊢
  obtain⟨h1,⟨⟨u,h2,h3,h4⟩,_⟩,h5⟩:=h
  exact⟨rfl,⟨⟨u,h2,h3,hf x (by simp) w u hH h4⟩,trivial⟩,V4 hH (fun y hy=>hf y (gY _ hy)) h5⟩
theorem aC2 (H:aC) (b:Nat) (x y:fK):(H.bH b x).others=(H.bH b y).others:=by
 funext c
 unfold aC.others
 by_cases e:c=b
 ·rw[e,aO,aO];simp
 ·rw[aN e,aN e]
theorem aFw {cx:Cx} {c:Code} {Q:Exit->St->Prop} {s:St} (H:aC) {b o:Nat} {ty:TypeId} {α:Type} {f:α->D} (g:α->D) {l:List α} (aS:H.le s.H) (h0:H b=none) (hb:s.H b=some (.row ty o 1 (l.map fun x=>[f x])))
  (hf:∀x∈l,GB (H.bH b (.row ty o 1 (l.map fun x=>[f x]))) s.H (f x) (g x)) (h:W cx c Q (s.dY (H.bH b (.row ty o 1 (l.map fun x=>[g x]))))):W cx c Q s:=by
 have aA9:∀x,Dom (H.bH b x) s.H:=fun x c hc=>by
  have OT:c≠b:=fun e=>by rw[e,hb] at hc;cases hc
  rw[aN OT]
  exact lC aS hc
 refine aFy _ (aA9 _) (fun w hH c x hc=>?_) h
 by_cases e:c=b
 ·subst e
  rw[aO] at hc
  injection hc with hc
  subst hc
  obtain⟨cs,fr,h1,h2,h3,h4⟩:=hH _ _ hb
  refine⟨cs,fr,h1,h2,by rw[bC] at h3 ⊢;exact h3,?_⟩
  rw[aC2 H c _ (.row ty o 1 (l.map fun x=>[f x]))]
  exact V4 hH hf h4
 ·rw[aN e] at hc
  exact(xT (aA9 _) w).sZ rfl (hH c x (aS _ _ hc))
theorem aBF {H:aC} {b:Nat} {x y:fK} (h:H b=some x):(H.bH b y).others=H.others:=by
 funext c
 unfold aC.others
 by_cases e:c=b
 ·rw[e,aO,h];simp
 ·rw[aN e]
theorem aE4 {cx:Cx} {c:Code} {Q:Exit->St->Prop} {s:St} {b o sz:Nat} {ty:TypeId} {els:List (List D)} (k:Nat) (hb:s.H b=some (.row ty o sz els)) (h:W cx c Q (s.dY (s.H.bH b (.row ty o sz (els.take k))))):W cx c Q s:=by
 have hd:Dom (s.H.bH b (.row ty o sz (els.take k))) s.H:=fun c hc=>by
  rw[aN (fun e=>by rw[e,hb] at hc;cases hc)];exact hc
 refine aFy _ hd (fun w hH c x hc=>?_) h
 by_cases e:c=b
 ·subst e
  rw[aO] at hc
  injection hc with hc
  subst hc
  obtain⟨cs,fr,h1,h2,h3,h4⟩:=hH _ _ hb
  refine⟨cs,fr,h1,h2,?_,?_⟩
  ·have:(els.take k).length * sz<=els.length * sz:=lQ _ (by rw[dU];omega)
   omega
  ·rw[aBF hb];exact pU h4 k
 ·rw[aN e] at hc
  exact(xT hd w).sZ rfl (hH c x hc)
theorem aCu {cx:Cx} {c:Code} {Q:Exit->St->Prop} {s:St} {H0:aC} {e:TypeId} {sz:Nat} {els:List (List D)} {ob:Option Nat} (t:Nat) (aS:H0.le s.H) (hg:Gl H0 e sz els (s.fr t) s.H ob) (h:∀H',H0.le H'->(∀b z,s.H b=some z->ob≠some b->H' b=some z)->W cx c Q ((s.dY H').put (some t) (.seq sz els))):W cx c Q s:=by
 rcases hg with⟨_,e1,rfl⟩|⟨c',o,rfl,e1,e2,e3⟩
 ·exact aND t (.seq sz []) (fun w v hv=>by rw[e1] at hv;exact YU hv) (h s.H aS fun _ _ h _=>h)
 ·refine IY t e1 e3 (by omega) ?_
  have:=h (s.H.del c') (aC.aCP aS e2) fun b z hb fM=>by rw[bS (fun e=>fM (by rw[e]))];exact hb
  unfold St.fZ
  rwa[jB,nC]
open Classical in
noncomputable def ZL (b:cT) (p:Int):List Int:=if h:∃y:mP×Nat,MS b p y.1 y.2 then usB h.choose.1 h.choose.2 else []
open Classical in
noncomputable def NX (b:cT) (p:Int):Option Int:=if h:∃y:mP×Nat,MS b p y.1 y.2 then ZZ h.choose.1 h.choose.2 else none
theorem aIz {b:cT} {p:Int} {x:mP} {k:Nat} (h:MS b p x k):ZL b p=usB x k:=by
 have h1:∃y:mP×Nat,MS b p y.1 y.2:=⟨(x,k),h⟩
 unfold ZL
 rw[dif_pos h1,(h1.choose_spec.uniq h).1,(h1.choose_spec.uniq h).2]
theorem aBm {b:cT} {p:Int} {x:mP} {k:Nat} (h:MS b p x k):NX b p=ZZ x k:=by
 have h1:∃y:mP×Nat,MS b p y.1 y.2:=⟨(x,k),h⟩
 unfold NX
 rw[dif_pos h1,(h1.choose_spec.uniq h).1,(h1.choose_spec.uniq h).2]
theorem MS.lt {b:cT} {p:Int} {x:mP} {k:Nat} (h:MS b p x k):0<=p/\p<bZ (dK b):=by
 obtain⟨i,hi,h1,_⟩:=h;exact h1.lt
theorem MN {b:cT} {p x:Int} (h:x∈ZL b p):∃y k,MS b p y k/\x∈usB y k:=by
 unfold ZL at h
 split at h
 ·rename_i h1;exact⟨_,_,h1.choose_spec,h⟩
 ·cases h
theorem aOs {b:cT} {p x:Int} (h:x∈ZL b p):GZ b p x:=by
 obtain⟨y,k,h1,h2⟩:=MN h
 exact .use h1 h2
theorem aLG {b:cT} {p q x:Int} (h:NX b p≠some x) (hf:P6 (dK b) p q) (hl:GZ b q x):GZ b p x:=by
 obtain⟨y,k,h1⟩:=W2 hf.lt.1.1 hf.lt.1.2
 rw[aBm h1] at h
 exact .step h1 h hf hl
theorem aCT {b:cT} {P:Int->Int->Prop} (h1:∀p x,x∈ZL b p->P p x) (h2:∀p q x,NX b p≠some x->P6 (dK b) p q->P q x->P p x) {p x:Int} (h:GZ b p x):P p x:=by
 induction h with
 |use ha hx=>exact h1 _ _ (by rw[aIz ha];exact hx)
 |step ha hd hf _ ih=>exact h2 _ _ _ (by rw[aBm ha];exact hd) hf ih
noncomputable def ET (b:cT):List Int:=(vN (bZ (dK b))).flatMap (ZL b)
theorem aMO {b:cT} {p x:Int} (h:x∈ZL b p):x∈ET b:=by
 obtain⟨y,k,h1,_⟩:=MN h
 exact tF.2 ⟨p,u4.2 h1.lt,h⟩
theorem YR {b:cT} {p x:Int} (h:GZ b p x):(0<=p/\p<bZ (dK b))/\x∈ET b:=by
 refine aCT (P:=fun p x=>(0<=p/\p<bZ (dK b))/\x∈ET b) (fun p x h=>?_) (fun p q x _ hf h=>⟨hf.lt.1,h.2⟩) h
 obtain⟨y,k,h1,_⟩:=MN h
 exact⟨h1.lt,aMO h⟩
noncomputable def UT (b:cT):List (Int×Int):=(vN (bZ (dK b))).flatMap fun p=>(ET b).map fun x=>(p,x)
theorem aFU {b:cT} {p x:Int} (h:GZ b p x):(p,x)∈UT b:=
 tF.2 ⟨p,u4.2 (YR h).1,eW.2 ⟨x,(YR h).2,rfl⟩⟩
theorem EE {α β:Type} {f:α->List β} {n:Nat}:∀{l:List α},(∀x∈l,(f x).length<=n)->(l.flatMap f).length<=l.length * n
 |[],_=>by simp
 |a::l,h=>by
  rw[F5,bN,eO,oY]
  have:=EE (l:=l) fun x hx=>h x (gY _ hx)
  have:=h a (by simp)
  omega
theorem aE6 (b:cT):(UT b).length<=bZ (dK b) * (ET b).length:=by
 have:=EE (f:=fun p=>(ET b).map fun x=>(p,x)) (n:=(ET b).length) (l:=vN (bZ (dK b))) fun x _=>by rw[bC];exact dI _
 rwa[oX] at this
theorem QV (G:Gr):(tQ G).length<=bZ G * bZ G:=by
 have:=EE (f:=fun p=>(nxt G p).map fun q=>(p,q)) (n:=bZ G) (l:=vN (bZ G)) fun x _=>by rw[bC];exact YW G x
 rwa[oX] at this
theorem VZ (l:List (Int×Int)) (x:Int):(eC l x).length<=l.length:=by
 unfold eC;rw[bC];exact r9 _ _
theorem aAV {α β:Type} {f:α->List β} {a:α}:∀{l:List α},a∈l->(f a).length<=(l.flatMap f).length
 |x::l,h=>by
  rw[F5,bN]
  rcases dJ.1 h with rfl|h
  ·omega
  ·have:=aAV (f:=f) h;omega
theorem aMN (b:cT) (p:Int):(ZL b p).length<=(ET b).length:=by
 cases h:ZL b p with
 |nil=>exact oD _
 |cons x l=>
  rw[<-h]
  obtain⟨y,k,h1,_⟩:=MN (b:=b) (p:=p) (x:=x) (by rw[h];simp)
  exact aAV (u4.2 h1.lt)
def wtL (E V:List (Int×Int)):List (Int×Int)->Nat
 |[]=>0
 |y::l=>(if y∈V then 0 else (eC E y.1).length+1)+wtL E V l
theorem aEX (E V:List (Int×Int)) (y:Int×Int):∀l,wtL E (V++[y]) l<=wtL E V l
 |[]=>dI _
 |z::l=>by
  have:=aEX E V y l
  unfold wtL
  by_cases h:z∈V
  ·rw[aE h,aE (yH _ h)];omega
  ·rw[aA h];split <;> omega
theorem aJL {E V:List (Int×Int)} {y:Int×Int} (hy:y∉V):∀{l},y∈l->wtL E (V++[y]) l+((eC E y.1).length+1)<=wtL E V l
 |z::l,h=>by
  have h1:=aEX E V y l
  unfold wtL
  by_cases e:z=y
  ·subst e
   rw[aA hy,aE (by simp)];omega
  ·have h2:=aJL (E:=E) hy (l:=l) (by rcases dJ.1 h with h|h;exact absurd h.symm e;exact h)
   by_cases h:z∈V
   ·rw[aE h,aE (yH _ h)];omega
   ·rw[aA h,aA (by simp [h,e])];omega
theorem aMu (E V:List (Int×Int)):∀l,wtL E V l<=l.length * (E.length+1)
 |[]=>oD _
 |y::l=>by
  have:=aMu E V l
  have:=VZ E y.1
  unfold wtL
  rw[eO,oY]
  split <;> omega
noncomputable def R7 (b:cT) (E:List (Int×Int)) (p x:Int) (j:Nat):List (Int×Int):=(((eC E p).take j).filter fun q=>decide (NX b q≠some x)).map fun q=>(q,x)
theorem aL1 (b:cT) (E:List (Int×Int)) (p x:Int) (j:Nat):(R7 b E p x j).length<=(eC E p).length:=by
 unfold R7
 rw[bC]
 have:=r9 (fun q=>decide (NX b q≠some x)) ((eC E p).take j)
 rw[dU] at this
 omega
theorem aIK (b:cT) (E:List (Int×Int)) (p x:Int) (j:Nat):(R7 b E p x j).length<=j:=by
 unfold R7
 rw[bC]
 have:=r9 (fun q=>decide (NX b q≠some x)) ((eC E p).take j)
 rw[dU] at this
 omega
theorem aIL {b:cT} {E:List (Int×Int)} {p x:Int} {j:Nat} (h:j<(eC E p).length):R7 b E p x (j+1)=R7 b E p x j++(if NX b (eC E p)[j]=some x then [] else [((eC E p)[j],x)]):=by
 unfold R7
 rw[dH h,tM,cQ]
 congr 1
 by_cases e:NX b (eC E p)[j]=some x
 ·rw[aE e,FZ (by simpa using e)];rfl
 ·rw[aA e,FY (by simpa using e)];rfl
theorem aDp {b:cT} {E:List (Int×Int)} {p x:Int} {y:Int×Int}:y∈R7 b E p x (eC E p).length↔y.2=x/\NX b y.1≠some x/\(y.1,p)∈E:=by
 unfold R7
 rw[nC,eW]
 constructor
 ·rintro⟨q,hq,rfl⟩
  rw[jX,fV,BH] at hq
  exact⟨rfl,hq.2,hq.1⟩
 ·rintro⟨h1,h2,h3⟩
  exact⟨y.1,by rw[jX,fV,BH];exact⟨h3,h2⟩,by rw[<-h1]⟩
structure PrI (b:cT) (V W:List (Int×Int)):Prop where
 nd:V.Nodup
 sv:∀y∈V,GZ b y.1 y.2
 sw:∀y∈W,GZ b y.1 y.2
 us:∀p x,x∈ZL b p->(p,x)∈V\/(p,x)∈W
 st:∀y∈V,∀p,NX b p≠some y.2->P6 (dK b) p y.1->(p,y.2)∈V\/(p,y.2)∈W
theorem PrI.init {b:cT} {W:List (Int×Int)} (h:∀p x,(p,x)∈W↔x∈ZL b p):PrI b [] W:=
 ⟨List.nodup_nil,by simp,fun y hy=>aOs ((h _ _).1 hy),fun p x hx=>.inr ((h _ _).2 hx),by simp⟩
theorem PrI.skip {b:cT} {V W:List (Int×Int)} {y:Int×Int} (h:PrI b V (W++[y])) (hy:y∈V):PrI b V W:=by
 have key:∀z,z∈V\/z∈W++[y]->z∈V\/z∈W:=fun z hz=>by
  rcases hz with hz|hz
  ·exact .inl hz
  ·rcases bV.1 hz with hz|hz
   ·exact .inr hz
   ·rw[cR] at hz;rw[hz];exact .inl hy
 exact⟨h.nd,h.sv,fun z hz=>h.sw z (yH _ hz),fun p x hx=>key _ (h.us p x hx),fun z hz p hd hf=>key _ (h.st z hz p hd hf)⟩
theorem PrI.add {b:cT} {V W:List (Int×Int)} {y:Int×Int} (h:PrI b V (W++[y])) (hyV:y∉V):PrI b (V++[y]) (W++R7 b (tQ (dK b)) y.1 y.2 (eC (tQ (dK b)) y.1).length):=by
 have hy:=h.sw y (by simp)
 have key:∀z,z∈V\/z∈W++[y]->z∈V++[y]\/z∈W++R7 b (tQ (dK b)) y.1 y.2 (eC (tQ (dK b)) y.1).length:=fun z hz=>by
  rcases hz with hz|hz
  ·exact .inl (yH _ hz)
  ·rcases bV.1 hz with hz|hz
   ·exact .inr (yH _ hz)
   ·exact .inl (KN _ hz)
 refine⟨yI.2 ⟨h.nd,by simp,fun z hz w hw e=>by rw[cR] at hw;rw[e,hw] at hz;exact hyV hz⟩,fun z hz=>?_,fun z hz=>?_,fun p x hx=>key _ (h.us p x hx),fun z hz p hd hf=>?_⟩
 ·rcases bV.1 hz with hz|hz
  ·exact h.sv z hz
  ·rw[cR] at hz;rw[hz];exact hy
 ·rcases bV.1 hz with hz|hz
  ·exact h.sw z (yH _ hz)
  ·obtain⟨h1,h2,h3⟩:=aDp.1 hz
   rw[BG] at h3
   rw[h1]
   exact aLG h2 h3 hy
 ·rcases bV.1 hz with hz|hz
  ·exact key _ (h.st z hz p hd hf)
  ·rw[cR] at hz
   subst hz
   exact .inr (KN _ (aDp.2 ⟨rfl,hd,BG.2 hf⟩))
theorem PrI.fin {b:cT} {V:List (Int×Int)} (h:PrI b V []) (y:Int×Int):y∈V↔GZ b y.1 y.2:=by
 constructor
 ·exact h.sv y
 ·intro hl
  refine aCT (P:=fun p x=>(p,x)∈V) (fun p x hx=>?_) (fun p q x hd hf hq=>?_) hl
  ·rcases h.us p x hx with h|h
   ·exact h
   ·cases h
  ·rcases h.st (q,x) hq p hd hf with h|h
   ·exact h
   ·cases h
def Lp (V:List (Int×Int)) (p:Int):List Int:=(V.filter fun y=>decide (y.1=p)).map (·.2)
theorem L5 {V:List (Int×Int)} {p x:Int}:x∈Lp V p↔(p,x)∈V:=by
 unfold Lp
 rw[eW]
 constructor
 ·rintro⟨y,hy,rfl⟩
  rw[jX,fV] at hy
  rw[<-hy.2];exact hy.1
 ·intro h
  exact⟨(p,x),by rw[jX];exact⟨h,by simp⟩,rfl⟩
theorem aJP (V:List (Int×Int)) (y:Int×Int):Lp (V++[y]) y.1=Lp V y.1++[y.2]:=by
 unfold Lp;rw[tM,cQ];simp
theorem aPd {V:List (Int×Int)} {y:Int×Int} {p:Int} (h:p≠y.1):Lp (V++[y]) p=Lp V p:=by
 unfold Lp
 rw[tM,cQ]
 have:¬y.1=p:=fun e=>h e.symm
 simp [this]
theorem aMx (V:List (Int×Int)) (p:Int):(Lp V p).length<=V.length:=by
 unfold Lp;rw[bC];exact r9 _ _
theorem aFo {V:List (Int×Int)} (h:V.Nodup) (p:Int):(Lp V p).Nodup:=by
 unfold Lp
 rw[PJ] at *
 rw[CW]
 refine ZT (fun {a b} ha hb fM e=>fM ?_) (h.filter _)
 rw[jX,fV] at ha hb
 exact tK (ha.2.trans hb.2.symm) e
open Tryz
theorem aNY (els:List (List D)) (H:aC) (hl:els.length<=1000000):bE prog 62 [.seq 2 els] H fun d H'=>d=.seq 2 els/\H=H':=by refine bO (K:=fun d=>d=.seq 2 els) ?_;refine aQ _ _ func62 rfl rfl ntmps62 results62 (by simp) fun w0 g0 Q aD=>?_;refine tq trivial ?_;intro Nx aB Gx aF;intro b hb;refine aB _ ?_;cases b with|true=>(refine tq trivial ?_;intro Nx aB Gx aF;refine rt aD trivial ?_;have he:els=[]:=jO fun e=>Bool.noConfusion (hb fun e0=>e (iX e0));exact⟨H,aG _,aG _,_,qA,by rw[he]⟩)|false=>(refine tq trivial ?_;intro Nx aB Gx aF;intro b1 DQ;refine dD (e:=119) aP0 rfl aP0 rfl aMt rfl (by decide) (bK (aG _) DQ) (.inr ⟨b1,0,rfl,rfl,DQ,aO _ _ _⟩:Gl H 119 2 [] (.os b1 0 2 0 0) (H.bH b1 (.row 119 0 2 [])) (some b1)) (new:=els) (by exact⟨rfl,rfl⟩) (by simp only[wF];omega) fun d H6 oG j6 eM nJ=>?_;refine tq trivial ?_;intro Nx aB Gx aF;refine rt aD trivial ?_;rw[gZ] at j6;exact⟨_,aG _,eM,_,qL eM j6,rfl⟩)
theorem RQ:∀(l:List EZ) (p:Int) (s:EZ),DD p (l++[s])=DD p l++VQ (p+l.length) s
 |[],p,s=>by show VQ p s++[]=[]++VQ (p+0) s;rw[iJ,gZ,Int.add_zero]
 |x::l,p,s=>by
  show VQ p x++DD (p+1) (l++[s])=VQ p x++DD (p+1) l++_
  rw[RQ l,iR,eO]
  congr 3
  omega
theorem aAp:∀(l:List mP) (p:Int) (x:mP),L4 p (l++[x])=L4 p l++DD (p+bZ (l.map fun x=>(x.st.length,x.tm.tg))) x.st
 |[],p,x=>by show DD p x.st++[]=[]++DD (p+0) x.st;rw[iJ,gZ,Int.add_zero]
 |y::l,p,x=>by
  show DD p y.st++L4 (p+y.st.length+1) (l++[x])=DD p y.st++L4 (p+y.st.length+1) l++_
  rw[aAp l,iR]
  congr 3
  simp only[eU,bZ]
  omega
theorem O8:∀(l:List EZ) (p:Int),(DD p l).length<=l.length
 |[],_=>dI _
 |s::l,p=>by
  have:=O8 l (p+1)
  have h2:(VQ p s).length<=1:=by unfold VQ;split <;> simp
  show(VQ p s++DD (p+1) l).length<=_
  rw[bN,eO];omega
theorem O7:∀(l:List mP) (p:Int),(L4 p l).length<=bZ (l.map fun x=>(x.st.length,x.tm.tg))
 |[],_=>dI _
 |x::l,p=>by
  have:=O7 l (p+x.st.length+1)
  have h2:=O8 x.st p
  show(DD p x.st++L4 _ l).length<=_
  simp only[bN,eU,bZ];omega
theorem HY (b:cT):(mO b).length<=bZ (dK b):=O7 _ _
theorem aDl {b:cT} {i:Nat} (h:i<b.bl.length):L4 0 (b.bl.take (i+1))=L4 0 (b.bl.take i)++DD (cY (dK b) i) b.bl[i].st:=by
 rw[dH h,aAp,Int.zero_add]
 congr 3
 unfold cY dK
 rw[qB]
def aRI (b:cT):Prop:=∀x∈b.bl,∀s∈x.st,s.rv.pl.pr.length<=1000000
theorem aLC (b:cT) (H:aC) (hc:bZ (dK b)<=1000000) (ho:aRI b):bE prog 29 [.agg (iS b)] H fun d H'=>d=.seq 5 ((mO b).map vS)/\H=H':=by
 refine bO (K:=fun d=>d=.seq 5 ((mO b).map vS)) ?_
 have sQ:=lm jP b.bl
 have l4:=FC (dK b)
 rw[jR] at l4
 unfold iS
 refine aQ _ _ func29 rfl rfl ntmps29 results29 (by simp) fun w0 g0 Q aD=>?_
 refine tq trivial ?_;intro Nx aB Gx aF
 intro c1 mA
 refine aB _ ?_
 refine fZ 1 mA ?_
 refine tq sQ ?_;intro Nx aB Gx aF
 refine aZ b.bl.length (fun i s=>s.df=[]/\s.fr 4=i64 (cY (dK b) i)/\s.fr 11=.seq 7 (b.bl.map jP)/\s.fr 12=i64 b.bl.length/\s.fr 13=i64 i/\H.le s.H/\∃ob,Gl H 75 5 ((L4 0 (b.bl.take i)).map vS) (s.fr 3) s.H ob) ⟨rfl,rfl,rfl,rfl,rfl,aG _,none,iW _ _ _ _⟩ ?_
 rintro i s hi ⟨aT,f4,f11,f12,f13,aS,ob,hg⟩
 have hx:=bI i
 have cJ:=bM i
 by_cases aV:i<b.bl.length
 case neg=>
  have q1:=lF i b.bl.length (by omega)
  rw[cW (by omega)] at hg
  refine tq (eA f12 f13 q1) ?_;intro Nx aB Gx aF
  refine rt aD aT ?_
  exact⟨_,aG _,aS,_,qL aS hg,rfl⟩
 have cC:(i:Int)<(b.bl.length:Int):=by omega
 have q1:((i:Int)<(b.bl.length:Int))=True:=aK cC
 have w3:=wS i (by omega)
 have cD:(b.bl.map jP)[i]?=some (jP b.bl[i]):=fY aV
 have hfs:cY (dK b) (i+1)=cY (dK b) i+b.bl[i].st.length+1:=by rw[mT (by rw[jR];exact aV),sW aV]
 have hfc:=AX (G:=dK b) (i:=i+1)
 have LW:=aDl aV
 have kN:=ho b.bl[i] (bU aV)
 have jY:=O7 (b.bl.take i) 0
 have hlc:bZ ((b.bl.take i).map fun x=>(x.st.length,x.tm.tg))=cY (dK b) i:=by unfold cY dK;rw[qB]
 rw[hlc] at jY
 obtain⟨x,tV⟩:∃x,x=b.bl[i]:=⟨_,rfl⟩
 rw[<-tV] at cD hfs LW kN
 have wO:=lm vV x.st
 simp only[jP] at cD
 refine tq (nN f11 f12 f13 sQ q1 cD hx cJ aV cC) ?_;intro Nx aB Gx aF
 intro c6 DJ
 refine aB _ ?_
 refine fZ 6 DJ ?_
 refine tq wO ?_;intro Nx aB Gx aF
 obtain⟨F,hF⟩:∃F,F=cY (dK b) i:=⟨_,rfl⟩
 rw[<-hF] at f4 hfs LW jY
 obtain⟨L0,hL0⟩:∃L0,L0=L4 0 (b.bl.take i):=⟨_,rfl⟩
 rw[<-hL0] at hg LW jY
 refine aZ x.st.length (fun j s2=>s2.df=[]/\s2.fr 4=i64 (F+j:Nat)/\s2.fr 11=.seq 7 (b.bl.map jP)/\s2.fr 12=i64 b.bl.length/\s2.fr 13=i64 i/\s2.fr 18=.seq 11 (x.st.map vV)/\s2.fr 19=i64 x.st.length/\s2.fr 20=i64 j/\H.le s2.H/\∃ob,Gl H 75 5 ((L0++DD F (x.st.take j)).map vS) (s2.fr 3) s2.H ob) ⟨aT,f4,f11,f12,f13,rfl,rfl,rfl,aS,ob,by rw[wZ];show Gl H _ 5 ((L0++[]).map vS) _ _ _;rw[iJ];exact hg⟩ ?_
 clear aT f4 f11 f12 f13 aS hg ob
 rintro j s2 hj ⟨aT,f4,f11,f12,f13,f18,f19,f20,aS,ob,hg⟩
 have G8:=bI j
 have xB:=bM j
 by_cases fQ:j<x.st.length
 case neg=>
  have q2:=lF j x.st.length (by omega)
  have e:j=x.st.length:=by omega
  subst e
  rw[nC,<-LW] at hg
  have w4:IntKind.i64.wrap (((F+x.st.length:Nat):Int)+1)=((cY (dK b) (i+1):Nat):Int):=by rw[bF (by omega)];omega
  refine tq (nF f4 f13 f19 f20 q2 w3 w4) ?_;intro Nx aB Gx aF
  exact⟨aV,aT,rfl,f11,f12,rfl,aS,ob,hg⟩
 have RE:(j:Int)<(x.st.length:Int):=by omega
 have q2:((j:Int)<(x.st.length:Int))=True:=aK RE
 have w4:=wS j (by omega)
 have w5:IntKind.i64.wrap (((F+j:Nat):Int)+1)=((F+(j+1):Nat):Int):=by rw[bF (by omega)];omega
 have qR:(x.st.map vV)[j]?=some (vV x.st[j]):=fY fQ
 have qT:DD F (x.st.take (j+1))=DD F (x.st.take j)++VQ ((F+j:Nat):Int) x.st[j]:=by
  rw[dH fQ,RQ,dU,zR (by omega)]
  congr 2
 have kL:=O8 (x.st.take j) F
 rw[dU] at kL
 have hou:=kN x.st[j] (bU fQ)
 obtain⟨u,hu⟩:∃u,u=x.st[j]:=⟨_,rfl⟩
 rw[<-hu] at qR qT hou
 obtain⟨uk,upl,⟨rk,rop,rrg,rmu,⟨rlo,rpr⟩,rar⟩,ulo⟩:=u
 simp only at hou
 have BB:=fun H1=>aNY (rpr.map pD) H1 (by rw[bC];exact hou)
 simp only[vV] at qR
 refine tq (nN f18 f19 f20 wO q2 qR G8 xB fQ RE) ?_;intro Nx aB Gx aF
 intro c8 X1
 refine aB _ ?_
 refine fZ 8 X1 ?_
 by_cases hk:uk=0
 case neg=>
  have p0:(uk=0)=False:=aI hk
  have e:VQ ((F+j:Nat):Int) ⟨uk,upl,⟨rk,rop,rrg,rmu,⟨rlo,rpr⟩,rar⟩,ulo⟩=[]:=aA fun h=>hk h.1
  rw[e,iJ] at qT
  refine tq (jE f4 f20 p0 w4 w5) ?_;intro Nx aB Gx aF
  exact⟨fQ,aT,rfl,f11,f12,f13,f18,f19,rfl,aS,ob,by rw[qT];exact hg⟩
 have p0:(uk=0)=True:=aK hk
 by_cases hr:rk=1
 case neg=>
  have p1:(rk=1)=False:=aI hr
  have e:VQ ((F+j:Nat):Int) ⟨uk,upl,⟨rk,rop,rrg,rmu,⟨rlo,rpr⟩,rar⟩,ulo⟩=[]:=aA fun h=>hr h.2
  rw[e,iJ] at qT
  refine tq (kB f4 f20 p0 p1 w4 w5) ?_;intro Nx aB Gx aF
  exact⟨fQ,aT,rfl,f11,f12,f13,f18,f19,rfl,aS,ob,by rw[qT];exact hg⟩
 have p1:(rk=1)=True:=aK hr
 have e:VQ ((F+j:Nat):Int) ⟨uk,upl,⟨rk,rop,rrg,rmu,⟨rlo,rpr⟩,rar⟩,ulo⟩=[⟨rrg,((F+j:Nat):Int),rmu,⟨rlo,rpr⟩⟩]:=aE ⟨hk,hr⟩
 rw[e] at qT
 refine tq (dG p0 p1) ?_;intro Nx aB Gx aF
 intro c9 Z4
 refine aB _ ?_
 refine tq trivial ?_;intro Nx aB Gx aF
 refine(BB _).mono ?_
 rintro d _ ⟨rfl,rfl⟩
 refine tq f4 ?_;intro Nx aB Gx aF
 refine dD (e:=75) aP2 rfl aP2 rfl aUs rfl (by decide) (bK aS (tJ aS Z4)) (hg.new Z4) (new:=[vS ⟨rrg,((F+j:Nat):Int),rmu,⟨rlo,rpr⟩⟩]) (by exact⟨rfl,rfl⟩) (by rw[bC,bN];show(_+1) * _<=_;omega) fun d2 H2 ob2 GL pC jG=>?_
 refine tq (gQ f4 f20 w4 w5) ?_;intro Nx aB Gx aF
 refine⟨fQ,aT,rfl,f11,f12,f13,f18,f19,rfl,pC,ob2,?_⟩
 rw[qT,<-iR,cQ]
 exact GL
theorem oW (H:aC) (b:Nat) (x y:fK):(H.bH b x).bH b y=H.bH b y:=by
 funext c
 by_cases e:c=b
 ·rw[e,aO,aO]
 ·rw[aN e,aN e,aN e]
def M0 (bm:Nat) (lo df:D):List D:=[.val (.map (some bm)),lo,df]
def HW (S:List Int) (x:Int):List Int:=if x∈S then S else S++[x]
def xK (S:List Int) (l:List Int):List Int:=l.foldl HW S
theorem pH (S l m:List Int):xK S (l++m)=xK (xK S l) m:=zP
theorem aAt {S:List Int} {x y:Int}:y∈HW S x↔y∈S\/y=x:=by
 unfold HW
 split
 ·rename_i h
  exact⟨.inl,fun h2=>h2.elim id fun e=>e▸h⟩
 ·rw[bV,cR]
theorem JY {l:List Int}:∀{S:List Int} {y:Int},y∈xK S l↔y∈S\/y∈l:=by
 induction l with
 |nil=>intro S y;exact⟨.inl,fun h=>h.elim id fun h=>by cases h⟩
 |cons x l ih=>
  intro S y
  show y∈xK (HW S x) l↔_
  rw[ih,aAt,dJ,or_assoc]
theorem aB9 (S:List Int) (x:Int):iM (SM S) (.int .i64 x) (.val (.bool true))=SM (HW S x):=by
 unfold HW
 split
 ·rename_i h
  induction S with
  |nil=>cases h
  |cons a S ih=>
   rw[IU]
   simp only[iM]
   by_cases e:a=x
   ·subst e;rw[aE rfl]
   ·rw[aA (by simpa using e),ih (by rcases dJ.1 h with h|h;exact absurd h.symm e;exact h)]
 ·rename_i h;exact WN h
theorem aE1 {S:List Int} (h:∀x∈S,fU x) {x:Int} (hx:fU x):kOK prog 3 (SM S) (.int .i64 x):=
 ⟨Go.Maps.int_keyed underlying3,sI underlying3 hx,fun p hp=>by
  unfold SM SV at hp
  rw[oZ,eW] at hp
  obtain⟨y,hy,rfl⟩:=hp
  exact sI underlying3 (h y hy)⟩
theorem aHi (l:List qV) (o:qV):GR (l++[o])=GR l++(if o.k=0\/o.k=1 then [o.pl.lo] else []):=by
 unfold GR Y0
 rw[tM,cQ]
 congr 1
 by_cases h:o.k=0\/o.k=1
 ·rw[aE h,FY (by simpa using h)];rfl
 ·rw[aA h,FZ (by simpa using h)];rfl
theorem aDS (l:List qV) (ce bm:Nat) (lo df:D) (S:List Int) (H:aC) (hbe:ce≠bm) (he:H ce=some (.row 191 0 3 [M0 bm lo df])) (hm:H bm=some (.map (SM S))) (hl:dO l.length) (hS:∀x∈S,fU x) (h64:∀x∈GR l,fU x):
  bE prog 196 [.ep ce 0 3 0 0,.seq 4 (l.map jW)] H fun d H'=>d=.pG []/\H'=H.bH bm (.map (SM (xK S (GR l)))):=by
 have dX:=lm jW l
 unfold dO at hl
 refine aQ _ _ func196 rfl rfl ntmps196 results196 (by simp) fun w0 g0 Q aD=>?_
 refine tq dX ?_;intro Nx aB Gx aF
 refine aZ l.length (fun i s=>s.df=[]/\s.fr 0=.ep ce 0 3 0 0/\s.fr 6=.seq 4 (l.map jW)/\s.fr 7=i64 l.length/\s.fr 8=i64 i/\s.H=H.bH bm (.map (SM (xK S (GR (l.take i)))))) ⟨rfl,rfl,rfl,rfl,rfl,(tD hm).symm⟩ ?_
 rintro i s hi ⟨aT,f0,f6,f7,f8,hH⟩
 have hx:=bI i
 have cJ:=bM i
 by_cases aV:i<l.length
 case neg=>
  have q1:=lF i l.length (by omega)
  rw[cW (by omega)] at hH
  refine tq (eA f7 f8 q1) ?_;intro Nx aB Gx aF
  exact aD _ _ (.inl rfl) aT ⟨_,aG _,rfl,hH⟩
 have cC:(i:Int)<(l.length:Int):=by omega
 have q1:((i:Int)<(l.length:Int))=True:=aK cC
 have w3:=wS i (by omega)
 have cD:(l.map jW)[i]?=some (jW l[i]):=fY aV
 have qT:GR (l.take (i+1))=GR (l.take i)++(if l[i].k=0\/l[i].k=1 then [l[i].pl.lo] else []):=by rw[dH aV,aHi]
 have JQ:∀j x,x∈GR (l.take j)->x∈GR l:=fun j x h=>by
  have e:GR l=GR (l.take j)++GR (l.drop j):=by
   unfold GR Y0
   rw[<-cQ,<-tM,uQ]
  rw[e];exact yH _ h
 obtain⟨u,hu⟩:∃u,u=l[i]:=⟨_,rfl⟩
 rw[<-hu] at cD qT
 simp only[jW] at cD
 refine tq (nN f6 f7 f8 dX q1 cD hx cJ aV cC) ?_;intro Nx aB Gx aF
 intro c5 lY
 refine aB _ ?_
 refine fZ 5 lY ?_
 by_cases hk:u.k=0\/u.k=1
 case neg=>
  have p0:(u.k=0)=False:=aI fun h=>hk (.inl h)
  have p1:(u.k=1)=False:=aI fun h=>hk (.inr h)
  rw[aA hk,iJ] at qT
  refine tq (gQ f8 p0 p1 w3) ?_;intro Nx aB Gx aF
  exact⟨aV,aT,f0,f6,f7,rfl,by rw[qT];exact hH⟩
 rw[aE hk] at qT
 obtain⟨T,hT⟩:∃T,T=xK S (GR (l.take i)):=⟨_,rfl⟩
 have aNr:∀x∈T,fU x:=fun x hx=>by
  rw[hT,JY] at hx
  exact hx.elim (hS x) fun h=>h64 x (JQ i x h)
 have aOT:fU u.pl.lo:=h64 _ (JQ (i+1) _ (by rw[qT];simp))
 have zA:=aE1 aNr aOT
 have EN:xK S (GR (l.take (i+1)))=HW T u.pl.lo:=by rw[qT,pH,<-hT];rfl
 have GO:=aB9 T u.pl.lo
 rw[<-hT] at hH
 have re:s.H ce=some (.row 191 0 3 [M0 bm lo df]):=by rw[hH,aN hbe];exact he
 have rm:s.H bm=some (.map (SM T)):=by rw[hH,aO]
 have jQ:s.H.bH bm (.map (SM (HW T u.pl.lo)))=H.bH bm (.map (SM (xK S (GR (l.take (i+1)))))):=by rw[hH,oW,EN]
 unfold M0 at re
 have fb:((some (23:Tmp)==some 24||some (23:Tmp)==some 25||some (23:Tmp)==some 26)=true)=False:=aI (by decide)
 rcases hk with h0|h1
 ·have p0:(u.k=0)=True:=aK h0
  refine tq p0 ?_;intro Nx aB Gx aF
  refine wE (fun t=>t==some 24||t==some 25||t==some 26) (fun _=>false) (fun _ _ _ _=>False) (fun _ _ _ _ _=>False) fun Nx aB=>?_;have fs:=And.intro f0 (And.intro re (And.intro rm (And.intro fb GO)));refine TU ?_;(first|refine aF _ ?_|refine aB _ ?_|skip);(try clear fs)
  refine⟨zA,aB _ ?_⟩
  refine tq (dG f8 w3) ?_;intro Nx aB Gx aF
  exact⟨aV,aT,f0,f6,f7,rfl,jQ⟩
 ·have p0:(u.k=0)=False:=aI (by omega)
  have p1:(u.k=1)=True:=aK h1
  refine tq (dG p0 p1) ?_;intro Nx aB Gx aF
  refine wE (fun t=>t==some 24||t==some 25||t==some 26) (fun _=>false) (fun _ _ _ _=>False) (fun _ _ _ _ _=>False) fun Nx aB=>?_;have fs:=And.intro f0 (And.intro re (And.intro rm (And.intro fb GO)));refine TU ?_;(first|refine aF _ ?_|refine aB _ ?_|skip);(try clear fs)
  refine⟨zA,aB _ ?_⟩
  refine tq (dG f8 w3) ?_;intro Nx aB Gx aF
  exact⟨aV,aT,f0,f6,f7,rfl,jQ⟩
def efL (lo:D):Option Int->D
 |none=>lo
 |some v=>i64 v
def efF (df:D):Option Int->D
 |none=>df
 |some _=>.val (.bool true)
theorem JF (p:pA) (ce bm:Nat) (lo df:D) (S:List Int) (H:aC) (hbe:ce≠bm) (he:H ce=some (.row 191 0 3 [M0 bm lo df])) (hm:H bm=some (.map (SM S))) (hp:dO p.pr.length) (hS:∀x∈S,fU x) (h64:fU p.lo):
  bE prog 197 [.ep ce 0 3 0 0,.agg (lN p)] H fun d H'=>d=.pG []/\H'=(H.bH ce (.row 191 0 3 [M0 bm (efL lo (wrF p)) (efF df (wrF p))])).bH bm (.map (SM (xK S (wrV p)))):=by
 have T2:=lm pD p.pr
 have zA:=aE1 hS h64
 have GO:=aB9 S p.lo
 have ev:∀q,wrF p=q->wrF p=q:=fun _ h=>h
 unfold dO at hp
 have he':=he
 unfold M0 at he
 by_cases hz:p.pr=[]
 ·have e1:wrF p=some p.lo:=aE hz
  have e2:wrV p=[]:=aE hz
  rw[e1,e2]
  have hl:p.pr.length=0:=by rw[hz];rfl
  have q1:((0:Int)<(p.pr.length:Int))=False:=aI (by omega)
  have jQ:∀R:fK,(H.bH ce R).bH bm (.map (SM S))=H.bH ce R:=fun R=>tD ((aN hbe.symm).trans hm)
  have aAb:=jQ (.row 191 0 3 [M0 bm (i64 p.lo) (.val (.bool true))])
  unfold M0 at aAb
  obtain⟨plo,ppr⟩:=p
  simp only[lN] at *
  refine aQ _ _ func197 rfl rfl ntmps197 results197 (by simp) fun w0 g0 Q aD=>?_
  refine tq trivial ?_;intro Nx aB Gx aF
  intro c3 j5
  refine aB _ ?_
  refine fZ 3 j5 ?_
  refine tq (gQ T2 q1 he oW) ?_;intro Nx aB Gx aF
  exact aD _ _ (.inl rfl) rfl ⟨_,aG _,rfl,aAb.symm⟩
 ·have e1:wrF p=none:=aA hz
  have e2:wrV p=[p.lo]:=aA hz
  rw[e1,e2]
  have hl:p.pr.length≠0:=fun h=>hz (iX h)
  have q1:((0:Int)<(p.pr.length:Int))=True:=aK (by omega)
  have jQ:(H.bH ce (.row 191 0 3 [[.val (.map (some bm)),lo,df]])).bH bm (.map (SM (HW S p.lo)))=H.bH bm (.map (SM (HW S p.lo))):=by rw[tD he]
  have fb:((some (11:Tmp)==some 12||some (11:Tmp)==some 13)=true)=False:=aI (by decide)
  obtain⟨plo,ppr⟩:=p
  simp only[lN] at *
  refine aQ _ _ func197 rfl rfl ntmps197 results197 (by simp) fun w0 g0 Q aD=>?_
  refine tq trivial ?_;intro Nx aB Gx aF
  intro c3 j5
  refine aB _ ?_
  refine fZ 3 j5 ?_
  refine tq (dG T2 q1) ?_;intro Nx aB Gx aF
  refine wE (fun t=>t==some 12||t==some 13) (fun _=>false) (fun _ _ _ _=>False) (fun _ _ _ _ _=>False) fun Nx aB=>?_;have fs:=And.intro he (And.intro hm (And.intro fb GO));refine TU ?_;(first|refine aF _ ?_|refine aB _ ?_|skip);(try clear fs)
  refine⟨zA,aB _ ?_⟩
  refine tq trivial ?_;intro Nx aB Gx aF
  exact aD _ _ (.inl rfl) rfl ⟨_,aG _,rfl,jQ.symm⟩
def EH (H:aC) (c4 bm c5:Nat) (Z:fK) (S:List Int) (lo df:D):aC:=((H.bH c4 Z).bH bm (.map (SM S))).bH c5 (.row 191 0 3 [M0 bm lo df])
theorem EH5 (H:aC) (c4 bm c5:Nat) (Z:fK) (S:List Int) (lo df:D):(EH H c4 bm c5 Z S lo df) c5=some (.row 191 0 3 [M0 bm lo df]):=aO _ _ _
theorem EHb {H:aC} {c4 bm c5:Nat} (GH:c5≠bm) (Z:fK) (S:List Int) (lo df:D):(EH H c4 bm c5 Z S lo df) bm=some (.map (SM S)):=(aN GH.symm).trans (aO _ _ _)
theorem EH4 {H:aC} {c4 bm c5:Nat} (h54:c5≠c4) (hb4:bm≠c4) (Z:fK) (S:List Int) (lo df:D):(EH H c4 bm c5 Z S lo df) c4=some Z:=(aN h54.symm).trans ((aN hb4.symm).trans (aO _ _ _))
theorem LA {H:aC} {c4 bm c5:Nat} (GH:c5≠bm) (Z:fK) (S:List Int) (lo df:D) (S':List Int):(EH H c4 bm c5 Z S lo df).bH bm (.map (SM S'))=EH H c4 bm c5 Z S' lo df:=by
 unfold EH;rw[aC.SR GH,oW]
theorem aEY (H:aC) (c4 bm c5:Nat) (Z:fK) (S:List Int) (lo df lo' df':D):(EH H c4 bm c5 Z S lo df).bH c5 (.row 191 0 3 [M0 bm lo' df'])=EH H c4 bm c5 Z S lo' df':=oW _ _ _ _
theorem aXe {H:aC} {c4 bm c5:Nat} (h54:c5≠c4) (hb4:bm≠c4) (Z:fK) (S:List Int) (lo df:D) (Z':fK):(EH H c4 bm c5 Z S lo df).bH c4 Z'=EH H c4 bm c5 Z' S lo df:=by
 unfold EH;rw[aC.SR h54,aC.SR hb4,oW]
theorem aXd {H:aC} {c4 bm c5:Nat} (GH:c5≠bm) (h4:H c4=none) (h5:H c5=none) (hb4:bm≠c4) (Z:fK) (S:List Int) (lo df:D):(H.bH bm (.map (SM S))).le (EH H c4 bm c5 Z S lo df):=fun b x hb=>by
 unfold EH
 by_cases e:b=bm
 ·rw[e,aO] at hb
  rw[e,aN GH.symm,aO];exact hb
 ·rw[aN e] at hb
  rw[aN (fun e=>by rw[e,h5] at hb;cases hb),aN e,aN (fun e=>by rw[e,h4] at hb;cases hb)];exact hb
structure aMv (x:mP) (k:Nat):Prop where
 st:dO x.st.length
 kl:k<=x.st.length
 us:∀y∈usB x k,fU y
 df:∀y,ZZ x k=some y->fU y
 ar:dO (WZ x k).length
 wp:dO (yT x k).1.pr.length
 bo:∀s,x.st[k]?=some s->s.k=0->fU s.rv.pl.lo
theorem aJz (x:mP) (k:Nat) (H:aC) (ok:aMv x k):bE prog 158 [.agg (jP x),i64 k] H fun d H'=>∃bm,H bm=none/\d=.agg (M0 bm (efL (i64 0) (ZZ x k)) (efF (.val (.bool false)) (ZZ x k)))/\H'=H.bH bm (.map (SM (xK [] (usB x k)))):=by
 have wO:=lm vV x.st
 obtain⟨hs,hk,VK,aT,oF,hwp,hbo⟩:=ok
 unfold dO at hs
 obtain⟨US,hU⟩:∃US,US=usB x k:=⟨_,rfl⟩
 obtain⟨DV,hD⟩:∃DV,DV=ZZ x k:=⟨_,rfl⟩
 rw[<-hU] at VK ⊢
 rw[<-hD] at aT ⊢
 obtain⟨xs,xt⟩:=x
 simp only at hs hk wO
 simp only[jP]
 refine aQ _ _ func158 rfl rfl ntmps158 results158 (by simp) fun w0 g0 Q aD=>?_
 refine tq trivial ?_;intro Nx aB Gx aF
 intro c2 lH c4 uL
 refine aB _ ?_
 obtain⟨lK,sH⟩:=bY.1 uL;refine cA 2 rfl ((aN lK.symm).trans (aO _ _ _)) rfl ?_;refine eV _ (HX lH sH lK) ?_;simp only[St.jH,List.drop]
 have aBw:=(bY.1 uL).2
 clear lH uL
 refine tq trivial ?_;intro Nx aB Gx aF
 intro bm tR c5 lY
 refine aB _ ?_
 have hb4:bm≠c4:=(bY.1 tR).1
 have N5:=(bY.1 tR).2
 have GH:c5≠bm:=(bY.1 lY).1
 have h54:c5≠c4:=(bY.1 (bY.1 lY).2).1
 have aA6:=(bY.1 (bY.1 lY).2).2
 clear tR lY
 obtain⟨Z,hZ⟩:∃Z:fK,Z=.row 191 0 3 [[.val (.map none),i64 0,.val (.bool false)]]:=⟨_,rfl⟩
 refine sR (fun s=>s.df=[]/\s.fr 1=i64 k/\s.fr 2=.rp [.seq 11 (xs.map vV),i64 xt.k,.seq 1 (xt.tg.map iD),.seq 4 (xt.ar.map jW),i64 xt.pl.lo,.seq 2 (xt.pl.pr.map pD),cX xt.nm]/\s.fr 4=.ep c4 0 3 0 0/\s.fr 5=.ep c5 0 3 0 0/\s.H=EH H c4 bm c5 Z [] (i64 0) (.val (.bool false))) ⟨rfl,rfl,rfl,rfl,rfl,by rw[hZ] <;> rfl⟩ ?_
 rintro s ⟨aBz,g1,g2,g4,g5,gH⟩
 have hsH:∀(s:St) (X:aC),s.H=X->s=s.dY X:=fun s X h=>by rw[<-h];rfl
 rw[hsH s _ gH]
 have a5:∀S lo df,(EH H c4 bm c5 Z S lo df) c5=some (.row 191 0 3 [[.val (.map (some bm)),lo,df]]):=fun S lo df=>EH5 H c4 bm c5 Z S lo df
 have ab:∀S lo df,(EH H c4 bm c5 Z S lo df) bm=some (.map (SM S)):=fun S lo df=>EHb GH Z S lo df
 have asb:∀S lo df S',(EH H c4 bm c5 Z S lo df).bH bm (.map (SM S'))=EH H c4 bm c5 Z S' lo df:=fun S lo df S'=>LA GH Z S lo df S'
 have a4:∀S lo df,(EH H c4 bm c5 Z S lo df) c4=some (.row 191 0 3 [[.val (.map none),i64 0,.val (.bool false)]]):=fun S lo df=>(EH4 h54 hb4 Z S lo df).trans (by rw[hZ])
 have jQ:∀S lo df Z',(H.bH bm (.map (SM S))).le ((EH H c4 bm c5 Z S lo df).bH c4 Z'):=fun S lo df Z'=>by rw[aXe h54 hb4];exact aXd GH aBw aA6 hb4 Z' S lo df
 have GO:=aB9
 by_cases CA:k<xs.length
 ·have aCC:(k:Int)<(xs.length:Int):=by omega
  have q1:((k:Int)<(xs.length:Int))=True:=aK aCC
  have hx:=bI k
  have cJ:=bM k
  have cD:(xs.map vV)[k]?=some (vV xs[k]):=fY CA
  have e1:US=usS xs[k]:=by rw[hU];unfold usB;simp only;rw[bX CA]
  have e2:DV=dfS xs[k]:=by rw[hD];unfold ZZ;simp only;rw[bX CA]
  have e3:WZ ⟨xs,xt⟩ k=xs[k].rv.ar:=by unfold WZ;simp only;rw[bX CA]
  have e4:xs[k].k=0->(yT ⟨xs,xt⟩ k).1=xs[k].pl:=fun h=>by unfold yT;simp only;rw[bX CA];simp only;rw[aE h]
  have e5:xs[k].k=0->fU xs[k].rv.pl.lo:=fun h=>hbo xs[k] (bX CA) h
  rw[e3] at oF
  clear e3 hbo hU hD
  obtain⟨u,hu⟩:∃u,u=xs[k]:=⟨_,rfl⟩
  rw[<-hu] at cD oF e1 e2 e4 e5
  clear hu
  obtain⟨uk,upl,⟨rk,rop,rrg,rmu,⟨rlo,rpr⟩,rar⟩,ulo⟩:=u
  simp only[vV] at cD
  simp only at oF e4 e5
  refine tq (BR g1 g2 wO q1 cD hx cJ CA aCC) ?_;intro Nx aB Gx aF
  intro c6 DJ
  refine aB _ ?_
  refine fZ 6 DJ ?_
  by_cases h0:uk=0
  ·have p0:(uk=0)=True:=aK h0
   have e4:=e4 h0
   have e5:=e5 h0
   have eS:US=GR rar++((if rk=1 then [rlo] else [])++wrV upl):=e1.trans (aE h0)
   have eD:DV=wrF upl:=e2.trans (aE h0)
   have OW:fU upl.lo:=by
    by_cases hz:upl.pr=[]
    ·exact aT _ (by rw[eD];exact aE hz)
    ·exact VK _ (by rw[eS];refine KN _ (KN _ ?_);unfold wrV;rw[aA hz];simp)
   have hra:∀y∈GR rar,fU y:=fun y hy=>VK y (by rw[eS];exact yH _ hy)
   have hS1:∀y∈xK [] (GR rar),fU y:=fun y hy=>(JY.1 hy).elim (fun h=>by cases h) (hra y)
   rw[e4] at hwp
   refine tq (dG g5 p0) ?_;intro Nx aB Gx aF
   refine((aDS rar c5 bm (i64 0) (.val (.bool false)) [] _ GH (EH5 H c4 bm c5 Z _ _ _) (EHb GH Z _ _ _) oF (fun x hx=>by cases hx) hra)).mono ?_;rintro d H3 ⟨rfl,y8⟩;(first|rw[aEY,LA GH] at y8|rw[LA GH] at y8);subst y8
   by_cases hb:rk=1
   ·have p1:(rk=1)=True:=aK hb
    rw[aE hb] at eS
    have jG:=aE1 hS1 e5
    have hS2:∀y∈HW (xK [] (GR rar)) rlo,fU y:=fun y hy=>(aAt.1 hy).elim (hS1 y) fun h=>h▸e5
    refine tq (nF g5 p1 a5 ab asb GO @M0.eq_1) ?_;intro Nx aB Gx aF
    refine⟨jG,?_⟩
    (first|refine aF _ ?_|refine aB _ ?_|skip)
    refine tq g5 ?_;intro Nx aB Gx aF
    refine((JF upl c5 bm _ _ _ _ GH (EH5 H c4 bm c5 Z _ _ _) (EHb GH Z _ _ _) hwp hS2 OW)).mono ?_;rintro d H3 ⟨rfl,y8⟩;(first|rw[aEY,LA GH] at y8|rw[LA GH] at y8);subst y8
    refine tq (gQ g4 g5 a5 a4) ?_;intro Nx aB Gx aF;refine rt aD (dG aBz g4) ?_;exact⟨_,jQ _ _ _ _,_,N5,by rw[eD] <;> rfl,by rw[eS] <;> first|(simp only[pH];done)|(simp only[pH];rfl)|rfl⟩
   ·have p1:(rk=1)=False:=aI hb
    rw[aA hb,gZ] at eS
    refine tq (dG g5 p1) ?_;intro Nx aB Gx aF
    refine((JF upl c5 bm _ _ _ _ GH (EH5 H c4 bm c5 Z _ _ _) (EHb GH Z _ _ _) hwp hS1 OW)).mono ?_;rintro d H3 ⟨rfl,y8⟩;(first|rw[aEY,LA GH] at y8|rw[LA GH] at y8);subst y8
    refine tq (gQ g4 g5 a5 a4) ?_;intro Nx aB Gx aF;refine rt aD (dG aBz g4) ?_;exact⟨_,jQ _ _ _ _,_,N5,by rw[eD] <;> rfl,by rw[eS] <;> first|(simp only[pH];done)|(simp only[pH];rfl)|rfl⟩
  have p0:(uk=0)=False:=aI h0
  have eS:US=[]:=e1.trans (aA h0)
  by_cases h1:uk=1
  ·have p1:(uk=1)=True:=aK h1
   have eD:DV=some ulo:=e2.trans ((aA h0).trans (aE h1))
   have aOT:fU ulo:=aT _ eD
   refine tq (eA g5 p0 p1) ?_;intro Nx aB Gx aF
   refine(((JF ⟨ulo,[]⟩ c5 bm _ _ _ _ GH (EH5 H c4 bm c5 Z [] _ _) (EHb GH Z _ _ _) (by unfold dO;exact oD _) (fun x hx=>by cases hx) aOT).imp (ds:=[.ep c5 0 3 0 0,.agg [i64 ulo,.val (.slice none 0 0)]]) ⟨dQ _,RL ⟨dQ _,fR,trivial⟩,trivial⟩)).mono ?_;rintro d H3 ⟨rfl,y8⟩;(first|rw[aEY,LA GH] at y8|rw[LA GH] at y8);subst y8
   refine tq (gQ g4 g5 a5 a4) ?_;intro Nx aB Gx aF;refine rt aD (dG aBz g4) ?_;exact⟨_,jQ _ _ _ _,_,N5,by rw[eD] <;> rfl,by rw[eS] <;> first|(simp only[pH];done)|(simp only[pH];rfl)|rfl⟩
  ·have p1:(uk=1)=False:=aI h1
   have eD:DV=none:=e2.trans ((aA h0).trans (aA h1))
   refine tq (kB g4 g5 p0 p1 a5 a4) ?_;intro Nx aB Gx aF
   refine rt aD (dG aBz g4) ?_
   exact⟨_,jQ _ _ _ _,_,N5,by rw[eD] <;> rfl,by rw[eS] <;> rfl⟩
 have q1:=lF k xs.length (by omega)
 have e1:US=usT xt:=by rw[hU];unfold usB;simp only;rw[uR (by omega)]
 have e2:DV=dfT xt:=by rw[hD];unfold ZZ;simp only;rw[uR (by omega)]
 have e3:WZ ⟨xs,xt⟩ k=xt.ar:=by unfold WZ;simp only;rw[uR (by omega)]
 have e4:(yT ⟨xs,xt⟩ k).1=xt.pl:=by unfold yT;simp only;rw[uR (by omega)]
 rw[e3] at oF
 rw[e4] at hwp
 clear e3 e4 hbo hU hD
 have eS0:US=GR xt.ar++(if xt.k=3 then wrV xt.pl else if xt.k=4 then [xt.pl.lo] else []):=e1
 have hra:∀y∈GR xt.ar,fU y:=fun y hy=>VK y (by rw[eS0];exact yH _ hy)
 have hS1:∀y∈xK [] (GR xt.ar),fU y:=fun y hy=>(JY.1 hy).elim (fun h=>by cases h) (hra y)
 refine tq (jE g1 g2 g5 wO q1) ?_;intro Nx aB Gx aF
 refine((aDS xt.ar c5 bm (i64 0) (.val (.bool false)) [] _ GH (EH5 H c4 bm c5 Z _ _ _) (EHb GH Z _ _ _) oF (fun x hx=>by cases hx) hra)).mono ?_;rintro d H3 ⟨rfl,y8⟩;(first|rw[aEY,LA GH] at y8|rw[LA GH] at y8);subst y8
 by_cases h3:xt.k=3
 ·have p3:(xt.k=3)=True:=aK h3
  have eS:US=GR xt.ar++wrV xt.pl:=by rw[eS0,aE h3]
  have eD:DV=wrF xt.pl:=e2.trans (aE h3)
  have OW:fU xt.pl.lo:=by
   by_cases hz:xt.pl.pr=[]
   ·exact aT _ (by rw[eD];exact aE hz)
   ·exact VK _ (by rw[eS];refine KN _ ?_;unfold wrV;rw[aA hz];simp)
  refine tq (eA g2 g5 p3) ?_;intro Nx aB Gx aF
  refine((JF xt.pl c5 bm _ _ _ _ GH (EH5 H c4 bm c5 Z _ _ _) (EHb GH Z _ _ _) hwp hS1 OW)).mono ?_;rintro d H3 ⟨rfl,y8⟩;(first|rw[aEY,LA GH] at y8|rw[LA GH] at y8);subst y8
  refine tq (gQ g4 g5 a5 a4) ?_;intro Nx aB Gx aF;refine rt aD (dG aBz g4) ?_;exact⟨_,jQ _ _ _ _,_,N5,by rw[eD] <;> rfl,by rw[eS] <;> first|(simp only[pH];done)|(simp only[pH];rfl)|rfl⟩
 have p3:(xt.k=3)=False:=aI h3
 by_cases h4:xt.k=4
 ·have p4:(xt.k=4)=True:=aK h4
  have eS:US=GR xt.ar++[xt.pl.lo]:=by rw[eS0,aA h3,aE h4]
  have eD:DV=none:=e2.trans (aA h3)
  have OW:fU xt.pl.lo:=VK _ (by rw[eS];simp)
  have jG:=aE1 hS1 OW
  refine tq (BR g2 g5 p3 p4 a5 ab asb GO @M0.eq_1) ?_;intro Nx aB Gx aF
  refine⟨jG,?_⟩
  (first|refine aF _ ?_|refine aB _ ?_|skip)
  refine tq (gQ g4 g5 a5 a4) ?_;intro Nx aB Gx aF;refine rt aD (dG aBz g4) ?_;exact⟨_,jQ _ _ _ _,_,N5,by rw[eD] <;> rfl,by rw[eS] <;> first|(simp only[pH];done)|(simp only[pH];rfl)|rfl⟩
 have p4:(xt.k=4)=False:=aI h4
 have eS:US=GR xt.ar:=by rw[eS0,aA h3,aA h4,iJ]
 have eD:DV=none:=e2.trans (aA h3)
 refine tq (nF g2 g4 g5 p3 p4 a5 a4) ?_;intro Nx aB Gx aF
 refine rt aD (dG aBz g4) ?_
 exact⟨_,jQ _ _ _ _,_,N5,by rw[eD] <;> rfl,by rw[eS]⟩
theorem aXh (b:cT) (p:Int) (i k:Nat) (H:aC) (hi:i<b.bl.length) (xC:At (dK b) p i k) (hc:bZ (dK b)<=1000000) (ok:aMv b.bl[i] k):
  bE prog 117 [.agg (iS b),i64 p] H fun d H'=>∃bm,H bm=none/\d=.agg (M0 bm (efL (i64 0) (ZZ b.bl[i] k)) (efF (.val (.bool false)) (ZZ b.bl[i] k)))/\H'=H.bH bm (.map (SM (xK [] (usB b.bl[i] k)))):=by
 have aCE:=fun H1=>aCQ b p b.bl[i] k i xC H1 hc
 have hef:=fun H1=>aJz b.bl[i] k H1 ok
 have LU:(b.bl.map jP)[i]?=some (jP b.bl[i]):=fY hi
 have sQ:=lm jP b.bl
 obtain⟨x,hx⟩:∃x,x=b.bl[i]:=⟨_,rfl⟩
 rw[<-hx] at hef LU
 rw[<-hx]
 obtain⟨lo,OW⟩:∃lo,lo=efL (i64 0) (ZZ x k):=⟨_,rfl⟩
 obtain⟨df,aT⟩:∃df,df=efF (.val (.bool false)) (ZZ x k):=⟨_,rfl⟩
 obtain⟨S,hS⟩:∃S,S=xK [] (usB x k):=⟨_,rfl⟩
 rw[<-OW,<-aT,<-hS] at hef
 rw[<-OW,<-aT,<-hS]
 have clo:D.cells lo=some [lo]:=by rw[OW];cases ZZ x k <;> rfl
 have cdf:D.cells df=some [df]:=by rw[aT];cases ZZ x k <;> rfl
 clear hx OW aT hS ok
 have hx0:=bI i
 have cJ:=bM i
 have cC:(i:Int)<(b.bl.length:Int):=by omega
 simp only[jP] at hef LU
 unfold iS at *
 refine aQ _ _ func117 rfl rfl ntmps117 results117 (by simp) fun w0 g0 Q aD=>?_
 refine tq trivial ?_;intro Nx aB Gx aF
 intro c2 lH c4 uL
 refine aB _ ?_
 obtain⟨lK,sH⟩:=bY.1 uL;refine cA 2 rfl ((aN lK.symm).trans (aO _ _ _)) rfl ?_;refine eV _ (HX lH sH lK) ?_;simp only[St.jH,List.drop]
 have aBw:=(bY.1 uL).2
 refine tq trivial ?_;intro Nx aB Gx aF
 refine(aCE _).mono ?_
 rintro d _ ⟨rfl,rfl⟩
 refine tq (kB sQ LU hx0 cJ hi cC) ?_;intro Nx aB Gx aF
 refine(hef _).mono ?_
 rintro d _ ⟨bm,tR,rfl,rfl⟩
 have hb4:bm≠c4:=(bY.1 tR).1
 have N5:=(bY.1 tR).2
 have a4:∀(Z W:fK),((H.bH c4 Z).bH bm W) c4=some Z:=fun Z W=>(aN hb4.symm).trans (aO _ _ _)
 refine tq (dG @M0.eq_1 a4) ?_;intro Nx aB Gx aF
 refine rt aD trivial ?_
 refine⟨H.bH bm (.map (SM S)),fun x z hz=>?_,bm,N5,rfl,rfl⟩
 by_cases e:x=bm
 ·rw[e,aO] at hz
  rw[e,aN hb4,aO];exact hz
 ·rw[aN e] at hz
  have n4:x≠c4:=fun e=>by rw[e,aBw] at hz;cases hz
  rw[aN n4,aN e,aN n4];exact hz
end Go.Proofs.YtfiipaodjpiooaaGreatDoor

