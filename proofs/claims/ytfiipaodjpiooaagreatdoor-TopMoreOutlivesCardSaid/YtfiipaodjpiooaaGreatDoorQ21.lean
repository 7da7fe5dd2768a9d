/- Lemmas and contracts of functions, several texts in one. -/
import Derived.Test.YtfiipaodjpiooaaGreatDoorQ19
import Derived.Test.YtfiipaodjpiooaaGreatDoorQ20
set_option maxRecDepth 100000
set_option maxHeartbeats 4000000
set_option linter.all false
namespace Go.Proofs.YtfiipaodjpiooaaGreatDoor
open Go.RowKit
open Tryz
structure aB6 (b:cT):Prop where
 cn:bZ (dK b)<=130
 us:(ET b).length<=400000
 ef:∀(p:Int) (i k:Nat) (h:i<b.bl.length),At (dK b) p i k->aMv b.bl[i] k
 ta:∀x∈b.bl,x.tm.tg.length<=1000000
theorem aPm (b:cT) (ok:aB6 b) (p:Int) (h0:0<=p) (hp:p<bZ (dK b)) (H:aC):
  bE prog 117 [.agg (iS b),i64 p] H fun d H'=>∃bm,H bm=none/\d=.agg (M0 bm (efL (i64 0) (NX b p)) (efF (.val (.bool false)) (NX b p)))/\H'=H.bH bm (.map (SM (xK [] (ZL b p)))):=by
 obtain⟨x,k,hx⟩:=W2 h0 hp
 rw[aBm hx,aIz hx]
 obtain⟨i,hi,xC,rfl⟩:=hx
 exact aXh b p i k H hi xC (by have:=ok.cn;omega) (ok.ef p i k hi xC)
theorem aG7 (b:cT) (ok:aB6 b) (H:aC):bE prog 30 [.agg (iS b)] H fun d H'=>d=.seq 2 ((tQ (dK b)).map pD)/\H=H':=by
 have h:=aJy (gB b) H (by rw[TY];have:=ok.cn;omega) (by
  intro x hx
  obtain⟨y,hy,rfl⟩:=eW.1 hx
  exact ok.ta y hy)
 rwa[Q5,TY] at h
theorem aGT (b:cT) (ok:aB6 b) (H:aC):bE prog 31 [.agg (iS b)] H fun d H'=>d=i64 (bZ (dK b))/\H=H':=by
 have h:=aIG (gB b) H (by rw[TY];have:=ok.cn;omega)
 rwa[Q5,TY] at h
def BfF (E:List (Int×Int)):Bool->Int->List Int:=fun k x=>if k=true then eC E x else []
theorem aFk (E:List (Int×Int)) (e:Int×Int):BfF (E++[e])=TM (BfF E) true e.2 (BfF E true e.2++[e.1]):=by
 funext k x
 cases k
 ·rw[pV (by simp)];rfl
 ·by_cases hx:x=e.2
  ·subst hx;rw[tC];simp [BfF,eC]
  ·rw[pV (by simp [hx])]
   have:¬e.2=x:=fun e=>hx e.symm
   simp [BfF,eC,this]
def BfR (dm:Bool->Int->Option D) (n:Nat):List (List D):=(vN n).map fun j=>[(dm true j).getD (.val (.slice none 0 0))]
theorem aJN (dm:Bool->Int->Option D) (n:Nat):(BfR dm n).length=n:=by unfold BfR;rw[bC,oX]
theorem CP {α:Type} (f:Int->α) {n:Nat} {x:Int} (h0:0<=x) (h:x<n):((vN n).map f)[x.toNat]?=some (f x):=by
 have hl:x.toNat<(vN n).length:=by rw[oX];omega
 rw[dN,bX hl,ZK hl,mG]
 congr 2
 omega
theorem SU {α:Type} (f:Int->α) {n:Nat} {x:Int} (h0:0<=x) (v:α):((vN n).map f).set x.toNat v=(vN n).map fun j=>if j=x then v else f j:=by
 refine List.ext_getElem (by simp) fun i h1 h2=>?_
 rw[List.getElem_set]
 have hi:i<(vN n).length:=by simpa using h2
 simp only[zQ,ZK hi]
 by_cases e:x.toNat=i
 ·rw[aE e,aE (by omega)]
 ·rw[aA e,aA (by omega)]
theorem aCw {cx:Cx} {x:Code} {N:St->Prop} {Q:Exit->St->Prop} {s:St} {id:Nat} (M:St->Prop) (h1:W cx x (iV id (gK M (fun _ _=>False))) s) (h2:∀s,M s->N s):W cx x (iV id (gK N Q)) s:=
 vP h1 fun e s' q=>by
  cases e <;> simp only[iV] at q ⊢ <;> first|exact h2 s' q|exact q.elim|(split at q <;> first|(rename_i h;rw[aE h];exact h2 s' q)|exact q.elim)
theorem exQ {N1 N2 M:St->Prop} {Q2:Exit->St->Prop} {id:Nat} {s:St} (h:M s):gK N1 (gK N2 (iV id (gK M Q2))) (.exit id) s:=by
 simp only[gK,iV,fO];exact h
theorem exB {N1 M:St->Prop} {Q2:Exit->St->Prop} {id:Nat} {s:St} (h:M s):gK N1 (iV id (gK M Q2)) (.exit id) s:=by
 simp only[gK,iV,fO];exact h
theorem exC {N1 N2 M:St->Prop} {Q2:Exit->St->Prop} {id id2:Nat} {s:St} (h:M s):gK N1 (gK N2 (iV id (iV id2 (gK M Q2)))) (.exit id) s:=by
 simp only[gK,iV,fO];exact h
structure BfI (b:cT) (H:aC) (E:List (Int×Int)) (n c4 i:Nat) (s:St):Prop where
 df:s.df=[]
 f1:s.fr 1=.rp (iS b)
 f3:s.fr 3=i64 n
 f4:s.fr 4=.os c4 0 1 0 n
 f24:s.fr 24=.seq 2 (E.map pD)
 f25:s.fr 25=i64 E.length
 f26:s.fr 26=i64 i
 le:H.le s.H
 hp:∃c dm,s.H c4=some (.row 32 0 1 (BfR dm n))/\Z7 H (BfF (E.take i)) c dm s.H
structure BfE (b:cT) (H:aC) (E:List (Int×Int)) (n:Nat) (s:St):Prop where
 df:s.df=[]
 f1:s.fr 1=.rp (iS b)
 f3:s.fr 3=i64 n
 f4:s.fr 4=.seq 1 ((vN n).map fun j=>[.seq 1 ((eC E j).map iD)])
 hH:s.H=H
def InB (c7 c8:Nat) (fl:Nat->Nat) (i c:Nat):Prop:=c=c7\/c=c8\/∃j,j<i/\c=fl j
structure InH (b:cT) (H:aC) (n i c7 c8:Nat) (EL LL:List (List D)) (fl:Nat->Nat) (Hs:aC):Prop where
 le:H.le Hs
 e7:Hs c7=some (.row 191 0 3 EL)
 l7:EL.length=n
 k7:∀el∈EL,el.length=3
 m7:∀j,j<i->∃bm,EL[j]?=some (M0 bm (efL (i64 0) (NX b j)) (efF (.val (.bool false)) (NX b j)))
 e8:Hs c8=some (.row 189 0 1 LL)
 l8:LL.length=n
 k8:∀el∈LL,el.length=1
 m8:∀j,j<i->LL[j]?=some [.val (.map (some (fl j)))]
 fm:∀j,j<i->Hs (fl j)=some (.map [])/\H (fl j)=none
 inj:∀j k,j<i->k<i->fl j=fl k->j=k
theorem InH.at {b:cT} {H:aC} {n i c7 c8:Nat} {EL LL:List (List D)} {fl:Nat->Nat} {Hs:aC} (h:InH b H n i c7 c8 EL LL fl Hs) {c:Nat} (hc:InB c7 c8 fl i c):∃z,Hs c=some z/\∀o,z≠ .obj o:=by
 rcases hc with rfl|rfl|⟨j,hj,rfl⟩
 ·exact⟨_,h.e7,by simp⟩
 ·exact⟨_,h.e8,by simp⟩
 ·exact⟨_,(h.fm j hj).1,by simp⟩
theorem InH.fS {b:cT} {H:aC} {n i c7 c8:Nat} {EL LL:List (List D)} {fl:Nat->Nat} {Hs Hs':aC} (h:InH b H n i c7 c8 EL LL fl Hs) (aS:H.le Hs') (hk:∀c z,InB c7 c8 fl i c->Hs c=some z->Hs' c=some z):InH b H n i c7 c8 EL LL fl Hs' where
 le:=aS
 e7:=hk _ _ (.inl rfl) h.e7
 l7:=h.l7
 k7:=h.k7
 m7:=h.m7
 e8:=hk _ _ (.inr (.inl rfl)) h.e8
 l8:=h.l8
 k8:=h.k8
 m8:=h.m8
 fm:=fun j hj=>⟨hk _ _ (.inr (.inr ⟨j,hj,rfl⟩)) (h.fm j hj).1,(h.fm j hj).2⟩
 inj:=h.inj
theorem InH.step {b:cT} {H:aC} {n i c7 c8:Nat} {EL LL:List (List D)} {fl:Nat->Nat} {Hs:aC} (h:InH b H n i c7 c8 EL LL fl Hs) (hi:i<n) (h7:H c7=none) (h8:H c8=none) {bm bl:Nat} {S:List Int} (tR:Hs bm=none) (l4:(Hs.bH bm (.map (SM S))) bl=none):
  InH b H n (i+1) c7 c8 (EL.set i (M0 bm (efL (i64 0) (NX b i)) (efF (.val (.bool false)) (NX b i)))) (LL.set i [.val (.map (some bl))]) (fun j=>if j=i then bl else fl j) ((((Hs.bH bm (.map (SM S))).bH bl (.map [])).bH c7 (.row 191 0 3 (EL.set i (M0 bm (efL (i64 0) (NX b i)) (efF (.val (.bool false)) (NX b i)))))).bH c8 (.row 189 0 1 (LL.set i [.val (.map (some bl))]))):=by
 obtain⟨n1,n2⟩:=bY.1 l4
 have a7:c7≠bm:=fun e=>by have:=h.e7;rw[e,tR] at this;cases this
 have a8:c8≠bm:=fun e=>by have:=h.e8;rw[e,tR] at this;cases this
 have b7:c7≠bl:=fun e=>by have:=h.e7;rw[e,n2] at this;cases this
 have b8:c8≠bl:=fun e=>by have:=h.e8;rw[e,n2] at this;cases this
 have c78:c7≠c8:=fun e=>by have h1:=h.e7;rw[e,h.e8] at h1;simp at h1
 have hf:∀j,j<i->fl j≠bl/\fl j≠bm/\fl j≠c7/\fl j≠c8:=fun j hj=>by
  have h1:=(h.fm j hj).1
  refine⟨fun e=>?_,fun e=>?_,fun e=>?_,fun e=>?_⟩
  ·rw[e,n2] at h1;cases h1
  ·rw[e,tR] at h1;cases h1
  ·rw[e,h.e7] at h1;cases h1
  ·rw[e,h.e8] at h1;cases h1
 refine⟨?_,?_,?_,?_,?_,?_,?_,?_,?_,?_,?_⟩
 ·exact bK (bK (bK (bK h.le (lC h.le tR)) (lC h.le n2)) h7) h8
 ·rw[aN c78,aO]
 ·rw[wD,h.l7]
 ·intro el DB
  rcases List.mem_or_eq_of_mem_set DB with DB|rfl
  ·exact h.k7 el DB
  ·rfl
 ·intro j hj
  by_cases e:j=i
  ·subst e
   exact⟨bm,PM (by rw[h.l7];exact hi)⟩
  ·rw[List.getElem?_set_ne (fun e'=>e e'.symm)]
   exact h.m7 j (by omega)
 ·rw[aO]
 ·rw[wD,h.l8]
 ·intro el DB
  rcases List.mem_or_eq_of_mem_set DB with DB|rfl
  ·exact h.k8 el DB
  ·rfl
 ·intro j hj
  by_cases e:j=i
  ·subst e
   rw[aE rfl]
   exact PM (by rw[h.l8];exact hi)
  ·rw[List.getElem?_set_ne (fun e'=>e e'.symm),aA e]
   exact h.m8 j (by omega)
 ·intro j hj
  by_cases e:j=i
  ·rw[aE e,aN b8.symm,aN b7.symm,aO]
   exact⟨rfl,lC h.le n2⟩
  ·obtain⟨x1,x2,x3,x4⟩:=hf j (by omega)
   rw[aA e,aN x4,aN x3,aN x1,aN x2]
   exact h.fm j (by omega)
 ·intro j k hj hk hjk
  by_cases e:j=i <;> by_cases e2:k=i
  ·omega
  ·rw[aE e,aA e2] at hjk
   exact absurd hjk.symm (hf k (by omega)).1
  ·rw[aA e,aE e2] at hjk
   exact absurd hjk (hf j (by omega)).1
  ·rw[aA e,aA e2] at hjk
   exact h.inj j k (by omega) (by omega) hjk
theorem InB.or {c7 c8 i c bl:Nat} {fl:Nat->Nat} (h:InB c7 c8 (fun j=>if j=i then bl else fl j) (i+1) c):InB c7 c8 fl i c\/c=bl:=by
 rcases h with h|h|⟨j,hj,h⟩
 ·exact .inl (.inl h)
 ·exact .inl (.inr (.inl h))
 ·by_cases e:j=i
  ·exact .inr (h.trans (aE e))
  ·replace h:=h.trans (aA e);exact .inl (.inr (.inr ⟨j,by omega,h⟩))
theorem aFz (l:List Int):∀S,(xK S l).length<=S.length+l.length:=by
 induction l with
 |nil=>intro S;exact dI _
 |cons x l ih=>
  intro S
  have h1:=ih (HW S x)
  have h2:(HW S x).length<=S.length+1:=by unfold HW;split <;> simp
  have h3:xK S (x::l)=xK (HW S x) l:=rfl
  rw[h3,eO];omega
def wkI (b:cT) (i:Nat) (W:List (Int×Int)):Prop:=∀p x,(p,x)∈W↔(0<=p/\p<i)/\x∈ZL b p
theorem aJG {b:cT} {i:Nat} {W:List (Int×Int)} {dn:List Int} (h:wkI b i W) (hp:dn.Perm (xK [] (ZL b i))):wkI b (i+1) (W++dn.map fun x=>((i:Int),x)):=fun p x=>by
 rw[bV,h p x,eW]
 have key:∀x,x∈dn↔x∈ZL b i:=fun x=>by rw[hp.mem_iff,JY];simp
 constructor
 ·rintro(⟨h1,h2⟩|⟨y,hy,e⟩)
  ·exact⟨⟨h1.1,by omega⟩,h2⟩
  ·injection e with e1 e2
   subst e1 e2
   exact⟨⟨by omega,by omega⟩,(key y).1 hy⟩
 ·rintro⟨⟨h1,h2⟩,h3⟩
  by_cases e:p=i
  ·subst e
   exact .inr ⟨x,(key x).2 h3,rfl⟩
  ·exact .inl ⟨⟨h1,by omega⟩,h3⟩
structure InI (b:cT) (H:aC) (E:List (Int×Int)) (n c7 c8 i:Nat) (s:St):Prop where
 df:s.df=[]
 f1:s.fr 1=.rp (iS b)
 f3:s.fr 3=i64 n
 f4:s.fr 4=.seq 1 ((vN n).map fun j=>[.seq 1 ((eC E j).map iD)])
 f7:s.fr 7=.os c7 0 3 0 n
 f8:s.fr 8=.os c8 0 1 0 n
 f48:s.fr 48=i64 n
 f49:s.fr 49=i64 i
 hp:∃EL LL fl ob W,InH b H n i c7 c8 EL LL fl s.H/\Gl H 48 2 (List.map pD W) (s.fr 9) s.H ob/\(∀c,InB c7 c8 fl i c->ob≠some c)/\wkI b i W/\W.length<=i * (ET b).length
structure InE (b:cT) (H:aC) (E:List (Int×Int)) (n c8:Nat) (s:St):Prop where
 df:s.df=[]
 f3:s.fr 3=i64 n
 f4:s.fr 4=.seq 1 ((vN n).map fun j=>[.seq 1 ((eC E j).map iD)])
 hp:∃(EL LL:List (List D)) (fl:Nat->Nat) (ob:Option Nat) (W:List (Int×Int)),s.fr 7=.seq 3 EL/\s.fr 8=.seq 1 LL/\EL.length=n/\LL.length=n/\(∀j,j<n->∃bm,EL[j]?=some (M0 bm (efL (i64 0) (NX b j)) (efF (.val (.bool false)) (NX b j))))/\(∀j,j<n->LL[j]?=some [.val (.map (some (fl j)))])/\
  H.le s.H/\(∀j,j<n->s.H (fl j)=some (.map [])/\H (fl j)=none)/\(∀j k,j<n->k<n->fl j=fl k->j=k)/\Gl H 48 2 (List.map pD W) (s.fr 9) s.H ob/\(∀j,j<n->ob≠some (fl j))/\wkI b n W/\W.length<=n * (ET b).length
structure PrH (b:cT) (H:aC) (n:Nat) (fl:Nat->Nat) (V W:List (Int×Int)) (d:D) (Hs:aC) (ob:Option Nat):Prop where
 le:H.le Hs
 fm:∀j,j<n->Hs (fl j)=some (.map (SM (Lp V j)))
 gl:Gl H 48 2 (List.map pD W) d Hs ob
 nb:∀j,j<n->ob≠some (fl j)
structure PrS (E:List (Int×Int)) (n:Nat) (EL LL:List (List D)) (s:St):Prop where
 df:s.df=[]
 f3:s.fr 3=i64 n
 f4:s.fr 4=.seq 1 ((vN n).map fun j=>[.seq 1 ((eC E j).map iD)])
 f7:s.fr 7=.seq 3 EL
 f8:s.fr 8=.seq 1 LL
structure PrE (b:cT) (H:aC) (n:Nat) (LL:List (List D)) (fl:Nat->Nat) (s:St):Prop where
 df:s.df=[]
 f3:s.fr 3=i64 n
 f8:s.fr 8=.seq 1 LL
 hp:∃V,H.le s.H/\(∀j,j<n->s.H (fl j)=some (.map (SM (Lp V j))))/\(∀y,y∈V↔GZ b y.1 y.2)/\V.length<=1000000000000/\V.Nodup
def OuR (V:List (Int×Int)) (n i:Nat):List (List D):=(vN n).map fun j=>[if j<(i:Int) then D.seq 1 ((fX (Lp V j)).map iD) else .val (.slice none 0 0)]
theorem aFq (V:List (Int×Int)) (n:Nat):OuR V n 0=List.replicate n [.val (.slice none 0 0)]:=by
 unfold OuR
 refine List.ext_getElem (by simp [oX]) fun i h1 h2=>?_
 have hi:i<(vN n).length:=by simpa using h1
 simp only[zQ,ZK hi,List.getElem_replicate]
 rw[aA (by omega)]
theorem WK (V:List (Int×Int)) (n i:Nat):(OuR V n i).length=n:=by unfold OuR;rw[bC,oX]
theorem aJU (V:List (Int×Int)) {n i:Nat} (h:i<n):(OuR V n i)[i]?=some [.val (.slice none 0 0)]:=by
 have:=CP (fun j=>[if j<(i:Int) then D.seq 1 ((fX (Lp V j)).map iD) else .val (.slice none 0 0)]) (n:=n) (x:=(i:Int)) (by omega) (by omega)
 rw[bI,aA (by omega)] at this
 exact this
theorem aJV (V:List (Int×Int)) (n i:Nat):(OuR V n i).set i [.seq 1 ((fX (Lp V i)).map iD)]=OuR V n (i+1):=by
 have:=SU (fun j=>[if j<(i:Int) then D.seq 1 ((fX (Lp V j)).map iD) else .val (.slice none 0 0)]) (n:=n) (x:=(i:Int)) (by omega) [.seq 1 ((fX (Lp V i)).map iD)]
 rw[bI] at this
 unfold OuR
 rw[this]
 refine zO fun j _=>?_
 by_cases e:j=i
 ·rw[aE e,e,aE (by omega)]
 ·rw[aA e]
  by_cases h:j<i
  ·rw[aE h,aE (by omega)]
  ·rw[aA h,aA (by omega)]
theorem aJT (V:List (Int×Int)) (n:Nat):OuR V n n=(vN n).map fun p=>[.seq 1 ((fX (Lp V p)).map iD)]:=zO fun j hj=>by rw[aE (u4.1 hj).2]
theorem aCS {b:cT} (ok:aB6 b) {p x:Int} (h:GZ b p x):fU x:=by
 refine aCT (P:=fun p x=>fU x) (fun p x h=>?_) (fun p q x _ _ h=>h) h
 obtain⟨y,k,⟨i,hi,xC,rfl⟩,h2⟩:=MN h
 exact(ok.ef p i k hi xC).us x h2
theorem aHm (b:cT) (H:aC) (ok:aB6 b):bE prog 56 [.agg (iS b)] H fun d H'=>∃V:List (Int×Int),V.Nodup/\(∀y,y∈V↔GZ b y.1 y.2)/\d=.seq 1 ((vN (bZ (dK b))).map fun p=>[.seq 1 ((fX (Lp V p)).map iD)])/\H=H':=by
 have X4:=ok.cn
 have BC:=fun H1=>aGT b ok H1
 have hed:=fun H1=>aG7 b ok H1
 have xC:=fun p h0 hp H1=>aPm b ok p h0 hp H1
 have hEl:=QV (dK b)
 obtain⟨E,hE⟩:∃E,E=tQ (dK b):=⟨_,rfl⟩
 obtain⟨n,hn⟩:∃n,n=bZ (dK b):=⟨_,rfl⟩
 rw[<-hE] at hed hEl
 rw[<-hn] at BC X4 hEl ⊢
 have dX:=lm pD E
 refine bE.mono (bO (K:=fun d=>∃V:List (Int×Int),V.Nodup/\(∀y,y∈V↔GZ b y.1 y.2)/\d=.seq 1 ((vN n).map fun p=>[.seq 1 ((fX (Lp V p)).map iD)])) ?_) (fun d H' ⟨⟨V,h0,h1,h2⟩,h3⟩=>⟨V,h0,h1,h2,h3⟩)
 unfold iS at BC hed xC ⊢
 refine aQ _ _ func56 rfl rfl ntmps56 results56 (by simp) fun w0 g0 Q aD=>?_
 refine tq trivial ?_;intro Nx aB Gx aF
 intro c1 mA
 refine aB _ ?_
 refine fZ 1 mA ?_
 refine tq trivial ?_;intro Nx aB Gx aF
 refine(BC _).mono ?_
 rintro d _ ⟨rfl,rfl⟩
 have h0n:=bM n
 refine tq trivial ?_;intro Nx aB Gx aF
 refine⟨h0n,by omega,by omega,fun c4 uL=>?_⟩
 refine aB _ ?_
 refine tq trivial ?_;intro Nx aB Gx aF
 refine(hed _).mono ?_
 rintro d _ ⟨rfl,rfl⟩
 have aQF:∀e∈E,(0<=e.1/\e.1<n)/\(0<=e.2/\e.2<n):=fun e he=>by
  rw[hE,BG] at he
  rw[hn];exact he.lt
 have a1k:E.length<=16900:=qQ hEl (by have:=pW X4 X4;omega)
 have aZD:List.replicate n [D.val (.slice none 0 0)]=BfR (fun _ _=>none) n:=by
  unfold BfR
  refine List.ext_getElem (by simp [oX]) fun i h1 h2=>?_
  simp
 rw[aZD]
 refine tq dX ?_;intro Nx aB Gx aF
 refine aCw (BfE b H E n) ?_ ?_
 ·refine aZ E.length (BfI b H E n c4) ⟨rfl,rfl,rfl,rfl,rfl,rfl,rfl,bK (aG _) uL,fun _ _=>0,fun _ _=>none,aO _ _ _,⟨fun _ _ _=>rfl,fun k x h=>absurd (by cases k <;> simp [BfF,eC]) h,fun k x _ _ h _ _=>absurd (by cases k <;> simp [BfF,eC]) h⟩⟩ ?_
  rintro i s hi ⟨aT,f1,f3,f4,f24,f25,f26,aS,c,dm,hr,hF⟩
  have hx:=bI i
  have cJ:=bM i
  by_cases aV:i<E.length
  case neg=>
   have q1:=lF i E.length (by omega)
   rw[cW (by omega)] at hF
   have nT:(H.bH c4 (.row 32 0 1 (BfR dm n))).le s.H:=fun b x hb=>by
    by_cases e:b=c4
    ·rw[e,aO] at hb;rw[e,hr];exact hb
    ·rw[aN e] at hb;exact aS _ _ hb
   refine aFw H (fun j=>.seq 1 ((eC E j).map iD)) aS uL hr (fun j _=>?_) ?_
   ·obtain⟨ob,hg,JO,_⟩:=hF.gl true j
    refine qL (e:=3) (ob:=ob) nT ?_
    rcases hg with hg|⟨c',o',g1,g2,g3,g4⟩
    ·exact .inl hg
    ·refine .inr ⟨c',o',g1,g2,?_,g4⟩
     rw[aN (fun e=>by rw[e,hr] at g4;cases g4)];exact g3
   refine IY 4 f4 (aO _ _ _) (by rw[bC,oX];omega) ?_
   have OU:((H.bH c4 (.row 32 0 1 ((vN n).map fun j=>[D.seq 1 ((eC E j).map iD)]))).del c4)=H:=by rw[wC,tH uL]
   have hl4:List.take n (List.drop 0 ((vN n).map fun j=>[D.seq 1 ((eC E j).map iD)]))=(vN n).map fun j=>[D.seq 1 ((eC E j).map iD)]:=by
    rw[jB,cW (by rw[bC,oX];omega)]
   refine sR (fun s=>s.df=[]/\s.fr 1=.rp (iS b)/\s.fr 3=i64 n/\s.fr 4=.seq 1 ((vN n).map fun j=>[.seq 1 ((eC E j).map iD)])/\s.fr 25=i64 E.length/\s.fr 26=i64 i/\s.H=H) ⟨aT,f1,f3,cS (D.seq 1) hl4,f25,f26,OU⟩ ?_
   rintro s2 ⟨GG,g1,g3,g4,g25,g26,gH⟩
   refine tq (eA g25 g26 q1) ?_;intro Nx aB Gx aF
   exact exQ ⟨GG,g1,g3,g4,gH⟩
  have q1:=lT i E.length (by omega)
  have cD:=mU aV
  have w3:=wS i (by omega)
  obtain⟨e,hee⟩:∃e,e=E[i]:=⟨_,rfl⟩
  have aOD:=aQF e (by rw[hee];exact bU aV)
  have oJ:=aFk (E.take i) e
  rw[hee,<-dH aV,<-hee] at oJ
  rw[<-hee] at cD
  refine tq (BR f24 f25 f26 q1 cD hx cJ aV dX) ?_;intro Nx aB Gx aF
  intro b6 hb6
  refine aB _ ?_
  refine fZ 6 hb6 ?_
  have wI:(E.take i).length<=16900:=by rw[dU];omega
  have zB:=VZ (E.take i) e.2
  obtain⟨ob,hg,JO,aCH⟩:=hF.gl true e.2
  have GM:(BfR dm n)[e.2.toNat]?=some [(dm true e.2).getD (.val (.slice none 0 0))]:=CP (fun j=>[(dm true j).getD (.val (.slice none 0 0))]) aOD.2.1 aOD.2.2
  obtain⟨d37,aYT⟩:∃d37,d37=(dm true e.2).getD (.val (.slice none 0 0)):=⟨_,rfl⟩
  rw[<-aYT] at GM hg
  have mM:((some 37==some 31||some 37==some 32||some 37==some 34||some 37==some 35||some 37==some 38||some 37==some 39||some 37==some 40)=true)=False:=aI (by decide)
  obtain⟨⟨e10,e11⟩,e20,e21⟩:=aOD
  refine wE (fun t=>t==some 31||t==some 32||t==some 34||t==some 35||t==some 38||t==some 39||t==some 40) (fun _=>false) (fun _ _ _ _=>False) (fun _ _ _ _ _=>False) fun Nx aB=>?_;have fs:=And.intro f4 (And.intro mM (And.intro e20 (And.intro e21 (And.intro hr (And.intro GM aJN)))));refine TU ?_;(first|refine aF _ ?_|refine aB _ ?_|skip);(try clear fs)
  have aHP:ob≠some c4:=fun h=>by
   obtain⟨o,els,he⟩:=JO c4 h
   rw[hr] at he
   simp at he
  refine dD (e:=3) kZ rfl kZ rfl PF rfl (by decide) aS hg (new:=[iD e.1]) (by exact⟨rfl,rfl⟩) (by rw[bC];show(List.length (eC (E.take i) e.2)+1) * 8<=_;omega) fun d H6 oG j6 eM nJ=>?_
  have q3:=nJ _ _ hr aHP
  have q31:=q3.1
  have hd6:∃c o n,d=.os c o 1 0 n:=by
   rcases j6 with⟨_,_,h⟩|⟨c,o,_,h,_⟩
   ·simp at h
   ·exact⟨c,o,_,h⟩
  obtain⟨c',o',n',hdd⟩:=hd6
  subst hdd
  have aYk:∀k' x',BfF (E.take i) k' x'≠[]->¬(k'=true/\x'=e.2)->(H6.bH c4 (.row 32 0 1 ((BfR dm n).set e.2.toNat [.os c' o' 1 0 n']))) (c k' x')=s.H (c k' x')/\oG≠some (c k' x'):=fun k' x' h1 h2=>by
   obtain⟨o2,a1,a2,a3⟩:=hF.own k' x' h1
   have q5:=nJ _ _ a3 (aCH k' x' h1 h2)
   rw[aN (fun e=>by rw[e,hr] at a3;simp at a3),q5.1,a3]
   exact⟨rfl,q5.2⟩
  have GN:Gl H 3 1 ((BfF (E.take i) true e.2++[e.1]).map iD) (.os c' o' 1 0 n') (H6.bH c4 (.row 32 0 1 ((BfR dm n).set e.2.toNat [.os c' o' 1 0 n']))) oG:=by
   rw[cQ]
   exact j6.fS fun c h=>aN fun e=>q3.2 (by rw[h,e])
  obtain⟨cN,hFN⟩:=hF.step GN aYk
  rw[<-oJ] at hFN
  have tU:(BfR dm n).set e.2.toNat [.os c' o' 1 0 n']=BfR (TM dm true e.2 (some (.os c' o' 1 0 n'))) n:=by
   unfold BfR
   rw[SU _ e20]
   refine zO fun j _=>?_
   by_cases hj:j=e.2
   ·rw[aE hj,hj,tC];rfl
   ·rw[aA hj,pV (by simp [hj])]
  have aYb:H.le (H6.bH c4 (.row 32 0 1 ((BfR dm n).set e.2.toNat [.os c' o' 1 0 n']))):=bK eM uL
  (have fs:=And.intro q31 GM;refine qK ?_;try clear fs);(first|refine aF _ ?_|refine aB _ ?_|skip)
  rw[fP,eQ]
  refine tq (dG f26 w3) ?_;intro Nx aB Gx aF
  exact⟨aV,aT,f1,f3,f4,f24,f25,rfl,aYb,cN,_,by rw[<-tU];exact aO _ _ _,hFN⟩
 rintro s ⟨aT,f1,f3,f4,hH⟩
 unfold iS at f1
 refine bP ?_
 refine dE (fun _ _ _ _=>False) fun Nx aB=>?_;refine dst (dG f3 hH) ?_;intro Nx aB Gx aF
 refine⟨h0n,by omega,by omega,fun c7 EG=>⟨h0n,by omega,by omega,fun c8 X1=>?_⟩⟩
 refine aB _ ?_
 have aBx:H c8=none:=(bY.1 X1).2
 have h78:c8≠c7:=(bY.1 X1).1
 have aCD:H.le ((H.bH c7 (.row 191 0 3 (List.replicate n [.val (.map none),i64 0,.val (.bool false)]))).bH c8 (.row 189 0 1 (List.replicate n [.val (.map none)]))):=bK (bK (aG _) EG) aBx
 refine tq f3 ?_;intro Nx aB Gx aF
 refine aCw (InE b H E n c8) ?_ ?_
 ·refine aZ n (InI b H E n c7 c8) ⟨aT,f1,f3,f4,rfl,rfl,rfl,rfl,_,_,fun _=>0,none,[],⟨aCD,(aN h78.symm).trans (aO _ _ _),zL,fun el h=>by rw[(PU.1 h).2] <;> rfl,by simp,aO _ _ _,zL,fun el h=>by rw[(PU.1 h).2] <;> rfl,by simp,by simp,by simp⟩,iW _ _ _ _,by simp,fun p x=>by simp;omega,by simp⟩ ?_
  rintro i s hi ⟨aT,f1,f3,f4,f7,f8,f48,f49,EL,LL,fl,ob,WL0,hI,hg,kN,hwk,hwl⟩
  have hx:=bI i
  have cJ:=bM i
  unfold iS at f1
  by_cases aV:i<n
  case neg=>
   have q1:((i:Int)<(n:Int))=False:=aI (by omega)
   have iI:i=n:=by omega
   subst iI
   have c78:c8≠c7:=fun e=>by have e8:=hI.e8;rw[e,hI.e7] at e8;simp at e8
   refine IY 7 f7 hI.e7 (by rw[hI.l7];omega) ?_
   refine IY 8 (b:=c8) (o:=0) (sz:=1) (k:=0) (n:=i) (ty:=189) (els:=LL) f8 ((bS c78).trans hI.e8) (by rw[hI.l8];omega) ?_
   have hl7:List.take i (List.drop 0 EL)=EL:=by rw[jB,cW (by rw[hI.l7];omega)]
   have hl8:List.take i (List.drop 0 LL)=LL:=by rw[jB,cW (by rw[hI.l8];omega)]
   have VI:∀c z,s.H c=some z->c≠c7->c≠c8->((s.H.del c7).del c8) c=some z:=fun c z h h1 h2=>by rw[bS h2,bS h1];exact h
   have hf2:∀j,j<i->((s.H.del c7).del c8) (fl j)=some (.map [])/\H (fl j)=none:=fun j hj=>by
    have h1:=(hI.fm j hj).1
    exact⟨VI _ _ h1 (fun e=>by rw[e,hI.e7] at h1;cases h1) (fun e=>by rw[e,hI.e8] at h1;cases h1),(hI.fm j hj).2⟩
   have GL:Gl H 48 2 (List.map pD WL0) (s.fr 9) ((s.H.del c7).del c8) ob:=hg.fS fun c h=>by
    rw[bS (fun e=>kN c8 (.inr (.inl rfl)) (by rw[h,e])),bS (fun e=>kN c7 (.inl rfl) (by rw[h,e]))]
   refine sR (fun s2=>s2.df=[]/\s2.fr 3=i64 i/\s2.fr 4=.seq 1 ((vN i).map fun j=>[.seq 1 ((eC E j).map iD)])/\s2.fr 7=.seq 3 EL/\s2.fr 8=.seq 1 LL/\s2.fr 48=i64 i/\s2.fr 49=i64 i/\H.le s2.H/\(∀j,j<i->s2.H (fl j)=some (.map [])/\H (fl j)=none)/\Gl H 48 2 (List.map pD WL0) (s2.fr 9) s2.H ob) ⟨aT,f3,f4,cS (D.seq 3) hl7,cS (D.seq 1) hl8,f48,f49,fun c z hc=>VI c z (hI.le c z hc) (fun e=>by rw[e,EG] at hc;cases hc) (fun e=>by rw[e,aBx] at hc;cases hc),hf2,GL⟩ ?_
   rintro s2 ⟨GG,g3,g4,g7,g8,g48,g49,gle,gf,gg⟩
   refine tq (eA g48 g49 q1) ?_;intro Nx aB Gx aF
   exact exQ ⟨GG,g3,g4,EL,LL,fl,ob,WL0,g7,g8,hI.l7,hI.l8,hI.m7,hI.m8,gle,gf,hI.inj,gg,fun j hj=>kN _ (.inr (.inr ⟨j,hj,rfl⟩)),hwk,hwl⟩
  have cC:(i:Int)<(n:Int):=by omega
  have q1:((i:Int)<(n:Int))=True:=aK cC
  have w3:=wS i (by omega)
  have aQN:=fun H1=>xC i cJ (by rw[<-hn];exact cC) H1
  obtain⟨lo,OW⟩:∃lo,lo=efL (i64 0) (NX b i):=⟨_,rfl⟩
  obtain⟨df,aOC⟩:∃df,df=efF (.val (.bool false)) (NX b i):=⟨_,rfl⟩
  obtain⟨S,hS⟩:∃S,S=xK [] (ZL b i):=⟨_,rfl⟩
  rw[<-OW,<-aOC,<-hS] at aQN
  obtain⟨d9,hd9⟩:∃d9,d9=s.fr 9:=⟨_,rfl⟩
  rw[<-hd9] at hg
  refine tq (kB f1 f7 f8 f48 f49 q1) ?_;intro Nx aB Gx aF
  refine(aQN _).mono ?_
  rintro d _ ⟨bm,tR,rfl,rfl⟩
  unfold M0
  have e7:=hI.e7
  have l7:=hI.l7
  have e8:=hI.e8
  have l8:=hI.l8
  refine tq trivial ?_;intro Nx aB Gx aF
  intro bl l4
  obtain⟨n1,n2⟩:=bY.1 l4
  have a7:c7≠bm:=fun e=>by rw[e,tR] at e7;cases e7
  have a8:c8≠bm:=fun e=>by rw[e,tR] at e8;cases e8
  have b7:c7≠bl:=fun e=>by rw[e,n2] at e7;cases e7
  have b8:c8≠bl:=fun e=>by rw[e,n2] at e8;cases e8
  have c78:c8≠c7:=fun e=>by rw[e,e7] at e8;simp at e8
  have g7:((s.H.bH bm (.map (SM S))).bH bl (.map [])) c7=some (.row 191 0 3 EL):=by rw[aN b7,aN a7];exact e7
  have g8:∀x,(((s.H.bH bm (.map (SM S))).bH bl (.map [])).bH c7 x) c8=some (.row 189 0 1 LL):=fun x=>by rw[aN c78,aN b8,aN a8];exact e8
  have i7:EL[i]?=some EL[i]:=bX (by omega)
  have i8:LL[i]?=some LL[i]:=bX (by omega)
  have k7:=hI.k7 EL[i] (bU _)
  have k8:=hI.k8 LL[i] (bU _)
  have d7:List.drop 3 EL[i]=[]:=zK (by omega)
  have d8:List.drop 1 LL[i]=[]:=zK (by omega)
  have hIs:=hI.step (S:=S) aV EG aBx tR l4
  rw[<-OW,<-aOC] at hIs
  unfold M0 at hIs
  (have fs:=And.intro cJ (And.intro cC (And.intro g7 (And.intro g8 (And.intro i7 (And.intro i8 (And.intro k7 (And.intro k8 (And.intro d7 d8))))))));refine qK ?_;try clear fs);(first|refine aF _ ?_|refine aB _ ?_|skip)
  rw[eQ]
  have l7':(EL.set i [.val (.map (some bm)),lo,df]).length=n:=by rw[wD,l7]
  have g7i:(EL.set i [.val (.map (some bm)),lo,df])[i]?=some [.val (.map (some bm)),lo,df]:=PM (by omega)
  obtain⟨EL',aKL⟩:∃EL',EL'=EL.set i [.val (.map (some bm)),lo,df]:=⟨_,rfl⟩
  obtain⟨LL',aNp⟩:∃LL',LL'=LL.set i [.val (.map (some bl))]:=⟨_,rfl⟩
  obtain⟨fl',aOH⟩:∃fl':Nat->Nat,fl'=fun j=>if j=i then bl else fl j:=⟨_,rfl⟩
  obtain⟨H5,hH5⟩:∃H5,H5=((((s.H.bH bm (.map (SM S))).bH bl (.map [])).bH c7 (.row 191 0 3 EL')).bH c8 (.row 189 0 1 LL')):=⟨_,rfl⟩
  have aQG:∀c,InB c7 c8 fl' (i+1) c->InB c7 c8 fl i c\/c=bl:=fun c h=>by rw[aOH] at h;exact h.or
  have aQj:∀c,InB c7 c8 fl' (i+1) c->ob≠some c:=fun c h=>by
   rcases aQG c h with h|h
   ·exact kN c h
   ·intro e
    rcases hg with⟨g,_⟩|⟨c2,o2,h1,_,_,h4⟩
    ·rw[g] at e;cases e
    ·rw[e] at h1;injection h1 with h1;rw[<-h1,h,n2] at h4;cases h4
  have hg5:Gl H 48 2 (List.map pD WL0) d9 H5 ob:=hg.fS fun c h=>by
   have x1:c≠c7:=fun e=>kN c7 (.inl rfl) (by rw[h,e])
   have x2:c≠c8:=fun e=>kN c8 (.inr (.inl rfl)) (by rw[h,e])
   have x3:s.H c≠none:=fun e=>by
    rcases hg with⟨g,_⟩|⟨c2,o2,h1,_,_,h4⟩
    ·rw[g] at h;cases h
    ·rw[h] at h1;injection h1 with h1;rw[<-h1,e] at h4;cases h4
   rw[hH5,aN x2,aN x1,aN (fun e=>x3 (by rw[e,n2])),aN (fun e=>x3 (by rw[e,tR]))]
  have RH:ob≠some bm:=fun e=>by
   rcases hg with⟨g,_⟩|⟨c2,o2,h1,_,_,h4⟩
   ·rw[g] at e;cases e
   ·rw[e] at h1;injection h1 with h1;rw[<-h1,tR] at h4;cases h4
  have hm5:H5 bm=some (.map (SM S)):=by rw[hH5,aN a8.symm,aN a7.symm,aN (Ne.symm n1),aO]
  have aYL:¬InB c7 c8 fl' (i+1) bm:=fun h=>by
   rcases aQG bm h with h|h
   ·obtain⟨z,hz,_⟩:=hI.at h;rw[tR] at hz;cases hz
   ·exact n1 h.symm
  rw[<-aKL,<-aNp,<-aOH,<-hH5] at hIs
  rw[<-aKL] at l7' g7i
  rw[<-aKL,<-aNp,<-hH5]
  have N5:=lC hI.le tR
  have aK2:=hIs.le
  have e75:=hIs.e7
  refine sR (fun s2=>s2.df=[]/\s2.fr 1=.rp (iS b)/\s2.fr 3=i64 n/\s2.fr 4=.seq 1 ((vN n).map fun j=>[.seq 1 ((eC E j).map iD)])/\s2.fr 7=.os c7 0 3 0 n/\s2.fr 8=.os c8 0 1 0 n/\s2.fr 48=i64 n/\s2.fr 49=i64 i/\s2.fr 10=i64 i/\s2.fr 9=d9/\s2.H=H5) ⟨aT,f1,f3,f4,f7,f8,f48,f49,rfl,hd9.symm,rfl⟩ ?_
  rintro s2 ⟨GG,g1,g3,g4,g7,g8,g48,g49,Z0,g9,gH⟩
  clear aKL aNp aOH hH5 OW aOC kN hg hI i7 i8 k7 k8 d7 d8
  refine tq (nN g7 Z0 gH e75 l7' g7i hx cJ aV cC) ?_;intro Nx aB Gx aF
  refine P9 (SV S) rfl (show(67:Nat)<160 by decide) underlying188 rfl (by show s2.H bm=_;rw[gH];exact hm5) ?_
  intro r H6 JP hrb hR6 hk6
  replace JP:H5 r=none:=by rw[<-gH];exact JP
  have hrn:∀c z,H5 c=some z->c≠r:=fun c z h e=>by rw[e,JP] at h;cases h
  replace hk6:∀c,c≠bm->c≠r->H6 c=H5 c:=fun c h1 h2=>(hk6 c h1 h2).trans (congrFun gH c)
  have aK8:=lC aK2 JP
  have hI6:InH b H n (i+1) c7 c8 EL' LL' fl' H6:=hIs.fS (fun c z hc=>(hk6 c (fun e=>by rw[e,N5] at hc;cases hc) (fun e=>by rw[e,aK8] at hc;cases hc)).trans (aK2 c z hc)) fun c z hc hz=>(hk6 c (fun e=>aYL (e▸hc)) (hrn c z hz)).trans hz
  have JO:ob≠some r:=fun e=>by
   rcases hg5 with⟨g,_⟩|⟨c2,o2,h1,_,_,h4⟩
   ·rw[g] at e;cases e
   ·rw[e] at h1;injection h1 with h1;rw[<-h1,JP] at h4;cases h4
  have j6:Gl H 48 2 (List.map pD WL0) d9 H6 ob:=hg5.fS fun c h=>hk6 c (fun e=>RH (by rw[h,e])) (fun e=>JO (by rw[h,e]))
  refine aB _ ?_
  refine tq trivial ?_;intro Nx aB Gx aF
  refine pZ (fun k s'=>∃(kO dn:List Int) (ob':Option Nat),k=kO.length/\s'.df=[]/\s'.fr 1=.rp (iS b)/\s'.fr 3=i64 n/\s'.fr 4=.seq 1 ((vN n).map fun j=>[.seq 1 ((eC E j).map iD)])/\s'.fr 7=.os c7 0 3 0 n/\s'.fr 8=.os c8 0 1 0 n/\s'.fr 48=i64 n/\s'.fr 49=i64 i/\s'.fr 10=i64 i/\s'.fr 67=.val (.pointer (some ⟨r,0,none⟩))/\TP s'.H bm r (SV kO)/\InH b H n (i+1) c7 c8 EL' LL' fl' s'.H/\Gl H 48 2 (List.map pD (WL0++dn.map fun x=>((i:Int),x))) (s'.fr 9) s'.H ob'/\(∀c,InB c7 c8 fl' (i+1) c->ob'≠some c)/\ob'≠some bm/\ob'≠some r/\(dn++kO).Perm S) S.length ⟨S,[],ob,rfl,GG,g1,g3,g4,g7,g8,g48,g49,Z0,rfl,hR6,hI6,by rw[nE,iJ];exact(cS (fun d=>Gl H 48 2 (List.map pD WL0) d H6 ob) g9).mpr j6,aQj,RH,JO,List.Perm.refl _⟩ ?_
  clear hR6 hI6 j6 hk6 JO RH aQj hg5 hIs hm5 e75 aK2 gH g9 Z0 g49 g48 g8 g7 g4 g3 g1 GG
  rintro k s3 ⟨kO,dn,YX,rfl,aT,f1,f3,f4,f7,f8,f48,f49,f10,f67,hR,hI,hg,kN,LX,vF,hp⟩
  obtain⟨e9,he9⟩:∃e9,e9=s3.fr 9:=⟨_,rfl⟩
  rw[<-he9] at hg
  have hSl:=aFz (ZL b i) []
  have K7:=aMN b i
  have VK:=ok.us
  rw[<-hS] at hSl
  rw[wF] at hSl
  have hwm:(i+1) * (ET b).length<=130 * 400000:=pW (by omega) VK
  have hws:(i+1) * (ET b).length=i * (ET b).length+(ET b).length:=oY _ _
  refine tq f67 ?_;intro Nx aB Gx aF
  refine IX rfl (show(68:Nat)<160 by decide) f67 hR (fun YH=>?_) (fun l1 p l2 H7 YH hR7 hE7 hk7=>?_)
  ·have T6:kO=[]:=by
    cases kO with
    |nil=>rfl
    |cons a l=>cases YH
   subst T6
   rw[iJ] at hp
   have zB:=hp.length_eq
   (have fs:=trivial;refine qK ?_;try clear fs);(first|refine aF _ ?_|refine aB _ ?_|skip)
   refine tq (dG f49 w3) ?_;intro Nx aB Gx aF
   exact⟨aV,aT,f1,f3,f4,f7,f8,f48,rfl,EL',LL',fl',YX,WL0++dn.map fun x=>((i:Int),x),hI,by subst he9;exact hg,kN,aJG hwk (by rw[<-hS];exact hp),by rw[bN,bC];omega⟩
  ·obtain⟨t1,t2',e1,e2,e3⟩:=KM.1 YH
   obtain⟨x,t2,e4,e5,e6⟩:=KQ.1 e3
   subst e1 e4 e2 e6 e5
   have zB:=hp.length_eq
   have VJ:((dn++[x])++(t1++t2)).Perm S:=by
    refine List.Perm.trans ?_ hp
    rw[iR]
    exact PN _ (P2 (l₁:=t1) (l₂:=t2) (a:=x)).symm
   have hR4:TP H7 bm r (SV (t1++t2)):=by
    have:SV (t1++t2)=SV t1++SV t2:=cQ
    rw[this];exact hR7
   have hrB:¬InB c7 c8 fl' (i+1) r:=fun h=>by
    obtain⟨z,hz,hzo⟩:=hI.at h
    obtain⟨y,hy⟩:=hR.obj
    rw[hz] at hy;injection hy with hy;exact hzo y hy
   have hI7:InH b H n (i+1) c7 c8 EL' LL' fl' H7:=hI.fS (fun c z hc=>(hk7 c (fun e=>by rw[e,aK8] at hc;cases hc)).trans (hI.le c z hc)) fun c z hc hz=>(hk7 c (fun e=>hrB (e▸hc))).trans hz
   have hg7:Gl H 48 2 (List.map pD (WL0++dn.map fun x=>((i:Int),x))) e9 H7 YX:=hg.fS fun c h=>hk7 c fun e=>vF (by rw[h,e])
   have fJ:(WL0++dn.map fun x=>((i:Int),x)).length+1<=52000000:=by
    simp only[bN,eO,bC] at zB ⊢
    omega
   (have fs:=trivial;refine qK ?_;try clear fs);(first|refine aF _ ?_|refine aB _ ?_|skip)
   refine tq trivial ?_;intro Nx aB Gx aF
   refine DZ rfl (show(70:Nat)<160 by decide) (by exact f67) hE7 ?_
   (have fs:=f10;refine qK ?_;try clear fs);(first|refine aF _ ?_|refine aB _ ?_|skip)
   refine tq f10 ?_;intro Nx aB Gx aF
   rw[<-he9]
   have YB:=hI7.le
   have hmm:List.map pD (WL0++(dn++[x]).map fun x=>((i:Int),x))=List.map pD (WL0++dn.map fun x=>((i:Int),x))++[pD ((i:Int),x)]:=by simp only[cQ,eU,nE,iR]
   refine dD (e:=48) vY rfl vY rfl ML rfl (by decide) YB hg7 (new:=[pD ((i:Int),x)]) (by exact⟨rfl,rfl⟩) (by rw[bC];show(_+1) * 16<=_;omega) fun d H8 ob8 hg8 aCD hp8=>?_
   obtain⟨zb,hzb⟩:∃z,H7 bm=some z:=by obtain⟨_,h⟩:=hR4.map;exact⟨_,h⟩
   obtain⟨zr,hzr⟩:∃z,H7 r=some z:=by obtain⟨_,h⟩:=hR4.obj;exact⟨_,h⟩
   have k1:=hp8 bm zb hzb LX
   have k2:=hp8 r zr hzr vF
   have hI8:InH b H n (i+1) c7 c8 EL' LL' fl' H8:=hI7.fS aCD fun c z hc hz=>(hp8 c z hz (kN c hc)).1
   have aYq:∀c,InB c7 c8 fl' (i+1) c->ob8≠some c:=fun c hc=>by
    obtain⟨z,hz,_⟩:=hI7.at hc
    exact(hp8 c z hz (kN c hc)).2
   refine tq trivial ?_;intro Nx aB Gx aF
   exact⟨_,by show(t1++t2).length<(t1++x::t2).length;rw[bN,bN,eO];omega,t1++t2,dn++[x],ob8,rfl,aT,f1,f3,f4,f7,f8,f48,f49,f10,f67,hR4.fS (k1.1.trans hzb.symm) (k2.1.trans hzr.symm),hI8,by rw[hmm];exact hg8,aYq,k1.2,k2.2,VJ⟩
 rintro s ⟨aT,f3,f4,EL,LL,fl,ob,WL0,f7,f8,l7,l8,m7,m8,aS,HO,aQ4,hg,kN,hwk,hwl⟩
 have hC:(UT b).length * (E.length+1)+WL0.length<=1000000000000:=by
  have h1:=aE6 b
  rw[<-hn] at h1
  have h2:n * (ET b).length<=130 * 400000:=pW X4 ok.us
  have h3:(UT b).length * (E.length+1)<=52000000 * 16901:=pW (by omega) (by omega)
  omega
 have aQy:=aMu E [] (UT b)
 have aQr:PrI b [] WL0:=PrI.init fun p x=>by
  rw[hwk p x]
  refine⟨fun h=>h.2,fun h=>⟨?_,h⟩⟩
  obtain⟨y,k,h1,_⟩:=MN h
  rw[hn];exact h1.lt
 obtain⟨UW,hUW⟩:∃UW,UW=UT b:=⟨_,rfl⟩
 rw[<-hUW] at hC aQy
 have aQ0:∀j,j<n->H (fl j)=none:=fun j hj=>(HO j hj).2
 refine tq trivial ?_;intro Nx aB Gx aF
 refine aCw (PrE b H n LL fl) ?_ ?_
 ·refine pZ (fun k s'=>∃V W ob',k=wtL E V UW+W.length/\PrS E n EL LL s'/\PrH b H n fl V W (s'.fr 9) s'.H ob'/\PrI b V W/\V.length+wtL E V UW+W.length<=1000000000000) _ ⟨[],WL0,ob,rfl,⟨aT,f3,f4,f7,f8⟩,⟨aS,fun j hj=>(HO j hj).1,hg,kN⟩,aQr,by rw[wF];omega⟩ ?_
  clear kN hg HO aS f8 f7 f4 f3 aT
  rintro k s ⟨V,W,ob,rfl,⟨aT,f3,f4,f7,f8⟩,⟨aS,HO,hg,kN⟩,NC,hbd⟩
  rcases List.eq_nil_or_concat W with rfl|⟨W,y,rfl⟩
  ·have jQ:=NC.fin
   have hg':s.fr 9=.val (.slice none 0 0)\/∃c o,s.fr 9=.os c o 2 0 0:=by
    rcases hg with⟨_,h,_⟩|⟨c,o,_,h,_⟩
    ·exact .inl h
    ·exact .inr ⟨c,o,h⟩
   rcases hg' with f9|⟨c,o,f9⟩
   ·refine tq f9 ?_;intro Nx aB Gx aF
    exact exQ ⟨aT,f3,f8,V,aS,HO,jQ,by omega,NC.nd⟩
   ·refine tq f9 ?_;intro Nx aB Gx aF
    exact exQ ⟨aT,f3,f8,V,aS,HO,jQ,by omega,NC.nd⟩
  ·rw[List.concat_eq_append] at NC hbd hg ⊢
   have hlw:(List.map pD (W++[y])).length=W.length+1:=by rw[bC,bN];rfl
   have aQf:(W++[y]).length=W.length+1:=by rw[bN];rfl
   rw[aQf] at hbd
   obtain⟨c9,o9,rfl,f9,AL,Z4⟩:∃c o,ob=some c/\s.fr 9=.os c o 2 0 (W.length+1)/\H c=none/\s.H c=some (.row 48 o 2 (List.map pD (W++[y]))):=by
    rcases hg with⟨_,_,h⟩|⟨c,o,h1,h2,h3,h4⟩
    ·simp at h
    ·rw[hlw] at h2
     exact⟨c,o,h1,h2,h3,h4⟩
   have hlv:=NC.sw y (by simp)
   obtain⟨⟨yl0,yl1⟩,hyu⟩:=YR hlv
   rw[<-hn] at yl1
   have T8:=aCS ok hlv
   obtain⟨m,hm⟩:∃m,m=W.length:=⟨_,rfl⟩
   rw[<-hm] at hlw aQf hbd f9
   have w1:IntKind.i64.wrap (((m+1:Nat):Int) - 1)=(m:Int):=by rw[bF (by omega)];omega
   have q0:((0:Int)<((m+1:Nat):Int))=True:=aK (by omega)
   have h0m:=bM m
   have hmx:=bI m
   have dX:(m:Int)<((m+1:Nat):Int):=by omega
   have hgy:(List.map pD (W++[y]))[m]?=some (pD y):=by
    rw[cQ,wA (by rw[bC];omega),bC,hm,Nat.sub_self];rfl
   have aY1:(List.map pD (W++[y]))[m]?=some [i64 y.1,i64 y.2]:=hgy
   refine tq (dG f9 q0) ?_;intro Nx aB Gx aF
   refine I0 (fun s2=>PrS E n EL LL s2/\s2.fr 9=.os c9 o9 2 0 (m+1)/\s2.fr 12=i64 y.1/\s2.fr 13=i64 y.2/\s2.H=s.H) ?_ ?_
   ·refine dE (fun _ _ _ _=>False) fun Nx aB=>?_;refine dst (nF f9 w1 h0m hmx dX Z4 aY1) ?_;intro Nx aB Gx aF
    exact⟨⟨aT,f3,f4,f7,f8⟩,f9,rfl,rfl,rfl⟩
   rintro s2 ⟨⟨GG,g3,g4,g7,g8⟩,g9,g12,g13,gH⟩
   refine bP ?_
   refine I0 (fun s3=>PrS E n EL LL s3/\s3.fr 9=.os c9 o9 2 0 m/\s3.fr 12=i64 y.1/\s3.fr 13=i64 y.2/\s3.H=s.H) ?_ ?_
   ·refine tq (gQ g9 w1 h0m hmx) ?_;intro Nx aB Gx aF
    exact⟨by omega,aB _ ⟨⟨GG,g3,g4,g7,g8⟩,rfl,g12,g13,gH⟩⟩
   clear g13 g12 g9 g8 g7 g4 g3 GG gH
   clear s2
   rintro s2 ⟨⟨GG,g3,g4,g7,g8⟩,g9,g12,g13,gH⟩
   refine aE4 m (b:=c9) (o:=o9) (sz:=2) (ty:=48) (els:=List.map pD (W++[y])) (by rw[gH];exact Z4) ?_
   have pY:(List.map pD (W++[y])).take m=List.map pD W:=by rw[cQ,List.take_left' (by rw[bC,hm])]
   rw[pY,gH]
   have aYl:∀j,j<n->fl j≠c9:=fun j hj e=>kN j hj (by rw[e])
   refine sR (fun s3=>PrS E n EL LL s3/\s3.fr 12=i64 y.1/\s3.fr 13=i64 y.2/\PrH b H n fl V W (s3.fr 9) s3.H (some c9)) ⟨⟨GG,g3,g4,g7,g8⟩,g12,g13,⟨bK aS AL,fun j hj=>(aN (aYl j hj)).trans (HO j hj),.inr ⟨c9,o9,rfl,by rw[bC,<-hm];exact g9,AL,aO _ _ _⟩,kN⟩⟩ ?_
   clear g13 g12 g9 g8 g7 g4 g3 GG gH Z4 f9 hg aS HO f8 f7 f4 f3 aT
   clear s2
   rintro s2 ⟨⟨aT,f3,f4,f7,f8⟩,f12,f13,⟨aS,HO,hg,_⟩⟩
   obtain⟨d9,hd9⟩:∃d9,d9=s2.fr 9:=⟨_,rfl⟩
   rw[<-hd9] at hg
   have hyn:y.1.toNat<n:=by omega
   have hyi:((y.1.toNat:Nat):Int)=y.1:=by omega
   have hL:=m8 _ hyn
   have hF:=HO _ hyn
   rw[hyi] at hF
   by_cases hyV:y∈V
   ·have iI:=aFs (L5.2 (show(y.1,y.2)∈V from hyV))
    have zA:=aE1 (S:=Lp V y.1) (fun x hx=>aCS ok (NC.sv _ (L5.1 hx))) T8
    refine tq (nN f8 f12 f13 hL l8 yl0 yl1 hF iI zA) ?_;intro Nx aB Gx aF
    refine exB ⟨wtL E V UW+W.length,?_,V,W,some c9,rfl,⟨aT,f3,f4,f7,f8⟩,⟨aS,HO,by subst hd9;exact hg,kN⟩,NC.skip hyV,by omega⟩
    show _<_
    omega
   ·have hnm:y.2∉Lp V y.1:=fun h=>hyV (L5.1 h)
    have rU:=aBa hnm
    have tU:=WN hnm
    have zA:=aE1 (S:=Lp V y.1) (fun x hx=>aCS ok (NC.sv _ (L5.1 hx))) T8
    have hB:=CP (fun j=>[D.seq 1 ((eC E j).map iD)]) yl0 yl1
    have hBl:((vN n).map fun j=>[D.seq 1 ((eC E j).map iD)]).length=n:=by rw[bC,oX]
    have hpm:(List.map iD (eC E y.1)).length=(eC E y.1).length:=bC _
    have GN:(fl y.1.toNat)≠c9:=fun e=>kN _ hyn (by rw[e])
    obtain⟨PE,hPE⟩:∃PE,PE=eC E y.1:=⟨_,rfl⟩
    rw[<-hPE] at hB hpm
    refine tq (aEb f4 f8 f12 f13 hL l8 yl0 yl1 hF rU tU zA hB hBl hpm) ?_;intro Nx aB Gx aF
    have hUy:y∈UW:=by rw[hUW];exact aFU hlv
    have hwa:=aJL (E:=E) hyV hUy
    rw[<-hPE] at hwa
    have aYz:∀q∈PE,0<=q/\q<n:=fun q hq=>by rw[hPE] at hq;exact(aQF _ (BH.1 hq)).1
    have aMb:PrH b H n fl (V++[y]) (W++R7 b E y.1 y.2 0) d9 (s2.H.bH (fl y.1.toNat) (.map (SM (Lp V y.1++[y.2])))) (some c9):=by
     refine⟨bK aS (aQ0 _ hyn),fun j hj=>?_,?_,kN⟩
     ·by_cases e:j=y.1.toNat
      ·rw[e,aO,hyi,aJP]
      ·rw[aN (fun h=>e (aQ4 _ _ hj hyn h)),aPd (by omega)]
       exact HO j hj
     ·have:R7 b E y.1 y.2 0=[]:=rfl
      rw[this,iJ]
      exact hg.fS fun c h=>aN fun e=>GN (by injection h with h;rw[h,e])
    refine aZ PE.length (fun j s3=>PrS E n EL LL s3/\s3.fr 13=i64 y.2/\s3.fr 115=.seq 1 (PE.map iD)/\s3.fr 116=i64 PE.length/\s3.fr 117=i64 j/\∃ob',PrH b H n fl (V++[y]) (W++R7 b E y.1 y.2 j) (s3.fr 9) s3.H ob') ⟨⟨aT,f3,f4,f7,f8⟩,f13,rfl,rfl,rfl,some c9,by subst hd9;exact aMb⟩ ?_
    clear aMb hg kN HO aS hd9 hF f13 f12 f8 f7 f4 f3 aT
    clear s2
    rintro j s3 hj ⟨⟨aT,f3,f4,f7,f8⟩,f13,f115,f116,f117,ob,⟨aS,HO,hg,kN⟩⟩
    have G8:=bI j
    have xB:=bM j
    by_cases fQ:j<PE.length
    case neg=>
     have q1:=lF j PE.length (by omega)
     have hjj:j=(eC E y.1).length:=by rw[<-hPE];omega
     have hpa:=NC.add hyV
     rw[<-hE,<-hjj] at hpa
     have hps:=aL1 b E y.1 y.2 j
     rw[<-hPE] at hps
     refine tq (eA f116 f117 q1) ?_;intro Nx aB Gx aF
     refine exC ⟨wtL E (V++[y]) UW+(W++R7 b E y.1 y.2 j).length,?_,V++[y],W++R7 b E y.1 y.2 j,ob,rfl,⟨aT,f3,f4,f7,f8⟩,⟨aS,HO,hg,kN⟩,hpa,?_⟩
     ·show _<_
      rw[bN];omega
     ·rw[bN,bN]
      simp only[wB]
      omega
    have q1:=lT j PE.length (by omega)
    have w4:=wS j (by omega)
    have qR:=cO fQ
    obtain⟨u0,u1⟩:=aYz PE[j] (bU _)
    have hun:PE[j].toNat<n:=by omega
    have RJ:((PE[j].toNat:Nat):Int)=PE[j]:=by omega
    obtain⟨bm,hM⟩:=m7 _ hun
    rw[RJ] at hM
    have nI:=aIL (b:=b) (E:=E) (p:=y.1) (x:=y.2) (j:=j) (by rw[<-hPE];exact fQ)
    have OD:(eC E y.1)[j]'(by rw[<-hPE];exact fQ)=PE[j]:=by simp only[hPE]
    rw[OD] at nI
    have aK6:=aIK b E y.1 y.2 j
    obtain⟨q,hq⟩:∃q,q=PE[j]:=⟨_,rfl⟩
    rw[<-hq] at qR u0 u1 hun RJ hM nI
    obtain⟨d9,hd9⟩:∃d9,d9=s3.fr 9:=⟨_,rfl⟩
    rw[<-hd9] at hg
    have a2F:(W++R7 b E y.1 y.2 j).length+1<=1000000000000:=by rw[bN];omega
    have hqe:q∈PE:=by rw[hq];exact bU _
    clear hq
    by_cases yJ:NX b q=some y.2
    ·rw[aE yJ,iJ] at nI
     rw[yJ] at hM
     simp only[M0,efL,efF] at hM
     refine tq (aAN f7 f13 f115 f116 f117 q1 w4 qR G8 xB fQ hpm hM l7 u0 u1) ?_;intro Nx aB Gx aF
     exact⟨fQ,⟨aT,f3,f4,f7,f8⟩,f13,f115,f116,rfl,ob,aS,HO,by rw[nI];subst hd9;exact hg,kN⟩
    have aQu:R7 b E y.1 y.2 (j+1)=R7 b E y.1 y.2 j++[(q,y.2)]:=by rw[nI,aA yJ]
    cases hdq:NX b q with
    |none=>
     rw[hdq] at hM
     simp only[M0,efL,efF] at hM
     refine tq (aAN f7 f13 f115 f116 f117 q1 w4 qR G8 xB fQ hpm hM l7 u0 u1) ?_;intro Nx aB Gx aF
     rw[<-hd9]
     refine dD (e:=48) vY rfl vY rfl ML rfl (by decide) aS hg (new:=[pD (q,y.2)]) (by exact⟨rfl,rfl⟩) (by rw[bC];show(_+1) * 16<=_;omega) fun d H8 ob8 hg8 aCD hp8=>?_
     have hmm:List.map pD (W++R7 b E y.1 y.2 (j+1))=List.map pD (W++R7 b E y.1 y.2 j)++[pD (q,y.2)]:=by rw[aQu,<-iR,cQ];rfl
     rw[<-hmm] at hg8
     have aHF:∀i,i<n->H8 (fl i)=some (.map (SM (Lp (V++[y]) i)))/\ob8≠some (fl i):=fun i hi=>hp8 _ _ (HO i hi) (kN i hi)
     refine tq (dG f117 w4) ?_;intro Nx aB Gx aF
     exact⟨fQ,⟨aT,f3,f4,f7,f8⟩,f13,f115,f116,rfl,ob8,aCD,fun i hi=>(aHF i hi).1,hg8,fun i hi=>(aHF i hi).2⟩
    |some v=>
     rw[hdq] at hM yJ
     simp only[M0,efL,efF] at hM
     have qv:(v=y.2)=False:=aI fun e=>yJ (by rw[e])
     refine tq (aJk f7 f13 f115 f116 f117 q1 w4 qR G8 xB fQ hpm hM l7 u0 u1 qv) ?_;intro Nx aB Gx aF
     rw[<-hd9]
     refine dD (e:=48) vY rfl vY rfl ML rfl (by decide) aS hg (new:=[pD (q,y.2)]) (by exact⟨rfl,rfl⟩) (by rw[bC];show(_+1) * 16<=_;omega) fun d H8 ob8 hg8 aCD hp8=>?_
     have hmm:List.map pD (W++R7 b E y.1 y.2 (j+1))=List.map pD (W++R7 b E y.1 y.2 j)++[pD (q,y.2)]:=by rw[aQu,<-iR,cQ];rfl
     rw[<-hmm] at hg8
     have aHF:∀i,i<n->H8 (fl i)=some (.map (SM (Lp (V++[y]) i)))/\ob8≠some (fl i):=fun i hi=>hp8 _ _ (HO i hi) (kN i hi)
     refine tq (dG f117 w4) ?_;intro Nx aB Gx aF
     exact⟨fQ,⟨aT,f3,f4,f7,f8⟩,f13,f115,f116,rfl,ob8,aCD,fun i hi=>(aHF i hi).1,hg8,fun i hi=>(aHF i hi).2⟩
 clear m7 l7 aQy aQr kN hg HO aS f8 f7 f4 f3 aT hwl hwk
 rintro s ⟨aT,f3,f8,V,aS,HO,jQ,hVl,hVn⟩
 refine tq f3 ?_;intro Nx aB Gx aF
 refine⟨h0n,by omega,by omega,fun c16 aNw=>?_⟩
 refine aB _ ?_
 have aGw:=lC aS aNw
 refine tq (dG f8 l8) ?_;intro Nx aB Gx aF
 refine aZ n (fun i s'=>s'.df=[]/\s'.fr 16=.os c16 0 1 0 n/\s'.fr 145=.seq 1 LL/\s'.fr 146=i64 n/\s'.fr 147=i64 i/\H.le s'.H/\s'.H c16=some (.row 32 0 1 (OuR V n i))/\∀j,i<=j->j<n->s'.H (fl j)=some (.map (SM (Lp V j)))) ⟨aT,rfl,rfl,rfl,rfl,bK aS aGw,by rw[aFq];exact aO _ _ _,fun j _ hj=>(aN (fun e=>by have:=HO j hj;rw[e,aNw] at this;cases this)).trans (HO j hj)⟩ ?_
 clear aNw HO aS f8 f3 aT
 clear s
 rintro i s hi ⟨aT,f16,f145,f146,f147,aS,hr,HO⟩
 have hx:=bI i
 have cJ:=bM i
 by_cases aV:i<n
 case neg=>
  have q1:((i:Int)<(n:Int))=False:=aI (by omega)
  have iI:i=n:=by omega
  subst iI
  refine tq (gQ f16 f146 f147 q1) ?_;intro Nx aB Gx aF
  refine rt aD aT ?_
  exact⟨_,aG _,aS,_,yY (k:=0) aS hr aGw (by rw[WK];omega),V,hVn,jQ,by rw[jB,cW (by rw[WK];omega),aJT]⟩
 have cC:(i:Int)<(n:Int):=by omega
 have q1:((i:Int)<(n:Int))=True:=aK cC
 have w3:=wS i (by omega)
 have hL:=m8 i aV
 have fM:c16≠fl i:=fun e=>by have:=HO i (dI _) aV;rw[<-e,hr] at this;cases this
 refine UP (fl i) (SV (Lp V i)) (HO i (dI _) aV) fun es cI hmo=>?_
 obtain⟨Hh,hHh⟩:∃Hh,Hh=s.H.bH (fl i) (.obj (.map es cI)):=⟨_,rfl⟩
 rw[<-hHh]
 have aK3:H.le Hh:=by rw[hHh];exact bK aS (aQ0 i aV)
 have hrh:Hh c16=some (.row 32 0 1 (OuR V n i)):=by rw[hHh,aN fM];exact hr
 have hoh:Hh (fl i)=some (.obj (.map es cI)):=by rw[hHh,aO]
 have hfh:∀j,i+1<=j->j<n->Hh (fl j)=some (.map (SM (Lp V j))):=fun j h1 h2=>by
  rw[hHh,aN (fun e=>by have:=aQ4 _ _ h2 aV e;omega)];exact HO j (by omega) h2
 have hLl:=aMx V i
 have hor:=WK V n i
 have hog:=aJU V aV
 clear hHh
 refine tq (rQ f16 f145 f146 f147 q1 hL l8 hx cJ aV cC) ?_;intro Nx aB Gx aF
 refine(aKm (fl i) _).mono ?_
 rintro d _ ⟨rfl,rfl⟩
 refine tq trivial ?_;intro Nx aB Gx aF
 refine(aF6 (aH3 (Lp V i) (fl i) es cI hmo) (Lp V i) Hh (fun H' h=>h _ _ hoh) (fun Hc h=>h _ _ hoh) (fun l h=>by obtain⟨r,hr⟩:=h;have:=hr.length_eq;rw[bN] at this;omega) (fun l h=>h) (by omega)).mono ?_
 rintro d _ ⟨rfl,rfl⟩
 refine tq (BR hrh hor hog hx cJ aV cC f147 w3) ?_;intro Nx aB Gx aF
 exact⟨aV,aT,f16,f145,f146,rfl,bK aK3 aGw,by rw[<-aJV];exact aO _ _ _,fun j h1 h2=>(aN (fun e=>by have:=hfh j h1 h2;rw[e,hrh] at this;cases this)).trans (hfh j h1 h2)⟩
theorem aXr:aFl 101:=⟨uH func101 rfl rfl,aNZ⟩
def ScL (LN:List uV) (E K L:List (Int×Int)) (y:Int×Int):Prop:=∃l,0<=y.1/\LN[y.1.toNat]?=some l/\Z9 (V8 E K L y.1 l.rg) l.pt y.2
structure InL (LN:List uV) (E K L:List (Int×Int)) (n i:Nat) (S:List (Int×Int)):Prop where
 nd:S.Nodup
 mem:∀y,y∈S↔y.1<i/\ScL LN E K L y
 len:S.length<=i * n
theorem InL.step {LN:List uV} {E K L:List (Int×Int)} {n i:Nat} {S B:List (Int×Int)} {dn:List Int} (h:InL LN E K L n i S) (hi:i<LN.length) (hB:BfQ (V8 E K L i LN[i].rg) LN[i].pt B []) (hl:B.length<=n) (hp:dn.Perm (tW B)):InL LN E K L n (i+1) (S++dn.map fun q=>((i:Int),q)) where
 nd:=yI.2 ⟨h.nd,by
  refine List.Pairwise.map _ (fun a b hab e=>hab ?_) (hp.nodup_iff.2 hB.b.nd)
  injection e,fun x hx y hy e=>by
  obtain⟨q,_,rfl⟩:=eW.1 hy
  have:=((h.mem x).1 hx).1
  rw[e] at this
  simp only at this
  omega⟩
 mem:=fun y=>by
  rw[bV,h.mem y]
  constructor
  ·rintro(⟨h1,h2⟩|h1)
   ·exact⟨by omega,h2⟩
   ·obtain⟨q,hq,rfl⟩:=eW.1 h1
    refine⟨by simp only;omega,LN[i],by simp,by simp only[bI];exact bX hi,?_⟩
    exact hB.fin.1 (hp.mem_iff.1 hq)
  ·rintro⟨h1,h2⟩
   by_cases e:y.1=i
   ·obtain⟨l,h3,h4,h5⟩:=id h2
    rw[e,bI,bX hi] at h4
    injection h4 with h4
    subst h4
    rw[e] at h5
    exact .inr (eW.2 ⟨y.2,hp.mem_iff.2 (hB.fin.2 h5),tK e.symm rfl⟩)
   ·exact .inl ⟨by omega,h2⟩
 len:=by
  have h1:=h.len
  have h2:=hp.length_eq
  unfold tW at h2
  rw[bC] at h2
  rw[bN,bC,oY]
  omega
theorem aO3 (LN:List uV) (E K V L:List (Int×Int)) (n:Nat) (H:aC) (hn:n<=300) (hLN:LN.length<=10000) (hK:dO K.length) (hV:dO V.length) (hL:dO L.length) (hE:E.length<=1000000) (k64:∀y∈K,fU y.1/\fU y.2) (v64:∀y∈V,fU y.1/\fU y.2) (l64:∀y∈L,fU y.1/\fU y.2) (eR:∀y∈E,cE n y.1/\cE n y.2) (rR:∀l∈LN,fU l.rg/\cE n l.pt):
  bE prog 49 [.agg (fcD LN E K V L)] H fun d H'=>∃S ob,InL LN E K L n LN.length S/\Gl H 48 2 ((iH S).map pD) d H' ob/\H.le H':=by
 have e64:∀y∈E,fU y.1/\fU y.2:=fun y hy=>by have:=eR y hy;unfold cE at this;unfold fU;omega
 have LW:=fun H1=>aHr LN E K V L H1 hK hV hL hE k64 v64 l64 e64
 have hsc:=fun b1 b2 b3 b4 m1 i hi H1 B9 GP=>aEF LN E K V L b1 b2 b3 b4 m1 i n hi H1 B9 hn hE k64 l64 eR (by unfold fU;omega) (rR _ (bU hi)).1 (rR _ (bU hi)).2 GP
 have dX:=lm vS LN
 unfold fcD at LW ⊢
 refine aQ _ _ func49 rfl rfl ntmps49 results49 (by simp) fun w0 g0 Q aD=>?_
 refine tq trivial ?_;intro Nx aB Gx aF
 intro c1 mA
 refine aB _ ?_
 refine fZ 1 mA ?_
 refine tq trivial ?_;intro Nx aB Gx aF
 refine(LW _).mono ?_
 rintro d H1 ⟨b1,b2,b3,b4,m1,rfl,kU,B9,GP⟩
 have hsc:=fun i hi H1 GP=>hsc b1 b2 b3 b4 m1 i hi H1 B9 GP
 obtain⟨X,hX⟩:∃X,X=ixD LN E K V L b1 b2 b3 b4:=⟨_,rfl⟩
 rw[<-hX] at hsc ⊢
 have hXc:D.cells X=some [X]:=by rw[hX];rfl
 refine tq dX ?_;intro Nx aB Gx aF
 refine aZ LN.length (fun i s=>s.df=[]/\s.fr 4=X/\s.fr 11=i64 LN.length/\s.fr 12=i64 i/\H1.le s.H/\∃S ob,InL LN E K L n i S/\Gl H1 48 2 (S.map pD) (s.fr 3) s.H ob) ⟨rfl,rfl,rfl,rfl,aG _,[],none,⟨List.nodup_nil,fun y=>by simp [ScL];omega,by simp⟩,iW _ _ _ _⟩ ?_
 rintro i s hi ⟨aT,f4,f11,f12,aS,S,ob,hS,hg⟩
 have hx:=bI i
 have cJ:=bM i
 by_cases aV:i<LN.length
 case neg=>
  have q1:=lF i LN.length (by omega)
  have iI:i=LN.length:=by omega
  subst iI
  have hSl:=hS.len
  have xY:LN.length * n<=10000 * 300:=pW hLN hn
  have iC:H.le s.H:=mH kU aS
  rcases hg with⟨_,e1,e2⟩|⟨c,o,e0,e1,e2,e3⟩
  ·have hy0:S=[]:=by simpa using e2
   subst hy0
   refine tq (gQ f11 f12 q1 e1) ?_;intro Nx aB Gx aF
   refine(V7 _).mono ?_
   rintro d _ ⟨rfl,rfl⟩
   refine tq e1 ?_;intro Nx aB Gx aF
   refine rt aD (dG aT e1) ?_
   exact⟨_,aG _,[],none,hS,.inl ⟨rfl,rfl,by simp [iH]⟩,iC⟩
  ·rw[bC] at e1
   refine tq (gQ f11 f12 q1 e1) ?_;intro Nx aB Gx aF
   refine(MI aXr e3 (by omega)).mono ?_
   rintro d _ ⟨rfl,rfl⟩
   refine tq e1 ?_;intro Nx aB Gx aF
   refine rt aD (dG aT e1) ?_
   have AL:=lC kU e2
   exact⟨_,aG _,S,some c,hS,.inr ⟨c,o,rfl,by rw[bC,jJ],AL,aO _ _ _⟩,bK iC AL⟩
 have q1:=lT i LN.length (by omega)
 have w3:=wS i (by omega)
 have aQ7:IxO E K V L b1 b2 b3 b4 m1 s.H:=⟨aS _ _ GP.m1,aS _ _ GP.m2,aS _ _ GP.m3,aS _ _ GP.m4⟩
 have hsc:=hsc i aV s.H aQ7
 refine tq (gQ f4 f11 f12 q1) ?_;intro Nx aB Gx aF
 refine hsc.mono ?_
 rintro d H2 ⟨bm,B,rfl,tR,hBf,pC,sQ⟩
 refine tq trivial ?_;intro Nx aB Gx aF
 refine P9 (SVI B) rfl (show(18:Nat)<33 by decide) underlying82 rfl sQ ?_
 intro r H3 JP hrb hR qS
 replace JP:H2 r=none:=JP
 replace qS:∀c,c≠bm->c≠r->H3 c=H2 c:=qS
 have aBr:H1 bm=none:=lC aS tR
 have hr1:H1 r=none:=lC (mH aS pC) JP
 have qY:H1.le H3:=fun b x hb=>by
  rw[qS b (fun e=>by rw[e,aBr] at hb;cases hb) (fun e=>by rw[e,hr1] at hb;cases hb)]
  exact pC _ _ (aS _ _ hb)
 have hBl:B.length<=n:=hBf.b.len fun e he=>(eR e he).2
 have aA2:∀q∈tW B,cE n q:=fun q hq=>by obtain⟨p,hp⟩:=hBf.b.in hq;exact(eR _ hp).2
 have TF:Gl H1 48 2 (S.map pD) (s.fr 3) H3 ob:=hg.fS fun c hc=>by
  rcases hg with⟨h,_⟩|⟨c',o,h1,h2,h3,h4⟩
  ·rw[h] at hc;cases hc
  ·rw[hc] at h1;injection h1 with h1;subst h1
   rw[qS c (fun e=>by rw[e,tR] at h4;cases h4) (fun e=>by rw[e] at h4;have:=pC _ _ h4;rw[JP] at this;cases this)]
   exact(pC _ _ h4).trans h4.symm
 refine aB _ ?_
 refine tq trivial ?_;intro Nx aB Gx aF
 refine pZ (fun k s=>∃(kO dn:List (Int×Int)) (ob:Option Nat),k=kO.length/\s.df=[]/\s.fr 4=X/\s.fr 11=i64 LN.length/\s.fr 12=i64 i/\s.fr 5=i64 i/\s.fr 18=.val (.pointer (some ⟨r,0,none⟩))/\TP s.H bm r (SVI kO)/\H1.le s.H/\(dn++kO).Perm B/\Gl H1 48 2 ((S++(tW dn).map fun q=>((i:Int),q)).map pD) (s.fr 3) s.H ob) B.length ⟨B,[],ob,rfl,aT,f4,f11,f12,rfl,rfl,hR,qY,List.Perm.refl _,(by show Gl H1 _ 2 ((S++(tW []).map _).map pD) (s.fr 3) H3 ob;simpa [tW] using TF)⟩ ?_
 clear TF qY hR qS JP sQ pC tR hsc aQ7 hg aS f12 f11 f4 aT
 clear s ob
 rintro k s ⟨kO,dn,ob,rfl,aT,f4,f11,f12,f5,f18,hR,aS,hp,hg⟩
 refine tq f18 ?_;intro Nx aB Gx aF
 refine IX rfl (show(19:Nat)<33 by decide) f18 hR (fun YH=>?_) (fun l1 p l2 H7 YH hR7 hE7 hk7=>?_)
 ·have T6:kO=[]:=by
   cases kO with
   |nil=>rfl
   |cons a l=>cases YH
  subst T6
  rw[iJ] at hp
  (have fs:=trivial;refine qK ?_;try clear fs);(first|refine aF _ ?_|refine aB _ ?_|skip)
  refine tq (dG f12 w3) ?_;intro Nx aB Gx aF
  exact⟨aV,aT,f4,f11,rfl,aS,_,ob,hS.step aV hBf hBl (hp.map _),hg⟩
 ·obtain⟨t1,t2',e1,e2,e3⟩:=KM.1 YH
  obtain⟨b,t2,e4,e5,e6⟩:=KQ.1 e3
  subst e1 e4 e2 e6 e5
  have VJ:((dn++[b])++(t1++t2)).Perm B:=by
   refine List.Perm.trans ?_ hp
   rw[iR]
   exact PN _ (P2 (l₁:=t1) (l₂:=t2) (a:=b)).symm
  have hR4:TP H7 bm r (SVI (t1++t2)):=by
   have:SVI (t1++t2)=SVI t1++SVI t2:=cQ
   rw[this];exact hR7
  obtain⟨y7,hy7⟩:=hR4.obj
  obtain⟨z7,hz7⟩:=hR4.map
  have YB:H1.le H7:=fun c x hc=>by
   rw[hk7 c (fun e=>by rw[e,hr1] at hc;cases hc)];exact aS _ _ hc
  have aOR:∀c o,H7 c=some (.obj o)->ob≠some c:=fun c o hc e=>by
   rcases hg with⟨h,_⟩|⟨c',o',h1,h2,h3,h4⟩
   ·rw[h] at e;cases e
   ·rw[e] at h1;injection h1 with h1;subst h1
    by_cases ecr:c=r
    ·obtain⟨y,hy⟩:=hR.obj
     rw[ecr,hy] at h4;cases h4
    ·rw[hk7 c ecr,h4] at hc;cases hc
  have hg7:Gl H1 48 2 ((S++(tW dn).map fun q=>((i:Int),q)).map pD) (s.fr 3) H7 ob:=hg.fS fun c hc=>hk7 c fun e=>aOR r y7 hy7 (by rw[hc,e])
  have hbq:=aA2 b.1 (rL.2 ⟨b.2,VJ.mem_iff.1 (by simp)⟩)
  have hdl:=VJ.length_eq
  have hSl:=hS.len
  have xY:i * n<=10000 * 300:=pW (by omega) hn
  simp only[bN,wB] at hdl
  (have fs:=trivial;refine qK ?_;try clear fs);(first|refine aF _ ?_|refine aB _ ?_|skip)
  refine tq trivial ?_;intro Nx aB Gx aF
  refine DZ rfl (show(21:Nat)<33 by decide) (by exact f18) hE7 ?_
  obtain⟨x3,hx3⟩:∃x3,x3=s.fr 3:=⟨_,rfl⟩
  rw[<-hx3] at hg7
  (have fs:=f5;refine qK ?_;try clear fs);(first|refine aF _ ?_|refine aB _ ?_|skip)
  refine tq f5 ?_;intro Nx aB Gx aF
  rw[<-hx3]
  refine dD (e:=48) vY rfl vY rfl ML rfl (by decide) YB hg7 (new:=[pD ((i:Int),b.1)]) (by exact⟨rfl,rfl⟩) (by simp only[bC,bN,tW,wB];omega) fun d H6 oG j6 eM nJ=>?_
  have k1:=nJ _ _ hz7 (aOR _ _ hz7)
  have k2:=nJ _ _ hy7 (aOR _ _ hy7)
  have e:(S++(tW (dn++[b])).map fun q=>((i:Int),q)).map pD=(S++(tW dn).map fun q=>((i:Int),q)).map pD++[pD ((i:Int),b.1)]:=by simp [tW]
  rw[<-e] at j6
  refine tq trivial ?_;intro Nx aB Gx aF
  exact⟨_,by show(t1++t2).length<(t1++b::t2).length;rw[bN,bN,eO];omega,t1++t2,dn++[b],oG,rfl,aT,f4,f11,f12,f5,f18,hR4.fS (k1.1.trans hz7.symm) (k2.1.trans hy7.symm),eM,VJ,j6⟩
def aPf (g:FuncId) (eL:List D) (p:Int×Int->Bool) (l:List (Int×Int)) (P:aC->Prop):Prop:=∀y∈l,∀H,P H->bE prog g (.agg [i64 y.1,i64 y.2]::eL) H fun d H'=>d=.val (.bool (p y))/\H=H'
theorem aO0 {g:FuncId} {eL:List D} {p:Int×Int->Bool} {P:aC->Prop} {H:aC} {b o:Nat} {T:TypeId} {l:List (Int×Int)} (hg:aPf g eL p l P) (hP:P H) (hb:H b=some (.row T o 2 (l.map pD))) (hl:l.length<=1000000000):
  bE prog 100 [.os b o 2 0 l.length,.fn g eL] H fun d H'=>∃r:Int,d=i64 r/\H=H'/\((r= -1/\∀y∈l,p y=false)\/∃(j:Nat) (h:j<l.length),r=j/\p l[j]=true/\∀y∈l.take j,p y=false):=by
 have dX:=lm pD l
 refine aQ _ _ func100 rfl rfl ntmps100 results100 (by simp) fun w0 g0 Q aD=>?_
 refine tq trivial ?_;intro Nx aB Gx aF
 refine aZ l.length (fun i s=>s.df=[]/\s.fr 0=.os b o 2 0 l.length/\s.fr 1=.fn g eL/\s.fr 7=i64 l.length/\s.fr 8=i64 i/\s.H=H/\∀y∈l.take i,p y=false) ⟨rfl,rfl,rfl,rfl,rfl,rfl,by simp⟩ ?_
 rintro i s hi ⟨aT,f0,f1,f7,f8,hH,yJ⟩
 have hx:=bI i
 have cJ:=bM i
 by_cases aV:i<l.length
 case neg=>
  have q1:=lF i l.length (by omega)
  rw[cW (by omega)] at yJ
  refine tq (eA f7 f8 q1) ?_;intro Nx aB Gx aF
  refine rt aD aT ?_
  exact⟨_,aG _,-1,rfl,hH.symm,.inl ⟨rfl,yJ⟩⟩
 have cC:(i:Int)<(l.length:Int):=by omega
 have q1:((i:Int)<(l.length:Int))=True:=aK cC
 have w3:=wS i (by omega)
 have cD:=mU aV
 have pY:l.take (i+1)=l.take i++[l[i]]:=dH aV
 have BB:=hg l[i] (bU _) H hP
 obtain⟨y,hy⟩:∃y,y=l[i]:=⟨_,rfl⟩
 rw[<-hy] at cD pY BB
 have B7:s.H b=some (.row T o 2 (l.map pD)):=by rw[hH];exact hb
 rw[<-hH] at BB
 refine tq (rQ f0 f1 f7 f8 q1 B7 cD hx cJ aV cC) ?_;intro Nx aB Gx aF
 refine BB.mono ?_
 rintro d _ ⟨rfl,rfl⟩
 cases hp:p y with
 |true=>
  refine tq trivial ?_;intro Nx aB Gx aF
  refine rt aD aT ?_
  exact⟨_,aG _,i,rfl,hH.symm,.inr ⟨i,aV,rfl,by rw[<-hy];exact hp,yJ⟩⟩
 |false=>
  refine tq (dG f8 w3) ?_;intro Nx aB Gx aF
  exact⟨aV,aT,f0,f1,f7,rfl,hH,fun z hz=>by
   rw[pY] at hz
   rcases bV.1 hz with h|h
   ·exact yJ z h
   ·rw[cR.1 h];exact hp⟩
def GF (p:Int×Int->Bool) (l:List (Int×Int)):List (Int×Int):=l.filter fun y=> !p y
theorem aN9 {g:FuncId} {eL:List D} {p:Int×Int->Bool} {P:aC->Prop} {H:aC} {b o:Nat} {T:TypeId} {l:List (Int×Int)} (hg:aPf g eL p l P) (hP:∀els,P (H.bH b (.row T o 2 els))) (hb:H b=some (.row T o 2 (l.map pD))) (hl:l.length<=1000000000):
  bE prog 48 [.os b o 2 0 l.length,.fn g eL] H fun d H'=>d=.os b o 2 0 (GF p l).length/\H'=H.bH b (.row T o 2 ((GF p l).map pD)):=by
 have hP0:P H:=by have:=hP (l.map pD);rwa[tD hb] at this
 have GP:=aO0 hg hP0 hb hl
 refine aQ _ _ func48 rfl rfl ntmps48 results48 (by simp) fun w0 g0 Q aD=>?_
 refine tq trivial ?_;intro Nx aB Gx aF
 refine GP.mono ?_
 rintro d _ ⟨r,rfl,rfl,hr⟩
 rcases hr with⟨rfl,yJ⟩|⟨j0,hj0,rfl,hp0,yJ⟩
 ·have e:GF p l=l:=PR.2 fun y hy=>by rw[yJ y hy];rfl
  refine tq trivial ?_;intro Nx aB Gx aF
  refine rt aD trivial ?_
  exact⟨_,aG _,by rw[e],by rw[e,tD hb]⟩
 have q0:((j0:Int)= -1)=False:=aI (by omega)
 have w0:=wS j0 (by omega)
 refine tq (dG q0 w0) ?_;intro Nx aB Gx aF
 have hf0:GF p (l.take (j0+1))=l.take j0:=by
  unfold GF
  rw[dH hj0,tM,PR.2 fun y hy=>by rw[yJ y hy];rfl]
  simp [hp0]
 refine pZ (fun k s=>∃(j i:Nat) (L:List (Int×Int)),k=l.length - j/\j<=l.length/\s.df=[]/\s.fr 0=.os b o 2 0 l.length/\s.fr 1=.fn g eL/\s.fr 5=i64 i/\s.fr 6=i64 j/\s.H=H.bH b (.row T o 2 (L.map pD))/\L.length=l.length/\i<j/\i=(GF p (l.take j)).length/\L.take i=GF p (l.take j)/\L.drop j=l.drop j) (l.length - (j0+1)) ⟨j0+1,j0,l,rfl,by omega,rfl,rfl,rfl,rfl,rfl,(tD hb).symm,rfl,by omega,by rw[hf0,dU];omega,by rw[hf0],rfl⟩ ?_
 rintro k s ⟨j,i,L,rfl,fQ,aT,f0,f1,f5,f6,hH,DB,hij,hi,ht,hd⟩
 have hx:=bI j
 have cJ:=bM j
 have hxi:=bI i
 have h0i:=bM i
 have M9:s.H b=some (.row T o 2 (L.map pD)):=by rw[hH,aO]
 have hLm:=lm pD L
 by_cases hjn:j<l.length
 case neg=>
  have q1:=lF j l.length (by omega)
  have g1:(i:Int)<=(l.length:Int):=by omega
  have g2:i<=L.length:=by omega
  have e9:l.take j=l:=cW (by omega)
  rw[e9] at hi ht
  refine tq (nN f0 f5 f6 q1 g1 g2 M9 hxi h0i hLm) ?_;intro Nx aB Gx aF
  refine rt aD aT ?_
  exact⟨_,aG _,by rw[hi,KZ],by rw[<-qB,ht,hH,oW]⟩
 have aQ8:(j:Int)<(l.length:Int):=by omega
 have q1:((j:Int)<(l.length:Int))=True:=aK aQ8
 have w3:=wS j (by omega)
 have w4:=wS i (by omega)
 have pY:l.take (j+1)=l.take j++[l[j]]:=dH hjn
 have hd0:L[j]?=some l[j]:=by
  have:=cS (·[0]?) hd
  simp only[wX,u6,bX hjn] at this
  exact this
 have X5:(L.map pD)[j]?=some (pD l[j]):=by rw[dN,hd0];rfl
 have OU:L.drop (j+1)=l.drop (j+1):=by
  rw[<-zU,hd,zU]
 have BB:=hg l[j] (bU _)
 obtain⟨y,hy⟩:∃y,y=l[j]:=⟨_,rfl⟩
 rw[<-hy] at X5 pY BB
 simp only[pD] at X5
 refine tq (nN f0 f6 q1 M9 X5 hx cJ hjn aQ8 hLm) ?_;intro Nx aB Gx aF
 intro c7 EG
 refine aB _ ?_
 refine fZ 7 EG ?_
 have LS:=BB s.H (by rw[hH];exact hP _)
 refine tq f1 ?_;intro Nx aB Gx aF
 refine LS.mono ?_
 rintro d _ ⟨rfl,hHe⟩
 cases hp:p y with
 |true=>
  have e1:GF p (l.take (j+1))=GF p (l.take j):=by
   unfold GF
   rw[pY,tM,FZ (by rw[hp];simp)]
   simp
  refine tq (dG f6 w3) ?_;intro Nx aB Gx aF
  exact⟨_,by show l.length - (j+1)<l.length - j;omega,j+1,i,L,rfl,by omega,aT,f0,f1,f5,rfl,hHe▸hH,DB,by omega,by rw[e1];exact hi,by rw[e1];exact ht,OU⟩
 |false=>
  have e1:GF p (l.take (j+1))=GF p (l.take j)++[y]:=by
   unfold GF
   rw[pY,tM,FY (by rw[hp];simp)]
   simp
  have aV:i<L.length:=by omega
  have cC:(i:Int)<(l.length:Int):=by omega
  have aQX:(L.map pD)[i]?=some [i64 L[i].1,i64 L[i].2]:=fY aV
  subst hHe
  refine tq (nN f0 f5 f6 w3 w4 M9 hxi h0i cC aQX) ?_;intro Nx aB Gx aF
  have e2:(L.map pD).set i [i64 y.1,i64 y.2]=(L.set i y).map pD:=(K1 ..).symm
  refine⟨_,by show l.length - (j+1)<l.length - j;omega,j+1,i+1,L.set i y,rfl,by omega,aT,f0,f1,rfl,rfl,?_,by rw[wD];exact DB,by omega,by rw[e1,bN,<-hi] <;> rfl,?_,?_⟩
  ·show s.H.bH b _=_
   rw[hH,oW,<-e2];rfl
  ·rw[e1,<-ht,dH (by rw[wD];exact aV),List.getElem_set_self,List.take_set_of_le (dI _)]
  ·rw[List.drop_set_of_lt (by omega)];exact OU
end Go.Proofs.YtfiipaodjpiooaaGreatDoor

