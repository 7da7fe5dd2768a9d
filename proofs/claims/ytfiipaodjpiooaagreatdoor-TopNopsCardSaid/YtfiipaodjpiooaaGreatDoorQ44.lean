/- Lemmas and contracts of functions, several texts in one. -/
import Derived.Test.YtfiipaodjpiooaaGreatDoorQ39
import Derived.Test.YtfiipaodjpiooaaGreatDoorQ36
import Derived.Test.YtfiipaodjpiooaaGreatDoorQ38
import Derived.Test.YtfiipaodjpiooaaGreatDoorQ37
set_option maxRecDepth 100000
set_option maxHeartbeats 4000000
set_option linter.all false
namespace Go.Proofs.YtfiipaodjpiooaaGreatDoor
open Go.RowKit
def nG (G:Gr):Gr:=G.map fun x=>(x.1+1,x.2)
theorem yB (G:Gr):(nG G).length=G.length:=bC _
theorem AF {G:Gr} {i:Nat} (h:i<G.length):(nG G)[i]'(by rw[yB];exact h)=(G[i].1+1,G[i].2):=by simp only[nG,zQ]
theorem yA (G:Gr):∀i,i<=G.length->cY (nG G) i=cY G i+i
 |0,_=>rfl
 |i+1,h=>by
  rw[mT (by rw[yB];omega),AF (by omega),yA G i (by omega),mT (by omega)]
  simp only
  omega
theorem aOu (G:Gr):bZ (nG G)=bZ G+G.length:=by
 have:=yA G G.length (dI _)
 rwa[nS (by rw[yB];exact dI _),nS (dI _)] at this
def Sh (G:Gr) (p q:Int):Prop:=∃i k,At G p i k/\q=p+i+1
def Np (G:Gr) (q:Int) (i:Nat):Prop:=i<G.length/\q=(cY G i:Int)+i
theorem UZ {G:Gr} {p:Int} {i k:Nat} (h:At G p i k):At (nG G) (p+i+1) i (k+1):=by
 obtain⟨h1,h2,h3⟩:=h
 refine⟨by rw[yB];exact h1,by rw[AF h1];simp only;omega,?_⟩
 rw[yA G i (by omega)];omega
theorem aAD {G:Gr} {q:Int} {i:Nat} (h:Np G q i):At (nG G) q i 0:=by
 obtain⟨h1,h2⟩:=h
 exact⟨by rw[yB];exact h1,oD _,by rw[yA G i (by omega)];omega⟩
theorem aPn {G:Gr} {q:Int} {i k:Nat} (h:At (nG G) q i k):(k=0/\Np G q i)\/∃j,k=j+1/\At G (q - i - 1) i j:=by
 obtain⟨h1,h2,h3⟩:=h
 have h4:i<G.length:=by rw[yB] at h1;exact h1
 rw[AF h4] at h2
 rw[yA G i (by omega)] at h3
 simp only at h2
 cases k with
 |zero=>exact .inl ⟨rfl,h4,by omega⟩
 |succ j=>exact .inr ⟨j,rfl,h4,by omega,by omega⟩
theorem aMq {G:Gr} {q:Int} (h0:0<=q) (h:q<bZ (nG G)):(∃p,Sh G p q)\/∃i,Np G q i:=by
 obtain⟨i,k,hk⟩:=LG.2 ⟨h0,h⟩
 rcases aPn hk with⟨_,h2⟩|⟨j,_,h2⟩
 ·exact .inr ⟨i,h2⟩
 ·exact .inl ⟨_,i,j,h2,by omega⟩
theorem aCf {G:Gr} {p p' q:Int} (h:Sh G p q) (h':Sh G p' q):p=p':=by
 obtain⟨i,k,h1,h2⟩:=h
 obtain⟨j,l,h3,h4⟩:=h'
 have h5:=UZ h1
 have h6:=UZ h3
 rw[<-h2] at h5
 rw[<-h4] at h6
 obtain⟨rfl,_⟩:=h5.uniq h6
 omega
theorem aI8 {G:Gr} {p q q':Int} (h:Sh G p q) (h':Sh G p q'):q=q':=by
 obtain⟨i,k,h1,h2⟩:=h
 obtain⟨j,l,h3,h4⟩:=h'
 obtain⟨rfl,_⟩:=h1.uniq h3
 omega
theorem aBP {G:Gr} {p q:Int} {i:Nat} (h:Sh G p q) (h':Np G q i):False:=by
 obtain⟨j,k,h1,h2⟩:=h
 have h5:=UZ h1
 rw[<-h2] at h5
 have:=(h5.uniq (aAD h')).2
 omega
theorem aHt {G:Gr} {q:Int} {i j:Nat} (h:Np G q i) (h':Np G q j):i=j:=((aAD h).uniq (aAD h')).1
theorem XT {G:Gr} {q q':Int} {i:Nat} (h:Np G q i):P6 (nG G) q q'↔q'=q+1:=by
 rw[B6 (aAD h)]
 obtain⟨h1,h2⟩:=h
 unfold Suc
 constructor
 ·rintro⟨h3,⟨_,h5⟩|⟨h4,_⟩⟩
  ·rw[yA G i (by omega)] at h5;omega
  ·rw[AF h1] at h4;simp only at h4;omega
 ·intro h3
  refine⟨by rw[yB];exact h1,.inl ⟨by rw[AF h1];simp only;omega,?_⟩⟩
  rw[yA G i (by omega)];omega
theorem FE {G:Gr} {q:Int} {i:Nat} (h:Np G q i):Sh G (cY G i) (q+1):=by
 obtain⟨h1,h2⟩:=h
 exact⟨i,0,⟨h1,oD _,by omega⟩,by omega⟩
theorem aGi {G:Gr} {p q q':Int} (h:Sh G p q) (hf:P6 (nG G) q q'):(∃p',Sh G p' q'/\P6 G p p')\/∃t:Nat,Np G q' t/\P6 G p (cY G t):=by
 obtain⟨i,k,h1,h2⟩:=h
 have h5:=UZ h1
 rw[<-h2] at h5
 rw[B6 h5] at hf
 obtain⟨a1,a2,a3⟩:=id h1
 obtain⟨h3,⟨h4,h6⟩|⟨h4,t,ht,h7,h8,h9⟩⟩:=hf
 ·rw[AF a1] at h4
  rw[yA G i (by omega)] at h6
  simp only at h4
  exact .inl ⟨p+1,⟨i,k+1,⟨a1,by omega,by omega⟩,by omega⟩,(B6 h1).2 ⟨a1,.inl ⟨by omega,by omega⟩⟩⟩
 ·rw[AF a1] at h4 ht
  rw[yB] at h8
  rw[yA G t.toNat (by omega)] at h9
  simp only at h4 ht
  exact .inr ⟨t.toNat,⟨by omega,by omega⟩,(B6 h1).2 ⟨a1,.inr ⟨by omega,t,ht,h7,h8,rfl⟩⟩⟩
theorem aGj {G:Gr} {p q p':Int} (h:Sh G p q) (hf:P6 G p p'):(∃q',Sh G p' q'/\P6 (nG G) q q')\/∃(t:Nat) (q':Int),p'=cY G t/\Np G q' t/\P6 (nG G) q q':=by
 obtain⟨i,k,h1,h2⟩:=h
 have h5:=UZ h1
 rw[<-h2] at h5
 rw[B6 h1] at hf
 obtain⟨a1,a2,a3⟩:=id h1
 obtain⟨h3,⟨h4,h6⟩|⟨h4,t,ht,h7,h8,h9⟩⟩:=hf
 ·refine .inl ⟨q+1,⟨i,k+1,⟨a1,by omega,by omega⟩,by omega⟩,(B6 h5).2 ⟨by rw[yB];exact a1,.inl ⟨by rw[AF a1];simp only;omega,?_⟩⟩⟩
  rw[yA G i (by omega)];omega
 ·refine .inr ⟨t.toNat,(cY G t.toNat:Int)+t.toNat,h9,⟨by omega,rfl⟩,(B6 h5).2 ⟨by rw[yB];exact a1,.inr ⟨by rw[AF a1];simp only;omega,t,by rw[AF a1];exact ht,h7,by rw[yB];exact h8,?_⟩⟩⟩
  rw[yA G t.toNat (by omega)];omega
theorem sX (b:cT):dK (oR b)=nG (dK b):=by
 unfold dK nG oR
 show List.map _ (b.bl.map yR)=_
 rw[oZ,oZ]
 rfl
theorem aGJ (b:cT) {i:Nat} (h:i<(oR b).bl.length):(oR b).bl[i]=yR (b.bl[i]'(by have:(oR b).bl.length=b.bl.length:=bC _;omega)):=zQ _
theorem aDg (b:cT):(oR b).bl.length=b.bl.length:=bC _
theorem LF {b:cT} {p q:Int} {x:mP} {k:Nat} (h:MS b p x k) (hs:Sh (dK b) p q):MS (oR b) q (yR x) (k+1):=by
 obtain⟨i,hi,h1,rfl⟩:=h
 obtain⟨j,l,h2,h3⟩:=hs
 obtain⟨rfl,rfl⟩:=h1.uniq h2
 refine⟨i,by rw[aDg];exact hi,?_,(aGJ b _).symm⟩
 rw[sX,h3];exact UZ h1
theorem W0 {b:cT} {p q:Int} {y:mP} {k:Nat} (h:MS (oR b) q y k) (hs:Sh (dK b) p q):∃x j,y=yR x/\k=j+1/\MS b p x j:=by
 obtain⟨i,k',h2,h3⟩:=hs
 have hi:i<b.bl.length:=by obtain⟨h4,_⟩:=h2;rw[jR] at h4;exact h4
 obtain⟨h5,h6⟩:=h.uniq (LF ⟨i,hi,h2,rfl⟩ ⟨i,k',h2,h3⟩)
 exact⟨_,k',h5,h6,i,hi,h2,rfl⟩
theorem W3 {b:cT} {q:Int} {i:Nat} (h:Np (dK b) q i):∃x,MS (oR b) q (yR x) 0:=by
 have hi:i<b.bl.length:=by have:=h.1;rw[jR] at this;exact this
 exact⟨b.bl[i],i,by rw[aDg];exact hi,by rw[sX];exact aAD h,(aGJ b _).symm⟩
theorem aJs (x:mP):ZZ (yR x) 0=none:=rfl
theorem aMi {b:cT} {q x:Int} (h:GZ (oR b) q x):(∀p,Sh (dK b) p q->GZ b p x)/\∀i,Np (dK b) q i->GZ b (cY (dK b) i) x:=by
 induction h with
 |use h1 h2=>
  refine⟨fun p hs=>?_,fun i hn=>?_⟩
  ·obtain⟨y,j,rfl,rfl,h3⟩:=W0 h1 hs
   exact .use h3 h2
  ·obtain⟨y,h3⟩:=W3 hn
   obtain⟨rfl,rfl⟩:=h1.uniq h3
   cases h2
 |step h1 h2 h3 _ ih=>
  rw[sX] at h3
  refine⟨fun p hs=>?_,fun i hn=>?_⟩
  ·obtain⟨y,j,rfl,rfl,h4⟩:=W0 h1 hs
   rcases aGi hs h3 with⟨p',h5,h6⟩|⟨t,h5,h6⟩
   ·exact .step h4 h2 h6 (ih.1 _ h5)
   ·exact .step h4 h2 h6 (ih.2 _ h5)
  ·rw[XT hn] at h3
   exact ih.1 _ (h3▸FE hn)
theorem aMj {b:cT} {q x:Int} {i:Nat} (hn:Np (dK b) q i) (h:GZ (oR b) (q+1) x):GZ (oR b) q x:=by
 obtain⟨y,h3⟩:=W3 hn
 refine .step h3 (by rw[aJs];simp) ?_ h
 rw[sX];exact(XT hn).2 rfl
theorem aMk {b:cT} {p x:Int} (h:GZ b p x):∀q,Sh (dK b) p q->GZ (oR b) q x:=by
 induction h with
 |use h1 h2=>exact fun q hs=>.use (LF h1 hs) h2
 |step h1 h2 h3 _ ih=>
  intro q hs
  rcases aGj hs h3 with⟨q',h5,h6⟩|⟨t,q',rfl,h5,h6⟩
  ·exact .step (LF h1 hs) h2 (by rw[sX];exact h6) (ih _ h5)
  ·exact .step (LF h1 hs) h2 (by rw[sX];exact h6) (aMj h5 (ih _ (FE h5)))
theorem aCU {b:cT} {p q r:Int} (hs:Sh (dK b) p q):LvR (oR b) r q↔LvR b r p:=
 ⟨fun ⟨x,m,h1,h2,h3⟩=>⟨x,m,(aMi h1).1 _ hs,h2,h3⟩,fun ⟨x,m,h1,h2,h3⟩=>⟨x,m,aMk h1 _ hs,h2,h3⟩⟩
theorem aHn {b:cT} {q r:Int} {i:Nat} (hn:Np (dK b) q i):LvR (oR b) r q↔LvR b r (cY (dK b) i):=
 ⟨fun ⟨x,m,h1,h2,h3⟩=>⟨x,m,(aMi h1).2 _ hn,h2,h3⟩,fun ⟨x,m,h1,h2,h3⟩=>⟨x,m,aMj hn (aMk h1 _ (FE hn)),h2,h3⟩⟩
def uV.at (l:uV) (q:Int):uV:=⟨l.rg,q,l.mu,l.pl⟩
theorem aH6 {b:cT} {p q q0:Int} {l:uV} (hs:Sh (dK b) p q):WJ (oR b) q (l.at q0)↔WJ b p l:=by
 constructor
 ·rintro⟨y,k,h1,h2⟩
  obtain⟨x,j,rfl,rfl,h3⟩:=W0 h1 hs
  exact⟨x,j,h3,h2⟩
 ·rintro⟨x,k,h1,h2⟩
  exact⟨_,_,LF h1 hs,h2⟩
theorem aHW {b:cT} {p q q0:Int} {l:uV} (hs:Sh (dK b) p q):aB5 (oR b) q (l.at q0)↔aB5 b p l:=by
 constructor
 ·rintro⟨y,k,h1,h2⟩
  obtain⟨x,j,rfl,rfl,h3⟩:=W0 h1 hs
  exact⟨x,j,h3,h2⟩
 ·rintro⟨x,k,h1,h2⟩
  exact⟨_,_,LF h1 hs,h2⟩
theorem aOc {b:cT} {q:Int} {i:Nat} {l:uV} (hn:Np (dK b) q i):¬WJ (oR b) q l:=by
 rintro⟨y,k,h1,h2⟩
 obtain⟨x,h3⟩:=W3 hn
 obtain⟨rfl,rfl⟩:=h1.uniq h3
 cases h2
theorem aO5 {b:cT} {q:Int} {i:Nat} {l:uV} (hn:Np (dK b) q i):¬aB5 (oR b) q l:=by
 rintro⟨y,k,h1,h2⟩
 obtain⟨x,h3⟩:=W3 hn
 obtain⟨rfl,rfl⟩:=h1.uniq h3
 cases h2
theorem aIh {b:cT} {l:uV} {p q q' q0:Int} (hs:Sh (dK b) p q) (h:Stp (oR b) (l.at q0) q q'):(∃p',Sh (dK b) p' q'/\Stp b l p p')\/∃t:Nat,Np (dK b) q' t/\Stp b l p (cY (dK b) t):=by
 obtain⟨h1,h2,h3⟩:=h
 rw[sX] at h2
 have h4:¬WJ b p l:=fun h=>h1 ((aH6 hs).2 h)
 rcases aGi hs h2 with⟨p',h5,h6⟩|⟨t,h5,h6⟩
 ·exact .inl ⟨p',h5,h4,h6,(aCU h5).1 h3⟩
 ·exact .inr ⟨t,h5,h4,h6,(aHn h5).1 h3⟩
theorem aPK {b:cT} {l:uV} {q0 q:Int} (h0:Sh (dK b) l.pt q0) (h:Scp (oR b) (l.at q0) q):(∀p,Sh (dK b) p q->Scp b l p)/\∀i,Np (dK b) q i->Scp b l (cY (dK b) i):=by
 induction h with
 |one h=>
  rcases aIh h0 h with⟨p',h5,h6⟩|⟨t,h5,h6⟩
  ·exact⟨fun p hs=>aCf h5 hs▸ .one h6,fun i hn=>(aBP h5 hn).elim⟩
  ·exact⟨fun p hs=>(aBP hs h5).elim,fun i hn=>aHt h5 hn▸ .one h6⟩
 |step h1 h2 ih=>
  have hl:=h1.lt
  rw[sX] at hl
  rcases aMq hl.1 hl.2 with⟨p1,hs1⟩|⟨i1,hn1⟩
  ·have h3:=ih.1 _ hs1
   rcases aIh hs1 h2 with⟨p',h5,h6⟩|⟨t,h5,h6⟩
   ·exact⟨fun p hs=>aCf h5 hs▸ .step h3 h6,fun i hn=>(aBP h5 hn).elim⟩
   ·exact⟨fun p hs=>(aBP hs h5).elim,fun i hn=>aHt h5 hn▸ .step h3 h6⟩
  ·have h3:=ih.2 _ hn1
   have h4:=h2.2.1
   rw[sX,XT hn1] at h4
   subst h4
   exact⟨fun p hs=>aCf (FE hn1) hs▸h3,fun i hn=>(aBP (FE hn1) hn).elim⟩
theorem aI4 {b:cT} {l:uV} {q0 p p' q q':Int} (hs:Sh (dK b) p q) (hs':Sh (dK b) p' q') (h:Stp b l p p'):Stp (oR b) (l.at q0) q q'\/∃r,Stp (oR b) (l.at q0) q r/\Stp (oR b) (l.at q0) r q':=by
 obtain⟨h1,h2,h3⟩:=h
 have h4:¬WJ (oR b) q (l.at q0):=fun h=>h1 ((aH6 hs).1 h)
 rcases aGj hs h2 with⟨r,h5,h6⟩|⟨t,r,rfl,h5,h6⟩
 ·rw[aI8 hs' h5]
  exact .inl ⟨h4,by rw[sX];exact h6,(aCU h5).2 h3⟩
 ·refine .inr ⟨r,⟨h4,by rw[sX];exact h6,(aHn h5).2 h3⟩,aOc h5,?_,(aCU hs').2 h3⟩
  rw[sX,XT h5];exact aI8 hs' (FE h5)
theorem aMp {b:cT} {p:Int} (h:0<=p/\p<bZ (dK b)):∃q,Sh (dK b) p q:=by
 obtain⟨i,k,hk⟩:=LG.2 h
 exact⟨_,i,k,hk,rfl⟩
theorem aPM {b:cT} {l:uV} {q0 p:Int} (h0:Sh (dK b) l.pt q0) (h:Scp b l p):∀q,Sh (dK b) p q->Scp (oR b) (l.at q0) q:=by
 induction h with
 |one h=>
  intro q hs
  rcases aI4 (q0:=q0) h0 hs h with h3|⟨r,h3,h4⟩
  ·exact .one h3
  ·exact .step (.one h3) h4
 |step h1 h2 ih=>
  intro q hs
  obtain⟨q1,hs1⟩:=aMp h1.lt
  rcases aI4 (q0:=q0) hs1 hs h2 with h3|⟨r,h3,h4⟩
  ·exact .step (ih _ hs1) h3
  ·exact .step (.step (ih _ hs1) h3) h4
noncomputable def shf (G:Gr) (p:Int):Int:=match aFR G p with
 |some (i,_)=>p+i+1
 |none=>p
theorem IE {G:Gr} {p:Int} {i k:Nat} (h:At G p i k):shf G p=p+i+1:=by unfold shf;rw[aDn h]
theorem aI9 {G:Gr} {p q:Int} (h:Sh G p q):q=shf G p:=by
 obtain⟨i,k,h1,h2⟩:=h
 rw[IE h1,h2]
theorem aDk {b:cT} {i:Nat} (hi:i<b.bl.length):∀(l:List EZ) (k:Nat),k+l.length=b.bl[i].st.length->DD ((cY (dK b) i:Int)+k+i+1) l=(DD ((cY (dK b) i:Int)+k) l).map fun z=>z.at (shf (dK b) z.pt)
 |[],_,_=>rfl
 |s::l,k,h=>by
  rw[eO] at h
  have ih:=aDk hi l (k+1) (by omega)
  have e1:(cY (dK b) i:Int)+(k+1:Nat)+i+1=(cY (dK b) i:Int)+k+i+1+1:=by omega
  have e2:(cY (dK b) i:Int)+(k+1:Nat)=(cY (dK b) i:Int)+k+1:=by omega
  rw[e1,e2] at ih
  rw[DD,DD,cQ,ih]
  congr 1
  have ha:At (dK b) ((cY (dK b) i:Int)+k) i k:=⟨by rw[jR];exact hi,by rw[sW hi];simp only;omega,rfl⟩
  unfold VQ
  split
  ·rw[List.map_singleton]
   unfold uV.at
   rw[IE ha]
  ·rfl
theorem aDi {b:cT}:∀(l:List mP) (i:Nat),b.bl.drop i=l->L4 ((cY (dK b) i:Int)+i) (l.map yR)=(L4 (cY (dK b) i) l).map fun z=>z.at (shf (dK b) z.pt)
 |[],_,_=>rfl
 |x::l,i,h=>by
  have hi:i<b.bl.length:=jO fun hn=>by rw[eT (by omega)] at h;cases h
  rw[eH hi] at h
  injection h with h1 h2
  have ih:=aDi l (i+1) h2
  rw[mT (by rw[jR];exact hi),sW hi,h1] at ih
  simp only at ih
  rw[eU,L4,L4,cQ]
  have e:=aDk hi x.st 0 (by rw[h1,mI])
  have e0:DD ((cY (dK b) i:Int)+i) (yR x).st=DD ((cY (dK b) i:Int)+(0:Nat)+i+1) x.st:=by
   show VQ _ YV++DD _ x.st=_
   have:VQ ((cY (dK b) i:Int)+i) YV=[]:=rfl
   rw[this,gZ]
   congr 1
  rw[e0,e]
  have e1:((cY (dK b) i+x.st.length+1:Nat):Int)+(i+1:Nat)=(cY (dK b) i:Int)+i+((yR x).st.length:Nat)+1:=by
   have:(yR x).st.length=x.st.length+1:=rfl
   rw[this];omega
  have e2:((cY (dK b) i+x.st.length+1:Nat):Int)=(cY (dK b) i:Int)+x.st.length+1:=by omega
  rw[e1,e2] at ih
  rw[ih]
  simp
theorem aHh (b:cT):mO (oR b)=(mO b).map fun z=>z.at (shf (dK b) z.pt):=aDi b.bl 0 rfl
theorem aHg {b:cT} {i:Nat} (hi:i<b.bl.length):∀(l:List EZ) (k:Nat),k+l.length=b.bl[i].st.length->∀z∈DD ((cY (dK b) i:Int)+k) l,∃j,At (dK b) z.pt i j
 |[],_,_,z,hz=>by cases hz
 |s::l,k,h,z,hz=>by
  rw[eO] at h
  rw[DD] at hz
  rcases bV.1 hz with hz|hz
  ·unfold VQ at hz
   split at hz
   ·rw[cR] at hz
    subst hz
    exact⟨k,by rw[jR];exact hi,by rw[sW hi];simp only;omega,rfl⟩
   ·cases hz
  ·exact aHg hi l (k+1) (by omega) z (by rw[show(cY (dK b) i:Int)+(k+1:Nat)=(cY (dK b) i:Int)+k+1 by omega];exact hz)
theorem aHf {b:cT}:∀(l:List mP) (i:Nat),b.bl.drop i=l->∀z∈L4 (cY (dK b) i) l,∃i k,At (dK b) z.pt i k
 |[],_,_,z,hz=>by cases hz
 |x::l,i,h,z,hz=>by
  have hi:i<b.bl.length:=jO fun hn=>by rw[eT (by omega)] at h;cases h
  rw[eH hi] at h
  injection h with h1 h2
  rw[L4] at hz
  rcases bV.1 hz with hz|hz
  ·obtain⟨j,hj⟩:=aHg hi x.st 0 (by rw[h1,mI]) z (by simpa using hz)
   exact⟨i,j,hj⟩
  ·refine aHf l (i+1) h2 z ?_
   rw[mT (by rw[jR];exact hi),sW hi,h1]
   have e2:((cY (dK b) i+x.st.length+1:Nat):Int)=(cY (dK b) i:Int)+x.st.length+1:=by omega
   simp only
   rw[e2];exact hz
theorem aMf {b:cT} {z:uV} (h:z∈mO b):∃i k,At (dK b) z.pt i k:=aHf b.bl 0 rfl z h
theorem aP8 {b:cT} {i q:Int}:VP (oR b) i q↔∃p,VP b i p/\Sh (dK b) p q:=by
 constructor
 ·rintro⟨l',h0,h1,h2,h3⟩
  rw[aHh,dN] at h1
  obtain⟨l,h4,rfl⟩:=PK.1 h1
  obtain⟨j,k,hk⟩:=aMf (iQ h4)
  have hs0:Sh (dK b) l.pt (shf (dK b) l.pt):=⟨j,k,hk,IE hk⟩
  have hl:=h2.lt
  rw[sX] at hl
  rcases aMq hl.1 hl.2 with⟨p,hs⟩|⟨i1,hn⟩
  ·exact⟨p,⟨l,h0,h4,(aPK hs0 h2).1 _ hs,(aHW hs).1 h3⟩,hs⟩
  ·exact(aO5 hn h3).elim
 ·rintro⟨p,⟨l,h0,h1,h2,h3⟩,hs⟩
  obtain⟨j,k,hk⟩:=aMf (iQ h1)
  have hs0:Sh (dK b) l.pt (shf (dK b) l.pt):=⟨j,k,hk,IE hk⟩
  exact⟨l.at (shf (dK b) l.pt),h0,by rw[aHh,dN,h1] <;> rfl,aPM hs0 h2 _ hs,(aHW hs).2 h3⟩
theorem aPN {G:Gr} {p p':Int} (h:0<=p) (h2:p<p') (h3:p'<bZ G):shf G p<shf G p':=by
 obtain⟨i,k,hk⟩:=LG.2 ⟨h,(by omega:p<bZ G)⟩
 obtain⟨j,l,hl⟩:=LG.2 ⟨(by omega:0<=p'),h3⟩
 rw[IE hk,IE hl]
 have:i<=j:=jO fun hn=>by
  obtain⟨a1,a2,a3⟩:=hk
  obtain⟨b1,b2,b3⟩:=hl
  have:=E8 (show j<i by omega) b1
  omega
 omega
theorem aJA (b:cT):rZ (oR b)=(rZ b).map fun x=>(x.1,shf (dK b) x.2):=by
 refine RS (sM _) ?_ fun x=>?_
 ·rw[CW]
  refine ZT ?_ (sM b)
  intro x y hx hy h
  rcases h with h|⟨h1,h2⟩
  ·exact .inl h
  ·exact .inr ⟨h1,aPN (oK.1 hx).lt.2.1 h2 (oK.1 hy).lt.2.2⟩
 ·rw[oK,aP8,eW]
  constructor
  ·rintro⟨p,h1,h2⟩
   exact⟨(x.1,p),oK.2 h1,by rw[<-aI9 h2]⟩
  ·rintro⟨y,h1,rfl⟩
   have h2:=oK.1 h1
   obtain⟨q,hq⟩:=aMp h2.lt.2
   exact⟨y.2,h2,by rw[<-aI9 hq];exact hq⟩
open Tryz
theorem aKt (b:cT) (p:Int) (i k:Nat) (xC:At (dK b) p i k) (H:aC) (hc:bZ (dK b)<=1000000):bE prog 12 [.agg (iS b),i64 p] H fun d H'=>d=.pG [i64 i,i64 k,.val (.bool true)]/\H=H':=by
 have h:=aOe (gB b) p H (by rw[TY];exact hc) (by have:=xC.lt;omega)
 rw[Q5,TY,O9 xC] at h
 exact h
theorem aPS {b:cT} (ts:Ts b) (hc:bZ (dK b)+b.bl.length<=60):Tb (oR b):=by
 have t:=ts.tb
 have okn:=aOz ts.ok ts.sk
 exact {
  ok:=okn
  sb:=aI2 t.sb okn fun x hx=>by
   obtain⟨y,hy,rfl⟩:=eW.1 hx
   exact t.sb.ts y hy
  ck:=aGR t.ck okn.2.2.2.2.1
  ch:=(aJj b fun x hx=>by
   have h:=ts.sk.tt
   rw[AH] at h
   have h2:=CN (f:=WB) hx
   have h3:x.st.length<=WB x:=by unfold WB;omega
   omega).trans ts.ch
  cn:=by rw[sX,aOu,jR];omega
  lc:=t.lc
  rg:=t.rg
  ar:=fun x hx=>by
   obtain⟨y,hy,rfl⟩:=eW.1 hx
   obtain⟨h1,h2⟩:=t.ar y hy
   refine⟨fun s hs=>?_,h2⟩
   rcases dJ.1 hs with rfl|hs
   ·exact⟨oD _,oD _⟩
   ·exact h1 s hs}
theorem aNS {x y:D} {P:Prop} {p:D->aC->Prop}:(∀d A,(A=aC.none/\(d=x\/(d=y/\P)))->p d A)=(p x aC.none/\(P->p y aC.none)):=propext
 ⟨fun h=>⟨h _ _ ⟨rfl,.inl rfl⟩,fun hp=>h _ _ ⟨rfl,.inr ⟨rfl,hp⟩⟩⟩,fun h d A e=>by
  obtain⟨rfl,rfl|⟨rfl,hp⟩⟩:=e
  ·exact h.1
  ·exact h.2 hp⟩
theorem evK {P Q:Prop} (hq:Q) (h:Q->P:=by intro h;simp (maxSteps:=4000000) only[vX,vB,vT,vZ,oN,kV,mmV,O6,RT,mB,jI,kW,↓nV,OS,eG,W8,QF,U2,yQ,yM,AQ,AR,sF,qE,sE,oL,D.nilPtr,D.nK,D.mY,jK,UK,U8,K3,nH,rE,fieldsOf,l3,TW,UA,UB,UC,EP,TK,D.cells,rG,W4,WW,AS,iN,iL,TS,S8,qI,YS,DG,UI,mK,TD.kX,TD.agg,ZY,DI,yN,cpV,wP,AE,AD,UD,TV,tY,BK,gK,iV,Value.oneCell',nY,nW,mR,reduceCtorEq,sB,oA,fO,fW,↓reduceIte,Nat.reduceEqDiff,Int.reduceLE,Int.reduceLT,Int.reduceNeg,Int.reduceToNat,Nat.reduceAdd,Nat.reduceMul,Nat.reduceLeDiff,Nat.reduceMod,Nat.reduceSub,Int.reduceEq,Int.reduceNe,Int.reduceAdd,Int.reduceSub,Int.reduceMul,nX,eY,eX,eN,bW,eQ,lD,fP,jC,kY,j9,jT,jU,jS,aCo,ZO,gdY,gN,St.out,sC,qC,nP,nO,oU,or_true,true_or,zV,u9,↓HI,↓ZP,BS,TX,gC,jV,oS,St.pT,↓aNS,i64];exact h):P:=h hq
structure aXg (b:cT) (c3:Nat) (i:Nat) (s:St):Prop where
 f3:s.fr 3=.ep c3 0 7 0 0
 gl:∃d6 ob,s.H c3=some (.row 28 0 7 [[cX b.nm,.seq 1 (b.rg.map sD),.seq 2 (b.ol.map pD),.seq 5 (b.ty.map cP),.seq 2 (b.lc.map mN),i64 b.ag,d6]])/\ob≠some c3/\Gl aC.none 40 7 ((b.bl.take i).map bkN) d6 s.H ob
theorem aOq (b:cT) (ok:AG b):bE prog 3 [.agg (iS b)] .none fun d _=>d=.val (.bool true):=by
 have TI:∀H1,eF prog 8 [.agg (iS b)] H1 fun d A=>A=aC.none/\(d=i64 1\/(d=i64 0/\Ts b)):=fun H1=>E2 (fun gI _=>ES b gI ok) fun gI d H' ⟨h1,h2⟩=>⟨aC.none,u7 _,by rw[<-h2];rfl,rfl,h1⟩
 have sQ:=lm jP b.bl
 unfold iS at TI ⊢
 refine aQ _ _ func3 rfl rfl ntmps3 results3 (by simp) fun w0 g0 Q aD=>?_
 refine tq trivial ?_;intro Nx aB Gx aF
 intro c1 mA
 refine aB _ ?_
 refine fZ 1 mA ?_
 refine bP ?_
 refine bP ?_
 refine WU (fun t _ d A=>if t=some 17 then (A=aC.none/\(d=i64 1\/(d=i64 0/\Ts b))) else (A=aC.none/\d=i64 (bZ (dK b)))) (by kernel_rfl) (by kernel_rfl) (by kernel_rfl) fun Nx aB=>?_
 refine PH ?_
 refine evK ?_
 refine⟨TI _,?_,fun ts=>?_⟩
 ·refine dst trivial ?_;intro Nx aB Gx aF
  show W _ _ _ _
  refine tq trivial ?_;intro Nx aB Gx aF
  refine(kQ _).mono ?_
  rintro d _ ⟨rfl,rfl⟩
  refine tq trivial ?_;intro Nx aB Gx aF
  refine rt aD trivial ?_
  exact⟨_,aG _⟩
 have X4:=ts.cn
 have l4:=ts.sk.bl
 have BC:∀H1,eF prog 9 [.agg (iS b)] H1 fun d A=>A=aC.none/\d=i64 (bZ (dK b)):=fun H1=>cF fun gI _=>aCO b gI (by omega)
 unfold iS at BC
 have w1:IntKind.i64.wrap ((bZ (dK b):Int)+(b.bl.length:Int))=(bZ (dK b):Int)+(b.bl.length:Int):=bF (by omega)
 by_cases h60:bZ (dK b)+b.bl.length<=60
 case neg=>
  have q1:((60:Int)<(bZ (dK b):Int)+(b.bl.length:Int))=True:=aK (by omega)
  refine dst (dG sQ w1) ?_;intro Nx aB Gx aF
  refine⟨BC _,?_⟩
  refine aF _ ?_
  refine dst (eA sQ w1 q1) ?_;intro Nx aB Gx aF
  show W _ _ _ _
  refine tq trivial ?_;intro Nx aB Gx aF
  refine(kQ _).mono ?_
  rintro d _ ⟨rfl,rfl⟩
  refine tq trivial ?_;intro Nx aB Gx aF
  refine rt aD trivial ?_
  exact⟨_,aG _⟩
 have q1:((60:Int)<(bZ (dK b):Int)+(b.bl.length:Int))=False:=aI (by omega)
 refine dst (dG sQ w1) ?_;intro Nx aB Gx aF
 refine⟨BC _,?_⟩
 refine aF _ ?_
 refine dst (eA sQ w1 q1) ?_;intro Nx aB Gx aF
 show W _ _ _ _
 refine tq trivial ?_;intro Nx aB Gx aF
 intro c3 j5
 refine aB _ ?_
 refine tq sQ ?_;intro Nx aB Gx aF
 refine aZ b.bl.length (fun i s=>s.df=[]/\s.fr 1=.rp [cX b.nm,.seq 1 (b.rg.map sD),.seq 2 (b.ol.map pD),.seq 5 (b.ty.map cP),.seq 2 (b.lc.map mN),i64 b.ag,.seq 7 (b.bl.map jP)]/\s.fr 32=.seq 7 (b.bl.map jP)/\s.fr 33=i64 b.bl.length/\s.fr 34=i64 i/\aXg b c3 i s) ⟨rfl,rfl,rfl,rfl,rfl,⟨rfl,_,none,aO _ _ _,by simp,iW _ _ _ _⟩⟩ ?_
 rintro i s hi ⟨aT,f1,f32,f33,f34,⟨f3,d6,ob,hc,kN,hg⟩⟩
 have hx:=bI i
 have cJ:=bM i
 by_cases aV:i<b.bl.length
 case pos=>
  have cC:(i:Int)<(b.bl.length:Int):=by omega
  have q6:((i:Int)<(b.bl.length:Int))=True:=aK cC
  have w3:=wS i (by omega)
  have cD:=aBh aV
  have ND:=aBS ts.sk _ (bU aV)
  have pY:b.bl.take (i+1)=b.bl.take i++[b.bl[i]]:=dH aV
  obtain⟨x,T7⟩:∃x,x=b.bl[i]:=⟨_,rfl⟩
  rw[<-T7] at cD ND pY
  simp only[jP] at cD
  refine to (zY f1 f3 f32 f33 f34 sQ q6 cD hx cJ aV cC) ?_;intro Nx aB Gx aF
  intro c5 lY
  refine aB _ ?_
  have h35:c3≠c5:=nZ hc lY
  have u35:∀(H:aC) (x:fK),(H.bH c5 x) c3=H c3:=fun _ _=>aN h35
  show W _ _ _ _
  refine bP ?_
  (have fs:=trivial;refine QA (5) (by kernel_rfl) ?_;refine G2 ?_;(try clear fs))
  intro c25 aNx
  have h52:c5≠c25:=nZ (aO _ _ _) aNx
  have u52:∀(H:aC) (x:fK),(H.bH c25 x) c5=H c5:=fun _ _=>aN h52
  (have fs:=u52;refine G2 ?_;clear fs)
  refine dD (e:=44) aPZ rfl aPZ rfl aUr rfl (by decide) (o8 (aG _) aNx) (.inr ⟨c25,0,rfl,rfl,aNx,aO _ _ _⟩) (els:=[aOw]) (new:=x.st.map vV) (by exact⟨rfl,rfl⟩) (by rw[bC];show(1+_) * _<=_;omega) fun d2 H2 ob2 GL pC jG=>?_
  refine aCt 42 _ _ pC (qL pC GL) ?_
  refine tq (eA f3 hc u35) ?_;intro Nx aB Gx aF
  refine dD (e:=40) aML rfl aML rfl aP1 rfl (by decide) (iY _) (hg.new lY) (new:=[bkN x]) (by exact⟨rfl,rfl⟩) (by rw[bC];show(_+1) * _<=_;have:=List.length_take_le i b.bl;omega) fun d3 H3 YX TF qY qS=>?_
  have aBv:=qS c3 _ ((u35 _ _).trans hc) kN
  have N6:=aBv.1
  have TG:=TF
  rcases TF with⟨_,_,h⟩|⟨cc,oo,_,rfl,_,_⟩
  ·simp at h
  (have fs:=N6;refine qK ?_;try clear fs);(first|refine aF _ ?_|refine aB _ ?_|skip)
  refine tq (dG f34 w3) ?_;intro Nx aB Gx aF
  refine⟨aV,aT,f1,f32,f33,rfl,f3,_,YX,aO _ _ _,aBv.2,?_⟩
  rw[pY,cQ]
  exact TG.fS fun c e=>aN fun e2=>aBv.2 (by rw[e,e2])
 have q6:=lF i b.bl.length (by omega)
 rw[cW (by omega)] at hg
 refine aBc 3 aC.none (.rp (iS (oR b))) (iY _) (by rw[f3];exact aGk (b:=b) (l:=b.bl.map yR) hc kN hg (aAF _)) ?_
 refine sR (fun s=>s.df=[]/\s.fr 1=.rp [cX b.nm,.seq 1 (b.rg.map sD),.seq 2 (b.ol.map pD),.seq 5 (b.ty.map cP),.seq 2 (b.lc.map mN),i64 b.ag,.seq 7 (b.bl.map jP)]/\s.fr 3=.rp [cX b.nm,.seq 1 (b.rg.map sD),.seq 2 (b.ol.map pD),.seq 5 (b.ty.map cP),.seq 2 (b.lc.map mN),i64 b.ag,.seq 7 ((b.bl.map yR).map jP)]/\s.fr 33=i64 b.bl.length/\s.fr 34=i64 i/\s.H=aC.none) ⟨aT,f1,rfl,f33,f34,rfl⟩ ?_
 clear aT f1 f32 f33 f34 f3 hc kN hg
 rintro s ⟨aT,f1,f3,f33,f34,hH⟩
 have gV:=fun H1=>I9 ts.tb H1
 have X2:=fun H1=>I9 (aPS ts h60) H1
 have OW:=fun p i k (h:At (dK b) p i k) H1=>aKt b p i k h H1 (by omega)
 rw[aJA] at X2
 have hV:∀x∈rZ b,∃i k,At (dK b) x.2 i k/\(x.1,shf (dK b) x.2)=(x.1,x.2+i+1):=fun x hx=>by
  have h:=(oK.1 hx).lt.2
  obtain⟨i,k,hk⟩:=LG.2 ⟨h.1,h.2⟩
  exact⟨i,k,hk,by rw[IE hk]⟩
 have hVl:(rZ b).length<=3600:=by
  have h1:=zF (VP b) (mO b).length (bZ (dK b))
  have h2:=HY b
  have h4:(mO b).length * bZ (dK b)<=60 * 60:=pW (by omega) (by omega)
  show(tO _ _ _).length<=_
  omega
 unfold iS at gV OW
 simp only[iS,oR,FT] at X2
 obtain⟨V,hVV⟩:∃V,V=rZ b:=⟨_,rfl⟩
 obtain⟨sf,hsf⟩:∃sf:Int×Int->Int×Int,sf=fun x=>(x.1,shf (dK b) x.2):=⟨_,rfl⟩
 rw[<-hVV] at gV X2 hV hVl
 rw[<-hsf] at X2
 refine tq (jE f1 f33 f34 hH q6) ?_;intro Nx aB Gx aF
 refine(gV _).mono ?_
 rintro d _ ⟨rfl,rfl⟩
 refine tq (dG f3 hH) ?_;intro Nx aB Gx aF
 refine(X2 _).mono ?_
 rintro d _ ⟨rfl,rfl⟩
 have hVm:(V.map pD).length=V.length:=bC _
 refine tq (dG hH hVm) ?_;intro Nx aB Gx aF
 have heq:=fun H1=>QY H1 (V.map sf) (V.map sf) (by rw[bC];omega)
 rw[bG rfl] at heq
 refine aZ V.length (fun i s=>s.df=[]/\s.fr 1=.rp [cX b.nm,.seq 1 (b.rg.map sD),.seq 2 (b.ol.map pD),.seq 5 (b.ty.map cP),.seq 2 (b.lc.map mN),i64 b.ag,.seq 7 (b.bl.map jP)]/\s.fr 7=i64 0/\s.fr 8=.seq 2 ((V.map sf).map pD)/\s.fr 9=i64 0/\s.fr 61=.seq 2 (V.map pD)/\s.fr 62=i64 V.length/\s.fr 63=i64 i/\∃ob,Gl aC.none 48 2 (((V.take i).map sf).map pD) (s.fr 10) s.H ob) ⟨aT,f1,rfl,rfl,rfl,rfl,rfl,rfl,none,iW _ _ _ _⟩ ?_
 clear aT f1 f3 f33 f34 hH hx cJ q6 aV hi
 rintro i s hi ⟨aT,f1,f7,f8,f9,f61,f62,f63,ob,hg⟩
 have hx:=bI i
 have cJ:=bM i
 by_cases aV:i<V.length
 case neg=>
  have q6:=lF i V.length (by omega)
  rw[cW (by omega)] at hg
  refine aCu 10 (iY _) hg fun H7 _ _=>?_
  refine sR (fun s=>s.df=[]/\s.fr 7=i64 0/\s.fr 8=.seq 2 ((V.map sf).map pD)/\s.fr 9=i64 0/\s.fr 10=.seq 2 ((V.map sf).map pD)/\s.fr 62=i64 V.length/\s.fr 63=i64 i) ⟨aT,f7,f8,f9,rfl,f62,f63⟩ ?_
  clear aT f7 f8 f9 f62 f63 hg
  rintro s ⟨aT,f7,f8,f9,f10,f62,f63⟩
  refine tq (eA f62 f63 q6) ?_;intro Nx aB Gx aF
  refine(kQ _).mono ?_
  rintro d _ ⟨rfl,rfl⟩
  refine tq (gQ f7 f8 f9 f10) ?_;intro Nx aB Gx aF
  refine(heq _).mono ?_
  rintro d _ ⟨rfl,rfl⟩
  refine tq trivial ?_;intro Nx aB Gx aF
  refine rt aD aT ?_
  exact⟨_,aG _⟩
 have cC:(i:Int)<(V.length:Int):=by omega
 have q6:((i:Int)<(V.length:Int))=True:=aK cC
 have w3:=wS i (by omega)
 have cD:(V.map pD)[i]?=some (pD V[i]):=fY aV
 have pY:V.take (i+1)=V.take i++[V[i]]:=dH aV
 obtain⟨j,k,xC,hsx⟩:=hV V[i] (bU aV)
 obtain⟨x,T7⟩:∃x,x=V[i]:=⟨_,rfl⟩
 rw[<-T7] at cD pY xC hsx
 obtain⟨a,p⟩:=x
 have DQ:=xC.lt
 have VG:j<b.bl.length:=by have:=xC.1;rwa[jR] at this
 simp only[pD] at cD
 simp only at xC hsx
 have w4:IntKind.i64.wrap (p+(j:Int))=p+(j:Int):=bF (by omega)
 have w5:IntKind.i64.wrap (p+(j:Int)+1)=p+(j:Int)+1:=bF (by omega)
 refine tq (nN f61 f62 f63 hVm q6 cD hx cJ aV cC) ?_;intro Nx aB Gx aF
 intro c12 aBt
 refine aB _ ?_
 refine fZ 12 aBt ?_
 refine tq f1 ?_;intro Nx aB Gx aF
 refine(OW _ _ _ xC _).mono ?_
 rintro d _ ⟨rfl,rfl⟩
 refine tq (dG w4 w5) ?_;intro Nx aB Gx aF
 refine dD (e:=48) vY rfl vY rfl ML rfl (by decide) (iY _) hg (new:=[[i64 a,i64 (p+j+1)]]) (by exact⟨rfl,rfl⟩) (by rw[bC,bC,dU];show(_+1) * _<=_;omega) fun d3 H3 YX TF qY qS=>?_
 refine tq (dG f63 w3) ?_;intro Nx aB Gx aF
 refine⟨aV,aT,f1,f7,f8,f9,f61,f62,rfl,YX,?_⟩
 rw[pY,cQ,cQ,hsf]
 simp only[eU,nE]
 rw[hsx,<-hsf]
 exact TF
theorem WQ (x0:X) (v0:Value) (w:World) (o0:DT.ok (DT.struct [DT.string,DT.slice 1 16 (DT.string),DT.slice 2 16 (DT.array 2 (DT.int .i64)),DT.slice 5 56 (DT.struct [DT.int .i64,DT.bool,DT.int .i64,DT.int .i64,DT.slice 1 8 (DT.int .i64)]),DT.slice 2 24 (DT.struct [DT.string,DT.int .i64]),DT.int .i64,DT.slice 7 128 (DT.struct [DT.slice 11 136 (DT.struct [DT.int .i64,DT.struct [DT.int .i64,DT.slice 2 16 (DT.struct [DT.int .i64,DT.int .i64])],DT.struct [DT.int .i64,DT.int .i64,DT.int .i64,DT.bool,DT.struct [DT.int .i64,DT.slice 2 16 (DT.struct [DT.int .i64,DT.int .i64])],DT.slice 4 48 (DT.struct [DT.int .i64,DT.struct [DT.int .i64,DT.slice 2 16 (DT.struct [DT.int .i64,DT.int .i64])],DT.int .i64])],DT.int .i64]),DT.struct [DT.int .i64,DT.slice 1 8 (DT.int .i64),DT.slice 4 48 (DT.struct [DT.int .i64,DT.struct [DT.int .i64,DT.slice 2 16 (DT.struct [DT.int .i64,DT.int .i64])],DT.int .i64]),DT.struct [DT.int .i64,DT.slice 2 16 (DT.struct [DT.int .i64,DT.int .i64])],DT.string]])]) x0) (i0:D.is w aC.none.others x0.d v0) (hG:DW w aC.none):
  Calls prog 3 #[v0] w fun e w'=>e=.returned (.bool true)/\Below w.heap.size w w':=by
 obtain⟨a,ha,YF⟩:=J2 o0
 rw[ha] at i0
 exact KI (aOq a YF) ⟨_,_,rfl,i0,rfl⟩ hG
end Go.Proofs.YtfiipaodjpiooaaGreatDoor

