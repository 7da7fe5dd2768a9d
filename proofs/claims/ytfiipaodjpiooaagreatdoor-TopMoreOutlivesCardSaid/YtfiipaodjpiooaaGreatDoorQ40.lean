/- Lemmas and contracts of functions, several texts in one. -/
import Derived.Test.YtfiipaodjpiooaaGreatDoorQ39
set_option maxRecDepth 100000
set_option maxHeartbeats 4000000
set_option linter.all false
namespace Go.Proofs.YtfiipaodjpiooaaGreatDoor
open Go.RowKit
def tgG (G:Gr):Prop:=∀x∈G,∀t∈x.2,cE G.length t
theorem D3 (G:Gr) (x:Nat×List Int) {i:Nat} (h:i<=G.length):cY (G++[x]) i=cY G i:=by
 unfold cY;rw[EW h]
theorem aNM (G:Gr):bZ (G++[(0,[])])=bZ G+1:=by rw[D9];rfl
theorem D4 {G:Gr} {x:Nat×List Int} {i:Nat} (h:i<G.length):(G++[x])[i]'(by rw[bN];omega)=G[i]:=ZS h
theorem aCz {G:Gr} {p:Int} {i k:Nat} (hp:p<bZ G):At (G++[(0,[])]) p i k↔At G p i k:=by
 constructor
 ·rintro⟨h1,h2,h3⟩
  by_cases hi:i<G.length
  ·rw[D4 hi] at h2
   rw[D3 G _ (by omega)] at h3
   exact⟨hi,h2,h3⟩
  ·rw[bN] at h1
   have:i=G.length:=by simp at h1;omega
   subst this
   rw[D3 G _ (dI _),nS (dI _)] at h3
   omega
 ·rintro⟨h1,h2,h3⟩
  exact⟨by rw[bN];omega,by rw[D4 h1];exact h2,by rw[D3 G _ (by omega)];exact h3⟩
theorem WY {G:Gr} (ht:tgG G) {p q:Int}:P6 (G++[(0,[])]) p q↔P6 G p q:=by
 constructor
 ·rintro⟨i,k,h1,h2⟩
  by_cases hi:i<G.length
  ·have hp:p<bZ G:=by
    obtain⟨a1,a2,a3⟩:=h1
    rw[D4 hi] at a2
    rw[D3 G _ (by omega)] at a3
    exact(At.lt (i:=i) (k:=k) ⟨hi,a2,a3⟩).2
   rw[aCz hp] at h1
   refine⟨i,k,h1,hi,?_⟩
   obtain⟨h3,⟨h4,h5⟩|⟨h4,t,h5,h6,h7,h8⟩⟩:=h2
   ·rw[D4 hi] at h4
    rw[D3 G _ (by omega)] at h5
    exact .inl ⟨h4,h5⟩
   ·rw[D4 hi] at h4 h5
    have h9:=ht _ (bU hi) t h5
    unfold cE at h9
    rw[D3 G _ (by omega)] at h8
    exact .inr ⟨h4,t,h5,h6,h9.2,h8⟩
  ·obtain⟨a1,a2,a3⟩:=h1
   rw[bN] at a1
   have e:i=G.length:=by simp at a1;omega
   subst e
   have eg:(G++[((0:Nat),([]:List Int))])[G.length]'(by simp)=(0,[]):=by simp
   obtain⟨h3,⟨h4,h5⟩|⟨h4,t,h5,h6,h7,h8⟩⟩:=h2
   ·rw[eg] at h4;simp only at h4;omega
   ·rw[eg] at h5;cases h5
 ·intro h
  have hp:=h.lt.1.2
  obtain⟨i,k,h1,h2⟩:=h
  refine⟨i,k,(aCz hp).2 h1,?_⟩
  obtain⟨h3,⟨h4,h5⟩|⟨h4,t,h5,h6,h7,h8⟩⟩:=h2
  ·exact⟨by rw[bN];omega,.inl ⟨by rw[D4 h3];exact h4,by rw[D3 G _ (by omega)];exact h5⟩⟩
  ·exact⟨by rw[bN];omega,.inr ⟨by rw[D4 h3];exact h4,t,by rw[D4 h3];exact h5,h6,by rw[bN];simp;omega,by rw[D3 G _ (by omega)];exact h8⟩⟩
def apD (b:cT) (x:mP):cT:=FT b (b.bl++[x])
def aPx (x:mP):Prop:=x.st=[]/\x.tm.tg=[]
section
variable {b:cT} {x:mP} (hx:aPx x) (ht:tgG (dK b))
include hx
theorem Q7:dK (apD b x)=dK b++[(0,[])]:=by
 unfold dK apD
 show List.map _ (b.bl++[x])=_
 rw[cQ,List.map_singleton,hx.1,hx.2]
 rfl
theorem D5 {p:Int} {y:mP} {k:Nat} (hp:p<bZ (dK b)):MS (apD b x) p y k↔MS b p y k:=by
 have hl:(apD b x).bl.length=b.bl.length+1:=by show(b.bl++[x]).length=_;simp
 have hg:∀{i:Nat} (h:i<b.bl.length),(apD b x).bl[i]'(by omega)=b.bl[i]:=fun h=>ZS h
 constructor
 ·rintro⟨i,hi,h1,rfl⟩
  rw[Q7 hx,aCz hp] at h1
  have hi':i<b.bl.length:=by obtain⟨h4,_⟩:=h1;rw[jR] at h4;exact h4
  exact⟨i,hi',h1,hg hi'⟩
 ·rintro⟨i,hi,h1,rfl⟩
  exact⟨i,by omega,by rw[Q7 hx,aCz hp];exact h1,(hg hi).symm⟩
include ht
theorem aMh {p z:Int} (hp:p<bZ (dK b)):GZ (apD b x) p z↔GZ b p z:=by
 constructor
 ·intro h
  induction h with
  |use h1 h2=>exact .use ((D5 hx hp).1 h1) h2
  |step h1 h2 h3 _ ih=>
   rw[Q7 hx,WY ht] at h3
   exact .step ((D5 hx hp).1 h1) h2 h3 (ih h3.lt.2.2)
 ·intro h
  induction h with
  |use h1 h2=>exact .use ((D5 hx hp).2 h1) h2
  |step h1 h2 h3 _ ih=>exact .step ((D5 hx hp).2 h1) h2 (by rw[Q7 hx,WY ht];exact h3) (ih h3.lt.2.2)
theorem ZE {l:uV} {p q:Int}:Stp (apD b x) l p q↔Stp b l p q:=by
 constructor
 ·rintro⟨h1,h2,y,m,h3,h4,h5⟩
  rw[Q7 hx,WY ht] at h2
  exact⟨fun ⟨y,k,h6,h7⟩=>h1 ⟨y,k,(D5 hx h2.lt.1.2).2 h6,h7⟩,h2,y,m,(aMh hx ht h2.lt.2.2).1 h3,h4,h5⟩
 ·rintro⟨h1,h2,y,m,h3,h4,h5⟩
  exact⟨fun ⟨y,k,h6,h7⟩=>h1 ⟨y,k,(D5 hx h2.lt.1.2).1 h6,h7⟩,by rw[Q7 hx,WY ht];exact h2,y,m,(aMh hx ht h2.lt.2.2).2 h3,h4,h5⟩
theorem aI3 {l:uV} {p:Int}:Scp (apD b x) l p↔Scp b l p:=by
 constructor
 ·intro h
  induction h with
  |one h=>exact .one ((ZE hx ht).1 h)
  |step _ h ih=>exact .step ih ((ZE hx ht).1 h)
 ·intro h
  induction h with
  |one h=>exact .one ((ZE hx ht).2 h)
  |step _ h ih=>exact .step ih ((ZE hx ht).2 h)
omit ht in
theorem aHe:∀(l:List mP) (p:Int),L4 p (l++[x])=L4 p l
 |[],p=>by
  show DD p x.st++[]=[]
  rw[hx.1];rfl
 |y::l,p=>by
  show DD p y.st++L4 _ (l++[x])=DD p y.st++L4 _ l
  rw[aHe l]
theorem aMQ:rZ (apD b x)=rZ b:=by
 refine RS (sM _) (sM _) fun z=>?_
 rw[oK,oK]
 have e:mO (apD b x)=mO b:=aHe hx b.bl 0
 unfold VP
 rw[e]
 constructor
 ·rintro⟨l,h0,h1,h2,y,k,h3,h4⟩
  have h5:=(aI3 hx ht).1 h2
  exact⟨l,h0,h1,h5,y,k,(D5 hx h5.lt.2).1 h3,h4⟩
 ·rintro⟨l,h0,h1,h2,y,k,h3,h4⟩
  exact⟨l,h0,h1,(aI3 hx ht).2 h2,y,k,(D5 hx h2.lt.2).2 h3,h4⟩
end
def TN (b:cT) (l:List (Int×Int)):cT:=⟨b.nm,b.rg,l,b.ty,b.lc,b.ag,b.bl⟩
theorem aC9 {l m:List (Int×Int)} (h:∀x∈l,x∈m) {a c:Int} (hr:Reach l a c):Reach m a c:=by
 induction hr with
 |refl=>exact .refl _
 |step _ h2 ih=>exact .step ih (h _ h2)
theorem MA {l m:List (Int×Int)} (h:∀x∈l,x∈m) {n a c:Int} (ho:lL l n a c=true):lL m n a c=true:=by
 have h1:cE n a/\cE n c/\Reach l a c:=jO fun hn=>by rw[rM hn] at ho;cases ho
 exact J5 ⟨h1.1,h1.2.1,aC9 h h1.2.2⟩
theorem aRL {b:cT} {m:List (Int×Int)} {p x:Int} (h:GZ b p x):GZ (TN b m) p x:=by
 induction h with
 |use h1 h2=>exact .use h1 h2
 |step h1 h2 h3 _ ih=>exact .step h1 h2 h3 ih
theorem aPL {b:cT} {m:List (Int×Int)} (hm:∀x∈b.ol,x∈m) {l:uV} {p:Int} (h:Scp b l p):Scp (TN b m) l p:=by
 have key:∀{p q:Int},Stp b l p q->Stp (TN b m) l p q:=fun ⟨h1,h2,y,r,h3,h4,h5⟩=>⟨h1,h2,y,r,aRL h3,h4,MA hm h5⟩
 induction h with
 |one h=>exact .one (key h)
 |step _ h ih=>exact .step ih (key h)
theorem aMS {b:cT} {m:List (Int×Int)} (hm:∀x∈b.ol,x∈m) {z:Int×Int} (hz:z∈rZ b):z∈rZ (TN b m):=by
 rw[oK] at hz ⊢
 obtain⟨l,h0,h1,h2,h3⟩:=hz
 exact⟨l,h0,h1,aPL hm h2,h3⟩
end Go.Proofs.YtfiipaodjpiooaaGreatDoor

