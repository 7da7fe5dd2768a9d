/- Lemmas and contracts of functions, several texts in one. -/
import Derived.Test.YtfiipaodjpiooaaGreatDoorQ16
set_option maxRecDepth 100000
set_option maxHeartbeats 4000000
set_option linter.all false
namespace Go.Proofs.YtfiipaodjpiooaaGreatDoor
open Go.RowKit
open Tryz
def V8 (E K L:List (Int×Int)) (i r p:Int):List Int:=if (i,p)∈K then [] else (jD E p).filter fun q=>decide ((r,q)∈L)
theorem JZ {E K L:List (Int×Int)} {i r p q:Int}:q∈V8 E K L i r p↔(i,p)∉K/\(p,q)∈E/\(r,q)∈L:=by
 unfold V8
 split
 ·rename_i h
  simp [h]
 ·rename_i h
  rw[jX,FD,fV]
  exact⟨fun h1=>⟨h,h1⟩,fun h1=>h1.2⟩
inductive Z9 (f:Int->List Int) (a:Int):Int->Prop
 |one {q:Int}:q∈f a->Z9 f a q
 |step {p q:Int}:Z9 f a p->q∈f p->Z9 f a q
def tW (B:List (Int×Int)):List Int:=B.map (·.1)
theorem aDd (B C:List (Int×Int)):tW (B++C)=tW B++tW C:=cQ
theorem rL {B:List (Int×Int)} {q:Int}:q∈tW B↔∃p,(q,p)∈B:=by
 unfold tW
 rw[eW]
 exact⟨fun ⟨⟨a,c⟩,h,e⟩=>⟨c,e▸h⟩,fun ⟨p,h⟩=>⟨_,h,rfl⟩⟩
structure Bf (f:Int->List Int) (a:Int) (B:List (Int×Int)):Prop where
 nd:(tW B).Nodup
 pr:∀(j:Nat) (h:j<B.length),B[j].1∈f B[j].2/\(B[j].2=a\/B[j].2∈tW (B.take j))
structure BfQ (f:Int->List Int) (a:Int) (B:List (Int×Int)) (Q:List Int):Prop where
 b:Bf f a B
 qu:∀x∈Q,x=a\/x∈tW B
 cl:∀x,(x=a\/x∈tW B)->x∉Q->∀q∈f x,q∈tW B
 ql:Q.length<=B.length+1
structure BfP (f:Int->List Int) (a:Int) (B:List (Int×Int)) (Q:List Int) (p:Int) (pre:List Int):Prop where
 b:Bf f a B
 qu:∀x∈Q,x=a\/x∈tW B
 cl:∀x,(x=a\/x∈tW B)->x∉Q->x≠p->∀q∈f x,q∈tW B
 pk:p=a\/p∈tW B
 pd:∀q∈pre,q∈tW B
 ql:Q.length<=B.length
section
variable {f:Int->List Int} {a:Int} {B:List (Int×Int)} {Q:List Int} {p q:Int} {pre:List Int}
theorem BfQ.init:BfQ f a [] [a]:=⟨⟨by simp [tW],fun j h=>by cases h⟩,by simp,fun x h hx=>by simp [tW] at h hx;exact absurd h hx,dI _⟩
theorem BfQ.pop (h:BfQ f a B (p::Q)):BfP f a B Q p []:=⟨h.b,fun x hx=>h.qu x (gY _ hx),fun x h1 h2 h3=>h.cl x h1 (by simp [h2,h3]),h.qu p (by simp),by simp,by have:=h.ql;rw[eO] at this;omega⟩
theorem BfP.GS (h:BfP f a B Q p pre) (hq:q∈tW B):BfP f a B Q p (pre++[q]):=⟨h.b,h.qu,h.cl,h.pk,fun x hx=>by
 rcases bV.1 hx with hx|hx
 ·exact h.pd x hx
 ·rw[cR] at hx;rw[hx];exact hq,h.ql⟩
theorem BfP.new (h:BfP f a B Q p pre) (hq:q∉tW B) (hf:q∈f p):BfP f a (B++[(q,p)]) (Q++[q]) p (pre++[q]):=by
 have hk:∀x,x∈tW (B++[(q,p)])↔x∈tW B\/x=q:=fun x=>by rw[aDd,bV];simp [tW]
 refine⟨⟨?_,fun j hj=>?_⟩,fun x hx=>?_,fun x h1 h2 h3 y hy=>?_,?_,fun x hx=>?_,by have:=h.ql;rw[bN,bN];exact Nat.add_le_add_right this _⟩
 ·rw[aDd]
  refine yI.2 ⟨h.b.nd,by simp [tW],fun x hx y hy=>?_⟩
  have:y=q:=by simpa [tW] using hy
  rw[this]
  exact fun e=>hq (e▸hx)
 ·rw[bN,wB] at hj
  by_cases fQ:j<B.length
  ·rw[ZS fQ,EW (by omega)]
   exact h.b.pr j fQ
  ·have e:j=B.length:=by omega
   subst e
   rw[List.getElem_append_right (dI _),EW (dI _),nC]
   simp only[Nat.sub_self,List.getElem_cons_zero]
   exact⟨hf,h.pk⟩
 ·rw[hk]
  rcases bV.1 hx with hx|hx
  ·exact(h.qu x hx).imp id .inl
  ·exact .inr (.inr (by simpa using hx))
 ·rw[hk]
  rw[bV,cR] at h2
  refine .inl (h.cl x ?_ (fun h=>h2 (.inl h)) h3 y hy)
  rcases h1 with h1|h1
  ·exact .inl h1
  ·rcases(hk x).1 h1 with h1|h1
   ·exact .inr h1
   ·exact absurd (.inr h1) h2
 ·exact h.pk.imp id fun h1=>(hk p).2 (.inl h1)
 ·rw[hk]
  rcases bV.1 hx with hx|hx
  ·exact .inl (h.pd x hx)
  ·exact .inr (by simpa using hx)
theorem BfP.fin (h:BfP f a B Q p (f p)):BfQ f a B Q:=⟨h.b,h.qu,fun x h1 h2 y hy=>by
 by_cases e:x=p
 ·exact h.pd y (e▸hy)
 ·exact h.cl x h1 h2 e y hy,by have:=h.ql;omega⟩
theorem Bf.rch (h:Bf f a B):∀(j:Nat) (hj:j<B.length),Z9 f a B[j].1:=by
 intro j
 induction j using Nat.strongRecOn with
 |_ j ih=>
  intro hj
  obtain⟨h1,h2⟩:=h.pr j hj
  rcases h2 with h2|h2
  ·rw[h2] at h1;exact .one h1
  ·obtain⟨y,hy⟩:=rL.1 h2
   obtain⟨k,hk,e⟩:=sA hy
   rw[dU] at hk
   rw[PZ] at e
   have:=ih k (by omega) (by omega)
   rw[e] at this
   exact .step this h1
theorem BfQ.fin (h:BfQ f a B []):q∈tW B↔Z9 f a q:=by
 constructor
 ·intro hq
  obtain⟨y,hy⟩:=rL.1 hq
  obtain⟨k,hk,e⟩:=sA hy
  have:=h.b.rch k hk
  rw[e] at this
  exact this
 ·intro hr
  induction hr with
  |one h1=>exact h.cl a (.inl rfl) (by simp) _ h1
  |step _ h1 ih=>exact h.cl _ (.inr ih) (by simp) _ h1
end
def SVI (B:List (Int×Int)):List (Value×Value):=B.map fun y=>(.int .i64 y.1,.int .i64 y.2)
def SMI (B:List (Int×Int)):List (Value×D):=(SVI B).map fun p=>(p.1,.val p.2)
theorem P8 (y:Int×Int) (B:List (Int×Int)):SMI (y::B)=(.int .i64 y.1,.val (.int .i64 y.2))::SMI B:=rfl
theorem aCr {B:List (Int×Int)} {x:Int} (h:x∉tW B):mX (SMI B) (.int .i64 x)=none:=by
 induction B with
 |nil=>rfl
 |cons y B ih=>
  have h1:y.1≠x/\x∉tW B:=by simp only[tW,eU,dJ,not_or] at h;exact⟨fun e=>h.1 e.symm,h.2⟩
  rw[P8]
  simp only[mX]
  rw[aA (fun e=>h1.1 (by injection e)),ih h1.2]
theorem aB7 {B:List (Int×Int)} (hn:(tW B).Nodup) {x p:Int} (h:(x,p)∈B):mX (SMI B) (.int .i64 x)=some (.val (.int .i64 p)):=by
 induction B with
 |nil=>cases h
 |cons y B ih=>
  have h1:y.1∉tW B/\(tW B).Nodup:=zT.1 hn
  rw[P8]
  simp only[mX]
  rcases dJ.1 h with h|h
  ·rw[<-h]
   simp
  ·rw[aA (fun e=>h1.1 (by injection e with _ e;rw[e];exact rL.2 ⟨_,h⟩)),ih h1.2 h]
theorem aJW {B:List (Int×Int)} {x p:Int} (h:x∉tW B):iM (SMI B) (.int .i64 x) (.val (.int .i64 p))=SMI (B++[(x,p)]):=by
 induction B with
 |nil=>rfl
 |cons y B ih=>
  have h1:y.1≠x/\x∉tW B:=by simp only[tW,eU,dJ,not_or] at h;exact⟨fun e=>h.1 e.symm,h.2⟩
  rw[P8]
  simp only[iM]
  rw[aA (fun e=>h1.1 (by injection e)),ih h1.2]
  rfl
theorem aFr {B:List (Int×Int)} (h:∀q∈tW B,HC q) {x:Int} (hx:HC x):kOK prog 3 (SMI B) (.int .i64 x):=
 ⟨Go.Maps.int_keyed underlying3,sI underlying3 hx,fun p hp=>by
  unfold SMI SVI at hp
  rw[oZ,eW] at hp
  obtain⟨y,hy,rfl⟩:=hp
  exact sI underlying3 (h _ (rL.2 ⟨_,hy⟩))⟩
def aDL (aX:List Oper) (ZF:List Nat) (k:Nat):Bool:=decide (k<aX.length)&&((List.range k).all fun i=>(ZF.getD k 0).testBit i)&&(aX.zipIdx.all fun (o,j)=>decide (j<=k)||(o.after.toList.any fun e=>Region.binds .any e&&e.on==j - 1))
theorem xG {aX:List Oper} {cB:Array Bool} {i:Nat}:i∈Region.ready .any aX.toArray cB↔i<aX.length/\cB.getD i true=false/\∀o,aX[i]?=some o->∀e∈o.after.toList,Region.binds .any e=true->cB.getD e.on false=true:=by
 unfold Region.ready
 rw[jX]
 have h1:i∈List.range aX.toArray.size↔i<aX.length:=by simp
 rw[h1]
 refine and_congr_right fun hi=>?_
 obtain⟨o,ho⟩:∃o,aX[i]?=some o:=⟨aX[i],by simp [hi]⟩
 have OX:aX.toArray[i]?=some o:=by simpa using ho
 rw[OX,ho]
 simp only[eK,wY,mG,CY]
 refine and_congr_right fun _=>?_
 rw[<-KW,eZ]
 constructor
 ·intro h o2 OY e he hb
  injection OY with OY
  subst OY
  have:=h e he
  rw[hb] at this
  simpa using this
 ·intro h e he
  cases hb:Region.binds .any e with
  |false=>simp
  |true=>simpa using h o rfl e he hb
theorem aEa {F:Fence} {n:Nat} {P:Program} {aX:List Oper} {Q:Exit->Act->World->Prop} {k:Nat} (qW:yX aX=true) (hch:∀(j:Nat) (o:Oper),aX[j]?=some o->k<j->∃e∈o.after.toList,Region.binds .any e=true/\e.on=j - 1):
  ∀(kT j:Nat) (cB:Array Bool) (a:Act) (w:World),k<=j->aX.length<=j+kT->cB.size=aX.length->(∀i,i<aX.length->cB.getD i true=decide (i<j))->wpListIn F n P aX.toArray Q (aX.drop j) a w->wpAnyIn F n P .any aX.toArray Q kT cB a w:=by
 have done:∀(j:Nat) (cB:Array Bool),aX.length<=j->(∀i,i<aX.length->cB.getD i true=decide (i<j))->∀i,i∉Region.ready .any aX.toArray cB:=fun j cB hj qZ i hi=>by
  obtain⟨h1,h2,_⟩:=xG.1 hi
  rw[qZ i h1,bG (by omega)] at h2
  cases h2
 intro kT
 induction kT with
 |zero=>
  intro j cB a w hk hl lZ qZ h
  rw[zK (by omega)] at h
  exact⟨ZQ.2 (done j cB (by omega) qZ),h⟩
 |succ kT ih=>
  intro j cB a w hk hl lZ qZ h
  by_cases hj:j<aX.length
  ·have ho:aX[j]?=some aX[j]:=by simp [hj]
   have hgd:∀i,i<aX.length->cB.getD i false=cB.getD i true:=fun i hi=>by
    have:i<cB.size:=by omega
    simp [Array.getD,this]
   have hjr:j∈Region.ready .any aX.toArray cB:=xG.2 ⟨hj,by rw[qZ j hj];simp,fun o OY e he hb=>by
    have h1:=pN qW OY e he hb
    rw[hgd _ (by omega),qZ _ (by omega),bG h1]⟩
   refine⟨fun hr=>(by rw[hr] at hjr;exact absurd hjr List.not_mem_nil),fun i hi=>?_⟩
   obtain⟨h1,h2,h3⟩:=xG.1 hi
   rw[qZ i h1] at h2
   have hij:i=j:=by
    refine jO fun fM=>?_
    have hji:j<i:=by have:=of_decide_eq_false h2;omega
    obtain⟨o,OY⟩:∃o,aX[i]?=some o:=⟨aX[i],by simp [h1]⟩
    obtain⟨e,he,hb,hon⟩:=hch i o OY (by omega)
    have h4:=h3 o OY e he hb
    rw[hon,hgd _ (by omega),qZ _ (by omega)] at h4
    have:=CV h4
    omega
   subst hij
   rw[eH hj] at h
   have EN:∀a w,wpListIn F n P aX.toArray Q (aX.drop (i+1)) a w->wpAnyIn F n P .any aX.toArray Q kT (cB.setIfInBounds i true) a w:=fun a w hh=>ih (i+1) _ a w (by omega) (by omega) (by simpa using lZ) (fun m hm=>by
    have LV:(cB.setIfInBounds i true).getD m true=if m=i then true else cB.getD m true:=AZ _ _ _ _ _ (by omega)
    rw[LV]
    by_cases e:m=i
    ·rw[aE e,bG (by omega)]
    ·rw[aA e,qZ m hm]
     by_cases h5:m<i
     ·rw[bG h5,bG (by omega)]
     ·rw[bB h5,bB (by omega)]) hh
   unfold wpOpIn
   have OX:aX.toArray[i]?=some aX[i]:=by simpa using ho
   rw[OX]
   unfold wpListIn at h
   simp only
   split at h
   ·rename_i hw
    rw[aE hw]
    exact Oper.wpIn_mono EN h
   ·rename_i hw
    rw[aA hw]
    exact⟨h.1,EN _ _ h.2⟩
  ·rw[zK (by omega)] at h
   exact⟨fun _=>h,fun i hi=>absurd hi (done j cB (by omega) qZ i)⟩
theorem aEm {cx:Cx} {G:Option Tmp->List D->D->aC->Prop} {H:aC} {aX:List Oper} {ZF:List Nat} {k:Nat} {Q:Exit->St->Prop} (fI:gJ cx.n aX=true) (qW:yX aX=true) (LZ:SN aX ZF=true) (aA8:aDL aX ZF k=true):
  ∀(kT:Nat) (R:List Nat) (cB:Array Bool) (s:St) (a:Act) (w:World),R.length+(aX.length - k)<=kT->R.Pairwise (·<·)->(∀i∈R,i<k)->cB.size=aX.length->(∀i,i<aX.length->(cB.getD i true=false↔i∈R\/k<=i))->
  (∀(j:Nat) (o:Oper),aX[j]?=some o->j<k->j∉R->∀e∈o.after.toList,Region.binds .any e=true->e.on∉R)->
  H.le s.H->dF cx s a w->PG cx.P G H aX.toArray (WL cx aX.toArray (aX.drop k) Q) (R.filterMap (aX[·]?)) s->wpAnyIn (FR cx.ro) 9 cx.P .any aX.toArray (QQ cx Q) kT cB a w:=by
 unfold aDL at aA8
 rw[eK,eK,fV,eZ,eZ] at aA8
 obtain⟨⟨CA,aYE⟩,aOA⟩:=aA8
 have hch:∀(j:Nat) (o:Oper),aX[j]?=some o->k<j->∃e∈o.after.toList,Region.binds .any e=true/\e.on=j - 1:=fun j o ho hj=>by
  have:=aOA (o,j) (IJ.2 (by simpa using ho))
  simp only[CZ,fV,F6,eK,C8] at this
  rcases this with h|⟨e,h1,h2,h3⟩
  ·omega
  ·exact⟨e,h1,h2,h3⟩
 intro kT
 induction kT with
 |zero=>
  intro R cB s a w fJ
  omega
 |succ kT ih=>
  intro R cB s a w fJ hp hRk lZ qZ BB aS m h
  rcases R with _|⟨r,R0⟩
  ·refine aEa qW hch (kT+1) k cB a w (dI _) (by simp at fJ;omega) lZ (fun i hi=>?_) (h a w m)
   by_cases TH:i<k
   ·rw[bG TH]
    cases hl:cB.getD i true with
    |true=>rfl
    |false=>rcases(qZ i hi).1 hl with h1|h1;cases h1;omega
   ·rw[bB TH]
    exact(qZ i hi).2 (.inr (by omega))
  ·obtain⟨R,hR⟩:∃R,R=r::R0:=⟨_,rfl⟩
   have hrR:r∈R:=by rw[hR];simp
   rw[<-hR] at fJ hp hRk qZ BB h
   have hgd:∀i,i<aX.length->cB.getD i false=cB.getD i true:=fun i hi=>by
    have:i<cB.size:=by omega
    simp [Array.getD,this]
   have aK4:∀i,i∈Region.ready .any aX.toArray cB->i<k:=fun i hi=>by
    obtain⟨h1,h2,h3⟩:=xG.1 hi
    refine jO fun TH=>?_
    obtain⟨o,ho⟩:∃o,aX[i]?=some o:=⟨aX[i],by simp [h1]⟩
    by_cases e:i=k
    ·subst e
     have LS:∀(j:Nat) (o:Oper),aX[j]?=some o->j∉R++List.range' i (aX.length - i)->∀e∈o.after.toList,Region.binds .any e=true->e.on∉R++List.range' i (aX.length - i):=fun j o2 OY hj e he hb=>by
      have fQ:j<aX.length:=(mE.1 OY).1
      rw[bV,List.mem_range'_1] at hj ⊢
      have h4:=pN qW OY e he hb
      rintro(h5|h5)
      ·exact BB j o2 OY (by omega) (fun h=>hj (.inl h)) e he hb h5
      ·omega
     have h5:=aMs LZ qW LS i o ho (fun e he hb iI=>by
      have h6:=h3 o ho e he hb
      have h7:=pN qW ho e he hb
      rw[hgd _ (by omega)] at h6
      have h8:=(qZ e.on (by omega)).2 (by
       rcases bV.1 iI with h|h
       ·exact .inl h
       ·rw[List.mem_range'_1] at h;exact .inr h.1)
      rw[h6] at h8;cases h8) r (hRk r hrR) (aYE r (oB.2 (hRk r hrR)))
     exact h5 (yH _ hrR)
    ·obtain⟨ed,he,hb,hon⟩:=hch i o ho (by omega)
     have h6:=h3 o ho ed he hb
     rw[hon,hgd _ (by omega)] at h6
     have h8:=(qZ (i - 1) (by omega)).2 (.inr (by omega))
     rw[h6] at h8;cases h8
   have aMe:∀i∈R,r<=i:=fun i hi=>by
    rw[hR] at hi hp
    rcases dJ.1 hi with h|h
    ·omega
    ·have:=(wW.1 hp).1 i h;omega
   have hrk:=hRk r hrR
   have x6:r∈Region.ready .any aX.toArray cB:=xG.2 ⟨by omega,(qZ r (by omega)).2 (.inl hrR),fun o ho e he hb=>by
    have h1:=pN qW ho e he hb
    rw[hgd _ (by omega)]
    cases hl:cB.getD e.on true with
    |true=>rfl
    |false=>
     rcases(qZ e.on (by omega)).1 hl with h2|h2
     ·have:=aMe _ h2;omega
     ·omega⟩
   refine⟨fun hr=>(by rw[hr] at x6;exact absurd x6 List.not_mem_nil),fun i hi=>?_⟩
   have TH:=aK4 i hi
   obtain⟨h1,h2,h3⟩:=xG.1 hi
   have hiR:i∈R:=by
    rcases(qZ i h1).1 h2 with h|h
    ·exact h
    ·omega
   clear x6 aMe hrk hR hrR
   obtain⟨o,ho⟩:∃o,aX[i]?=some o:=⟨aX[i],by simp [h1]⟩
   have aM8:∀e∈o.after.toList,Region.binds .any e=true->e.on∉R:=fun e he hb iI=>by
    have h4:=h3 o ho e he hb
    have h5:=pN qW ho e he hb
    rw[hgd _ (by omega)] at h4
    have h6:=(qZ e.on (by omega)).2 (.inl iI)
    rw[h4] at h6;cases h6
   obtain⟨pre,post,rfl⟩:=PV hiR
   obtain⟨lP,aAh,hpw⟩:=CG hp
   have iI:∀p∈pre.filterMap (aX[·]?),yU aX.toArray p o/\p∈aX:=fun p HQ=>by
    obtain⟨j,hj,hjp⟩:=List.mem_filterMap.1 HQ
    exact⟨EC qW (lP j hj) hjp ho fun e he hb hek=>aM8 e he hb (by rw[hek];simp [hj]),iQ hjp⟩
   have HS:(pre++i::post).filterMap (aX[·]?)=pre.filterMap (aX[·]?)++o::post.filterMap (aX[·]?):=by
    rw[zM,PS,ho]
   rw[HS] at h
   have aAi:=ZN fI iI h aS m
   have LQ:=(EF cx.P G H aX.toArray s o).1 _ aAi
   refine wpOpIn_mono ?_ (yZ aS fI ho LQ m)
   rintro a' w' ⟨d,A,rU,hA,m'⟩
   have h4:=MO (fun p HQ=>(iI p HQ).1) h rU hA
   have JQ:∀j,j∈pre++post->j∈pre++i::post:=fun j hj=>by
    rcases bV.1 hj with h|h
    ·simp [h]
    ·simp [h]
   have aM6:∀j,j∈pre++i::post->j≠i->j∈pre++post:=fun j hj fM=>by
    rcases bV.1 hj with h|h
    ·simp [h]
    ·rcases dJ.1 h with h|h
     ·exact absurd h fM
     ·simp [h]
   refine ih (pre++post) _ (s.out o d A) a' w' ?_ hpw (fun j hj=>hRk j (JQ j hj)) (by simpa using lZ) (fun j hj=>?_) (fun j o2 OY hjk hj e he hb xY=>?_) (by rw[rD];exact mH aS (GA hA)) m' (by rw[zM];exact h4)
   ·simp at fJ ⊢;omega
   ·have LV:(cB.setIfInBounds i true).getD j true=if j=i then true else cB.getD j true:=AZ _ _ _ _ _ (by omega)
    rw[LV]
    by_cases e:j=i
    ·rw[aE e]
     constructor
     ·intro h;cases h
     ·rintro(h|h)
      ·subst e
       rcases bV.1 h with h|h
       ·have:=lP _ h;omega
       ·have:=aAh _ h;omega
      ·omega
    ·rw[aA e,qZ j hj]
     exact⟨fun h=>h.imp (fun h=>aM6 j h e) id,fun h=>h.imp (fun h=>JQ j h) id⟩
   ·by_cases e2:j=i
    ·subst e2
     rw[ho] at OY
     injection OY with OY
     subst OY
     exact aM8 e he hb (JQ _ xY)
    ·exact BB j o2 OY hjk (fun h=>hj (aM6 j h e2)) e he hb (JQ _ xY)
theorem UO {cx:Cx} {id:Nat} {aX:List Oper} {Q:Exit->St->Prop} {s:St} (k:Nat) (G:Option Tmp->List D->D->aC->Prop) (hm:cx.P.follows .mixedOrders=true) (fI:gJ cx.n aX=true) (qW:yX aX=true) (LZ:SN aX (NN aX)=true) (aA8:aDL aX (NN aX) k=true)
  (h:∀N:St->Prop,(∀s,WL cx aX.toArray (aX.drop k) Q s->N s)->PG cx.P G s.H aX.toArray N (aX.take k) s):W cx (.region id aX.toArray true) Q s:=fun a w m=>by
 refine wpIn_region_any hm ?_
 have m':dF cx s a w.drew:=m.go (sV s.H w) m.H.drew
 have CA:k<aX.length:=by
  unfold aDL at aA8
  rw[eK,eK,fV] at aA8
  exact aA8.1.1
 have e:(List.range k).filterMap (aX[·]?)=aX.take k:=by
  rw[uZ (g:=fun i=>aX.getD i default) fun i hi=>by
   have:i<k:=by simpa using hi
   have:i<aX.length:=by omega
   simp [List.getD,this]]
  apply u5
  intro i
  by_cases hi:i<k
  ·have:i<aX.length:=by omega
   simp [hi,List.getD,uS,this]
  ·simp [hi,uS]
 refine aEm fI qW LZ aA8 _ (List.range k) _ s a _ (by simp;omega) F0 (fun i hi=>oB.1 hi) (by simp) (fun i hi=>?_) (fun j o ho hjk hj=>absurd (oB.2 hjk) hj) (aG _) m' (by rw[e];exact h _ fun _ h=>h)
 constructor
 ·intro _
  rw[oB];omega
 ·intro _
  simp [Array.getD,hi]
theorem yK.aGO {w:World} {S:Nat->Prop}:∀{ds es:List D} {vs:List Value},yK ds es->aU w S ds vs->aU w S es vs
 |[],[],vs,_,h=>by simp only[aU] at h ⊢;exact h
 |d::ds,e::es,vs,hv,h=>by
  simp only[aU] at h ⊢
  obtain⟨u,us,rfl,h0,h1,h2⟩:=h
  exact⟨u,us,rfl,h0,hv.1 w S u h1,yK.aGO hv.2 h2⟩
 |[],_::_,_,hv,_=>hv.elim
 |_::_,[],_,hv,_=>hv.elim
theorem RL {ds es:List D} (h:yK ds es):Imp (.agg ds) (.agg es):=fun w S v hv=>by
 simp only[D.is] at hv ⊢
 obtain⟨vs,rfl,h1⟩:=hv
 exact⟨vs,rfl,h.aGO h1⟩
theorem aKe {ds es:List D} (h:yK ds es):Imp (.rp ds) (.rp es):=fun w S v hv=>by
 simp only[D.is] at hv ⊢
 obtain⟨b,o,h1,h2,h3,h4⟩:=hv
 exact⟨b,o,h1,h2,h3,h.at h4⟩
theorem L1:∀l:List (List D),IQ l l
 |[]=>trivial
 |_::l=>⟨L2 _,L1 l⟩
theorem aAk:∀{a a' c c':List (List D)},IQ a a'->IQ c c'->IQ (a++c) (a'++c')
 |[],[],_,_,_,h=>h
 |_::_,_::_,_,_,h,h2=>⟨h.1,aAk h.2 h2⟩
 |[],_::_,_,_,h,_=>h.elim
 |_::_,[],_,_,h,_=>h.elim
theorem GB.imp {H H':aC} {d d0 d1:D} (h:GB H H' d d0) (h2:Imp d0 d1):GB H H' d d1:=fun w v hH hv=>h2 _ _ _ (h w v hH hv)
theorem I0 {cx:Cx} {x:Code} {N:St->Prop} {Q:Exit->St->Prop} {s:St} (M:St->Prop) (h1:W cx x (gK M (fun _ _=>False)) s) (h2:∀s,M s->N s):W cx x (gK N Q) s:=
 vP h1 fun e s' q=>by cases e <;> first|exact h2 s' q|exact q.elim
theorem D2 {cx:Cx} {x:Code} {N:St->Prop} {Q:Exit->St->Prop} {s:St} (M:St->Prop) (h1:W cx x (gK M (fun e s'=>e≠ .normal/\Q e s')) s) (h2:∀s,M s->N s):W cx x (gK N Q) s:=
 vP h1 fun e s' q=>by cases e <;> first|exact h2 s' q|exact q.2
theorem aFv {cx:Cx} {k:Code} {Q:Exit->St->Prop} {s:St} {H:aC} {a b c:Nat} {Ta Tb:TypeId} {sa sb:Nat} {ea eb:List D} {Z:fK} (ta tb:Nat) (hab:tb≠ta)
  (hs:s.H=((H.bH a (.row Ta 0 sa [ea])).bH b (.row Tb 0 sb [eb])).bH c Z) (fa:s.fr ta=.ep a 0 sa 0 0) (fb:s.fr tb=.ep b 0 sb 0 0)
  (ha:H a=none) (hb:(H.bH a (.row Ta 0 sa [ea])) b=none) (hc:((H.bH a (.row Ta 0 sa [ea])).bH b (.row Tb 0 sb [eb])) c=none)
  (h:W cx k Q (((s.dY (H.bH c Z)).put (some ta) (.rp ea)).put (some tb) (.rp eb))):W cx k Q s:=by
 obtain⟨nba,wN⟩:=bY.1 hb
 obtain⟨ncb,mA⟩:=bY.1 hc
 obtain⟨nca,AL⟩:=bY.1 mA
 have e1:s.H a=some (.row Ta 0 sa [ea]):=by rw[hs,aN nca.symm,aN nba.symm,aO]
 have e2:(s.H.del a) b=some (.row Tb 0 sb [eb]):=by rw[bS nba,hs,aN ncb.symm,aO]
 refine cA ta fa e1 rfl ?_
 refine cA tb (b:=b) (o:=0) (sz:=sb) (i:=0) (k:=0) (by rw[St.jH,zG,aA hab];exact fb) e2 rfl ?_
 refine eV (H.bH c Z) (fun x z hz=>?_) h
 show((s.H.del a).del b) x=_
 by_cases e:x=c
 ·subst e
  rw[aO] at hz
  rw[bS ncb,bS nca,hs,aO];exact hz
 ·rw[aN e] at hz
  have na:x≠a:=fun e=>by rw[e,ha] at hz;cases hz
  have nb:x≠b:=fun e=>by rw[e,wN] at hz;cases hz
  rw[bS nb,bS na,hs,aN e,aN nb,aN na];exact hz
theorem aMB (cs:List D) (i p:Int) (H:aC):bE prog 84 [.rp cs,i64 i,i64 p] H fun d H'=>d=.fn 138 [.rp [.rp cs],.rp [i64 i],.rp [i64 p]]/\H=H':=by
 refine aQ _ _ func84 rfl rfl ntmps84 results84 (by simp) fun w0 g0 Q aD=>?_
 refine tq trivial ?_;intro Nx aB Gx aF
 intro c3 j5 c4 uL c5 lY
 refine aB _ ?_
 refine aFv 3 4 (by decide) rfl rfl rfl j5 uL lY ?_
 have aA6:H c5=none:=(bY.1 (bY.1 lY).2).2
 simp only[s5,lX,nA,jN,aCL,HU]
 refine fZ 5 aA6 ?_
 refine tq trivial ?_;intro Nx aB Gx aF
 refine rt aD trivial ?_
 exact⟨_,aG _,by first|rfl|exact⟨rfl,rfl⟩⟩
theorem aB8 {S:List (Int×Int)} {x:Int×Int} (h:x∈S):mX (NT S) (pk x.1 x.2)=some (.val (.bool true)):=by
 induction S with
 |nil=>cases h
 |cons a S ih=>
  rw[DX]
  simp only[mX]
  by_cases e:a=x
  ·rw[e,aE rfl]
  ·rw[aA (fun h=>e (aC4.1 h)),ih ((dJ.1 h).resolve_left fun h=>e h.symm)]
theorem WM {S:List (Int×Int)} {x:Int×Int} (h:x∉S):mX (NT S) (pk x.1 x.2)=none:=by
 induction S with
 |nil=>rfl
 |cons a S ih=>
  rw[DX]
  simp only[mX]
  rw[dJ,not_or] at h
  rw[aA (fun e=>h.1 (aC4.1 e).symm),ih h.2]
theorem aId {L:List (Int×Int)} {T:List Int} {r:Int} {j:Nat} (h:j<T.length):((T.take (j+1)).filter fun q=>decide ((r,q)∈L))=((T.take j).filter fun q=>decide ((r,q)∈L))++if (r,T[j])∈L then [T[j]] else []:=by
 rw[dH h,tM]
 congr 1
 by_cases e:(r,T[j])∈L
 ·rw[aE e,FY (by simpa using e)];rfl
 ·rw[aA e,FZ (by simpa using e)];rfl
theorem aIg (LN:List uV) (E K V L:List (Int×Int)) (b1 b2 b3 b4:Nat) (m1:List (Value×D)) (i:Nat) (hi:i<LN.length) (p:Int) (B9:kP m1 fun x=>RY (jD E x)) (hE:E.length<=1000000)
  (k64:∀y∈K,fU y.1/\fU y.2) (l64:∀y∈L,fU y.1/\fU y.2) (e64:∀y∈E,fU y.1/\fU y.2) (p64:fU p) (aOX:fU i) (r64:fU LN[i].rg):
  AN prog 138 [.rp [ixD LN E K V L b1 b2 b3 b4],.rp [i64 i],.rp [i64 p]] (fun q:Int=>[i64 q]) (·<+:V8 E K L i LN[i].rg p) (·=V8 E K L i LN[i].rg p) (IxO E K V L b1 b2 b3 b4 m1) (IxO E K V L b1 b2 b3 b4 m1):=by
 have dX:=lm vS LN
 have hx:=bI i
 have cJ:=bM i
 have cC:(i:Int)<(LN.length:Int):=by omega
 have GN:(List.map vS LN)[i]?=some (vS LN[i]):=fY hi
 obtain⟨r,hr⟩:∃r,r=LN[i]:=⟨_,rfl⟩
 rw[<-hr] at GN r64 ⊢
 simp only[vS] at GN
 have zA:=aAC (S:=rV [] K) (fun x hx=>k64 x (by rcases rA.1 hx with h|h;cases h;exact h)) (x:=((i:Int),p)) ⟨aOX,p64⟩
 have pB:=B9.ok (P:=prog) underlying3 p64
 have JN:=B9.get p
 simp only[pk] at zA
 unfold ixD
 refine JT _ func138 rfl rfl ntmps138 results138 (by simp) fun l J Jx H w0 g0 Q fI hJ hC hCx G6 hY aD=>?_
 obtain⟨h1,h2,h3,h4⟩:=fI
 by_cases CA:((i:Int),p)∈K
 ·have TG:=aB8 (S:=rV [] K) (x:=((i:Int),p)) (rA.2 (.inr CA))
  simp only[pk] at TG
  have e0:V8 E K L i r.rg p=[]:=aE CA
  rw[e0] at aD
  refine bP ?_
  refine bP ?_
  refine dE (fun _ _ _ _=>False) fun Nx aB=>?_;refine dst (eA @yD.eq_1 h2 TG) ?_;intro Nx aB Gx aF
  refine⟨zA,?_⟩
  refine aB _ ?_
  refine tq trivial ?_;intro Nx aB Gx aF
  exact aD _ _ (.inr rfl) rfl (.inl ⟨_,rfl,hJ⟩)
 have TG:=WM (S:=rV [] K) (x:=((i:Int),p)) (fun h=>by rcases rA.1 h with h|h;cases h;exact CA h)
 simp only[pk] at TG
 obtain⟨T,hT⟩:∃T,T=jD E p:=⟨_,rfl⟩
 have hTl:T.length<=1000000:=by
  rw[hT];unfold jD;rw[bC]
  exact qQ (r9 _ _) hE
 have aNr:∀q∈T,fU q:=fun q hq=>by rw[hT,FD] at hq;exact(e64 _ hq).2
 have e0:V8 E K L i r.rg p=T.filter fun q=>decide ((r.rg,q)∈L):=by rw[hT];exact aA CA
 rw[e0] at aD hY
 rw[<-hT] at JN
 have lJ:=lm iD T
 refine bP ?_
 refine bP ?_
 refine dE (fun _ _ _ _=>False) fun Nx aB=>?_;refine dst (eA @yD.eq_1 h2 TG) ?_;intro Nx aB Gx aF
 refine⟨zA,?_⟩
 refine aB _ ?_
 obtain⟨X,hX⟩:∃X,X=[D.seq 5 (List.map vS LN),D.seq 2 (List.map pD E),D.seq 2 (List.map pD K),D.seq 2 (List.map pD V),D.seq 2 (List.map pD L),.val (.map (some b1)),.val (.map (some b2)),.val (.map (some b3)),.val (.map (some b4))]:=⟨_,rfl⟩
 (have fs:=trivial;(iterate 2 (first|refine aF _ ?_|refine aB _ ?_|refine dW ?_|refine dV ?_|refine fE ?_|refine cU ?_|refine cV ?_|refine cL ?_|refine bP ?_|((first|refine tS fun Nx aB=>?_|refine mS rfl rfl (by kernel_rfl) (by kernel_rfl) fun Gx aF=>?_|refine cH (by kernel_rfl) ?_|refine mJ fun A B wL wM=>?_);refine qK ?_;(first|refine aF _ ?_|refine aB _ ?_|refine wL ?_|refine wM ?_|skip))));(try clear fs))
 refine aBd 20 (.val (.slice none 0 0)) (.seq 1 []) fR (fun s=>s.df=[]/\s.fr 0=yD l/\s.fr 1=.rp [.rp X]/\s.fr 2=.rp [i64 i]/\s.fr 20=.seq 1 (T.map iD)/\s.fr 21=i64 T.length/\s.fr 22=i64 0/\s.H=H) ?_ ?_
 ·by_cases hs:T=[]
  ·rw[RY,aE hs] at JN
   refine dE (fun _ _ _ _=>False) fun Nx aB=>?_;refine dst (eA @yD.eq_1 h1 JN) ?_;intro Nx aB Gx aF
   refine⟨pB,?_⟩
   refine aB _ ?_
   exact .inr ⟨rfl,rfl,rfl,by rw[hX] <;> rfl,rfl,by rw[hs] <;> rfl,by rw[hs] <;> rfl,rfl,rfl⟩
  ·rw[RY,aA hs] at JN
   refine dE (fun _ _ _ _=>False) fun Nx aB=>?_;refine dst (gQ @yD.eq_1 h1 JN lJ) ?_;intro Nx aB Gx aF
   refine⟨pB,?_⟩
   refine aB _ ?_
   exact .inl ⟨rfl,rfl,by rw[hX] <;> rfl,rfl,rfl,rfl,rfl,rfl⟩
 rintro s ⟨aT,f0,f1,f2,f20,f21,f22,hH⟩
 refine cL ?_
 refine aZ T.length (fun j s=>s.df=[]/\s.fr 0=yD l/\s.fr 1=.rp [.rp X]/\s.fr 2=.rp [i64 i]/\s.fr 20=.seq 1 (T.map iD)/\s.fr 21=i64 T.length/\s.fr 22=i64 j/\J ((T.take j).filter fun q=>decide ((r.rg,q)∈L)) s.H) ⟨aT,f0,f1,f2,f20,f21,f22,by rw[hH];exact hJ⟩ ?_
 clear hH f22 f21 f20 f2 f1 f0 aT
 clear s
 rintro j s hj ⟨aT,f0,f1,f2,f20,f21,f22,hj0⟩
 have G8:=bI j
 have xB:=bM j
 by_cases fQ:j<T.length
 case neg=>
  have q2:=lF j T.length (by omega)
  rw[cW (by omega)] at hj0
  refine tq (eA f21 f22 q2) ?_;intro Nx aB Gx aF
  exact aD _ _ (.inl rfl) aT (.inl ⟨_,rfl,hj0⟩)
 have q2:=lT j T.length (by omega)
 have w3:=wS j (by omega)
 have qR:=cO fQ
 have nI:=aId (L:=L) (r:=r.rg) fQ
 have NC:((T.take (j+1)).filter fun q=>decide ((r.rg,q)∈L))<+:T.filter fun q=>decide ((r.rg,q)∈L):=(List.take_prefix _ _).filter _
 have aFG:=aNr T[j] (bU _)
 obtain⟨q,hq⟩:∃q,q=T[j]:=⟨_,rfl⟩
 rw[<-hq] at qR nI aFG
 have aHK:=aAC (S:=rV [] L) (fun x hx=>l64 x (by rcases rA.1 hx with h|h;cases h;exact h)) (x:=(r.rg,q)) ⟨r64,aFG⟩
 have hIx:=G6 _ _ hj0
 have h4':=hIx.m4
 simp only[pk] at aHK
 have jQ:∀s:St,s.df=[]->(∃pre,Jx pre s.H)->Q .ret s:=fun s aT h=>aD _ _ (.inr rfl) aT (.inr h)
 have hX':=hX
 by_cases hql:(r.rg,q)∈L
 ·have hgq:=aB8 (S:=rV [] L) (x:=(r.rg,q)) (rA.2 (.inr hql))
  simp only[pk] at hgq
  rw[aE hql] at nI
  rw[nI] at NC
  refine tq (BR f20 f21 f22 q2 qR G8 xB fQ lJ) ?_;intro Nx aB Gx aF
  refine UO 19 (fun _ _ _ _=>False) (by kernel_rfl) (by kernel_rfl) (by kernel_rfl) (by kernel_rfl) (by kernel_rfl) fun Nx aB=>?_
  refine dst (zY f0 f1 f2 hX h4' hgq GN hx cJ cC hi dX) ?_;intro Nx aB Gx aF
  refine⟨aHK,?_⟩
  refine dst (dG f0 @yD.eq_1) ?_;intro Nx aB Gx aF
  (first|refine aF _ ?_|refine aB _ ?_|skip)
  show WL _ _ (_::_) _ _
  refine tq (dG f0 @yD.eq_1) ?_;intro Nx aB Gx aF
  refine w8 ((T.take j).filter fun q=>decide ((r.rg,q)∈L)) q rfl rfl rfl (by simp [DE]) hY (fT _ _) NC hj0 rfl (fun H' DR jG=>?_) fun H' DR jG=>?_
  ·(have fs:=trivial;refine qK ?_;try clear fs);(first|refine aF _ ?_|refine aB _ ?_|skip)
   refine tq (dG f22 w3) ?_;intro Nx aB Gx aF
   exact⟨fQ,aT,f0,f1,f2,f20,f21,rfl,by rw[nI];exact DR⟩
  ·(have fs:=trivial;refine qK ?_;try clear fs);(first|refine aF _ ?_|refine aB _ ?_|skip)
   refine tq trivial ?_;intro Nx aB Gx aF
   exact jQ _ aT ⟨_,DR⟩
 ·have hgq:=WM (S:=rV [] L) (x:=(r.rg,q)) (fun h=>by rcases rA.1 h with h|h;cases h;exact hql h)
  simp only[pk] at hgq
  rw[aA hql,iJ] at nI
  refine tq (BR f20 f21 f22 q2 qR G8 xB fQ lJ) ?_;intro Nx aB Gx aF
  refine UO 19 (fun _ _ _ _=>False) (by kernel_rfl) (by kernel_rfl) (by kernel_rfl) (by kernel_rfl) (by kernel_rfl) fun Nx aB=>?_
  refine dst (zY f0 f1 f2 hX h4' hgq GN hx cJ cC hi dX) ?_;intro Nx aB Gx aF
  refine⟨aHK,?_⟩
  refine dst (dG f0 @yD.eq_1) ?_;intro Nx aB Gx aF
  (first|refine aF _ ?_|refine aB _ ?_|skip)
  show WL _ _ (_::_) _ _
  refine tq (dG f22 w3) ?_;intro Nx aB Gx aF
  exact⟨fQ,aT,f0,f1,f2,f20,f21,rfl,by rw[nI];exact hj0⟩
end Go.Proofs.YtfiipaodjpiooaaGreatDoor

