/- Lemmas and contracts of functions, several texts in one. -/
import Derived.Test.YtffgfafbffdgaaaGreatDoorR05
import Derived.Test.YtffgfafbffdgaaaGreatDoorProg
import Derived.RangeFuncIn
import Derived.RangeFuncRecord
import Derived.RangeFuncLeaves
import Derived.RangeFuncSeq
set_option maxRecDepth 100000
set_option maxHeartbeats 4000000
set_option linter.all false
namespace Go.Proofs.YtffgfafbffdgaaaGreatDoor
open Go.RowKit
variable {cx:Cx}{s:St}{o:Oper}{aY:List Oper}{i sz b k n:Nat}{P:Program}{f:FuncId}{H:aA}{d e d2 e2:D}{els:List (List D)}{w w':World}{v:Value}{ds0 ds:List D}{ty:TypeId}
theorem I0 {GW:Option Tmp->List D->aA->D->aA->Prop}{K:D->aA->Prop}(hd:qP cx.n o.dst)(h:jk cx.P GW s o K):
  WO cx o (λG=>∃d H',K d H'/\G=s.jg o d H') s:=by
 refine kQ hd ?_;unfold jk at h;split at h
 ·rename_i t x y e
  unfold cU;rw[e];exact(Js cx.P s.H t (s.ev x) (s.ev y)).2 K (λd H'=>∃j a,K j a/\(s.cJ H').put o.dst d=s.jg o j a) (λd H' l=>⟨d,H',l,rfl⟩) h
 ·rename_i t x i y e
  unfold cU;rw[e];exact(Jd cx.P s.H t (s.ev x) (s.ev i) (s.ev y)).2 K (λd H'=>∃j a,K j a/\(s.cJ H').put o.dst d=s.jg o j a) (λd H' l=>⟨d,H',l,rfl⟩) h
 ·rename_i c e
  unfold cU;rw[e];simp only;unfold DJ;split at h
  ·rename_i m
   rw[m];simp only[ze];split at h
   ·rename_i t z x y r u
    simp only[r,u];split at h
    ·exact h.elim
    ·rename_i p
     split
     ·rename_i A
      exact absurd A (p _ _ _ _)
     ·exact(If cx.P s.H t z x y).2 K (λd H'=>∃j a,K j a/\(s.cJ H').put o.dst d=s.jg o j a) (λd H' l=>⟨d,H',l,rfl⟩) h
   ·exact h.elim
  ·rename_i m
   rw[m];simp only[ze];split at h
   ·rename_i t z x y r u
    simp only[r,u];exact(FK cx.P s.H t x y).2 K (λd H'=>∃j a,K j a/\(s.cJ H').put o.dst d=s.jg o j a) (λd H' l=>⟨d,H',l,rfl⟩) h
   ·exact h.elim
  ·rename_i f m
   rw[m];simp only;split at h
   ·rename_i g I B
    simp only[B];exact h.1.mono λd H' E=>⟨d,H',h.2 d H' E,rfl⟩
   ·exact h.elim
  ·exact h.elim
 ·exact h.elim
theorem F4 {GW:Option Tmp->List D->aA->D->aA->Prop}{K:D->aA->Prop}(N:dQ cx.n aY=true)(ho:aY[i]?=some o)(h:gW cx.P GW aY.toArray s o K)
  {a:Act}{w:World}(m:bj cx s a w) {Q:Exit->Act->World->Prop}:
  wpOpIn (FR cx.ro) 9 cx.P aY.toArray Q i (λE w'=>∃d H',K d H'/\bj cx (s.jg o d H') E w') a w:=by
 have y:∀x∈aY,qP cx.n x.dst:=λx p=>by
  have:=(dK.1 N) x p;unfold qP;cases hq:x.dst with
  |none=>trivial
  |some t=>rw[hq] at this;simpa using this
 have M:=y o (eh ho);have B:∀{K:D->aA->Prop},jk cx.P GW s o K->o.wpIn (FR cx.ro) 9 cx.P a w (λE w'=>∃d H',K d H'/\bj cx (s.jg o d H') E w') Q:=λT=>
  Oper.wpIn_mono (λE w' ⟨s',m',d,A,R,S⟩=>⟨d,A,R,S▸m'⟩) (tD (I0 M T a w m))
 have skip:K (.val undef) s.H->∃d H',K d H'/\bj cx (s.jg o d H') (a.put o.dst undef) w:=λV=>
  ⟨_,s.H,V,m.put (fI M) (by simp only[D.is])⟩
 unfold wpOpIn;have p:aY.toArray[i]?=some o:=by simpa using ho
 rw[p];simp only;unfold gW at h;split at h
 ·rename_i I
  have Z:Region.wanted o (yielded aY.toArray a.tmps)=true:=by simp [Region.wanted,I]
  rw[aD Z];exact B h
 ·rename_i j c I
  have g:Region.wanted o (yielded aY.toArray a.tmps)=(yielded aY.toArray a.tmps j==some c):=by unfold Region.wanted;rw[I]
  split at h
  ·rename_i t l
   have L:t<cx.n:=by
    unfold j9 at l;cases hj:aY.toArray[j]? with
    |none=>rw[hj] at l;cases l
    |some x=>
     rw[hj] at l
     have:=y x (by have:=tJ hj;simpa using this)
     simp at l
     rw[l] at this
     exact this
   have u:yielded aY.toArray a.tmps j=match a.tmps[t]? with|some (.bool b)=>some b|_=>none:=by
    unfold yielded;unfold j9 at l;rw[l];rfl
   have J:t<a.tmps.size:=by rw[m.n];exact L
   have z:a.tmps[t]?=some (a.tmps.getD t undef):=by simp [J]
   have r:=m.fr t;split at h
   ·rename_i b G
    rw[oY] at h;rw[G] at r;simp only[D.is] at r;rw[z,r] at u;simp only at u;rw[u] at g;by_cases e:b=c
    ·rw[aD (by rw[g,e];simp)]
     exact B (h.1 e)
    ·have e2:b= !c:=by cases b <;> cases c <;> first|rfl|exact absurd rfl e
     rw[aC (by rw[g,e2];cases c <;> simp)];exact⟨gw,skip (h.2 e2)⟩
   ·rename_i G
    rw[G] at r;simp only[D.is] at r;rw[z,r] at u;simp only at u;rw[u] at g;rw[aC (by rw[g];simp)];exact⟨gw,skip h⟩
   ·exact h.elim
  ·exact h.elim
section
variable {cx:Cx}{fl wc:Option Tmp->Bool}{G:Option Tmp->List D->D->aA->Prop}{GW:Option Tmp->List D->aA->D->aA->Prop}{aY:List Oper}{Q:St->Prop}
theorem C5 (u:dQ cx.n aY=true)(hc:fi wc o=false):∀{c post:List Oper}{H:aA}{s:St}{a:Act}{w:World},(∀p∈c,ot aY.toArray p o/\p∈aY/\fi wc p=false)->ug cx.P fl wc G GW aY.toArray Q H (c++o::post) s->
  H.le s.H->bj cx s a w->mG cx.P G (rP fl H o) aY.toArray s o λ_ _=>True
 |[],post,H,s,a,w,_,h,_,_=>by
  simp only[cz,ug,hc,ia,dY] at h;exact(sJ _ _ _ _ _ _).2 _ _ (λ_ _ _=>trivial) h
 |p::c,post,H,s,a,w,hi,h,aM,m=>by
  obtain⟨g,r,j⟩:=hi p (by simp);simp only[dJ,ug,j,ia,dY] at h;obtain⟨i,l⟩:=pc r;obtain⟨K,w',d,A,B,x,J⟩:=mw (pA (Q:=Qw) (AN aM) u l h m);have y:=C5 u hc (λq E=>hi q (by simp [E])) (B x) (by rw[jv];exact iL aM (tR x)) J;have z:mG cx.P G (rP fl H o) aY.toArray (s.out p d A) o=mG cx.P G (rP fl H o) aY.toArray s o:=yV λt I=>iH λe=>(g.1 t e).1 I;rw[z] at y;exact y
theorem xO (r:dQ cx.n aY=true)(hf:ja fl o=true):∀{c post:List Oper}{H:aA}{s:St}{a:Act}{w:World},(∀p∈c,ot aY.toArray p o/\p∈aY)->ug cx.P fl wc G GW aY.toArray Q H (c++o::post) s->
  H.le s.H->bj cx s a w->mG cx.P G (rP fl H o) aY.toArray s o λ_ _=>True
 |[],post,H,s,a,w,_,h,_,_=>by
  simp only[cz,ug,s8 hf,ia,dY] at h;exact(sJ _ _ _ _ _ _).2 _ _ (λ_ _ _=>trivial) h
 |p::c,post,H,s,a,w,hi,h,aM,m=>by
  obtain⟨g,y⟩:=hi p (by simp);obtain⟨i,j⟩:=pc y;simp only[dJ,ug] at h;split at h
  ·obtain⟨J,w',d,H',x,E⟩:=mw (F4 (Q:=Qw) r j h m)
   have l:=xO r hf (λq z=>hi q (by simp [z])) x (by rw[EM];exact aF _) E;have u:mG cx.P G (rP fl H' o) aY.toArray (s.jg p d H') o=mG cx.P G (rP fl H' o) aY.toArray s o:=yV λt B=>vj λe=>(g.1 t e).1 B;rw[u,xA (H':=H) hf] at l;exact l
  ·obtain⟨J,w',d,A,x,I,E⟩:=mw (pA (Q:=Qw) (AN aM) r j h m)
   have l:=xO r hf (λq z=>hi q (by simp [z])) (x I) (by rw[jv];exact iL aM (tR I)) E;have u:mG cx.P G (rP fl H o) aY.toArray (s.out p d A) o=mG cx.P G (rP fl H o) aY.toArray s o:=yV λt B=>iH λe=>(g.1 t e).1 B;rw[u] at l;exact l
theorem C6 (u:dQ cx.n aY=true)(x:fi wc o=true):∀{c post:List Oper}{H:aA}{s:St}{a:Act}{w:World},(∀p∈c,ot aY.toArray p o/\p∈aY/\ja fl p=true)->ug cx.P fl wc G GW aY.toArray Q H (c++o::post) s->
  H.le s.H->bj cx s a w->gW cx.P GW aY.toArray s o λ_ _=>True
 |[],post,H,s,a,w,_,h,_,_=>by
  simp only[cz,ug,aD x] at h;exact(HS _ _ _ _ _).2 _ _ (λ_ _ _=>trivial) h
 |p::c,post,H,s,a,w,hi,h,aM,m=>by
  obtain⟨j,r,g⟩:=hi p (by simp);obtain⟨i,l⟩:=pc r;simp only[dJ,ug,s8 g,ia,dY] at h;obtain⟨L,w',d,A,⟨rfl,E⟩,B,K⟩:=mw (pA (Q:=Qw) (AN aM) u l (xB g h) m);have y:=C6 u x (λq I=>hi q (by simp [I])) (E B) (by rw[jv,jX];exact aM) K;have z:gW cx.P GW aY.toArray (s.out p d .none) o=gW cx.P GW aY.toArray s o:=OB (by rw[jv,jX]) λt J=>iH λe=>(j.1 t e).1 J;rw[z] at y;exact y
end
def yI (aY:List Oper):List Nat:=aY.foldl (λacc o=>acc++[o.after.toList.foldl (λm e=>if Region.binds .any e then m|||(1<<<e.on)|||acc.getD e.on 0 else m) 0]) []
def BD (aY:List Oper) (a:List Nat):Bool:=aY.zipIdx.all λ(o,j)=>(List.range j).all λi=> !((a.getD j 0).testBit i)||
 o.after.toList.any λe=>Region.binds .any e&&(e.on==i||(decide (i<e.on)&&(a.getD e.on 0).testBit i))
def GB (c g:Option Tmp->Bool) (aY:List Oper) (a:List Nat):Bool:=aY.zipIdx.all λ(o,j)=>(aY.take j).zipIdx.all λ(p,i)=>
 (a.getD j 0).testBit i|| !((fi g p&& !ja c o)||(fi g o&& !ja c p))
theorem VA {l:List Nat}(J:BD aY l=true)(I:ow aY=true){R:List Nat}(p:∀(k:Nat) (o:Oper),aY[k]?=some o->k∉R->∀e∈o.after.toList,Region.binds .any e=true->e.on∉R):
  ∀(j:Nat) (o:Oper),aY[j]?=some o->(∀e∈o.after.toList,Region.binds .any e=true->e.on∉R)->∀i,i<j->(l.getD j 0).testBit i=true->i∉R:=by
 intro j
 induction j using Nat.strongRecOn with
 |ind j G=>
  intro o ho A i B z
  have:=(dK.1 J) (o,j) (ui.2 (by simpa using ho))
  have:=(dK.1 this) i (ib.2 B)
  simp only[z,kF,nq] at this
  obtain⟨e,g,u⟩:=tO.1 this
  simp only[cX,rJ,rN,dF] at u
  obtain⟨c,x⟩:=u
  have a:=A e g c
  rcases x with rfl|⟨t,y⟩
  ·exact a
  ·have r:=jG I ho e g c
   have E:j<aY.length:=(gI.1 ho).1
   obtain⟨m,h⟩:∃m,aY[e.on]?=some m:=⟨aY[e.on],az (by omega)⟩
   exact G e.on r m h (p e.on m h a) i t y
theorem Hv {c l:Option Tmp->Bool}{a:List Nat}(h:GB c l aY a=true){j:Nat}{p:Oper}(g:i<j)(hp:aY[i]?=some p)(ho:aY[j]?=some o)(hnb:¬(a.getD j 0).testBit i=true):
  (fi l p=true->ja c o=true)/\(fi l o=true->ja c p=true):=by
 have:=(dK.1 h) (o,j) (ui.2 (by simpa using ho));have:=(dK.1 this) (p,i) (ui.2 (by simp only[mP];rw[aD g];exact hp));have m:(a.getD j 0).testBit i=false:=by simpa using hnb
 simp only[m,nq] at this;refine⟨λe=>?_,λe=>?_⟩
 ·cases hf:ja c o with
  |true=>rfl
  |false=>rw[e,hf] at this;simp at this
 ·cases hf:ja c p with
  |true=>rfl
  |false=>rw[e,hf] at this;simp at this
theorem LD {cx:Cx}{N wc:Option Tmp->Bool}{G:Option Tmp->List D->D->aA->Prop}{GW:Option Tmp->List D->aA->D->aA->Prop}{aY:List Oper}{ad:List Nat}{Q:Exit->St->Prop}
  (dC:dQ cx.n aY=true) (jr:ow aY=true) (xE:BD aY ad=true) (HU:GB N wc aY ad=true):∀(x:Nat) (R:List Nat) (c:Array Bool) (H:aA) (s:St) (a:Act) (w:World),
  R.length<=x->R.Pairwise (·<·)->c.size=aY.length->(∀i,i∈R↔i<aY.length/\c.getD i true=false)->
  (∀(k:Nat) (o:Oper),aY[k]?=some o->k∉R->∀e∈o.after.toList,Region.binds .any e=true->e.on∉R)->
  H.le s.H->bj cx s a w->ug cx.P N wc G GW aY.toArray (Q .normal) H (R.filterMap (aY[·]?)) s->
  wpAnyIn (FR cx.ro) 9 cx.P .any aY.toArray (QQ cx Q) x c a w:=by
 have stuck:∀(R:List Nat) (c:Array Bool),R.Pairwise (·<·)->(∀i,i∈R↔i<aY.length/\c.getD i true=false)->c.size=aY.length->Region.ready .any aY.toArray c=[]->R=[]:=by
  intro R c T u ir hr;rcases R with _|⟨r,R⟩
  ·rfl
  ·exfalso
   have a7:=(u r).1 (by simp);obtain⟨o,ho⟩:∃o,aY[r]?=some o:=⟨aY[r],by simp [a7.1]⟩;have:r∈Region.ready .any aY.toArray c:=by
    unfold Region.ready;rw[fN];refine⟨by simp;exact a7.1,?_⟩;have a5:aY.toArray[r]?=some o:=by simpa using ho
    rw[a7.2,a5];simp only[jW,cV,gJ,rF];rw[<-wQ,dK];intro e S;cases hb:Region.binds .any e with
    |false=>simp
    |true=>
     have ac:=jG jr ho e S hb
     have:¬e.on∈r::R:=λhm=>by
      rw[oa] at T;rcases bV.1 hm with h1|h1
      ·omega
      ·have:=T.1 _ h1;omega
     have I:c.getD e.on true=true:=by
      cases hl:c.getD e.on true with
      |true=>rfl
      |false=>exact absurd ((u e.on).2 ⟨by omega,hl⟩) this
     have h3:c.getD e.on false=true:=by
      have Z:e.on<c.size:=by omega
      simp only[Array.getD,Z,kL] at I ⊢;exact I
     simp [h3]
   rw[hr] at this;cases this
 intro x
 induction x with
 |zero=>
  intro R c H s a w cd T ir u a2 M m h
  obtain rfl:R=[]:=cy (by omega)
  have B:Region.ready .any aY.toArray c=[]:=by
   rw[Ek];intro i hi;unfold Region.ready at hi;rw[fN] at hi;have I:=hi.2;simp only[cX,mY] at I;exact absurd ((u i).2 ⟨by simpa using hi.1,I.1⟩) (by simp)
  exact⟨B,s,m,by simpa [ug] using h⟩
 |succ x ih=>
  intro R c H s a w cd T ir u a2 M m h
  refine⟨λhr=>?_,λi hi=>?_⟩
  ·obtain rfl:=stuck R c T u ir hr
   exact⟨s,m,by simpa [ug] using h⟩
  ·unfold Region.ready at hi
   rw[fN] at hi
   obtain⟨rV,a3⟩:=hi
   have aa:i<aY.length:=by simpa using rV
   obtain⟨o,ho⟩:∃o,aY[i]?=some o:=⟨aY[i],by simp [aa]⟩
   have a5:aY.toArray[i]?=some o:=by simpa using ho
   rw[a5] at a3
   simp only[cX,mY,gJ,rF] at a3
   obtain⟨hl,a8⟩:=a3
   have ar:i∈R:=(u i).2 ⟨aa,hl⟩
   have B:∀e∈o.after.toList,Region.binds .any e=true->e.on∉R:=λe S hb l=>by
    rw[<-wQ,dK] at a8;have:=a8 e S;rw[hb] at this;simp only[kF,nq] at this;have L:=(u e.on).1 l;have Z:e.on<c.size:=by omega
    simp only[Array.getD,Z,kL] at this L;rw[L.2] at this;cases this
   have am:=VA xE jr a2 i o ho B
   obtain⟨j,post,rfl⟩:=zL ar
   obtain⟨K,ak,a6⟩:=qd T
   have l:∀p∈j.filterMap (aY[·]?),ot aY.toArray p o/\p∈aY/\(fi wc p=true->ja N o=true)/\(fi wc o=true->ja N p=true):=λp g=>by
    obtain⟨k,y,a4⟩:=List.mem_filterMap.1 g;refine⟨sF jr (K k y) a4 ho λe S hb ap=>?_,eh a4,Hv HU (K k y) a4 ho λhb=>?_⟩
    ·exact B e S hb (by rw[ap];simp [y])
    ·exact am k (K k y) hb (by simp [y])
   have ag:(j++i::post).filterMap (aY[·]?)=j.filterMap (aY[·]?)++o::post.filterMap (aY[·]?):=by rw[pM,zJ,ho]
   rw[ag] at h
   have a1:∀k,k∈j++post↔k<aY.length/\(c.setIfInBounds i true).getD k true=false:=by
    intro k;have y:=u k;rw[bB,bV] at y;rw[bB];have ac:i<c.size:=by omega
    have ae:(c.setIfInBounds i true).getD k true=if k=i then true else c.getD k true:=qB _ _ _ _ _ ac
    rw[ae];by_cases e:k=i
    ·subst e
     simp only[dN];constructor
     ·rintro(h3|h3)
      ·have:=K _ h3;omega
      ·have:=ak _ h3;omega
     ·rintro⟨_,h3⟩;cases h3
    ·rw[aC e,<-y]
     constructor
     ·rintro(h3|h3)
      ·exact .inl h3
      ·exact .inr (.inr h3)
     ·rintro(h3|h3|h3)
      ·exact .inl h3
      ·exact absurd h3 e
      ·exact .inr h3
   have a9:∀k,k∈j++post->k∈j++i::post:=λk y=>by
    rcases bB.1 y with h1|h1
    ·simp [h1]
    ·simp [h1]
   have V:∀(k:Nat) (o:Oper),aY[k]?=some o->k∉j++post->∀e∈o.after.toList,Region.binds .any e=true->e.on∉j++post:=λk o2 J y e S hb t=>by
    by_cases ab:k=i
    ·subst ab
     rw[ho] at J;injection J with J
     subst J;exact B e S hb (a9 _ t)
    ·refine a2 k o2 J (λL=>y ?_) e S hb (a9 _ t)
     rcases bB.1 L with h1|h1
     ·exact bB.2 (.inl h1)
     ·rcases bV.1 h1 with h1|h1
      ·exact absurd h1 ab
      ·exact bB.2 (.inr h1)
   have a0:(j++post).length<=x:=by simp at cd ⊢;omega
   cases hw:fi wc o with
   |true=>
    have t:∀p∈j.filterMap (aY[·]?),ot aY.toArray p o/\p∈aY/\ja N p=true:=λp g=>⟨(l p g).1,(l p g).2.1,(l p g).2.2.2 hw⟩
    have E:=(HS cx.P GW aY.toArray s o).1 _ (C6 dC hw t h M m)
    refine wpOpIn_mono ?_ (F4 dC ho E m)
    rintro a' w' ⟨d,H',z,m'⟩
    have I:=Gb hw (λp g=>⟨(t p g).1,(t p g).2.2⟩) h z
    exact ih (j++post) _ H' (s.jg o d H') a' w' a0 a6 (by simpa using ir) a1 V (by rw[EM];exact aF _) m' (by rw[pM];exact I)
   |false=>
    by_cases hf:ja N o=true
    ·have al:=xO dC hf (λp g=>⟨(l p g).1,(l p g).2.1⟩) h M m
     have E:=xB hf ((sJ cx.P G (rP N H o) aY.toArray s o).1 _ al)
     refine wpOpIn_mono ?_ (pA (AN M) dC ho E m)
     rintro a' w' ⟨d,A,⟨rfl,z⟩,hA,m'⟩
     have I:=BL hf (λp g=>(l p g).1) h z
     exact ih (j++post) _ H (s.out o d .none) a' w' a0 a6 (by simpa using ir) a1 V (by rw[jv,jX];exact M) m' (by rw[pM];exact I)
    ·have t:∀p∈j.filterMap (aY[·]?),ot aY.toArray p o/\p∈aY/\fi wc p=false:=λp g=>by
      refine⟨(l p g).1,(l p g).2.1,?_⟩;cases T:fi wc p with
      |false=>rfl
      |true=>exact absurd ((l p g).2.2.1 T) hf
     have E:=(sJ cx.P G (rP N H o) aY.toArray s o).1 _ (C5 dC hw t h M m)
     refine wpOpIn_mono ?_ (pA (AN M) dC ho E m)
     rintro a' w' ⟨d,A,z,hA,m'⟩
     have I:=Ga hw (λp g=>⟨(t p g).1,(t p g).2.2⟩) h z hA
     exact ih (j++post) _ H (s.out o d A) a' w' a0 a6 (by simpa using ir) a1 V (by rw[jv];exact iL M (tR hA)) m' (by rw[pM];exact I)
theorem V5 {id:Nat}{aY:List Oper}{Q:Exit->St->Prop}{s:St}(c j:Option Tmp->Bool)(G:Option Tmp->List D->D->aA->Prop)(GW:Option Tmp->List D->aA->D->aA->Prop)(hm:cx.P.follows .mixedOrders=true)
  (p:dQ cx.n aY=true) (u:ow aY=true) (y:BD aY (yI aY)=true) (l:GB c j aY (yI aY)=true)
  (h:ug cx.P c j G GW aY.toArray (Q .normal) s.H aY s):W cx (.region id aY.toArray true) Q s:=λa w m=>by
 refine wpIn_region_any hm ?_;have x:bj cx s a w.drew:=m.go (nV s.H w) m.H.drew;have e:(List.range aY.length).filterMap (aY[·]?)=aY:=by
  rw[mT (g:=λi=>aY.getD i default) λi hi=>by
   have:i<aY.length:=by simpa using hi
   simp [List.getD,this]]
  apply np;intro i;by_cases hi:i<aY.length
  ·simp [hi,List.getD]
  ·simp [hi]
 refine LD p u y l _ (List.range aY.length) _ s.H s a _ (by simp) tI (by simp) (λi=>?_) (λk o t r=>?_) (aF _) x (by rw[e];exact h)
 ·simp only[ib,zN]
  constructor
  ·intro hi
   refine⟨hi,?_⟩;simp [Array.getD,hi]
  ·exact λh=>h.1
 ·exact absurd (ib.2 (gI.1 t).1) r
theorem lG (H:aA):jn aA.none H=True:=aG (nt H)
theorem wk {args:List D}{G:D->aA->Prop}{K:aA->D->aA->Prop}(h:∀a,H.le a->aN P f args a (K a))(hk:∀a d H',K a d H'->∃A,jn A a/\H'=a.add A/\G d A):cP P f args H G:=
 λa c=>(h a c).mono λd H' g=>hk a d H' g
def Vw (H:aA) (d d0:D):Prop:=∀w v,eF w H->D.is w H.others d v->D.is w aA.none.others d0 v
theorem iU (H:aA)(d:D):Vw H d d:=λw v _ h=>j6 (kK (pQ H) w) d h
theorem Q4 (h:gy H sz d (·=els)):Vw H d (.seq sz els):=λw v t x=>by
 obtain⟨l,A,c,rfl,rfl,g,a⟩:=pz t h x;simp only[D.is];refine⟨A,c,rfl,g,?_⟩;rcases a with a|⟨b,o,rfl,u,z⟩
 ·exact .inl a
 ·right
  refine⟨b,o,rfl,rfl,u,dV λi el y=>?_⟩;obtain⟨j,m⟩:=ca z i el y;refine⟨j,?_⟩;obtain⟨B,p,r⟩:=cf m;exact dD (bO (kK (pQ H) w) _ p) r
def Me (H:aA):List D->List D->Prop
 |[],[]=>True
 |d::ds,e::es=>Vw H d e/\Me H ds es
 |_,_=>False
theorem aBO (h:Vw H d e):Me H [d] [e]:=⟨h,trivial⟩
theorem MM (h:Vw H d e)(h2:Vw H d2 e2):Me H [d,d2] [e,e2]:=⟨h,h2,trivial⟩
theorem aDJ {d3 a:D}(h:Vw H d e)(h2:Vw H d2 e2)(h3:Vw H d3 a):Me H [d,d2,d3] [e,e2,a]:=⟨h,h2,h3,trivial⟩
theorem Me.all (c:eF w H):∀{ds a:List D}{vs:List Value},Me H ds a->aT w H.others ds vs->aT w aA.none.others a vs
 |[],[],vs,_,h=>by simp only[aT] at h ⊢;exact h
 |d::ds,e::a,vs,hv,h=>by
  simp only[aT] at h ⊢;obtain⟨u,us,rfl,h1,h2⟩:=h;exact⟨u,us,rfl,hv.1 w u c h1,Me.all c hv.2 h2⟩
 |[],_::_,_,hv,_=>hv.elim
 |_::_,[],_,hv,_=>hv.elim
def D.plain:D->Bool
 | .val _=>true
 | .eO ds=>ds.all λd=>match d with
  | .val _=>true
  |_=>false
 |_=>false
theorem Ah {S a:Nat->Prop}:∀{ds:List D}{vs:List Value},(ds.all λd=>match d with| .val _=>true|_=>false)=true->aT w S ds vs->aT w' a ds vs
 |[],_,_,h=>by simp only[aT] at h ⊢;exact h
 |d::ds,vs,hp,h=>by
  simp only[aT] at h ⊢;obtain⟨u,us,rfl,h1,h2⟩:=h;simp only[jQ,cX] at hp;refine⟨u,us,rfl,?_,Ah hp.2 h2⟩;cases d <;> first|(cases hp.1;done)|(simp only[D.is] at h1 ⊢;exact h1)
theorem PW {S a:Nat->Prop}(hp:d.plain=true)(h:D.is w S d v):D.is w' a d v:=by
 cases d with
 |val u=>simp only[D.is] at h ⊢;exact h
 |eO ds=>
  simp only[D.is] at h ⊢
  obtain⟨c,rfl,h⟩:=h
  exact⟨c,rfl,Ah hp h⟩
 |_=>cases hp
theorem HM (h:Ev aA.none w aA.none w'):Ev H w H w':=
 ⟨h.os,h.tape,h.output,h.size,λb a c=>⟨(h.cM b a rfl).1,c⟩,h.shape⟩
theorem JM (a:eF w H)(h:Ev aA.none w aA.none w'):eF w' H:=λb x c=>(HM h).jb (h.cM b (a.lt c) rfl).1 (a b x c)
theorem Nr (h:Below w.heap.size w w'):Ev H w H w':=
 ⟨h.os,h.tape,h.output,h.size,λb a g=>⟨h.block b a,g⟩,λb cs t c a=>⟨cs,c,(h.block b (jP.1 a).1).trans a,rfl⟩⟩
theorem qf {r:D}(h:aN P f ds0 .none λd _=>d=r)(hr:r.plain=true)(hv:Me H ds ds0):aN P f ds H λd H'=>d=r/\H=H':=
 And.intro h.1 λw t p c l=>by
  refine(h.2 w t (hv.all c p) (λb x m=>by cases m) (l.le (pQ _))).mono ?_;rintro e w' ⟨v,d,H',rfl,g,u,j,rfl⟩;have a:Ev aA.none w aA.none w':=j.less (pQ _);exact⟨v,d,H,rfl,PW hr g,JM c a,HM a,rfl,rfl⟩
theorem Me.le {H':aA}(c:H.le H'):∀{ds a:List D},Me H ds a->Me H' ds a->True:=λ_ _=>trivial
theorem Rv {x:D}{K:List (List D)->Prop}(h:gy H sz x (·=els))(hk:K els):gy H sz x K:=by
 unfold gy at h ⊢;split at h
 ·exact⟨h.1,h.2▸hk⟩
 ·split at h
  ·obtain⟨a,c,g,j,l⟩:=h
   exact⟨a,c,g,j,l▸hk⟩
  ·exact h.elim
 ·exact h▸hk
 ·exact h▸hk
 ·exact h.elim
theorem XI {S:Nat->Prop}{A:Option Addr}{l:List UInt8}(h:l.map bD=[]\/∃b o,A=some ⟨b,o,none⟩/\b<w.heap.size/\cK w S b 1 o (l.map bD)):Rd w w.heap.size A (bv l):=λj u a=>by
 rcases h with h|⟨b,o,rfl,p,r⟩
 ·have:l=[]:=by simpa using h
  subst this;cases a
 ·refine⟨b,o,rfl,p,?_⟩
  have g:j<l.length:=by
   have:=(gI.1 a).1;simpa [bv] using this
  obtain⟨_,c⟩:=ca r j (bD l[j]) (by simp [g]);simp only[bD,bU,D.is,jZ] at c;obtain⟨⟨t,m,_,rfl⟩,_⟩:=c;rw[m];simp only[bv,bg,az g,gJ] at a;exact a
theorem OR {l:List UInt8}(h:D.is w H.others (.seq 1 (l.map bD)) v):∃A c,v=.slice A l.length c/\l.length<=c/\Rd w w.heap.size A (bv l):=by
 simp only[D.is,aS] at h;obtain⟨A,c,rfl,g,a⟩:=h;refine⟨A,c,rfl,g,XI (S:=H.others) ?_⟩;rcases a with a|⟨b,o,j,_,m,p⟩
 ·exact .inl a
 ·exact .inr ⟨b,o,j,m,p⟩
theorem AL {o:Nat}{v:Value}(G:eF w H)(hb:H b=some (.row ty o sz els))(t:k+n<=els.length)
  (h0:D.is w H.others (.os b o sz k n) v):D.is w (H.del b).others (.seq sz ((els.drop k).take n)) v:=by
 have I:gy H sz (.os b o sz k n) (·=(els.drop k).take n):=by simp only[gy,hb];exact⟨trivial,trivial,trivial,t,trivial⟩
 obtain⟨l,A,x,rfl,p,j,c⟩:=pz G I h0;rw[p];simp only[D.is];refine⟨A,x,rfl,j,?_⟩;rcases c with c|⟨u,L,rfl,h,K⟩
 ·exact .inl c
 ·by_cases m:(els.drop k).take n=[]
  ·exact .inl m
  ·right
   refine⟨u,L,rfl,?_,h,dV λi el J=>?_⟩
   ·simp only[D.is] at h0
    obtain⟨M,N,e2,_,a⟩:=h0;rw[p] at e2;injection e2 with g R S
    have r:0<n:=by
     rcases wO n with h1|h1
     ·subst h1;simp at m
     ·exact h1
    rcases a with a|⟨a,_⟩
    ·have:((els.drop k).take n).length=n:=by rw[bX,gd];omega
     omega
    ·rw[a] at g
     injection g with g
     injection g with g
     subst g;exact lf _ _
   ·obtain⟨y,z⟩:=ca K i el J
    refine⟨y,?_⟩;obtain⟨T,B,E⟩:=cf z;exact dD (bO (kK (pR H b) w) _ B) E
def St.cm (s:St) (t:Nat) (b sz k n:Nat) (els:List (List D)):St:=(s.cJ (s.H.del b)).put (some t) (.seq sz ((els.drop k).take n))
theorem Li {a:Act}{t o:Nat}(ht:s.fr t=.os b o sz k n)(hb:s.H b=some (.row ty o sz els))(j:k+n<=els.length)(m:bj cx s a w):bj cx (s.cm t b sz k n els) a w:=by
 have c:=m.less (pR s.H b);refine⟨c.n,c.df,λx=>?_,c.H,c.ev⟩;have l:(s.cm t b sz k n els).fr x=if x=t then .seq sz ((els.drop k).take n) else s.fr x:=rfl
 rw[l];show D.is w (s.H.del b).others _ _;by_cases h:x=t
 ·subst h
  simp only[dN];have g:=m.fr x;rw[ht] at g;exact AL m.H hb j g
 ·simp only[aC h]
  exact c.fr x
theorem ux {cx:Cx}{c:Code}{Q:Exit->St->Prop}(t:Nat){o:Nat}(ht:s.fr t=.os b o sz k n)(hb:s.H b=some (.row ty o sz els))(g:k+n<=els.length)
  (h:W cx c Q (s.cm t b sz k n els)):W cx c Q s:=λa w m=>h a w (Li ht hb g m)
theorem aN.aBP {c:aA}{K:D->aA->Prop}(h:aN P f ds0 c K)(g:c.le H)(hv:∀w vs,eF w H->aT w H.others ds vs->aT w c.others ds0 vs):aN P f ds H K:=
 And.intro h.1 λw vs A l p=>(h.2 w vs (hv w vs l A) (l.less g) (p.le g)).mono λe w' ⟨v,d,m,u,t,j,a,y⟩=>
  ⟨v,d,m,u,t,j,⟨a.os,a.tape,a.output,a.size,λb r z=>a.cM b r (by
   cases hx:c b with
   |none=>rfl
   |some x=>have:=g b x hx;rw[z] at this;cases this),a.shape⟩,y⟩
theorem aN.aCg {P:Program}{f:FuncId}{o:Nat}{K:D->aA->Prop}(hb:H b=some (.row ty o sz els))(c:k+n<=els.length)
  (h:aN P f [.seq sz ((els.drop k).take n)] (H.del b) K):aN P f [.os b o sz k n] H K:=by
 refine h.aBP (pR H b) λw m g a=>?_;simp only[aT] at a ⊢;obtain⟨u,l,rfl,j,rfl⟩:=a;exact⟨u,[],rfl,AL g hb c j,rfl⟩
theorem Fk {a:Act}(t:Nat)(d:D)(h:∀w v,D.is w s.H.others (s.fr t) v->D.is w s.H.others d v)(m:bj cx s a w):bj cx (s.put (some t) d) a w:=by
 refine⟨m.n,m.df,λx=>?_,m.H,m.ev⟩;have g:(s.put (some t) d).fr x=if x=t then d else s.fr x:=rfl
 rw[g];show D.is w s.H.others _ _;by_cases c:x=t
 ·subst c
  rw[aD rfl];exact h w _ (m.fr x)
 ·rw[aC c]
  exact m.fr x
theorem RK {c:Code}{Q:Exit->St->Prop}(t:Nat)(d:D)(h:∀w v,D.is w s.H.others (s.fr t) v->D.is w s.H.others d v)(g:W cx c Q (s.put (some t) d)):W cx c Q s:=λa w m=>g a w (Fk t d h m)
theorem YE {aY:Array Oper}{l:List Oper}{Q:Exit->St->Prop}(t:Nat)(d:D)(h:∀w v,D.is w s.H.others (s.fr t) v->D.is w s.H.others d v)(c:WL cx aY l Q (s.put (some t) d)):WL cx aY l Q s:=λa w m=>c a w (Fk t d h m)
theorem yo {S:Nat->Prop}(h:D.is w S (.val (.slice none 0 0)) v):D.is w S (.seq sz []) v:=by
 have e:=cQ h;subst e;simp only[D.is];exact⟨none,0,rfl,bh _,.inl trivial⟩
end Go.Proofs.YtffgfafbffdgaaaGreatDoor
namespace Go.Proofs.YtffgfafbffdgaaaGreatDoor
open Tryz
theorem ty1:cG prog 1=some ⟨.other,1,8,some [.nilFunc]⟩:=by kernel_rfl
theorem ty2:cG prog 2=some ⟨.int .i64,1,8,some [.int .i64 0]⟩:=by kernel_rfl
theorem yv:cG prog 3=some ⟨.int .i64,1,8,some [.int .i64 0]⟩:=by kernel_rfl
theorem ty4:cG prog 4=some ⟨.bool,1,1,some [.bool false]⟩:=by kernel_rfl
theorem QP:cG prog 5=some ⟨.int .u8,1,1,some [.int .u8 0]⟩:=by kernel_rfl
theorem ty6:cG prog 6=some ⟨.int .u8,1,1,some [.int .u8 0]⟩:=by kernel_rfl
theorem ty7:cG prog 7=some ⟨.struct [(0,2),(1,3),(2,4),(3,6)],4,24,some [.int .i64 0,.int .i64 0,.bool false,.int .u8 0]⟩:=by kernel_rfl
theorem ty8:cG prog 8=some ⟨.struct [(0,2),(1,3),(2,4),(3,6)],4,24,some [.int .i64 0,.int .i64 0,.bool false,.int .u8 0]⟩:=by kernel_rfl
theorem G5:cG prog 9=some ⟨.string,1,16,some [.string ByteArray.empty]⟩:=by kernel_rfl
theorem aCv:cG prog 10=some ⟨.string,1,16,some [.string ByteArray.empty]⟩:=by kernel_rfl
theorem kR:cG prog 22=some ⟨.slice 9,1,24,some [.slice none 0 0]⟩:=by kernel_rfl
theorem qm:cG prog 23=some ⟨.slice 60,1,24,some [.slice none 0 0]⟩:=by kernel_rfl
theorem IU:cG prog 24=some ⟨.slice 71,1,24,some [.slice none 0 0]⟩:=by kernel_rfl
theorem X7:cG prog 25=some ⟨.slice 36,1,24,some [.slice none 0 0]⟩:=by kernel_rfl
theorem QN:cG prog 26=some ⟨.slice 46,1,24,some [.slice none 0 0]⟩:=by kernel_rfl
theorem aCw:cG prog 28=some ⟨.struct [(0,9),(1,22),(2,23),(3,24),(4,25),(5,3),(6,26)],7,144,some [.string ByteArray.empty,.slice none 0 0,.slice none 0 0,.slice none 0 0,.slice none 0 0,.int .i64 0,.slice none 0 0]⟩:=by kernel_rfl
theorem aCx:cG prog 30=some ⟨.other,1,8,some [.nilFunc]⟩:=by kernel_rfl
theorem aAo:cG prog 36=some ⟨.struct [(0,9),(1,3)],2,24,some [.string ByteArray.empty,.int .i64 0]⟩:=by kernel_rfl
theorem fk:cG prog 37=some ⟨.slice 3,1,24,some [.slice none 0 0]⟩:=by kernel_rfl
theorem X8:cG prog 38=some ⟨.slice 119,1,24,some [.slice none 0 0]⟩:=by kernel_rfl
theorem QO:cG prog 39=some ⟨.slice 117,1,24,some [.slice none 0 0]⟩:=by kernel_rfl
theorem aCy:cG prog 41=some ⟨.struct [(0,3),(1,39)],2,32,some [.int .i64 0,.slice none 0 0]⟩:=by kernel_rfl
theorem aCz:cG prog 43=some ⟨.struct [(0,3),(1,37),(2,38),(3,41),(5,9)],6,104,some [.int .i64 0,.slice none 0 0,.slice none 0 0,.int .i64 0,.slice none 0 0,.string ByteArray.empty]⟩:=by kernel_rfl
theorem X9:cG prog 44=some ⟨.slice 79,1,24,some [.slice none 0 0]⟩:=by kernel_rfl
theorem Xa:cG prog 46=some ⟨.struct [(0,44),(1,43)],7,128,some [.slice none 0 0,.int .i64 0,.slice none 0 0,.slice none 0 0,.int .i64 0,.slice none 0 0,.string ByteArray.empty]⟩:=by kernel_rfl
theorem qL:cG prog 47=some ⟨.slice 5,1,24,some [.slice none 0 0]⟩:=by kernel_rfl
theorem aDA:cG prog 48=some ⟨.int .i64,1,8,some [.int .i64 0]⟩:=by kernel_rfl
theorem Xb:cG prog 51=some ⟨.slice 58,1,24,some [.slice none 0 0]⟩:=by kernel_rfl
theorem aBF:cG prog 58=some ⟨.struct [(0,3),(1,47)],2,32,some [.int .i64 0,.slice none 0 0]⟩:=by kernel_rfl
theorem Bi:cG prog 60=some ⟨.array 2 3,2,16,some [.int .i64 0,.int .i64 0]⟩:=by kernel_rfl
theorem UO:cG prog 71=some ⟨.struct [(0,3),(1,4),(2,3),(3,3),(4,37)],5,56,some [.int .i64 0,.bool false,.int .i64 0,.int .i64 0,.slice none 0 0]⟩:=by kernel_rfl
theorem aDB:cG prog 74=some ⟨.ptr 46,1,8,some [.pointer none]⟩:=by kernel_rfl
theorem aDC:cG prog 77=some ⟨.struct [(0,3),(1,3),(2,3),(3,4),(4,41),(6,38)],7,88,some [.int .i64 0,.int .i64 0,.int .i64 0,.bool false,.int .i64 0,.slice none 0 0,.slice none 0 0]⟩:=by kernel_rfl
theorem aBG:cG prog 79=some ⟨.struct [(0,3),(1,41),(3,77),(10,3)],11,136,some [.int .i64 0,.int .i64 0,.slice none 0 0,.int .i64 0,.int .i64 0,.int .i64 0,.bool false,.int .i64 0,.slice none 0 0,.slice none 0 0,.int .i64 0]⟩:=by kernel_rfl
theorem aDD:cG prog 80=some ⟨.ptr 79,1,8,some [.pointer none]⟩:=by kernel_rfl
theorem aDE:cG prog 87=some ⟨.ptr 132,1,8,some [.pointer none]⟩:=by kernel_rfl
theorem aDF:cG prog 93=some ⟨.other,1,8,some [.nilFunc]⟩:=by kernel_rfl
theorem aDG:cG prog 94=some ⟨.other,1,8,some [.nilFunc]⟩:=by kernel_rfl
theorem aDH:cG prog 97=some ⟨.struct [(0,3),(1,3),(2,3),(3,48)],4,32,some [.int .i64 0,.int .i64 0,.int .i64 0,.int .i64 0]⟩:=by kernel_rfl
theorem Xc:cG prog 99=some ⟨.slice 161,1,24,some [.slice none 0 0]⟩:=by kernel_rfl
theorem Z7:cG prog 101=some ⟨.struct [(0,99),(1,23),(2,23),(3,23),(4,23)],5,120,some [.slice none 0 0,.slice none 0 0,.slice none 0 0,.slice none 0 0,.slice none 0 0]⟩:=by kernel_rfl
theorem QM:cG prog 117=some ⟨.struct [(0,3),(1,3)],2,16,some [.int .i64 0,.int .i64 0]⟩:=by kernel_rfl
theorem VD:cG prog 119=some ⟨.struct [(0,3),(1,41),(3,2)],4,48,some [.int .i64 0,.int .i64 0,.slice none 0 0,.int .i64 0]⟩:=by kernel_rfl
theorem Z8:cG prog 124=some ⟨.ptr 303,1,8,some [.pointer none]⟩:=by kernel_rfl
theorem Z9:cG prog 126=some ⟨.struct [(0,28),(7,124)],8,152,some [.string ByteArray.empty,.slice none 0 0,.slice none 0 0,.slice none 0 0,.slice none 0 0,.int .i64 0,.slice none 0 0,.pointer none]⟩:=by kernel_rfl
theorem Za:cG prog 132=some ⟨.struct [(0,22)],1,24,some [.slice none 0 0]⟩:=by kernel_rfl
theorem Zb:cG prog 133=some ⟨.ptr 137,1,8,some [.pointer none]⟩:=by kernel_rfl
theorem Zc:cG prog 134=some ⟨.ptr 230,1,8,some [.pointer none]⟩:=by kernel_rfl
theorem Zd:cG prog 137=some ⟨.struct [(0,134),(1,87),(2,48)],3,24,some [.pointer none,.pointer none,.int .i64 0]⟩:=by kernel_rfl
theorem Ze:cG prog 138=some ⟨.other,1,8,some [.nilFunc]⟩:=by kernel_rfl
theorem Zf:cG prog 141=some ⟨.other,1,8,some [.nilFunc]⟩:=by kernel_rfl
theorem Zg:cG prog 143=some ⟨.other,1,8,some [.nilFunc]⟩:=by kernel_rfl
theorem Zh:cG prog 145=some ⟨.other,1,8,some [.nilFunc]⟩:=by kernel_rfl
theorem Zi:cG prog 146=some ⟨.other,1,8,some [.nilFunc]⟩:=by kernel_rfl
theorem Zj:cG prog 147=some ⟨.ptr 149,1,8,some [.pointer none]⟩:=by kernel_rfl
theorem Zk:cG prog 149=some ⟨.struct [(0,134),(1,87),(2,48)],3,24,some [.pointer none,.pointer none,.int .i64 0]⟩:=by kernel_rfl
theorem Zl:cG prog 153=some ⟨.int .u64,1,8,some [.int .u64 0]⟩:=by kernel_rfl
theorem Zm:cG prog 155=some ⟨.other,1,8,some [.nilFunc]⟩:=by kernel_rfl
theorem VE:cG prog 161=some ⟨.struct [(0,3),(1,3),(2,4),(3,41)],5,56,some [.int .i64 0,.int .i64 0,.bool false,.int .i64 0,.slice none 0 0]⟩:=by kernel_rfl
theorem Zo:cG prog 163=some ⟨.ptr 169,1,8,some [.pointer none]⟩:=by kernel_rfl
theorem Zp:cG prog 166=some ⟨.map 3 37,1,8,some [.map none]⟩:=by kernel_rfl
theorem Zq:cG prog 167=some ⟨.map 60 4,1,8,some [.map none]⟩:=by kernel_rfl
theorem Zr:cG prog 169=some ⟨.struct [(0,101),(5,166),(6,167),(7,167),(8,167)],9,152,some [.slice none 0 0,.slice none 0 0,.slice none 0 0,.slice none 0 0,.slice none 0 0,.map none,.map none,.map none,.map none]⟩:=by kernel_rfl
theorem Zs:cG prog 170=some ⟨.other,1,8,some [.nilFunc]⟩:=by kernel_rfl
theorem Zt:cG prog 183=some ⟨.array 6 3,6,48,some [.int .i64 0,.int .i64 0,.int .i64 0,.int .i64 0,.int .i64 0,.int .i64 0]⟩:=by kernel_rfl
theorem Zu:cG prog 187=some ⟨.ptr 282,1,8,some [.pointer none]⟩:=by kernel_rfl
theorem Zv:cG prog 193=some ⟨.ptr 195,1,8,some [.pointer none]⟩:=by kernel_rfl
theorem Zw:cG prog 195=some ⟨.struct [(0,187),(1,87)],2,16,some [.pointer none,.pointer none]⟩:=by kernel_rfl
theorem Zx:cG prog 196=some ⟨.other,1,8,some [.nilFunc]⟩:=by kernel_rfl
theorem Zy:cG prog 199=some ⟨.other,1,8,some [.nilFunc]⟩:=by kernel_rfl
theorem Zz:cG prog 201=some ⟨.other,1,8,some [.nilFunc]⟩:=by kernel_rfl
theorem aAA:cG prog 203=some ⟨.other,1,8,some [.nilFunc]⟩:=by kernel_rfl
theorem aAB:cG prog 204=some ⟨.ptr 206,1,8,some [.pointer none]⟩:=by kernel_rfl
theorem aAC:cG prog 206=some ⟨.struct [(0,187),(1,87)],2,16,some [.pointer none,.pointer none]⟩:=by kernel_rfl
theorem aAD:cG prog 208=some ⟨.other,1,8,some [.nilFunc]⟩:=by kernel_rfl
theorem aAE:cG prog 228=some ⟨.int .u64,1,8,some [.int .u64 0]⟩:=by kernel_rfl
theorem aAF:cG prog 230=some ⟨.struct [(0,47)],1,24,some [.slice none 0 0]⟩:=by kernel_rfl
theorem aAG:cG prog 238=some ⟨.int .u32,1,4,some [.int .u32 0]⟩:=by kernel_rfl
theorem aAH:cG prog 243=some ⟨.map 60 4,1,8,some [.map none]⟩:=by kernel_rfl
theorem aAI:cG prog 244=some ⟨.slice 37,1,24,some [.slice none 0 0]⟩:=by kernel_rfl
theorem aAJ:cG prog 247=some ⟨.other,1,8,some [.nilFunc]⟩:=by kernel_rfl
theorem aAK:cG prog 248=some ⟨.other,1,8,some [.nilFunc]⟩:=by kernel_rfl
theorem aAL:cG prog 251=some ⟨.other,1,8,some [.nilFunc]⟩:=by kernel_rfl
theorem aAM:cG prog 253=some ⟨.other,1,8,some [.nilFunc]⟩:=by kernel_rfl
theorem aAN:cG prog 254=some ⟨.other,1,8,some [.nilFunc]⟩:=by kernel_rfl
theorem aAO:cG prog 256=some ⟨.struct [(0,3),(1,3)],2,16,some [.int .i64 0,.int .i64 0]⟩:=by kernel_rfl
theorem aAP:cG prog 257=some ⟨.struct [(0,3),(1,3)],2,16,some [.int .i64 0,.int .i64 0]⟩:=by kernel_rfl
theorem aAQ:cG prog 263=some ⟨.other,1,8,some [.nilFunc]⟩:=by kernel_rfl
theorem aAR:cG prog 264=some ⟨.other,1,8,some [.nilFunc]⟩:=by kernel_rfl
theorem aAS:cG prog 267=some ⟨.struct [(0,41),(2,4),(3,4)],4,40,some [.int .i64 0,.slice none 0 0,.bool false,.bool false]⟩:=by kernel_rfl
theorem aAT:cG prog 271=some ⟨.map 3 3,1,8,some [.map none]⟩:=by kernel_rfl
theorem aAU:cG prog 280=some ⟨.struct [(0,47),(1,3)],2,32,some [.slice none 0 0,.int .i64 0]⟩:=by kernel_rfl
theorem aAV:cG prog 282=some ⟨.struct [(0,280),(2,48)],3,40,some [.slice none 0 0,.int .i64 0,.int .i64 0]⟩:=by kernel_rfl
theorem aAW:cG prog 284=some ⟨.other,1,8,some [.nilFunc]⟩:=by kernel_rfl
theorem aAX:cG prog 292=some ⟨.other,1,8,some [.nilFunc]⟩:=by kernel_rfl
theorem aAY:cG prog 295=some ⟨.slice 48,1,24,some [.slice none 0 0]⟩:=by kernel_rfl
theorem aAZ:cG prog 296=some ⟨.map 9 4,1,8,some [.map none]⟩:=by kernel_rfl
theorem aA0:cG prog 297=some ⟨.ptr 299,1,8,some [.pointer none]⟩:=by kernel_rfl
theorem aA1:cG prog 299=some ⟨.struct [(0,3),(1,37)],2,32,some [.int .i64 0,.slice none 0 0]⟩:=by kernel_rfl
theorem aA2:cG prog 303=some ⟨.struct [(0,3),(1,166),(2,166)],3,24,some [.int .i64 0,.map none,.map none]⟩:=by kernel_rfl
theorem aA3:cG prog 305=some ⟨.slice 307,1,24,some [.slice none 0 0]⟩:=by kernel_rfl
theorem aA4:cG prog 307=some ⟨.struct [(0,3),(1,3)],2,16,some [.int .i64 0,.int .i64 0]⟩:=by kernel_rfl
theorem aA5:cG prog 308=some ⟨.array 2 307,4,32,some [.int .i64 0,.int .i64 0,.int .i64 0,.int .i64 0]⟩:=by kernel_rfl
theorem aA6:cG prog 309=some ⟨.array 6 307,12,96,some [.int .i64 0,.int .i64 0,.int .i64 0,.int .i64 0,.int .i64 0,.int .i64 0,.int .i64 0,.int .i64 0,.int .i64 0,.int .i64 0,.int .i64 0,.int .i64 0]⟩:=by kernel_rfl
theorem aA7:cG prog 310=some ⟨.other,1,8,some [.nilFunc]⟩:=by kernel_rfl
theorem aA8:cG prog 314=some ⟨.other,1,8,some [.nilFunc]⟩:=by kernel_rfl
theorem aA9:cG prog 317=some ⟨.array 256 4,256,256,some [.bool false,.bool false,.bool false,.bool false,.bool false,.bool false,.bool false,.bool false,.bool false,.bool false,.bool false,.bool false,.bool false,.bool false,.bool false,.bool false,.bool false,.bool false,.bool false,.bool false,.bool false,.bool false,.bool false,.bool false,.bool false,.bool false,.bool false,.bool false,.bool false,.bool false,.bool false,.bool false,.bool false,.bool false,.bool false,.bool false,.bool false,.bool false,.bool false,.bool false,.bool false,.bool false,.bool false,.bool false,.bool false,.bool false,.bool false,.bool false,.bool false,.bool false,.bool false,.bool false,.bool false,.bool false,.bool false,.bool false,.bool false,.bool false,.bool false,.bool false,.bool false,.bool false,.bool false,.bool false,.bool false,.bool false,.bool false,.bool false,.bool false,.bool false,.bool false,.bool false,.bool false,.bool false,.bool false,.bool false,.bool false,.bool false,.bool false,.bool false,.bool false,.bool false,.bool false,.bool false,.bool false,.bool false,.bool false,.bool false,.bool false,.bool false,.bool false,.bool false,.bool false,.bool false,.bool false,.bool false,.bool false,.bool false,.bool false,.bool false,.bool false,.bool false,.bool false,.bool false,.bool false,.bool false,.bool false,.bool false,.bool false,.bool false,.bool false,.bool false,.bool false,.bool false,.bool false,.bool false,.bool false,.bool false,.bool false,.bool false,.bool false,.bool false,.bool false,.bool false,.bool false,.bool false,.bool false,.bool false,.bool false,.bool false,.bool false,.bool false,.bool false,.bool false,.bool false,.bool false,.bool false,.bool false,.bool false,.bool false,.bool false,.bool false,.bool false,.bool false,.bool false,.bool false,.bool false,.bool false,.bool false,.bool false,.bool false,.bool false,.bool false,.bool false,.bool false,.bool false,.bool false,.bool false,.bool false,.bool false,.bool false,.bool false,.bool false,.bool false,.bool false,.bool false,.bool false,.bool false,.bool false,.bool false,.bool false,.bool false,.bool false,.bool false,.bool false,.bool false,.bool false,.bool false,.bool false,.bool false,.bool false,.bool false,.bool false,.bool false,.bool false,.bool false,.bool false,.bool false,.bool false,.bool false,.bool false,.bool false,.bool false,.bool false,.bool false,.bool false,.bool false,.bool false,.bool false,.bool false,.bool false,.bool false,.bool false,.bool false,.bool false,.bool false,.bool false,.bool false,.bool false,.bool false,.bool false,.bool false,.bool false,.bool false,.bool false,.bool false,.bool false,.bool false,.bool false,.bool false,.bool false,.bool false,.bool false,.bool false,.bool false,.bool false,.bool false,.bool false,.bool false,.bool false,.bool false,.bool false,.bool false,.bool false,.bool false,.bool false,.bool false,.bool false,.bool false,.bool false,.bool false,.bool false,.bool false,.bool false,.bool false,.bool false,.bool false,.bool false,.bool false,.bool false,.bool false,.bool false,.bool false,.bool false,.bool false,.bool false]⟩:=by kernel_rfl
theorem aAa:cG prog 321=some ⟨.ptr 317,1,8,some [.pointer none]⟩:=by kernel_rfl
theorem aAb:cG prog 323=some ⟨.int .i64,1,8,some [.int .i64 0]⟩:=by kernel_rfl
theorem aAc:cG prog 333=some ⟨.other,1,8,some [.nilFunc]⟩:=by kernel_rfl
theorem aAd:cG prog 334=some ⟨.other,1,8,some [.nilFunc]⟩:=by kernel_rfl
theorem aAe:cG prog 336=some ⟨.slice 341,1,24,some [.slice none 0 0]⟩:=by kernel_rfl
theorem aAf:cG prog 337=some ⟨.slice 339,1,24,some [.slice none 0 0]⟩:=by kernel_rfl
theorem aAg:cG prog 338=some ⟨.map 3 4,1,8,some [.map none]⟩:=by kernel_rfl
theorem aAh:cG prog 339=some ⟨.map 3 4,1,8,some [.map none]⟩:=by kernel_rfl
theorem aAi:cG prog 341=some ⟨.struct [(0,339),(1,3),(2,4)],3,24,some [.map none,.int .i64 0,.bool false]⟩:=by kernel_rfl
theorem aAj:cG prog 344=some ⟨.other,1,8,some [.nilFunc]⟩:=by kernel_rfl
theorem aAk:cG prog 345=some ⟨.other,1,8,some [.nilFunc]⟩:=by kernel_rfl
theorem aAl:cG prog 349=some ⟨.other,1,8,some [.nilFunc]⟩:=by kernel_rfl
theorem aAm:cG prog 352=some ⟨.other,1,8,some [.nilFunc]⟩:=by kernel_rfl
theorem aAn:cG prog 354=some ⟨.other,1,8,some [.nilFunc]⟩:=by kernel_rfl
theorem aAp:cG prog 365=some ⟨.other,1,8,some [.nilFunc]⟩:=by kernel_rfl
theorem aAq:cG prog 367=some ⟨.other,1,8,some [.nilFunc]⟩:=by kernel_rfl
theorem aAr:cG prog 369=some ⟨.other,1,8,some [.nilFunc]⟩:=by kernel_rfl
theorem aAs:cG prog 372=some ⟨.other,1,8,some [.nilFunc]⟩:=by kernel_rfl
theorem aAt:cG prog 373=some ⟨.array 6 372,6,48,some [.nilFunc,.nilFunc,.nilFunc,.nilFunc,.nilFunc,.nilFunc]⟩:=by kernel_rfl
theorem aAu:cG prog 376=some ⟨.other,1,8,some [.nilFunc]⟩:=by kernel_rfl
theorem aAv:cG prog 383=some ⟨.struct [(0,3),(1,48)],2,16,some [.int .i64 0,.int .i64 0]⟩:=by kernel_rfl
theorem aAw:cG prog 384=some ⟨.other,1,8,some [.nilFunc]⟩:=by kernel_rfl
theorem aAx:cG prog 385=some ⟨.other,1,8,some [.nilFunc]⟩:=by kernel_rfl
theorem aAy:cG prog 392=some ⟨.int .u64,1,8,some [.int .u64 0]⟩:=by kernel_rfl
theorem aAz:cG prog 396=some ⟨.ptr 3,1,8,some [.pointer none]⟩:=by kernel_rfl
theorem aBA:cG prog 400=some ⟨.array 256 238,256,1024,some [.int .u32 0,.int .u32 0,.int .u32 0,.int .u32 0,.int .u32 0,.int .u32 0,.int .u32 0,.int .u32 0,.int .u32 0,.int .u32 0,.int .u32 0,.int .u32 0,.int .u32 0,.int .u32 0,.int .u32 0,.int .u32 0,.int .u32 0,.int .u32 0,.int .u32 0,.int .u32 0,.int .u32 0,.int .u32 0,.int .u32 0,.int .u32 0,.int .u32 0,.int .u32 0,.int .u32 0,.int .u32 0,.int .u32 0,.int .u32 0,.int .u32 0,.int .u32 0,.int .u32 0,.int .u32 0,.int .u32 0,.int .u32 0,.int .u32 0,.int .u32 0,.int .u32 0,.int .u32 0,.int .u32 0,.int .u32 0,.int .u32 0,.int .u32 0,.int .u32 0,.int .u32 0,.int .u32 0,.int .u32 0,.int .u32 0,.int .u32 0,.int .u32 0,.int .u32 0,.int .u32 0,.int .u32 0,.int .u32 0,.int .u32 0,.int .u32 0,.int .u32 0,.int .u32 0,.int .u32 0,.int .u32 0,.int .u32 0,.int .u32 0,.int .u32 0,.int .u32 0,.int .u32 0,.int .u32 0,.int .u32 0,.int .u32 0,.int .u32 0,.int .u32 0,.int .u32 0,.int .u32 0,.int .u32 0,.int .u32 0,.int .u32 0,.int .u32 0,.int .u32 0,.int .u32 0,.int .u32 0,.int .u32 0,.int .u32 0,.int .u32 0,.int .u32 0,.int .u32 0,.int .u32 0,.int .u32 0,.int .u32 0,.int .u32 0,.int .u32 0,.int .u32 0,.int .u32 0,.int .u32 0,.int .u32 0,.int .u32 0,.int .u32 0,.int .u32 0,.int .u32 0,.int .u32 0,.int .u32 0,.int .u32 0,.int .u32 0,.int .u32 0,.int .u32 0,.int .u32 0,.int .u32 0,.int .u32 0,.int .u32 0,.int .u32 0,.int .u32 0,.int .u32 0,.int .u32 0,.int .u32 0,.int .u32 0,.int .u32 0,.int .u32 0,.int .u32 0,.int .u32 0,.int .u32 0,.int .u32 0,.int .u32 0,.int .u32 0,.int .u32 0,.int .u32 0,.int .u32 0,.int .u32 0,.int .u32 0,.int .u32 0,.int .u32 0,.int .u32 0,.int .u32 0,.int .u32 0,.int .u32 0,.int .u32 0,.int .u32 0,.int .u32 0,.int .u32 0,.int .u32 0,.int .u32 0,.int .u32 0,.int .u32 0,.int .u32 0,.int .u32 0,.int .u32 0,.int .u32 0,.int .u32 0,.int .u32 0,.int .u32 0,.int .u32 0,.int .u32 0,.int .u32 0,.int .u32 0,.int .u32 0,.int .u32 0,.int .u32 0,.int .u32 0,.int .u32 0,.int .u32 0,.int .u32 0,.int .u32 0,.int .u32 0,.int .u32 0,.int .u32 0,.int .u32 0,.int .u32 0,.int .u32 0,.int .u32 0,.int .u32 0,.int .u32 0,.int .u32 0,.int .u32 0,.int .u32 0,.int .u32 0,.int .u32 0,.int .u32 0,.int .u32 0,.int .u32 0,.int .u32 0,.int .u32 0,.int .u32 0,.int .u32 0,.int .u32 0,.int .u32 0,.int .u32 0,.int .u32 0,.int .u32 0,.int .u32 0,.int .u32 0,.int .u32 0,.int .u32 0,.int .u32 0,.int .u32 0,.int .u32 0,.int .u32 0,.int .u32 0,.int .u32 0,.int .u32 0,.int .u32 0,.int .u32 0,.int .u32 0,.int .u32 0,.int .u32 0,.int .u32 0,.int .u32 0,.int .u32 0,.int .u32 0,.int .u32 0,.int .u32 0,.int .u32 0,.int .u32 0,.int .u32 0,.int .u32 0,.int .u32 0,.int .u32 0,.int .u32 0,.int .u32 0,.int .u32 0,.int .u32 0,.int .u32 0,.int .u32 0,.int .u32 0,.int .u32 0,.int .u32 0,.int .u32 0,.int .u32 0,.int .u32 0,.int .u32 0,.int .u32 0,.int .u32 0,.int .u32 0,.int .u32 0,.int .u32 0,.int .u32 0,.int .u32 0,.int .u32 0,.int .u32 0,.int .u32 0,.int .u32 0,.int .u32 0,.int .u32 0,.int .u32 0,.int .u32 0,.int .u32 0,.int .u32 0,.int .u32 0,.int .u32 0,.int .u32 0,.int .u32 0,.int .u32 0,.int .u32 0,.int .u32 0,.int .u32 0,.int .u32 0,.int .u32 0,.int .u32 0,.int .u32 0]⟩:=by kernel_rfl
theorem aBB:cG prog 402=some ⟨.other,1,8,some [.nilFunc]⟩:=by kernel_rfl
theorem aBC:cG prog 425=some ⟨.other,1,8,some [.nilFunc]⟩:=by kernel_rfl
theorem aBD:cG prog 429=some ⟨.ptr 392,1,8,some [.pointer none]⟩:=by kernel_rfl
theorem aBE:cG prog 450=some ⟨.ptr 341,1,8,some [.pointer none]⟩:=by kernel_rfl
end Go.Proofs.YtffgfafbffdgaaaGreatDoor
namespace Go.Proofs.YtffgfafbffdgaaaGreatDoor
open Go.RowKit
open Tryz
variable {n o k sz b i:Nat}{P:Program}{a:Act}{w:World}{l2 l:List Oper}{cx:Cx}{s:St}{els:List (List D)}{ty:TypeId}{el:List D}{c:Code}
theorem E9 {e g:Type}(f:e->g)(l:List e):List.take l.length (List.map f l)=List.map f l:=bK (by rw[aS];exact bh _)
def vB0:=And.intro @sR (And.intro @P5 (And.intro @fC (And.intro @eL (And.intro @oR (And.intro @iN (And.intro @u5 (And.intro @fS (And.intro @Q8 (And.intro @qN (And.intro @WM (@Ns)))))))))))
def vB1:=And.intro @Rx (And.intro @LS (And.intro @SK (And.intro @uP (And.intro @SJ (And.intro @Ry (And.intro @Ll (And.intro @TG (And.intro @PF (And.intro @Hq (And.intro @Lk (@Fz)))))))))))
def vB2:=And.intro @TH (And.intro @Fy (And.intro @IS (And.intro @Rr (And.intro @cC.{0,0} (And.intro @fw.{0,0} (And.intro @lk.{0} (And.intro @tF.{0} (And.intro @List.getElem?_nil.{0} (And.intro @List.getD_cons_zero.{0} (And.intro @List.getD_cons_succ.{0} (@List.getD_nil.{0})))))))))))
def vB3:=And.intro @dj.{0} (And.intro @List.drop_succ_cons.{0} (And.intro @List.take_succ_cons.{0} (And.intro @gK.{0} (And.intro @bx.{0} (And.intro @dX.{0} (And.intro @cz.{0} (And.intro @dJ.{0} (And.intro @bz.{0} (And.intro @List.set_cons_zero.{0} (And.intro @List.set_cons_succ.{0} (@jQ.{0})))))))))))
def vB4:=And.intro @lh.{0} (And.intro @Option.isSome_some.{0} (And.intro @gJ.{0,0} (And.intro @Option.map_none.{0,0} (And.intro @Option.bind_some.{0,0} (And.intro @fu (And.intro @fq (And.intro @cV (And.intro @dF (And.intro @tE (And.intro @mY (@Bool.not_eq_false')))))))))))
def vB5:=And.intro @kF (And.intro @jW (And.intro @and_true (And.intro @true_and (And.intro @not_false_eq_true (And.intro @ia (And.intro @Mq (And.intro @Mt (And.intro @Ms (And.intro @Mr (And.intro @RV (@aX)))))))))))
def vB6:=And.intro @kG (And.intro @rM (And.intro @aK (And.intro @kX (And.intro @aS.{0,0} (And.intro @bh (And.intro @dI.{0} (And.intro @List.replicate_zero.{0} (And.intro @List.replicate_succ.{0} (And.intro @beq_true (And.intro @beq_false (@fp)))))))))))
def vB7:=And.intro @not_true_eq_false (And.intro @decide_true (And.intro @decide_false (And.intro @Int.cast_ofNat_Int (And.intro @Int.natCast_zero (And.intro @Int.natCast_one (@SO))))))
def vB:=And.intro @vB0 (And.intro @vB1 (And.intro @vB2 (And.intro @vB3 (And.intro @vB4 (And.intro @vB5 (And.intro @vB6 (@vB7)))))))
def vX:=And.intro @wV (And.intro @kJ (And.intro @E9 (And.intro @gx (@gM))))
def vT:=And.intro (And.intro (And.intro (And.intro (And.intro (And.intro (And.intro ty1 ty2) (And.intro yv ty4)) (And.intro (And.intro QP ty6) (And.intro ty7 ty8))) (And.intro (And.intro (And.intro G5 aCv) (And.intro kR qm)) (And.intro (And.intro IU X7) (And.intro QN (And.intro aCw aCx))))) (And.intro (And.intro (And.intro (And.intro aAo fk) (And.intro X8 QO)) (And.intro (And.intro aCy aCz) (And.intro X9 Xa))) (And.intro (And.intro (And.intro qL aDA) (And.intro Xb aBF)) (And.intro (And.intro Bi UO) (And.intro aDB (And.intro aDC aBG)))))) (And.intro (And.intro (And.intro (And.intro (And.intro aDD aDE) (And.intro aDF aDG)) (And.intro (And.intro aDH Xc) (And.intro Z7 QM))) (And.intro (And.intro (And.intro VD Z8) (And.intro Z9 Za)) (And.intro (And.intro Zb Zc) (And.intro Zd (And.intro Ze Zf))))) (And.intro (And.intro (And.intro (And.intro Zg Zh) (And.intro Zi Zj)) (And.intro (And.intro Zk Zl) (And.intro Zm VE))) (And.intro (And.intro (And.intro Zo Zp) (And.intro Zq Zr)) (And.intro (And.intro Zs Zt) (And.intro Zu (And.intro Zv Zw))))))) (And.intro (And.intro (And.intro (And.intro (And.intro (And.intro Zx Zy) (And.intro Zz aAA)) (And.intro (And.intro aAB aAC) (And.intro aAD aAE))) (And.intro (And.intro (And.intro aAF aAG) (And.intro aAH aAI)) (And.intro (And.intro aAJ aAK) (And.intro aAL (And.intro aAM aAN))))) (And.intro (And.intro (And.intro (And.intro aAO aAP) (And.intro aAQ aAR)) (And.intro (And.intro aAS aAT) (And.intro aAU aAV))) (And.intro (And.intro (And.intro aAW aAX) (And.intro aAY aAZ)) (And.intro (And.intro aA0 aA1) (And.intro aA2 (And.intro aA3 aA4)))))) (And.intro (And.intro (And.intro (And.intro (And.intro aA5 aA6) (And.intro aA7 aA8)) (And.intro (And.intro aA9 aAa) (And.intro aAb aAc))) (And.intro (And.intro (And.intro aAd aAe) (And.intro aAf aAg)) (And.intro (And.intro aAh aAi) (And.intro aAj (And.intro aAk aAl))))) (And.intro (And.intro (And.intro (And.intro aAm aAn) (And.intro aAp aAq)) (And.intro (And.intro aAr aAs) (And.intro aAt (And.intro aAu aAv)))) (And.intro (And.intro (And.intro aAw aAx) (And.intro aAy aAz)) (And.intro (And.intro aBA aBB) (And.intro aBC (And.intro aBD aBE)))))))
theorem zv1:ay prog 1=some (.nilFunc):=by kernel_rfl
theorem zv2:ay prog 2=some (.int .i64 0):=by kernel_rfl
theorem zv3:ay prog 3=some (.int .i64 0):=by kernel_rfl
theorem zv4:ay prog 4=some (.bool false):=by kernel_rfl
theorem zv5:ay prog 5=some (.int .u8 0):=by kernel_rfl
theorem zv6:ay prog 6=some (.int .u8 0):=by kernel_rfl
theorem zv9:ay prog 9=some (.string ByteArray.empty):=by kernel_rfl
theorem aDK:ay prog 10=some (.string ByteArray.empty):=by kernel_rfl
theorem aDL:ay prog 22=some (.slice none 0 0):=by kernel_rfl
theorem aDM:ay prog 23=some (.slice none 0 0):=by kernel_rfl
theorem aDN:ay prog 24=some (.slice none 0 0):=by kernel_rfl
theorem aDO:ay prog 25=some (.slice none 0 0):=by kernel_rfl
theorem aDP:ay prog 26=some (.slice none 0 0):=by kernel_rfl
theorem aDQ:ay prog 30=some (.nilFunc):=by kernel_rfl
theorem aDR:ay prog 37=some (.slice none 0 0):=by kernel_rfl
theorem aDS:ay prog 38=some (.slice none 0 0):=by kernel_rfl
theorem aDT:ay prog 39=some (.slice none 0 0):=by kernel_rfl
theorem aDU:ay prog 44=some (.slice none 0 0):=by kernel_rfl
theorem aDV:ay prog 47=some (.slice none 0 0):=by kernel_rfl
theorem aDW:ay prog 48=some (.int .i64 0):=by kernel_rfl
theorem aDX:ay prog 51=some (.slice none 0 0):=by kernel_rfl
theorem aDY:ay prog 74=some (.pointer none):=by kernel_rfl
theorem aDZ:ay prog 80=some (.pointer none):=by kernel_rfl
theorem aD0:ay prog 87=some (.pointer none):=by kernel_rfl
theorem aD1:ay prog 93=some (.nilFunc):=by kernel_rfl
theorem aD2:ay prog 94=some (.nilFunc):=by kernel_rfl
theorem aD3:ay prog 99=some (.slice none 0 0):=by kernel_rfl
theorem aBR:ay prog 124=some (.pointer none):=by kernel_rfl
theorem aBS:ay prog 133=some (.pointer none):=by kernel_rfl
theorem aBT:ay prog 134=some (.pointer none):=by kernel_rfl
theorem aBU:ay prog 138=some (.nilFunc):=by kernel_rfl
theorem aBV:ay prog 141=some (.nilFunc):=by kernel_rfl
theorem aBW:ay prog 143=some (.nilFunc):=by kernel_rfl
theorem aBX:ay prog 145=some (.nilFunc):=by kernel_rfl
theorem aBY:ay prog 146=some (.nilFunc):=by kernel_rfl
theorem aBZ:ay prog 147=some (.pointer none):=by kernel_rfl
theorem aB0:ay prog 153=some (.int .u64 0):=by kernel_rfl
theorem aB1:ay prog 155=some (.nilFunc):=by kernel_rfl
theorem aB2:ay prog 163=some (.pointer none):=by kernel_rfl
theorem aB3:ay prog 166=some (.map none):=by kernel_rfl
theorem aB4:ay prog 167=some (.map none):=by kernel_rfl
theorem aB5:ay prog 170=some (.nilFunc):=by kernel_rfl
theorem aB6:ay prog 187=some (.pointer none):=by kernel_rfl
theorem aB7:ay prog 193=some (.pointer none):=by kernel_rfl
theorem aB8:ay prog 196=some (.nilFunc):=by kernel_rfl
theorem aB9:ay prog 199=some (.nilFunc):=by kernel_rfl
theorem aBa:ay prog 201=some (.nilFunc):=by kernel_rfl
theorem aBb:ay prog 203=some (.nilFunc):=by kernel_rfl
theorem aBc:ay prog 204=some (.pointer none):=by kernel_rfl
theorem aBd:ay prog 208=some (.nilFunc):=by kernel_rfl
theorem aBe:ay prog 228=some (.int .u64 0):=by kernel_rfl
theorem aBf:ay prog 238=some (.int .u32 0):=by kernel_rfl
theorem aBg:ay prog 243=some (.map none):=by kernel_rfl
theorem aBh:ay prog 244=some (.slice none 0 0):=by kernel_rfl
theorem aBi:ay prog 247=some (.nilFunc):=by kernel_rfl
theorem aBj:ay prog 248=some (.nilFunc):=by kernel_rfl
theorem aBk:ay prog 251=some (.nilFunc):=by kernel_rfl
theorem aBl:ay prog 253=some (.nilFunc):=by kernel_rfl
theorem aBm:ay prog 254=some (.nilFunc):=by kernel_rfl
theorem aBn:ay prog 263=some (.nilFunc):=by kernel_rfl
theorem aBo:ay prog 264=some (.nilFunc):=by kernel_rfl
theorem aBp:ay prog 271=some (.map none):=by kernel_rfl
theorem aBq:ay prog 284=some (.nilFunc):=by kernel_rfl
theorem aBr:ay prog 292=some (.nilFunc):=by kernel_rfl
theorem aBs:ay prog 295=some (.slice none 0 0):=by kernel_rfl
theorem aBt:ay prog 296=some (.map none):=by kernel_rfl
theorem aBu:ay prog 297=some (.pointer none):=by kernel_rfl
theorem aBv:ay prog 305=some (.slice none 0 0):=by kernel_rfl
theorem aBw:ay prog 310=some (.nilFunc):=by kernel_rfl
theorem aBx:ay prog 314=some (.nilFunc):=by kernel_rfl
theorem aBy:ay prog 321=some (.pointer none):=by kernel_rfl
theorem aBz:ay prog 323=some (.int .i64 0):=by kernel_rfl
theorem aCA:ay prog 333=some (.nilFunc):=by kernel_rfl
theorem aCB:ay prog 334=some (.nilFunc):=by kernel_rfl
theorem aCC:ay prog 336=some (.slice none 0 0):=by kernel_rfl
theorem aCD:ay prog 337=some (.slice none 0 0):=by kernel_rfl
theorem aCE:ay prog 338=some (.map none):=by kernel_rfl
theorem aCF:ay prog 339=some (.map none):=by kernel_rfl
theorem aCG:ay prog 344=some (.nilFunc):=by kernel_rfl
theorem aCH:ay prog 345=some (.nilFunc):=by kernel_rfl
theorem aCI:ay prog 349=some (.nilFunc):=by kernel_rfl
theorem aCJ:ay prog 352=some (.nilFunc):=by kernel_rfl
theorem aCK:ay prog 354=some (.nilFunc):=by kernel_rfl
theorem aCL:ay prog 365=some (.nilFunc):=by kernel_rfl
theorem aCM:ay prog 367=some (.nilFunc):=by kernel_rfl
theorem aCN:ay prog 369=some (.nilFunc):=by kernel_rfl
theorem aCO:ay prog 372=some (.nilFunc):=by kernel_rfl
theorem aCP:ay prog 376=some (.nilFunc):=by kernel_rfl
theorem aCQ:ay prog 384=some (.nilFunc):=by kernel_rfl
theorem aCR:ay prog 385=some (.nilFunc):=by kernel_rfl
theorem aCS:ay prog 392=some (.int .u64 0):=by kernel_rfl
theorem aCT:ay prog 396=some (.pointer none):=by kernel_rfl
theorem aCU:ay prog 402=some (.nilFunc):=by kernel_rfl
theorem aCV:ay prog 425=some (.nilFunc):=by kernel_rfl
theorem aCW:ay prog 429=some (.pointer none):=by kernel_rfl
theorem aCX:ay prog 450=some (.pointer none):=by kernel_rfl
def vZ:=And.intro (And.intro (And.intro (And.intro (And.intro (And.intro zv1 (And.intro zv2 zv3)) (And.intro zv4 (And.intro zv5 zv6))) (And.intro (And.intro zv9 (And.intro aDK aDL)) (And.intro aDM (And.intro aDN aDO)))) (And.intro (And.intro (And.intro aDP (And.intro aDQ aDR)) (And.intro aDS (And.intro aDT aDU))) (And.intro (And.intro aDV (And.intro aDW aDX)) (And.intro aDY (And.intro aDZ aD0))))) (And.intro (And.intro (And.intro (And.intro aD1 (And.intro aD2 aD3)) (And.intro aBR (And.intro aBS aBT))) (And.intro (And.intro aBU (And.intro aBV aBW)) (And.intro aBX (And.intro aBY aBZ)))) (And.intro (And.intro (And.intro aB0 (And.intro aB1 aB2)) (And.intro aB3 (And.intro aB4 aB5))) (And.intro (And.intro aB6 (And.intro aB7 aB8)) (And.intro aB9 (And.intro aBa aBb)))))) (And.intro (And.intro (And.intro (And.intro (And.intro aBc (And.intro aBd aBe)) (And.intro aBf (And.intro aBg aBh))) (And.intro (And.intro aBi (And.intro aBj aBk)) (And.intro aBl (And.intro aBm aBn)))) (And.intro (And.intro (And.intro aBo (And.intro aBp aBq)) (And.intro aBr (And.intro aBs aBt))) (And.intro (And.intro aBu (And.intro aBv aBw)) (And.intro aBx (And.intro aBy aBz))))) (And.intro (And.intro (And.intro (And.intro aCA (And.intro aCB aCC)) (And.intro aCD (And.intro aCE aCF))) (And.intro (And.intro aCG (And.intro aCH aCI)) (And.intro aCJ (And.intro aCK aCL)))) (And.intro (And.intro (And.intro aCM (And.intro aCN aCO)) (And.intro aCP (And.intro aCQ aCR))) (And.intro (And.intro aCS (And.intro aCT aCU)) (And.intro aCV (And.intro aCW aCX))))))
theorem MO {F:Fence}{o:Oper}{K u:Act->World->Prop}{Q Q':Exit->Act->World->Prop}(h:o.wpIn F n P a w K Q)(hk:∀a w,K a w->u a w)(j:∀e a w,e≠ .normal->Q e a w->Q' e a w):o.wpIn F n P a w u Q':=by
 refine Oper.wpIn_mono (K:=K) hk ?_;unfold Oper.wpIn at *;refine⟨h.1,?_⟩;have f:=h.2;generalize (o.semAt F.round a.eval).run P w=r at *;cases r with
 |ok x y=>
  cases x <;> simp only[Oper.uponIn] at f ⊢ <;>
   first
    |exact f
    |exact⟨f.1,CallsIn.mono f.2 (λe t g=>by cases e <;> first|exact g|exact j _ _ _ (by simp) g|(obtain⟨v,p,m⟩:=g;exact⟨v,p,j _ _ _ (by simp) m⟩))⟩
    |exact⟨f.1,RoundIn.mono f.2 (λe t g=>by cases e <;> first|exact g|exact j _ _ _ (by simp) g|(obtain⟨v,p,m⟩:=g;exact⟨v,p,j _ _ _ (by simp) m⟩))⟩
 |halt x y=>cases x <;> simp only[Oper.uponIn] at f ⊢ <;> first|exact f|exact j _ _ _ (by simp) f
theorem sW {F:Fence}{f:Array Oper}{Q Q':Exit->Act->World->Prop}(hn:∀a w,Q' .normal a w->wpListIn F n P f Q l2 a w)(g:∀e a w,e≠ .normal->Q' e a w->Q e a w):∀{m:List Oper}{a:Act}{w:World},wpListIn F n P f Q' m a w->wpListIn F n P f Q (m++l2) a w
 |[],a,w,h=>hn a w h
 |o::m,a,w,h=>by
  simp only[dJ,wpListIn] at h ⊢;split at h
  ·rename_i j
   rw[aD j];exact MO h (λa w h=>sW hn g h) g
  ·rename_i j
   rw[aC j];exact⟨h.1,sW hn g h.2⟩
theorem VX {f:Array Oper}{j:List Oper}{Q:Exit->St->Prop}(h:WL cx f j (dR (WL cx f l2 Q) Q) s):WL cx f (j++l2) Q s:=λa w m=>
 sW (Q':=QQ cx (dR (WL cx f l2 Q) Q)) (λa w ⟨p,g,q⟩=>q a w g) (λe a w r ⟨p,g,q⟩=>⟨p,g,by cases e <;> first|exact absurd rfl r|exact q⟩) (h a w m)
theorem Hr (h:dQ n l=true):dQ n (l.take k)=true:=by
 unfold dQ at h ⊢;rw[dK] at h ⊢;exact λo e=>h o (rC e)
theorem VY {e:List Oper}{Q:Exit->St->Prop}(n:Nat)(f:dQ cx.n e=true)(hl:dQ cx.n l=true)(h:ij cx e.toArray (dR (WL cx e.toArray (l.drop n) Q) Q) (l.take n) s):WL cx e.toArray l Q s:=by
 rw[<-ga n l];exact VX (yM f (Hr hl) h)
theorem x9 {id:Nat}{e:List Oper}{Q:Exit->St->Prop}(n:Nat)(f:dQ cx.n e=true)(h:ij cx e.toArray (dR (WL cx e.toArray (e.drop n) Q) Q) (e.take n) s):W cx (.region id e.toArray false) Q s:=
 uz (VY n f f h)
def Sl (e:TypeId) (sz:Nat) (els:List (List D)) (d:D) (f H:aA):Prop:=
 (d=.val (.slice none 0 0)/\els=[]/\H=f)\/∃c o,d=.os c o sz 0 els.length/\f c=none/\H=f.aU c (.row e o sz els)
theorem Sl.nil (e:TypeId)(sz:Nat)(H:aA):Sl e sz [] (.val (.slice none 0 0)) H H:=.inl ⟨rfl,rfl,rfl⟩
theorem Fv {H:aA}{x:D}{K:List (List D)->Prop}(h:gP H sz x (·=els))(hk:K els):gP H sz x K:=by
 unfold gP at h ⊢;split at h
 ·exact⟨h.1,h.2▸hk⟩
 ·exact Rv h hk
theorem Sl.Gz {t xt e:TypeId}{u A:Ti}{r:Nat}{B:List Value}(h1:cG P t=some u)(f:u.d=.slice e)(h2:cG P xt=some A)(g:A.d.gX=true){G:TD}(h3:cG P e=some ⟨G,sz,r,some B⟩)(p:B.length=sz)(m:r≠0)
  {els new:List (List D)}{x y:D}{v H:aA}{K:D->aA->Prop}(hs:Sl e sz els x v H) (hy:gP H sz y (·=new)) (hb:(els.length+new.length) * r<=140737488355328) (hk:∀d H',Sl e sz (els++new) d v H'->K d H'):Gz P H t xt x y K:=by
 obtain⟨d0,L,M,N⟩:=u;simp only at f;subst f;unfold Go.Proofs.YtffgfafbffdgaaaGreatDoor.Gz;rw[h1,h2];simp only;refine⟨g,?_⟩;rw[h3];simp only;refine⟨p,m,Fv hy ?_⟩;rcases hs with⟨rfl,rfl,rfl⟩|⟨c,o,rfl,z,rfl⟩
 ·refine⟨by simpa using hb,λe=>hk _ _ (.inl ⟨rfl,by simp [e],rfl⟩),λI b j=>hk _ _ (.inr ⟨b,0,by simp,j,by simp⟩)⟩
 ·simp only
  refine⟨trivial,hb,?_⟩;rw[aK];simp only;refine⟨trivial,trivial,trivial,by omega,λE J h=>hk _ _ (.inr ⟨E,J,by rw[aV],?_,?_⟩)⟩
  ·rwa[kX,iy z] at h
  ·rw[kX,iy z,dj,dI]
theorem zi {x:D}{p:D->aA->Prop}:(∀d A,(A=aA.none/\d=x)->p d A)=p x aA.none:=propext ⟨λh=>h _ _ ⟨rfl,rfl⟩,λh d A e=>by rw[e.1,e.2];exact h⟩
theorem Q7 {x:D}{y:aA}{p:D->aA->Prop}:(∀d H',(d=x/\H'=y)->p d H')=p x y:=propext ⟨λh=>h _ _ ⟨rfl,rfl⟩,λh d A e=>by rw[e.1,e.2];exact h⟩
theorem Ic {x y:Code}{Q:Exit->St->Prop}(M:St->Prop)(h1:W cx x (dR M (λ_ _=>False)) s)(h2:∀s,M s->W cx y Q s):W cx (.seq x y) Q s:=
 bW (nA h1 λe f q=>by cases e <;> first|exact h2 f q|exact q.elim)
theorem Dg {H:aA}{k:Nat}{v:Value}(e:eF w H)(hb:H b=some (.row ty o sz els))(hi:els[i]?=some el)
  (h0:D.is w H.others (.ep b o sz i k) v):D.is w (H.del b).others (.rp (el.drop k)) v:=by
 simp only[D.is] at h0 ⊢;obtain⟨cs,j,m,p,r,h⟩:=e _ _ hb;refine⟨b,_,h0,lf _ _,e.lt hb,?_⟩;obtain⟨t,f,g⟩:=cf (iQ (ca h i el hi).2 k);exact dD (bO (kK (pR H b) w) _ f) g
def St.ku (s:St) (t:Nat) (b k:Nat) (el:List D):St:=(s.cJ (s.H.del b)).put (some t) (.rp (el.drop k))
theorem Hk {t:Nat}(ht:s.fr t=.ep b o sz i k)(hb:s.H b=some (.row ty o sz els))(hi:els[i]?=some el)(m:bj cx s a w):bj cx (s.ku t b k el) a w:=by
 have e:=m.less (pR s.H b);refine⟨e.n,e.df,λx=>?_,e.H,e.ev⟩;have h:(s.ku t b k el).fr x=if x=t then .rp (el.drop k) else s.fr x:=rfl
 rw[h];show D.is w (s.H.del b).others _ _;by_cases g:x=t
 ·subst g
  rw[aD rfl];have f:=m.fr x;rw[ht] at f;exact Dg m.H hb hi f
 ·rw[aC g]
  exact e.fr x
theorem dZ {Q:Exit->St->Prop}(t:Nat)(ht:s.fr t=.ep b o sz i k)(hb:s.H b=some (.row ty o sz els))(hi:els[i]?=some el)(h:W cx c Q (s.ku t b k el)):W cx c Q s:=λa w m=>h a w (Hk ht hb hi m)
theorem AF {H:aA}{x y:cY}{o o':Obj}(g:eF w H)(hb:H b=some x)(ho:w.heap[b]?=some o)(hc:∀cs t fr,o≠ .cells cs t fr)(hy:jb (w.putObj b o') (H.aU b y) b y):Ev H w (H.aU b y) (w.putObj b o')/\eF (w.putObj b o') (H.aU b y):=by
 have e:∀c,c≠b->(w.putObj b o').heap[c]?=w.heap[c]?:=λc h=>World.putObj_heap_other h;have f:Ev H w (H.aU b y) (w.putObj b o'):=jI (by rw[hb];simp) rfl rfl rfl World.putObj_size e λcs t fr h=>by
  rw[ho] at h;injection h with h
  exact absurd h (hc cs t fr)
 exact⟨f,hQ g f e hy⟩
theorem sq {o o':Obj}(ho:w.heap[b]?=some o):(w.putObj b o').heap[b]?=some o':=World.putObj_heap_same (jP.1 ho).1
def xl:Obj:=Obj.deferred (some [])
def mk:List Deferred->aA->Prop
 |[],_=>True
 |d::ds,H=>∃D,d={target:=.collected D,args:= #[]}/\H D=some (.obj xl)/\mk ds (H.aU D .hid)
def xL:List Deferred->aA->aA
 |[],H=>H
 |d::ds,H=>match d.target with
  | .collected D=>xL ds (H.aU D .hid)
  |_=>xL ds H
theorem bj.ZM (m:bj cx s a w)(ds:List Deferred):bj cx {s with df:=ds} {a with defers:=ds} w:=⟨m.n,rfl,m.fr,m.H,m.ev⟩
theorem JX {fn:Func}{R:Ending->World->Prop}:∀(ds:List Deferred) (s:St) (a:Act) (w:World),bj cx s a w->mk ds s.H->
  (∀g f,g.tmps=a.tmps->bj cx {s with H:=xL ds s.H,df:=[]} g f->∃v,(results fn g.tmps).run cx.P f=.ok v f/\R (.returned v) f)->LeavesInM (FR none) 9 cx.P fn a.tmps R ds .returning w
 |[],s,a,w,m,_,h=>by
  obtain⟨v,h1,h2⟩:=h {a with defers:=[]} w rfl (m.ZM []);exact⟨v,h1,h2⟩
 |d::ds,s,a,w,m,hm,h=>by
  obtain⟨D,rfl,j,hm⟩:=hm;have e:w.heap[D]?=some xl:=m.H D _ j;obtain⟨r,p⟩:=AF (o':=.deferred none) (y:=.hid) m.H j e (λ_ _ _ h=>by cases h) (by
   show D<(w.putObj D (.deferred none)).heap.size;rw[World.putObj_size];exact(jP.1 e).1)
  refine⟨by simp,.inl ⟨D,_,rfl,run_takeDeferred e,?_⟩⟩;exact JX ds (s.cJ (s.H.aU D .hid)) a _ (m.go r p) hm h
theorem lH {f:FuncId}{fn:Func}{ds:List D}{H:aA}{K:D->aA->Prop}(N:Nat)(rs:List ResultVar)(hf:P.funcs[f]?=some fn)(mh:(fn.name== "runtime.NumGoroutine")=false)(hb:fn.body=some c)(hN:fn.ntmps=N)(xv:fn.results=rs.toArray)(hl:ds.length<=N)
  (h:∀S (Z:wW S H) (Q:Exit->St->Prop),(∀e s,e=.normal\/e=.ret->mk s.df s.H->pZ P {s with H:=xL s.df s.H,df:=[]} rs (λd=>∃H',H'.le (xL s.df s.H)/\K d H')->Q e s)->W ⟨P,none,N,H,S,Z⟩ c Q (St.init ds H)):aN P f ds H K:=And.intro (jH hf mh hb) λw u I hH r=>by
 refine mf (ro:=none) (n:=9) (callsIn_of_wp_marks hf hb trivial ?_ rfl);have cd:=fo I;have m:bj ⟨P,none,N,H,w,r⟩ (St.init ds H) {tmps:=u.toArray++Array.replicate (fn.ntmps - u.toArray.size) undef,defers:=[]} w:=by
  refine⟨by simp;omega,rfl,λt=>?_,hH,dr _ _⟩;simp only[St.init];rcases fv t ds.length with j|wY
  ·obtain⟨v,A,B⟩:=iO I t ds[t] (by simp [j])
   have z:ds.getD t (.val undef)=ds[t]:=by simp [List.getD,j]
   have V:(u.toArray++Array.replicate (fn.ntmps - u.toArray.size) undef).getD t undef=v:=by
    rw[nK,wF (by simp;omega)];simp [A]
   rw[z,V];exact B
  ·have z:ds.getD t (.val undef)=.val undef:=by simp [List.getD,wY]
   rw[z];simp only[D.is];rw[nK,wD (by simp;omega),wG];split <;> rfl
 refine wpIn_mono (h w r (λe s=>(e=.normal\/e=.ret)/\mk s.df s.H/\Ew ⟨P,none,N,H,w,r⟩ fn {s with H:=xL s.df s.H,df:=[]} K) (λe s E G hr=>⟨E,G,?_⟩) _ _ m) λe x g ⟨R,J,q⟩=>?_
 ·have hq:LK ⟨P,none,N,H,w,r⟩ fn K .normal {s with H:=xL s.df s.H,df:=[]}:=sG (.inl rfl) rfl (by rw[xv];simpa using hr)
  exact hq.2
 ·obtain⟨E,G,y⟩:=q
  have p:LeavesInM (FR none) 9 P fn x.tmps (λe g=>∃v d H',e=.returned v/\D.is g H'.others d v/\eF g H'/\Ev H w H' g/\K d H') x.defers .returning g:=by
   rw[J.df];refine JX R.df R x g J G λT w2 ht L=>?_;obtain⟨v,d,H',A,B,h3,h4⟩:=y T w2 L;have M:=L.less h3;exact⟨v,A,v,d,H',rfl,B,M.H,M.ev,h4⟩
  rcases E with rfl|rfl
  ·exact p
  ·exact p
theorem BO {ro:Option Nat}(m:Nat){Q:Exit->Act->World->Prop}(h:c.wpIn (FR ro) m P Q a w):c.wpIn (FR ro) n P Q a w:=
 λb k cs e f _=>h b k cs e f (λ_ h=>by simp [FR,Fence.wide] at h)
def yD (l:Nat):D:=.val (.func (.yield l) #[] #[])
def Xm {j:Type}(P:Program) (l:Nat) (p:aA) (y:World) (J u:List j->aA->Prop) (m:j->List D) (v:List j->Prop):Prop:=
 ∀(g:List j) (x:j) (h:aA) (w:World) (r:List Value),v (g++[x])->J g h->eF w h->Ev p y h w->aT w h.others (m x) r->
  YieldAt (FR none) 8 P l r.toArray w λe t=>∃f,eF t f/\Ev h w f t/\(∀b o,p b=none->h b=some (.obj o)->f b=some (.obj o))/\((e=.returned (.bool true)/\J (g++[x]) f)\/(e=.returned (.bool false)/\u (g++[x]) f))
def YC {f:Type}(P:Program) (l:Nat) (g:aA) (j:World) (J h:List f->aA->Prop) (e:f->List D) (m:List f):Prop:=Xm P l g j J h e (·<+:m)
def yN {h:Type}(f:aA) (J:List h->aA->Prop):Prop:=∀e H b o,f b=none->(∀z,H b=some z->∃g,z=.obj g)->J e H->J e (H.aU b (.obj o))
def ph {p:Type}(P:Program) (t:FuncId) (A:List D) (m:p->List D) (z Fn:List p->Prop) (ok B:aA->Prop):Prop:=
 Gj P t/\∀(l:Nat) (J j:List p->aA->Prop) (H:aA) (g:World) (u:List Value),ok H->eF g H->wW g H->J [] H->yN H J->yN H j->(∀f r,J f r->B r)->Xm P l H g J j m z->aT g H.others (yD l::A) u->
  Calls P t u.toArray g λe x=>∃v h,e=.returned v/\eF x h/\Ev H g h x/\((∃y,Fn y/\J y h)\/∃f,j f h)
def BY {g:Type}(P:Program) (j:FuncId) (h:List D) (e:g->List D) (f:List g) (ok:aA->Prop):Prop:=ph P j h e (·<+:f) (·=f) ok λ_=>True
theorem oI {z:Type}{cx:Cx}{o:Oper}{K:St->Prop}{s:St}{c:Call}{f:Operand}{l:Nat}{J I:List z->aA->Prop}{t:z->List D}{L:List z->Prop}(h:List z)(x:z)
  (y:o.op=.call c) (B:c.callee=.value f) (hf:s.ev f=yD l) (hd:qP cx.n o.dst) (V:Xm cx.P l cx.H0 cx.w0 J I t L) (hx:L (h++[x])) (S:J h s.H) (ha:s.rh c.args=t x)
  (ht:∀H',J (h++[x]) H'->K ((s.cJ H').put o.dst (.val (.bool true)))) (hn:∀H',I (h++[x]) H'->K ((s.cJ H').put o.dst (.val (.bool false)))):WO cx o K s:=λa w m=>by
 refine⟨gw,?_⟩;rw[u7 (by simp [y])];have r:=m.nz f;rw[hf] at r;simp only[yD,D.is] at r;have u:=m.Db c.args;rw[ha] at u;obtain⟨M,p,g,j,hy,T⟩:=V h x s.H w _ hx S m.H m.ev u;have A:(execOp a.eval o).run cx.P w=.ok (.round l M p g j) w:=by
  simp only[execOp,y,resolve,B,r,Deferred.ofValue,Sem.run_bind,Sem.run_pure,Result.andThen,invoke];have e:(c.args.map a.eval).toList.toArray=c.args.map a.eval:=Array.toArray_toList;rw[e] at hy;simpa using hy
 rw[A,Oper.uponIn_round];refine⟨λG=>(by cases G),?_⟩;have E:RoundIn (FR cx.ro) 8 cx.P l M p g j w _:=T;refine E.mono λe Z ⟨H',N,R,_,v⟩=>?_;rcases v with⟨rfl,v⟩|⟨rfl,v⟩
 ·exact⟨_,(m.go R N).put (fI hd) (by simp only[D.is]),ht H' v⟩
 ·exact⟨_,(m.go R N).put (fI hd) (by simp only[D.is]),hn H' v⟩
end Go.Proofs.YtffgfafbffdgaaaGreatDoor
