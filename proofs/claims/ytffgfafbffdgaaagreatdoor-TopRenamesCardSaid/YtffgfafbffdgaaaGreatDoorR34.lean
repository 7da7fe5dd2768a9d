/- Lemmas and contracts of functions, several texts in one. -/
import Derived.Test.YtffgfafbffdgaaaGreatDoorR30
set_option maxRecDepth 100000
set_option maxHeartbeats 4000000
set_option linter.all false
namespace Go.Proofs.YtffgfafbffdgaaaGreatDoor
open Go.RowKit
open Tryz
variable {H0 H' H A K:aA}{b sz c o n:Nat}{els els' E:List (List D)}{T e:TypeId}{d:D}
theorem Y0 (els:List (List D))(H:aA)(hl:els.length<=1000000):aN prog 23 [.seq 2 els] H (En 60 2 els H):=by
 refine dO func23 ntmps23 results23 λu t Q k=>?_;refine t0 ?_;intro U Y O C;intro b q;refine Y _ ?_;cases b with
 |true=>
  refine u0 k ?_
  have j:els=[]:=eC λe=>Bool.noConfusion (q λl=>e (cy l))
  exact⟨H,aF _,.inl ⟨rfl,j,rfl⟩⟩
 |false=>
  refine t0 ?_;intro U Y O C
  intro h f
  refine ax (e:=60) qm rfl qm rfl Bi rfl (by decide) (aQ (aF _) f) (.inr ⟨h,0,rfl,rfl,f,aK _ _ _⟩:Gl H 60 2 [] (.os h 0 2 0 0) (H.aU h (.row 60 0 2 [])) (some h)) (new:=els) (by exact⟨rfl,rfl⟩) (by rw[dX];show(_+_) * 16<=_;omega) λd s r g a _=>?_
  refine u0 k ?_
  rw[cz] at g
  rcases g with⟨_,rfl,j⟩|⟨c,o,_,rfl,m,p⟩
  ·exact⟨H,a,.inl ⟨rfl,j,rfl⟩⟩
  ·refine⟨H.aU c (.row 60 o 2 els),λb x i=>?_,.inr ⟨c,o,m,rfl,rfl⟩⟩
   by_cases e:b=c
   ·rw[e,aK] at i;rw[e,p];exact i
   ·rw[aJ e] at i;exact a _ _ i
theorem YX (els:List (List D))(H:aA)(hl:els.length<=1000000):aN prog 24 [.seq 2 els] H (En 36 2 els H):=by
 refine dO func24 ntmps24 results24 λu t Q k=>?_;refine t0 ?_;intro U Y O C;intro b q;refine Y _ ?_;cases b with
 |true=>
  refine u0 k ?_
  have j:els=[]:=eC λe=>Bool.noConfusion (q λl=>e (cy l))
  exact⟨H,aF _,.inl ⟨rfl,j,rfl⟩⟩
 |false=>
  refine t0 ?_;intro U Y O C
  intro h f
  refine ax (e:=36) X7 rfl X7 rfl aAo rfl (by decide) (aQ (aF _) f) (.inr ⟨h,0,rfl,rfl,f,aK _ _ _⟩:Gl H 36 2 [] (.os h 0 2 0 0) (H.aU h (.row 36 0 2 [])) (some h)) (new:=els) (by exact⟨rfl,rfl⟩) (by rw[dX];show(_+_) * 24<=_;omega) λd s r g a _=>?_
  refine u0 k ?_
  rw[cz] at g
  rcases g with⟨_,rfl,j⟩|⟨c,o,_,rfl,m,p⟩
  ·exact⟨H,a,.inl ⟨rfl,j,rfl⟩⟩
  ·refine⟨H.aU c (.row 36 o 2 els),λb x i=>?_,.inr ⟨c,o,m,rfl,rfl⟩⟩
   by_cases e:b=c
   ·rw[e,aK] at i;rw[e,p];exact i
   ·rw[aJ e] at i;exact a _ _ i
theorem Y1 (els:List (List D))(H:aA)(hl:els.length<=1000000):aN prog 25 [.seq 5 els] H (En 71 5 els H):=by
 refine dO func25 ntmps25 results25 λu t Q k=>?_;refine t0 ?_;intro U Y O C;intro b q;refine Y _ ?_;cases b with
 |true=>
  refine u0 k ?_
  have j:els=[]:=eC λe=>Bool.noConfusion (q λl=>e (cy l))
  exact⟨H,aF _,.inl ⟨rfl,j,rfl⟩⟩
 |false=>
  refine t0 ?_;intro U Y O C
  intro h f
  refine ax (e:=71) IU rfl IU rfl UO rfl (by decide) (aQ (aF _) f) (.inr ⟨h,0,rfl,rfl,f,aK _ _ _⟩:Gl H 71 5 [] (.os h 0 5 0 0) (H.aU h (.row 71 0 5 [])) (some h)) (new:=els) (by exact⟨rfl,rfl⟩) (by rw[dX];show(_+_) * 56<=_;omega) λd s r g a _=>?_
  refine u0 k ?_
  rw[cz] at g
  rcases g with⟨_,rfl,j⟩|⟨c,o,_,rfl,m,p⟩
  ·exact⟨H,a,.inl ⟨rfl,j,rfl⟩⟩
  ·refine⟨H.aU c (.row 71 o 5 els),λb x i=>?_,.inr ⟨c,o,m,rfl,rfl⟩⟩
   by_cases e:b=c
   ·rw[e,aK] at i;rw[e,p];exact i
   ·rw[aJ e] at i;exact a _ _ i
theorem YV (els:List (List D))(H:aA)(hl:els.length<=1000000):aN prog 26 [.seq 7 els] H (En 46 7 els H):=by
 refine dO func26 ntmps26 results26 λu t Q k=>?_;refine t0 ?_;intro U Y O C;intro b q;refine Y _ ?_;cases b with
 |true=>
  refine u0 k ?_
  have j:els=[]:=eC λe=>Bool.noConfusion (q λl=>e (cy l))
  exact⟨H,aF _,.inl ⟨rfl,j,rfl⟩⟩
 |false=>
  refine t0 ?_;intro U Y O C
  intro h f
  refine ax (e:=46) QN rfl QN rfl Xa rfl (by decide) (aQ (aF _) f) (.inr ⟨h,0,rfl,rfl,f,aK _ _ _⟩:Gl H 46 7 [] (.os h 0 7 0 0) (H.aU h (.row 46 0 7 [])) (some h)) (new:=els) (by exact⟨rfl,rfl⟩) (by rw[dX];show(_+_) * 128<=_;omega) λd s r g a _=>?_
  refine u0 k ?_
  rw[cz] at g
  rcases g with⟨_,rfl,j⟩|⟨c,o,_,rfl,m,p⟩
  ·exact⟨H,a,.inl ⟨rfl,j,rfl⟩⟩
  ·refine⟨H.aU c (.row 46 o 7 els),λb x i=>?_,.inr ⟨c,o,m,rfl,rfl⟩⟩
   by_cases e:b=c
   ·rw[e,aK] at i;rw[e,p];exact i
   ·rw[aJ e] at i;exact a _ _ i
theorem Ub (els:List (List D))(H:aA)(hl:els.length<=1000000):aN prog 27 [.seq 1 els] H (En 3 1 els H):=by
 refine dO func27 ntmps27 results27 λu t Q k=>?_;refine t0 ?_;intro U Y O C;intro b q;refine Y _ ?_;cases b with
 |true=>
  refine u0 k ?_
  have j:els=[]:=eC λe=>Bool.noConfusion (q λl=>e (cy l))
  exact⟨H,aF _,.inl ⟨rfl,j,rfl⟩⟩
 |false=>
  refine t0 ?_;intro U Y O C
  intro h f
  refine ax (e:=3) fk rfl fk rfl yv rfl (by decide) (aQ (aF _) f) (.inr ⟨h,0,rfl,rfl,f,aK _ _ _⟩:Gl H 3 1 [] (.os h 0 1 0 0) (H.aU h (.row 3 0 1 [])) (some h)) (new:=els) (by exact⟨rfl,rfl⟩) (by rw[dX];show(_+_) * 8<=_;omega) λd s r g a _=>?_
  refine u0 k ?_
  rw[cz] at g
  rcases g with⟨_,rfl,j⟩|⟨c,o,_,rfl,m,p⟩
  ·exact⟨H,a,.inl ⟨rfl,j,rfl⟩⟩
  ·refine⟨H.aU c (.row 3 o 1 els),λb x i=>?_,.inr ⟨c,o,m,rfl,rfl⟩⟩
   by_cases e:b=c
   ·rw[e,aK] at i;rw[e,p];exact i
   ·rw[aJ e] at i;exact a _ _ i
theorem YY (els:List (List D))(H:aA)(hl:els.length<=1000000):aN prog 28 [.seq 11 els] H (En 79 11 els H):=by
 refine dO func28 ntmps28 results28 λu t Q k=>?_;refine t0 ?_;intro U Y O C;intro b q;refine Y _ ?_;cases b with
 |true=>
  refine u0 k ?_
  have j:els=[]:=eC λe=>Bool.noConfusion (q λl=>e (cy l))
  exact⟨H,aF _,.inl ⟨rfl,j,rfl⟩⟩
 |false=>
  refine t0 ?_;intro U Y O C
  intro h f
  refine ax (e:=79) X9 rfl X9 rfl aBG rfl (by decide) (aQ (aF _) f) (.inr ⟨h,0,rfl,rfl,f,aK _ _ _⟩:Gl H 79 11 [] (.os h 0 11 0 0) (H.aU h (.row 79 0 11 [])) (some h)) (new:=els) (by exact⟨rfl,rfl⟩) (by rw[dX];show(_+_) * 136<=_;omega) λd s r g a _=>?_
  refine u0 k ?_
  rw[cz] at g
  rcases g with⟨_,rfl,j⟩|⟨c,o,_,rfl,m,p⟩
  ·exact⟨H,a,.inl ⟨rfl,j,rfl⟩⟩
  ·refine⟨H.aU c (.row 79 o 11 els),λb x i=>?_,.inr ⟨c,o,m,rfl,rfl⟩⟩
   by_cases e:b=c
   ·rw[e,aK] at i;rw[e,p];exact i
   ·rw[aJ e] at i;exact a _ _ i
theorem YZ (els:List (List D))(H:aA)(hl:els.length<=1000000):aN prog 59 [.seq 4 els] H (En 119 4 els H):=by
 refine dO func59 ntmps59 results59 λu t Q k=>?_;refine t0 ?_;intro U Y O C;intro b q;refine Y _ ?_;cases b with
 |true=>
  refine u0 k ?_
  have j:els=[]:=eC λe=>Bool.noConfusion (q λl=>e (cy l))
  exact⟨H,aF _,.inl ⟨rfl,j,rfl⟩⟩
 |false=>
  refine t0 ?_;intro U Y O C
  intro h f
  refine ax (e:=119) X8 rfl X8 rfl VD rfl (by decide) (aQ (aF _) f) (.inr ⟨h,0,rfl,rfl,f,aK _ _ _⟩:Gl H 119 4 [] (.os h 0 4 0 0) (H.aU h (.row 119 0 4 [])) (some h)) (new:=els) (by exact⟨rfl,rfl⟩) (by rw[dX];show(_+_) * 48<=_;omega) λd s r g a _=>?_
  refine u0 k ?_
  rw[cz] at g
  rcases g with⟨_,rfl,j⟩|⟨c,o,_,rfl,m,p⟩
  ·exact⟨H,a,.inl ⟨rfl,j,rfl⟩⟩
  ·refine⟨H.aU c (.row 119 o 4 els),λb x i=>?_,.inr ⟨c,o,m,rfl,rfl⟩⟩
   by_cases e:b=c
   ·rw[e,aK] at i;rw[e,p];exact i
   ·rw[aJ e] at i;exact a _ _ i
theorem YW (els:List (List D))(H:aA)(hl:els.length<=1000000):aN prog 58 [.seq 2 els] H (En 117 2 els H):=by
 refine dO func58 ntmps58 results58 λu t Q k=>?_;refine t0 ?_;intro U Y O C;intro b q;refine Y _ ?_;cases b with
 |true=>
  refine u0 k ?_
  have j:els=[]:=eC λe=>Bool.noConfusion (q λl=>e (cy l))
  exact⟨H,aF _,.inl ⟨rfl,j,rfl⟩⟩
 |false=>
  refine t0 ?_;intro U Y O C
  intro h f
  refine ax (e:=117) QO rfl QO rfl QM rfl (by decide) (aQ (aF _) f) (.inr ⟨h,0,rfl,rfl,f,aK _ _ _⟩:Gl H 117 2 [] (.os h 0 2 0 0) (H.aU h (.row 117 0 2 [])) (some h)) (new:=els) (by exact⟨rfl,rfl⟩) (by rw[dX];show(_+_) * 16<=_;omega) λd s r g a _=>?_
  refine u0 k ?_
  rw[cz] at g
  rcases g with⟨_,rfl,j⟩|⟨c,o,_,rfl,m,p⟩
  ·exact⟨H,a,.inl ⟨rfl,j,rfl⟩⟩
  ·refine⟨H.aU c (.row 117 o 2 els),λb x i=>?_,.inr ⟨c,o,m,rfl,rfl⟩⟩
   by_cases e:b=c
   ·rw[e,aK] at i;rw[e,p];exact i
   ·rw[aJ e] at i;exact a _ _ i
def n0 (b:bn):Nat:=1+b.rg.length+b.ol.length+b.lc.length+b.ty.length+b.bl.length
def n1 (b:bn) (i:Nat):Nat:=n0 b+sm (λt:bp=>t.ar.length) (b.ty.take i)
def n2 (b:bn) (i:Nat):Nat:=n1 b b.ty.length+sm Ww (b.bl.take i)
def n3 (b:bn) (i j:Nat) (st:List qO):Nat:=n2 b i+sm (λs:qO=>4+s.pl.pr.length+s.rv.pl.pr.length) (st.take j)
def n3r (b:bn) (i j:Nat) (st:List qO):Nat:=n2 b i+sm ZA (st.take j)
def smB (b:bn):Prop:=XY b/\b.ol.length<=1000000/\b.ty.length<=1000000/\(∀x∈b.bl,aCs x)/\EE b<=1000000
theorem Bz {w:World}(f:eF w H'):∀{ds a:List D}{k:Nat},mz H0 H' ds a->bU w H'.others b k ds->bU w H0.others b k a
 |[],[],_,_,_=>trivial
 |d::ds,e::a,k,hf,h=>by
  simp only[bU] at h ⊢;obtain⟨⟨u,h2,h3,h4⟩,h5⟩:=h;exact⟨⟨u,h2,h3,hf.1 w u f h4⟩,Bz f hf.2 h5⟩
 |[],_::_,_,hf,_=>hf.elim
 |_::_,[],_,hf,_=>hf.elim
theorem FX:∀{ds a:List D},mz H0 H' ds a->ds.length=a.length
 |[],[],_=>rfl
 |d::ds,e::a,h=>ai Nat.succ (FX h.2)
 |[],_::_,h=>h.elim
 |_::_,[],h=>h.elim
theorem FY:∀{ds a:List (List D)},wg H0 H' ds a->ds.length=a.length
 |[],[],_=>rfl
 |d::ds,e::a,h=>ai Nat.succ (FY h.2)
 |[],_::_,h=>h.elim
 |_::_,[],h=>h.elim
theorem GN {w:World}(f:eF w H'):∀{ds a:List (List D)}{k:Nat},wg H0 H' ds a->cK w H'.others b sz k ds->cK w H0.others b sz k a
 |[],[],_,_,_=>trivial
 |d::ds,e::a,k,hf,h=>by
  simp only[cK] at h ⊢;exact⟨(FX hf.1).symm.trans h.1,Bz f hf.1 h.2.1,GN f hf.2 h.2.2⟩
 |[],_::_,_,hf,_=>hf.elim
 |_::_,[],_,hf,_=>hf.elim
theorem AK (a:H0.le H'):∀ds:List D,mz H0 H' ds ds
 |[]=>trivial
 |_::ds=>⟨aL a,AK a ds⟩
theorem FZ (a:H0.le H'):∀ds:List (List D),wg H0 H' ds ds
 |[]=>trivial
 |d::ds=>⟨AK a d,FZ a ds⟩
theorem F0 (a:H0.le H'){el el':List D}(hf:mz H0 H' el' el):∀{els:List (List D)}{i:Nat},els[i]?=some el->wg H0 H' (els.set i el') els
 |[],_,h=>by simp at h
 |e::l,0,h=>by
  simp only[lk,iJ] at h;subst h;exact⟨hf,FZ a l⟩
 |e::l,i+1,h=>⟨AK a e,F0 a hf (by simpa using h)⟩
theorem Ia {j:Cx}{c:Code}{Q:Exit->St->Prop}{s:St}(K:aA){ty:TypeId}(k:K b=some (.row ty o sz els))(f:(K.aU b (.row ty o sz els')).le s.H)(hf:wg (K.aU b (.row ty o sz els')) s.H els' els)(h:W j c Q (s.cJ K)):W j c Q s:=by
 have l:=f b _ (aK _ _ _);have m:Es K s.H:=λc a=>by
  have i:c≠b:=λe=>by rw[e,l] at a;cases a
  have:=gA f a;rwa[aJ i] at this
 refine Gv _ m (λw g c x a=>?_) h;by_cases e:c=b
 ·subst e
  rw[k] at a;injection a with a
  subst a;obtain⟨cs,p,q,r,t,u⟩:=g _ _ l;refine⟨cs,p,q,r,by rw[<-FY hf];exact t,?_⟩;have v:=GN g hf u;rwa[yC k] at v
 ·exact(nE m w).jb rfl (g c x (f c x ((aJ e).trans a)))
theorem Ay {a:Type}{l:List a}{i:Nat}{x:a}(h:l[i]?=some x):l.set i x=l:=by
 obtain⟨f,rfl⟩:=gI.1 h;exact List.set_getElem_self f
theorem yw {x:cY}(h:H c=some x):H.aU c x=H:=funext λb=>by
 by_cases e:b=c
 ·rw[e,aK,h]
 ·rw[aJ e]
theorem DA {x:cY}(h:jn A K)(f:K c=some x):∀M:aA,(M.add A) c=M c:=λM=>by
 have a:A c=none:=by
  cases e:A c with
  |none=>rfl
  |some y=>have:=h c y e;rw[f] at this;cases this
 unfold aA.add;rw[a]
theorem Qp.cells (h:Qp T sz els d A):d.cells=some [d]:=by rcases h with⟨_,rfl,_⟩|⟨b,o,_,rfl⟩ <;> rfl
theorem Qp.gl (h:Qp T sz els d A)(hj:jn A K)(a:H.le K):H.le (K.add A)/\∃ob,Gl H T sz els d (K.add A) ob/\∀c x,K c=some x->ob≠some c/\(K.add A) c=some x:=by
 rcases h with⟨rfl,rfl,rfl⟩|⟨b,o,rfl,rfl⟩
 ·exact⟨a,none,.inl ⟨rfl,rfl,rfl⟩,λc x h=>⟨by simp,h⟩⟩
 ·have f:=jS.1 hj
  rw[kI];refine⟨aQ a (iY a f),some b,.inr ⟨b,o,rfl,rfl,iY a f,aK _ _ _⟩,λc x h=>?_⟩;have g:c≠b:=λe=>by rw[e,f] at h;cases h
  exact⟨λe=>g (Option.some.inj e).symm,(aJ g).trans h⟩
theorem Gl.add {ob a:Option Nat}(h:Gl H T sz els d K ob)(hj:∀c x,K c=some x->a≠some c/\(K.add A) c=some x):Gl H T sz els d (K.add A) ob/\∀c,ob=some c->a≠some c:=by
 rcases h with⟨e,r⟩|⟨g,i,e,j,k,f⟩
 ·exact⟨.inl ⟨e,r⟩,λc h=>nomatch e.symm.trans h⟩
 ·exact⟨.inr ⟨g,i,e,j,k,(hj _ _ f).2⟩,λc h=>Option.some.inj (e.symm.trans h)▸(hj _ _ f).1⟩
theorem En.gl (h:En T sz els H d H'):H.le H'/\∃ob,Gl H T sz els d H' ob:=by
 rcases h with⟨rfl,rfl,rfl⟩|⟨b,o,a,rfl,rfl⟩
 ·exact⟨aF _,none,.inl ⟨rfl,rfl,rfl⟩⟩
 ·exact⟨aQ (aF _) a,some b,.inr ⟨b,o,rfl,rfl,a,aK _ _ _⟩⟩
theorem DI {f:FuncId}{ds:List D}(h:aN prog f ds H (En T sz els H)):aN prog f ds H λd H'=>d=.seq sz els/\H=H':=
 aq (K:=λd=>d=.seq sz els) (h.mono λd H' h=>by
  obtain⟨a,i,g⟩:=h.gl;exact⟨a,_,da a g,rfl⟩)
theorem DH (p:gR)(H:aA)(hp:p.pr.length<=1000000):aN prog 29 [.agg (ee p)] H λd H'=>d=.agg (ee p)/\H=H':=by
 have s:=λm=>DI (YW (p.pr.map pD) m (by rw[aS];exact hp));unfold ee;refine dO func29 ntmps29 results29 λu t Q r=>?_;refine t0 ?_;intro U Y O C;intro h f i j;refine Y _ ?_;obtain⟨g,a⟩:=bF.1 j;have k:∀(K:aA) (x:cY),K.aU i x h=K h:=λK x=>aJ (Ne.symm g);have l:∀(K:aA) (x:cY),K.aU h x i=K i:=λK x=>aJ g;refine tq k ?_;intro U Y O C;refine(s _).q ?_;refine ur r (av k l) (av k l) ?_;exact⟨H,aQ (aQ (aQ (aQ (aF _) f) a) f) a,rfl⟩
theorem NI (z:List gq)(H:aA)(hz:z.length<=1000000)(hp:∀o∈z,o.pl.pr.length<=1000000):aN prog 30 [.seq 4 (z.map db)] H λd H'=>d=.seq 4 (z.map db)/\H=H':=by
 refine aq (K:=λd=>d=.seq 4 (z.map db)) ?_;have f:=lm db z;refine dO func30 ntmps30 results30 λS N Q y=>?_;refine t0 ?_;intro U Y O C;refine(YZ (z.map db) H (by rw[f];exact hz)).mono ?_;intro d j B;obtain⟨v,R,J⟩:=B.gl;have P:∀s:St,s.H=j->True:=λ_ _=>trivial;clear B;rcases J with⟨rfl,rfl,I⟩|⟨c,o,rfl,rfl,G,t⟩
 ·have F:z=[]:=wN.1 I
  subst F;refine tz ?_;refine aO 0 (λi s=>s.df=[]/\s.fr 0=.val (.slice none 0 0)/\s.fr 7=i64 0/\s.fr 8=i64 0/\s.H=j) ⟨rfl,rfl,rfl,rfl,rfl⟩ ?_;rintro i s L ⟨g,m,p,q,w⟩;refine ur y (bQ m p q) g ?_;exact⟨_,aF _,by rw[w];exact v,_,iq,rfl⟩
 rw[f];refine tz ?_;refine aO z.length (λi s=>s.df=[]/\s.fr 0=.os c o 4 0 z.length/\s.fr 7=i64 z.length/\s.fr 8=i64 i/\s.H=j) ⟨rfl,rfl,rfl,rfl,rfl⟩ ?_;rintro i s L ⟨g,m,p,q,w⟩;by_cases a:i<z.length
 case neg=>
  have x:=lF i z.length;refine ur y (cA m p q x) g ?_;rw[<-w] at v t;exact⟨_,aF _,v,_,da v (.inr ⟨c,o,rfl,by rw[f],G,t⟩),rfl⟩
 have k:(i:Int)<(z.length:Int):=by omega
 have x:=lT i z.length a;have D:=aX i;have r:=aZ i;have h:(z.map db)[i]?=some (db z[i]):=bZ a;have M:=wS i;have u:=DH z[i].pl j (hp _ (ao a));simp only[ee] at u;simp only[db] at h;refine tq (bG m p q x w t f (cw h D r a k)) ?_;intro U Y O C;refine u.qs (bG q t f h D r a (av k M)) ?_;intro U Y O C;refine⟨a,g,m,p,rfl,?_⟩;exact(ai (λl=>j.aU c (.row 119 o 4 l)) (Ay h)).trans (yw t)
structure KK1 (b:bn) (H:aA) (c1 c2:Nat) (d1 d4:D) (o1 o4:Option Nat) (K:aA):Prop where
 le:H.le K
 r1:K c1=some (.row 28 0 7 [[bC b.nm,d1,.seq 2 (b.ol.map pD),.seq 5 (b.ty.map bS),d4,i64 b.ag,.seq 7 (b.bl.map dM)]])
 r2:K c2=some (.row 28 0 7 [[.val (.string ByteArray.empty),.val (.slice none 0 0),.val (.slice none 0 0),.val (.slice none 0 0),.val (.slice none 0 0),i64 0,.val (.slice none 0 0)]])
 g1:Gl H 9 1 (b.rg.map sD) d1 K o1
 g4:Gl H 36 2 (b.lc.map eQ) d4 K o4
 n1:o1≠some c1/\o1≠some c2
 n4:o4≠some c1/\o4≠some c2/\∀c,o1=some c->o4≠some c
structure KK2 (b:bn) (H:aA) (c1 c2:Nat) (d1 d3 d4 d6:D) (o1 o3 o4 o6:Option Nat) (K:aA):Prop where
 le:H.le K
 r1:K c1=some (.row 28 0 7 [[bC b.nm,d1,.seq 2 (b.ol.map pD),d3,d4,i64 b.ag,d6]])
 r2:K c2=some (.row 28 0 7 [[.val (.string ByteArray.empty),.val (.slice none 0 0),.val (.slice none 0 0),.val (.slice none 0 0),.val (.slice none 0 0),i64 0,.val (.slice none 0 0)]])
 g1:Gl H 9 1 (b.rg.map sD) d1 K o1
 g3:Gl H 71 5 (b.ty.map bS) d3 K o3
 g4:Gl H 36 2 (b.lc.map eQ) d4 K o4
 g6:Gl H 46 7 (b.bl.map dM) d6 K o6
 n1:o1≠some c1/\o1≠some c2
 n3:o3≠some c1/\o3≠some c2/\∀c,o1=some c->o3≠some c
 n4:o4≠some c1/\o4≠some c2/\(∀c,o1=some c->o4≠some c)/\∀c,o4=some c->o3≠some c
 n6:o6≠some c1/\o6≠some c2/\(∀c,o1=some c->o6≠some c)/\(∀c,o3=some c->o6≠some c)/\∀c,o4=some c->o6≠some c
def ClC (b:bn) (H:aA) (d:D) (H':aA):Prop:=∃h i j k l a g f,d=.agg [bC b.nm,h,.seq 2 (b.ol.map pD),i,j,i64 b.ag,k]/\H.le H'/\Gl H 9 1 (b.rg.map sD) h H' l/\Gl H 71 5 (b.ty.map bS) i H' a/\Gl H 36 2 (b.lc.map eQ) j H' g/\Gl H 46 7 (b.bl.map dM) k H' f/\(∀c,l=some c->a≠some c/\g≠some c/\f≠some c)/\(∀c,a=some c->f≠some c)/\∀c,g=some c->a≠some c/\f≠some c
theorem Re (b:bn)(H:aA)(hs:smB b):aN prog 8 [.agg (cu b)] H (ClC b H):=by
 unfold cu;refine dO func8 ntmps8 results8 λw0 g0 Q aB=>?_;refine t0 ?_;intro U Y O C;intro z a6 F be;refine Y _ ?_;obtain⟨ad,b4⟩:=bF.1 be;have u1:∀(K:aA) (x:cY),K.aU F x z=K z:=λK x=>aJ (Ne.symm ad);have u2:∀(K:aA) (x:cY),K.aU z x F=K F:=λK x=>aJ ad;obtain⟨⟨bk,bf,bb⟩,OH,bo,bc,hN⟩:=hs;have k2:=λB=>DI (Y0 (b.ol.map pD) B (by rw[aS];exact OH));rw[cF];refine bW ?_;refine wE (λ_=>false) (λ_=>false) (λt _ d A=>(t=some 10->Qp 9 1 (b.rg.map sD) d A)/\(t=some 13->A=.none/\d=.seq 2 (b.ol.map pD))/\(t=some 16->Qp 36 2 (b.lc.map eQ) d A)) (λ_ _ _ _ _=>False) λU Y=>?_;have fs:=And.intro u1 u2;refine uj ?_;refine nx ?_;(try clear fs);refine⟨En.ok (λB=>Uc (b.rg.map sD) B (by rw[aS];exact bk)) _,λd1 A1 Dj ap=>?_⟩;have a1:=DA ap ((u1 _ _).trans (aK _ _ _));refine⟨an λV _=>k2 V,?_⟩;refine⟨En.ok (λB=>YX (b.lc.map eQ) B (by rw[aS];exact bf)) _,λd4 A4 ak b0=>?_⟩;have a4:=DA b0 ((a1 _).trans ((u1 _ _).trans (aK _ _ _)));have e1:=Dj.cells;have e4:=ak.cells;simp only[D.cells] at e1 e4;refine eV (eP u1 u2 a1 a4 e1 e4) ?_;refine nx ?_;rw[cF];have b3:H.le ((H.aU z (.row 28 0 7 [[bC b.nm,.seq 1 (b.rg.map sD),.seq 2 (b.ol.map pD),.seq 5 (b.ty.map bS),.seq 2 (b.lc.map eQ),i64 b.ag,.seq 7 (b.bl.map dM)]])).aU F (.row 28 0 7 [[.val (.string ByteArray.empty),.val (.slice none 0 0),.val (.slice none 0 0),.val (.slice none 0 0),.val (.slice none 0 0),i64 0,.val (.slice none 0 0)]])):=aQ (aQ (aF _) a6) b4;obtain⟨g1,o1,g2,g3⟩:=Dj.gl ap b3;obtain⟨g4,o4,g5,g6⟩:=ak.gl b0 g1;refine iz (λs=>s.df=[]/\s.fr 1=.ep z 0 7 0 0/\s.fr 2=.ep F 0 7 0 0/\KK1 b H z F d1 d4 o1 o4 s.H) ⟨rfl,rfl,rfl,?_⟩ ?_
 ·obtain⟨m1,w1⟩:=g3 z _ ((u1 _ _).trans (aK _ _ _))
  obtain⟨m2,w2⟩:=g3 F _ (aK _ _ _);obtain⟨m3,w3⟩:=g6 z _ w1;obtain⟨m4,w4⟩:=g6 F _ w2;obtain⟨g7,bi⟩:=g2.add g6;show KK1 _ _ _ _ _ _ _ _ (aA.aU _ _ _);exact⟨aQ g4 a6,aK _ _ _,(aJ ad).trans w4,g7.cM λc h=>aJ λe=>m1 (h.trans (ai some e)),g5.cM λc h=>aJ λe=>m3 (h.trans (ai some e)),⟨m1,m2⟩,m3,m4,bi⟩
 clear u1 u2 a1 a4 e1 e4 Dj ak ap b0 g1 g2 g3 g4 g5 g6 b3;rintro s ⟨a,m,q,L⟩;have S:=L.r1;refine bW ?_;refine wE (λ_=>false) (λ_=>false) (λt _ d A=>(t=some 22->Qp 71 5 (b.ty.map bS) d A)/\(t=some 25->Qp 46 7 (b.bl.map dM) d A)) (λ_ _ _ _ _=>False) λU Y=>?_;have fs:=And.intro m S;refine uj ?_;refine nx ?_;(try clear fs);refine⟨En.ok (λB=>Y1 (b.ty.map bS) B (by rw[aS];exact bo)) _,λd3 A3 ae aw=>?_⟩;have v3:=DA aw S;refine⟨En.ok (λB=>YV (b.bl.map dM) B (by rw[aS];exact bb)) _,λd6 A6 al b1=>?_⟩;have v6:=DA b1 ((v3 _).trans S);have e3:=ae.cells;have e6:=al.cells;simp only[D.cells] at e3 e6;refine eV (eP m v3 v6 S e3 e6) ?_;refine nx ?_;rw[cF];obtain⟨q1,o3,q2,q3⟩:=ae.gl aw L.le;obtain⟨q4,o6,q5,q6⟩:=al.gl b1 q1;refine iz (λs=>s.df=[]/\s.fr 1=.ep z 0 7 0 0/\s.fr 2=.ep F 0 7 0 0/\KK2 b H z F d1 d3 d4 d6 o1 o3 o4 o6 s.H) ⟨a,m,q,?_⟩ ?_
 ·obtain⟨m1,w1⟩:=q3 z _ L.r1
  obtain⟨m2,w2⟩:=q3 F _ L.r2;obtain⟨m3,w3⟩:=q6 z _ w1;obtain⟨m4,w4⟩:=q6 F _ w2;obtain⟨x1,y1⟩:=L.g1.add q3;obtain⟨x4,y4⟩:=L.g4.add q3;obtain⟨x1,z1⟩:=x1.add q6;obtain⟨x4,z4⟩:=x4.add q6;obtain⟨x3,z3⟩:=q2.add q6;show KK2 _ _ _ _ _ _ _ _ _ _ _ _ (aA.aU _ _ _);have a6:H z=none:=a6;exact⟨aQ q4 a6,aK _ _ _,(aJ ad).trans w4,x1.cM λc h=>aJ λe=>L.n1.1 (h.trans (ai some e)),x3.cM λc h=>aJ λe=>m1 (h.trans (ai some e)),x4.cM λc h=>aJ λe=>L.n4.1 (h.trans (ai some e)),q5.cM λc h=>aJ λe=>m3 (h.trans (ai some e)),L.n1,⟨m1,m2,y1⟩,⟨L.n4.1,L.n4.2.1,L.n4.2.2,y4⟩,m3,m4,z1,z3,z4⟩
 clear L S m q a v3 v6 e3 e6 ae al aw b1 q1 q2 q3 q4 q5 q6;rintro s ⟨a,m,q,L⟩;obtain⟨K,ab⟩:=oX s.H;rw[<-ab] at L;have S:=L.r1;have bm:∀t∈b.ty,t.ar.length<=1000000:=λt ht=>by have h1:=jh (f:=λt:bp=>t.ar.length) ht;have h2:sm (λt:bp=>t.ar.length) b.ty<=EE b:=(by unfold EE;omega);omega
 refine bW ?_;refine nR (λs=>s.df=[]/\s.fr 1=.ep z 0 7 0 0/\s.fr 2=.ep F 0 7 0 0/\s.H=K) ?_ ?_
 ·have G:=lm bS b.ty
  rcases L.g3 with⟨_,rfl,he⟩|⟨c3,e3,_,rfl,bs,h3⟩
  ·refine tn (bQ m @ab.symm S) ?_
   refine aO 0 (λi s=>s.df=[]/\s.fr 1=.ep z 0 7 0 0/\s.fr 2=.ep F 0 7 0 0/\s.fr 30=i64 0/\s.fr 31=i64 0/\s.H=K) ⟨a,m,q,rfl,rfl,rfl⟩ ?_;rintro i s hi ⟨a,m,q,W,N,v⟩;refine tn (av W N) ?_;exact⟨a,m,q,v⟩
  rw[G] at S;refine tn (bQ m @ab.symm S) ?_;refine aO b.ty.length (λi s=>s.df=[]/\s.fr 1=.ep z 0 7 0 0/\s.fr 2=.ep F 0 7 0 0/\s.fr 30=i64 b.ty.length/\s.fr 31=i64 i/\s.H=K) ⟨a,m,q,rfl,rfl,rfl⟩ ?_;rintro i s hi ⟨a,m,q,W,N,v⟩;by_cases p:i<b.ty.length
  case neg=>
   have p1:=lF i b.ty.length;refine tn (bQ W N p1) ?_;exact⟨a,m,q,v⟩
  have I:(i:Int)<(b.ty.length:Int):=by omega
  have p1:=lT i b.ty.length p;have hx:=aX i;have J:=aZ i;have w:(b.ty.map bS)[i]?=some (bS b.ty[i]):=bZ p;have w3:=wS i;have hI:=λB=>DI (Ub (b.ty[i].ar.map iD) B (by rw[aS];exact bm _ (ao p)));have nc:c3≠z:=λe=>by rw[e,L.r1] at h3;cases h3
  simp only[bS] at w;refine tq (cA m W N p1) ?_;intro U Y O C;refine wE (λ_=>false) (λ_=>false) (λ_ _ d A=>A=.none/\d=.seq 1 (b.ty[i].ar.map iD)) (λ_ _ _ _ _=>False) λU Y=>?_;have fs:=And.intro m (And.intro N (And.intro v (And.intro S (And.intro h3 (And.intro G (And.intro w (And.intro hx (And.intro J (And.intro p I)))))))));refine uj ?_;refine nx ?_;(try clear fs);refine⟨an λV _=>hI V,?_⟩;refine nx ?_;refine tn (av N w3) ?_;exact⟨p,a,m,q,W,rfl,(ai (λl=>K.aU c3 (.row 71 e3 5 l)) (Ay w)).trans (yw h3)⟩
 clear a m q ab;rintro s ⟨a,m,q,v⟩;have S:=L.r1;refine bW ?_;refine nR (λs=>s.df=[]/\s.fr 1=.ep z 0 7 0 0/\s.fr 2=.ep F 0 7 0 0/\s.H=K) ?_ ?_
 ·have G:=lm dM b.bl
  rcases L.g6 with⟨_,rfl,he⟩|⟨Z,e6,_,rfl,bt,h6⟩
  ·refine tn (bQ m v S) ?_
   refine aO 0 (λi s=>s.df=[]/\s.fr 1=.ep z 0 7 0 0/\s.fr 2=.ep F 0 7 0 0/\s.fr 49=i64 0/\s.fr 50=i64 0/\s.H=K) ⟨a,m,q,rfl,rfl,rfl⟩ ?_;rintro i s hi ⟨a,m,q,W,N,v⟩;refine tn (av W N) ?_;exact⟨a,m,q,v⟩
  rw[G] at S;refine tn (bQ m v S) ?_;refine aO b.bl.length (λi s=>s.df=[]/\s.fr 1=.ep z 0 7 0 0/\s.fr 2=.ep F 0 7 0 0/\s.fr 49=i64 b.bl.length/\s.fr 50=i64 i/\s.H=K) ⟨a,m,q,rfl,rfl,rfl⟩ ?_;rintro i s hi ⟨a,m,q,r,u,v⟩;by_cases p:i<b.bl.length
  case neg=>
   have p1:=lF i b.bl.length;refine tn (bQ r u p1) ?_;exact⟨a,m,q,v⟩
  have I:(i:Int)<(b.bl.length:Int):=by omega
  have p1:=lT i b.bl.length p;have hx:=aX i;have J:=aZ i;have w:(b.bl.map dM)[i]?=some (dM b.bl[i]):=bZ p;have w3:=wS i;have R:=bc _ (ao p);have nc:Z≠z:=λe=>by rw[e,L.r1] at h6;cases h6
  obtain⟨x,bq⟩:=oX b.bl[i];rw[<-bq] at w R;have hS:=λB=>YY (x.st.map ji) B (by rw[aS];exact R.1);simp only[dM] at w;refine tq (bG m r u p1 v S h6 (eP G w hx J p I)) ?_;intro U Y O C;refine(hS _).mono ?_;intro dS H2 hR;obtain⟨b7,oS,gS⟩:=hR.gl;have v5:=gS.cells;simp only[D.cells] at v5;have b9:=b7 _ _ h6;obtain⟨E',hE⟩:∃E',E'=(b.bl.map dM).set i [dS,i64 x.tm.k,.seq 1 (x.tm.tg.map iD),.seq 4 (x.tm.ar.map db),i64 x.tm.pl.lo,.seq 2 (x.tm.pl.pr.map pD),bC x.tm.nm]:=⟨_,rfl⟩;refine nx ?_;refine tk (bG b9 v5 G w hx J p I) ?_;intro U Y O C;rw[cF];obtain⟨H3,a3⟩:=oX (H2.aU Z (.row 46 e6 7 E'));have am:H3 Z=some (.row 46 e6 7 E'):=by rw[a3];exact aK _ _ _
  have b2:E'.length=b.bl.length:=by rw[hE,mA,G]
  have a7:E'[i]?=some [dS,i64 x.tm.k,.seq 1 (x.tm.tg.map iD),.seq 4 (x.tm.ar.map db),i64 x.tm.pl.lo,.seq 2 (x.tm.pl.pr.map pD),bC x.tm.nm]:=by rw[hE];exact wI (by rw[G];exact p)
  refine iz (λs=>s.df=[]/\s.fr 1=.ep z 0 7 0 0/\s.fr 2=.ep F 0 7 0 0/\s.fr 5=.ep Z e6 7 i 0/\s.fr 49=i64 b.bl.length/\s.fr 50=i64 i/\s.H=H3) ⟨a,m,q,rfl,r,u,by rw[a3,hE] <;> rfl⟩ ?_;clear a m q r u v;rintro s ⟨a,m,q,M,r,u,v⟩;refine bW ?_;refine nR (λs=>s.df=[]/\s.fr 1=.ep z 0 7 0 0/\s.fr 2=.ep F 0 7 0 0/\s.fr 5=.ep Z e6 7 i 0/\s.fr 49=i64 b.bl.length/\s.fr 50=i64 i/\s.H=H3) ?_ ?_
  ·rcases gS with⟨_,ac,he⟩|⟨cS,oo,_,ac,b5,ba⟩
   ·rw[ac] at a7
    refine tn (bG M v am b2 a7 hx J (av p I)) ?_;refine aO 0 (λi' s=>s.df=[]/\s.fr 1=.ep z 0 7 0 0/\s.fr 2=.ep F 0 7 0 0/\s.fr 5=.ep Z e6 7 i 0/\s.fr 49=i64 b.bl.length/\s.fr 50=i64 i/\s.fr 69=i64 0/\s.fr 70=i64 0/\s.H=H3) ⟨a,m,q,M,r,u,rfl,rfl,rfl⟩ ?_;rintro i' s c0 ⟨a,m,q,M,r,u,a0,a2,v⟩;refine tn (av a0 a2) ?_;exact⟨a,m,q,M,r,u,v⟩
   have a8:=lm ji x.st;rw[a8] at ac;rw[ac] at a7;have nS:cS≠Z:=λe=>by rw[e,h6] at b5;cases b5
   have a5:H3 cS=some (.row 79 oo 11 (x.st.map ji)):=by rw[a3];exact(aJ nS).trans ba
   have uS:=yw a5;refine tn (bG M v am b2 a7 hx J (av p I)) ?_;refine aO x.st.length (λj s=>s.df=[]/\s.fr 1=.ep z 0 7 0 0/\s.fr 2=.ep F 0 7 0 0/\s.fr 5=.ep Z e6 7 i 0/\s.fr 49=i64 b.bl.length/\s.fr 50=i64 i/\s.fr 69=i64 x.st.length/\s.fr 70=i64 j/\s.H=H3) ⟨a,m,q,M,r,u,rfl,rfl,rfl⟩ ?_;rintro j s hj ⟨a,m,q,M,r,u,a0,a2,v⟩;by_cases P:j<x.st.length
   case neg=>
    have p2:=lF j x.st.length;refine tn (bQ a0 a2 p2) ?_;exact⟨a,m,q,M,r,u,v⟩
   have a9:(j:Int)<(x.st.length:Int):=by omega
   have p2:=lT j x.st.length P;have hy:=aX j;have aa:=aZ j;have X:(x.st.map ji)[j]?=some (ji x.st[j]):=bZ P;have w4:=wS j (by have:=R.1;omega);obtain⟨sp,b8,sa⟩:=R.2.1 _ (ao P);obtain⟨y,br⟩:=oX x.st[j];rw[<-br] at X sp b8 sa;have q1:=λB=>DH y.pl B sp;have q2:=λB=>DH y.rv.pl B b8;have q3:=λB=>NI y.rv.ar B sa.1 sa.2;simp only[ee] at q1 q2;simp only[ji] at X;have sj:=Ay X;simp only[i64] at sj;refine tq (bG M a0 a2 v am b2 a7 (bG hx J p I p2 a5 a8 (cw X hy aa P a9))) ?_;intro U Y O C;refine wE (λ_=>false) (λ_=>false) (λt _ d A=>A=.none/\d=(if t=some 85 then .agg [i64 y.pl.lo,.seq 2 (y.pl.pr.map pD)] else .agg [i64 y.rv.pl.lo,.seq 2 (y.rv.pl.pr.map pD)])) (λ_ _ _ _ _=>False) λU Y=>?_;have fs:=And.intro v (And.intro a5 (And.intro a8 (And.intro X (And.intro hy (And.intro aa (And.intro P (And.intro a9 (And.intro sj uS))))))));refine uj ?_;refine nx ?_;(try clear fs);refine⟨an λV _=>q1 V,?_⟩;refine⟨an λV _=>q2 V,?_⟩;refine nx ?_;refine tq (bG a5 a8 X hy aa P a9 (av sj uS)) ?_;intro U Y O C;refine(q3 _).qs (bG a2 a5 a8 X hy aa P (cA a9 sj uS w4)) ?_;intro U Y O C;exact⟨P,a,m,q,M,r,u,a0,rfl,rfl⟩
  clear a m q M r u v;rintro s ⟨a,m,q,M,r,u,v⟩;have aM:(K.aU Z (.row 46 e6 7 E')).le s.H:=λc y hc=>by
   rw[v,a3];by_cases e:c=Z
   ·subst e;rw[aK] at hc ⊢;exact hc
   ·rw[aJ e] at hc ⊢;exact b7 _ _ hc
  have b6:Gl (K.aU Z (.row 46 e6 7 E')) 79 11 (x.st.map ji) dS s.H oS:=by
   rcases gS with g|⟨cS,oo,g1,g2,g3,g4⟩
   ·exact .inl g
   ·have nS:cS≠Z:=λe=>by rw[e,h6] at g3;cases g3
    exact .inr ⟨cS,oo,g1,g2,(aJ nS).trans g3,by rw[v,a3];exact(aJ nS).trans g4⟩
  have rr:=λd=>aL (d:=d) aM;refine Ia K (els':=E') h6 aM ?_ ?_
  ·have:=F0 aM (el':=[dS,i64 x.tm.k,.seq 1 (x.tm.tg.map iD),.seq 4 (x.tm.ar.map db),i64 x.tm.pl.lo,.seq 2 (x.tm.pl.pr.map pD),bC x.tm.nm]) (el:=[.seq 11 (x.st.map ji),i64 x.tm.k,.seq 1 (x.tm.tg.map iD),.seq 4 (x.tm.ar.map db),i64 x.tm.pl.lo,.seq 2 (x.tm.pl.pr.map pD),bC x.tm.nm]) ⟨da aM b6,rr _,rr _,rr _,rr _,rr _,rr _,trivial⟩ w
   rw[<-hE] at this;exact this
  refine iz (λs=>s.df=[]/\s.fr 1=.ep z 0 7 0 0/\s.fr 2=.ep F 0 7 0 0/\s.fr 5=.ep Z e6 7 i 0/\s.fr 49=i64 b.bl.length/\s.fr 50=i64 i/\s.H=K) ⟨a,m,q,M,r,u,rfl⟩ ?_;clear a m q M r u v aM b6 rr;rintro s ⟨a,m,q,M,r,u,v⟩;have q1:=λB=>DI (Ub (x.tm.tg.map iD) B (by rw[aS];exact R.2.2.1));have q2:=λB=>NI x.tm.ar B R.2.2.2.1.1 R.2.2.2.1.2;have q3:=λB=>DH x.tm.pl B R.2.2.2.2.1;simp only[ee] at q3;have si:=Ay w;simp only[i64] at si;have uK:=yw h6;refine tq (bG M v h6 G w hx J (av p I)) ?_;intro U Y O C;refine(q1 _).qs (bG M h6 G w hx J p (bQ I si uK)) ?_;intro U Y O C;refine(q2 _).qs (bG M h6 G w hx J p (bQ I si uK)) ?_;intro U Y O C;refine(q3 _).qs (bG M u h6 G w hx J (cw p I si uK w3)) ?_;intro U Y O C;exact⟨p,a,m,q,r,rfl,rfl⟩
 clear a m q v;rintro s ⟨a,m,q,v⟩;refine ur aB (cw m q v S @L.r2) (av a q) ?_;obtain⟨k1,k2,k3,k4,k5,k6,k7,k8,k9,ka,kb⟩:=L;have kp:∀{o:Option Nat}(x:cY),o≠some F->∀c,o=some c->(K.aU F x) c=K c:=λx h c hc=>aJ λe=>h (hc.trans (ai some e));exact⟨_,aF _,d1,d3,d4,d6,o1,o3,o4,o6,rfl,aQ k1 b4,k4.cM (kp _ k8.2),k5.cM (kp _ k9.2.1),k6.cM (kp _ ka.2.1),k7.cM (kp _ kb.2.1),λc h=>⟨k9.2.2 c h,ka.2.2.1 c h,kb.2.2.1 c h⟩,kb.2.2.2.1,λc h=>⟨ka.2.2.2 c h,kb.2.2.2.2 c h⟩⟩
theorem aN.look {P:Program}{f:FuncId}{ds i:List D}{v:Value}(h:aN P f i .none λd H'=>d=.val v/\aA.none=H')(hf:mz .none H ds i):aN P f ds H λd H'=>d=.val v/\H=H':=
 And.intro h.1 λw u s k m=>(h.2 w u (mz.all k hf s) (λb x q=>by cases q) (m.le (pQ _))).mono λe y ⟨t,d,H',r,l,p,j,g,a⟩=>by
  subst a;subst g;simp only[D.is] at l;exact⟨t,.val v,H,r,by simp only[D.is];exact l,JM k j,HM j,rfl,rfl⟩
section
variable {α:Type}(f g:α->List D) (l:List α) {i:Nat}
def oW (i:Nat):List (List D):=(l.take i).map g++(l.drop i).map f
theorem Ox:oW f g l 0=l.map f:=by unfold oW;rw[gK,dj];rfl
theorem Oy:oW f g l l.length=l.map g:=by unfold oW;rw[dI,List.drop_length,fw,bz]
theorem sh (i:Nat):(oW f g l i).length=l.length:=by
 unfold oW;rw[aV,aS,aS,bX,gd];omega
theorem yn (h:i<=l.length):((l.take i).map g).length=i:=by rw[aS,bX];omega
theorem Hl (h:i<l.length):(oW f g l i)[i]?=some (f l[i]):=by
 unfold oW;rw[mO (by rw[yn g l (by omega)];exact bh _),yn g l (by omega),wU,cL h];rfl
theorem EA (h:i<l.length):(oW f g l i).set i (g l[i])=oW f g l (i+1):=by
 unfold oW;rw[List.set_append_right _ _ (by rw[yn g l (by omega)];exact bh _),yn g l (by omega),wU,cL h,bw h,bI,bE];rfl
end
structure uu (H:aA) (c7:Nat) (nm:D) (b:bn) (d1 d3 d4 d6:D) (o1 o3 o4 o6:Option Nat) (E1 E4 E6:List (List D)) (K:aA):Prop where
 le:H.le K
 h7:H c7=none
 r7:K c7=some (.row 28 0 7 [[nm,d1,.seq 2 (b.ol.map pD),d3,d4,i64 b.ag,d6]])
 g1:Gl H 9 1 E1 d1 K o1
 g3:Gl H 71 5 (b.ty.map bS) d3 K o3
 g4:Gl H 36 2 E4 d4 K o4
 g6:Gl H 46 7 E6 d6 K o6
 n1:∀c,o1=some c->c≠c7/\o3≠some c/\o4≠some c/\o6≠some c
 n3:∀c,o3=some c->c≠c7/\o6≠some c
 n4:∀c,o4=some c->c≠c7/\o3≠some c/\o6≠some c
 n6:∀c,o6=some c->c≠c7
section
variable {H K:aA}{c7:Nat}{nm d1 d3 d4 d6:D}{b:bn}{o1 o3 o4 o6:Option Nat}{E1 E4 E6:List (List D)}
theorem jT {x:cY}{o:Option Nat}(h:o≠some c):∀a,o=some a->(K.aU c x) a=K a:=λa e=>aJ λf=>h (e.trans (ai some f))
theorem Gl.row (h:Gl H e sz els (.os c o sz 0 n) K (some c)):K c=some (.row e o sz els)/\H c=none/\els.length=n:=by
 rcases h with⟨h,_⟩|⟨l,m,a,f,g,i⟩
 ·cases h
 ·cases a
  injection f with _ j _ _ k
  subst j;exact⟨i,g,k.symm⟩
theorem Gl.set (h:Gl H e sz els (.os c o sz 0 n) K (some c))(hl:els'.length=els.length):Gl H e sz els' (.os c o sz 0 n) (K.aU c (.row e o sz els')) (some c):=by
 obtain⟨_,a,f⟩:=h.row;exact .inr ⟨c,o,rfl,by rw[hl,f],a,aK _ _ _⟩
theorem uu.sn (h:uu H c7 nm b d1 d3 d4 d6 o1 o3 o4 o6 E1 E4 E6 K)(a:D):uu H c7 a b d1 d3 d4 d6 o1 o3 o4 o6 E1 E4 E6 (K.aU c7 (.row 28 0 7 [[a,d1,.seq 2 (b.ol.map pD),d3,d4,i64 b.ag,d6]])):=
 have f:∀{o:Option Nat},(∀c,o=some c->c≠c7)->o≠some c7:=λg e=>g _ e rfl
 ⟨aQ h.le h.h7,h.h7,aK _ _ _,h.g1.cM (jT (f λc e=>(h.n1 c e).1)),h.g3.cM (jT (f λc e=>(h.n3 c e).1)),h.g4.cM (jT (f λc e=>(h.n4 c e).1)),h.g6.cM (jT (f h.n6)),h.n1,h.n3,h.n4,h.n6⟩
theorem uu.s1 (h:uu H c7 nm b (.os c o 1 0 n) d3 d4 d6 (some c) o3 o4 o6 E1 E4 E6 K)(hl:E.length=E1.length):uu H c7 nm b (.os c o 1 0 n) d3 d4 d6 (some c) o3 o4 o6 E E4 E6 (K.aU c (.row 9 o 1 E)):=by
 obtain⟨i,a,f,g⟩:=h.n1 c rfl;exact⟨aQ h.le h.g1.row.2.1,h.h7,(aJ (Ne.symm i)).trans h.r7,h.g1.set hl,h.g3.cM (jT a),h.g4.cM (jT f),h.g6.cM (jT g),h.n1,h.n3,h.n4,h.n6⟩
theorem uu.s4 (h:uu H c7 nm b d1 d3 (.os c o 2 0 n) d6 o1 o3 (some c) o6 E1 E4 E6 K)(hl:E.length=E4.length):uu H c7 nm b d1 d3 (.os c o 2 0 n) d6 o1 o3 (some c) o6 E1 E E6 (K.aU c (.row 36 o 2 E)):=by
 obtain⟨i,f,g⟩:=h.n4 c rfl;have a:o1≠some c:=λe=>(h.n1 c e).2.2.1 rfl;exact⟨aQ h.le h.g4.row.2.1,h.h7,(aJ (Ne.symm i)).trans h.r7,h.g1.cM (jT a),h.g3.cM (jT f),h.g4.set hl,h.g6.cM (jT g),h.n1,h.n3,h.n4,h.n6⟩
theorem uu.s6 (h:uu H c7 nm b d1 d3 d4 (.os c o 7 0 n) o1 o3 o4 (some c) E1 E4 E6 K)(hl:E.length=E6.length):uu H c7 nm b d1 d3 d4 (.os c o 7 0 n) o1 o3 o4 (some c) E1 E4 E (K.aU c (.row 46 o 7 E)):=by
 have i:=h.n6 c rfl;have a:o1≠some c:=λe=>(h.n1 c e).2.2.2 rfl;have f:o3≠some c:=λe=>(h.n3 c e).2 rfl;have g:o4≠some c:=λe=>(h.n4 c e).2.2 rfl;exact⟨aQ h.le h.g6.row.2.1,h.h7,(aJ (Ne.symm i)).trans h.r7,h.g1.cM (jT a),h.g3.cM (jT f),h.g4.cM (jT g),h.g6.set hl,h.n1,h.n3,h.n4,h.n6⟩
theorem uu.cm {p:ByteArray}{X:cY}(h:uu .none c7 (bC (p++b.nm)) b d1 d3 d4 d6 o1 o3 o4 o6 ((jR p b).rg.map sD) ((jR p b).lc.map eQ) ((jR p b).bl.map dM) K):((aA.none.aU c7 X).aU c7 (.row 28 0 7 [[bC (p++b.nm),d1,.seq 2 (b.ol.map pD),d3,d4,i64 b.ag,d6]])).le K/\wg ((aA.none.aU c7 X).aU c7 (.row 28 0 7 [[bC (p++b.nm),d1,.seq 2 (b.ol.map pD),d3,d4,i64 b.ag,d6]])) K [[bC (p++b.nm),d1,.seq 2 (b.ol.map pD),d3,d4,i64 b.ag,d6]] [cu (jR p b)]:=by
 obtain⟨B,i⟩:=oX ((aA.none.aU c7 X).aU c7 (.row 28 0 7 [[bC (p++b.nm),d1,.seq 2 (b.ol.map pD),d3,d4,i64 b.ag,d6]]));rw[<-i];have f:B.le K:=λc x a=>by
  rw[i] at a;by_cases e:c=c7
  ·subst e;rw[aK] at a;injection a with a;subst a;exact h.r7
  ·rw[aJ e,aJ e] at a;cases a
 have go:∀{e:TypeId}{sz:Nat}{els:List (List D)}{d:D}{k:Option Nat},Gl .none e sz els d K k->(∀c,k=some c->c≠c7)->Gl B e sz els d K k:=λj l=>by
  rcases j with j|⟨c,o,g,m,s,q⟩
  ·exact .inl j
  ·exact .inr ⟨c,o,g,m,by rw[i,aJ (l c g),aJ (l c g)];rfl,q⟩
 have r:=λd=>aL (d:=d) f;exact⟨f,⟨r _,da f (go h.g1 λc e=>(h.n1 c e).1),r _,da f (go h.g3 λc e=>(h.n3 c e).1),da f (go h.g4 λc e=>(h.n4 c e).1),r _,da f (go h.g6 h.n6),trivial⟩,trivial⟩
end
end Go.Proofs.YtffgfafbffdgaaaGreatDoor
