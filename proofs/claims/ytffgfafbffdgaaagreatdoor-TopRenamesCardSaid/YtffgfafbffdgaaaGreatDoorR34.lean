/- Lemmas and contracts of functions, several texts in one. -/
import Derived.Test.YtffgfafbffdgaaaGreatDoorR30
set_option maxRecDepth 100000
set_option maxHeartbeats 4000000
set_option linter.all false
namespace Go.Proofs.YtffgfafbffdgaaaGreatDoor
open Go.RowKit
open Tryz
variable {H0 H' H A K:aA}{b sz c o n:Nat}{els els' E:List (List D)}{T e:TypeId}{d:D}
theorem Y0 (els:List (List D))(H:aA)(hl:els.length<=1000000):aN prog 23 [.seq 2 els] H (En 60 2 els H):=by
 refine dO func23 ntmps23 results23 λv u Q k=>?_;refine t0 ?_;intro U Y O C;intro b r;refine Y _ ?_;cases b with
 |true=>
  refine u0 k ?_
  have j:els=[]:=eC λe=>Bool.noConfusion (r λl=>e (cy l))
  exact⟨H,aF _,.inl ⟨rfl,j,rfl⟩⟩
 |false=>
  refine t0 ?_;intro U Y O C
  intro h f
  refine ax (e:=60) qm rfl qm rfl Bi rfl (by decide) (aQ (aF _) f) (.inr ⟨h,0,rfl,rfl,f,aK _ _ _⟩:Gl H 60 2 [] (.os h 0 2 0 0) (H.aU h (.row 60 0 2 [])) (some h)) (new:=els) (by exact⟨rfl,rfl⟩) (by rw[dX];show(_+_) * 16<=_;omega) λd t s g a _=>?_
  refine u0 k ?_
  rw[cz] at g
  rcases g with⟨_,rfl,j⟩|⟨c,o,_,rfl,m,p⟩
  ·exact⟨H,a,.inl ⟨rfl,j,rfl⟩⟩
  ·refine⟨H.aU c (.row 60 o 2 els),λb x i=>?_,.inr ⟨c,o,m,rfl,rfl⟩⟩
   by_cases e:b=c
   ·rw[e,aK] at i;rw[e,p];exact i
   ·rw[aJ e] at i;exact a _ _ i
theorem YX (els:List (List D))(H:aA)(hl:els.length<=1000000):aN prog 24 [.seq 2 els] H (En 36 2 els H):=by
 refine dO func24 ntmps24 results24 λv u Q k=>?_;refine t0 ?_;intro U Y O C;intro b r;refine Y _ ?_;cases b with
 |true=>
  refine u0 k ?_
  have j:els=[]:=eC λe=>Bool.noConfusion (r λl=>e (cy l))
  exact⟨H,aF _,.inl ⟨rfl,j,rfl⟩⟩
 |false=>
  refine t0 ?_;intro U Y O C
  intro h f
  refine ax (e:=36) X7 rfl X7 rfl aAo rfl (by decide) (aQ (aF _) f) (.inr ⟨h,0,rfl,rfl,f,aK _ _ _⟩:Gl H 36 2 [] (.os h 0 2 0 0) (H.aU h (.row 36 0 2 [])) (some h)) (new:=els) (by exact⟨rfl,rfl⟩) (by rw[dX];show(_+_) * 24<=_;omega) λd t s g a _=>?_
  refine u0 k ?_
  rw[cz] at g
  rcases g with⟨_,rfl,j⟩|⟨c,o,_,rfl,m,p⟩
  ·exact⟨H,a,.inl ⟨rfl,j,rfl⟩⟩
  ·refine⟨H.aU c (.row 36 o 2 els),λb x i=>?_,.inr ⟨c,o,m,rfl,rfl⟩⟩
   by_cases e:b=c
   ·rw[e,aK] at i;rw[e,p];exact i
   ·rw[aJ e] at i;exact a _ _ i
theorem Y1 (els:List (List D))(H:aA)(hl:els.length<=1000000):aN prog 25 [.seq 5 els] H (En 71 5 els H):=by
 refine dO func25 ntmps25 results25 λv u Q k=>?_;refine t0 ?_;intro U Y O C;intro b r;refine Y _ ?_;cases b with
 |true=>
  refine u0 k ?_
  have j:els=[]:=eC λe=>Bool.noConfusion (r λl=>e (cy l))
  exact⟨H,aF _,.inl ⟨rfl,j,rfl⟩⟩
 |false=>
  refine t0 ?_;intro U Y O C
  intro h f
  refine ax (e:=71) IU rfl IU rfl UO rfl (by decide) (aQ (aF _) f) (.inr ⟨h,0,rfl,rfl,f,aK _ _ _⟩:Gl H 71 5 [] (.os h 0 5 0 0) (H.aU h (.row 71 0 5 [])) (some h)) (new:=els) (by exact⟨rfl,rfl⟩) (by rw[dX];show(_+_) * 56<=_;omega) λd t s g a _=>?_
  refine u0 k ?_
  rw[cz] at g
  rcases g with⟨_,rfl,j⟩|⟨c,o,_,rfl,m,p⟩
  ·exact⟨H,a,.inl ⟨rfl,j,rfl⟩⟩
  ·refine⟨H.aU c (.row 71 o 5 els),λb x i=>?_,.inr ⟨c,o,m,rfl,rfl⟩⟩
   by_cases e:b=c
   ·rw[e,aK] at i;rw[e,p];exact i
   ·rw[aJ e] at i;exact a _ _ i
theorem YV (els:List (List D))(H:aA)(hl:els.length<=1000000):aN prog 26 [.seq 7 els] H (En 46 7 els H):=by
 refine dO func26 ntmps26 results26 λv u Q k=>?_;refine t0 ?_;intro U Y O C;intro b r;refine Y _ ?_;cases b with
 |true=>
  refine u0 k ?_
  have j:els=[]:=eC λe=>Bool.noConfusion (r λl=>e (cy l))
  exact⟨H,aF _,.inl ⟨rfl,j,rfl⟩⟩
 |false=>
  refine t0 ?_;intro U Y O C
  intro h f
  refine ax (e:=46) QN rfl QN rfl Xa rfl (by decide) (aQ (aF _) f) (.inr ⟨h,0,rfl,rfl,f,aK _ _ _⟩:Gl H 46 7 [] (.os h 0 7 0 0) (H.aU h (.row 46 0 7 [])) (some h)) (new:=els) (by exact⟨rfl,rfl⟩) (by rw[dX];show(_+_) * 128<=_;omega) λd t s g a _=>?_
  refine u0 k ?_
  rw[cz] at g
  rcases g with⟨_,rfl,j⟩|⟨c,o,_,rfl,m,p⟩
  ·exact⟨H,a,.inl ⟨rfl,j,rfl⟩⟩
  ·refine⟨H.aU c (.row 46 o 7 els),λb x i=>?_,.inr ⟨c,o,m,rfl,rfl⟩⟩
   by_cases e:b=c
   ·rw[e,aK] at i;rw[e,p];exact i
   ·rw[aJ e] at i;exact a _ _ i
theorem Ub (els:List (List D))(H:aA)(hl:els.length<=1000000):aN prog 27 [.seq 1 els] H (En 3 1 els H):=by
 refine dO func27 ntmps27 results27 λv u Q k=>?_;refine t0 ?_;intro U Y O C;intro b r;refine Y _ ?_;cases b with
 |true=>
  refine u0 k ?_
  have j:els=[]:=eC λe=>Bool.noConfusion (r λl=>e (cy l))
  exact⟨H,aF _,.inl ⟨rfl,j,rfl⟩⟩
 |false=>
  refine t0 ?_;intro U Y O C
  intro h f
  refine ax (e:=3) fk rfl fk rfl yv rfl (by decide) (aQ (aF _) f) (.inr ⟨h,0,rfl,rfl,f,aK _ _ _⟩:Gl H 3 1 [] (.os h 0 1 0 0) (H.aU h (.row 3 0 1 [])) (some h)) (new:=els) (by exact⟨rfl,rfl⟩) (by rw[dX];show(_+_) * 8<=_;omega) λd t s g a _=>?_
  refine u0 k ?_
  rw[cz] at g
  rcases g with⟨_,rfl,j⟩|⟨c,o,_,rfl,m,p⟩
  ·exact⟨H,a,.inl ⟨rfl,j,rfl⟩⟩
  ·refine⟨H.aU c (.row 3 o 1 els),λb x i=>?_,.inr ⟨c,o,m,rfl,rfl⟩⟩
   by_cases e:b=c
   ·rw[e,aK] at i;rw[e,p];exact i
   ·rw[aJ e] at i;exact a _ _ i
theorem YY (els:List (List D))(H:aA)(hl:els.length<=1000000):aN prog 28 [.seq 11 els] H (En 79 11 els H):=by
 refine dO func28 ntmps28 results28 λv u Q k=>?_;refine t0 ?_;intro U Y O C;intro b r;refine Y _ ?_;cases b with
 |true=>
  refine u0 k ?_
  have j:els=[]:=eC λe=>Bool.noConfusion (r λl=>e (cy l))
  exact⟨H,aF _,.inl ⟨rfl,j,rfl⟩⟩
 |false=>
  refine t0 ?_;intro U Y O C
  intro h f
  refine ax (e:=79) X9 rfl X9 rfl aBG rfl (by decide) (aQ (aF _) f) (.inr ⟨h,0,rfl,rfl,f,aK _ _ _⟩:Gl H 79 11 [] (.os h 0 11 0 0) (H.aU h (.row 79 0 11 [])) (some h)) (new:=els) (by exact⟨rfl,rfl⟩) (by rw[dX];show(_+_) * 136<=_;omega) λd t s g a _=>?_
  refine u0 k ?_
  rw[cz] at g
  rcases g with⟨_,rfl,j⟩|⟨c,o,_,rfl,m,p⟩
  ·exact⟨H,a,.inl ⟨rfl,j,rfl⟩⟩
  ·refine⟨H.aU c (.row 79 o 11 els),λb x i=>?_,.inr ⟨c,o,m,rfl,rfl⟩⟩
   by_cases e:b=c
   ·rw[e,aK] at i;rw[e,p];exact i
   ·rw[aJ e] at i;exact a _ _ i
theorem YZ (els:List (List D))(H:aA)(hl:els.length<=1000000):aN prog 59 [.seq 4 els] H (En 119 4 els H):=by
 refine dO func59 ntmps59 results59 λv u Q k=>?_;refine t0 ?_;intro U Y O C;intro b r;refine Y _ ?_;cases b with
 |true=>
  refine u0 k ?_
  have j:els=[]:=eC λe=>Bool.noConfusion (r λl=>e (cy l))
  exact⟨H,aF _,.inl ⟨rfl,j,rfl⟩⟩
 |false=>
  refine t0 ?_;intro U Y O C
  intro h f
  refine ax (e:=119) X8 rfl X8 rfl VD rfl (by decide) (aQ (aF _) f) (.inr ⟨h,0,rfl,rfl,f,aK _ _ _⟩:Gl H 119 4 [] (.os h 0 4 0 0) (H.aU h (.row 119 0 4 [])) (some h)) (new:=els) (by exact⟨rfl,rfl⟩) (by rw[dX];show(_+_) * 48<=_;omega) λd t s g a _=>?_
  refine u0 k ?_
  rw[cz] at g
  rcases g with⟨_,rfl,j⟩|⟨c,o,_,rfl,m,p⟩
  ·exact⟨H,a,.inl ⟨rfl,j,rfl⟩⟩
  ·refine⟨H.aU c (.row 119 o 4 els),λb x i=>?_,.inr ⟨c,o,m,rfl,rfl⟩⟩
   by_cases e:b=c
   ·rw[e,aK] at i;rw[e,p];exact i
   ·rw[aJ e] at i;exact a _ _ i
theorem YW (els:List (List D))(H:aA)(hl:els.length<=1000000):aN prog 58 [.seq 2 els] H (En 117 2 els H):=by
 refine dO func58 ntmps58 results58 λv u Q k=>?_;refine t0 ?_;intro U Y O C;intro b r;refine Y _ ?_;cases b with
 |true=>
  refine u0 k ?_
  have j:els=[]:=eC λe=>Bool.noConfusion (r λl=>e (cy l))
  exact⟨H,aF _,.inl ⟨rfl,j,rfl⟩⟩
 |false=>
  refine t0 ?_;intro U Y O C
  intro h f
  refine ax (e:=117) QO rfl QO rfl QM rfl (by decide) (aQ (aF _) f) (.inr ⟨h,0,rfl,rfl,f,aK _ _ _⟩:Gl H 117 2 [] (.os h 0 2 0 0) (H.aU h (.row 117 0 2 [])) (some h)) (new:=els) (by exact⟨rfl,rfl⟩) (by rw[dX];show(_+_) * 16<=_;omega) λd t s g a _=>?_
  refine u0 k ?_
  rw[cz] at g
  rcases g with⟨_,rfl,j⟩|⟨c,o,_,rfl,m,p⟩
  ·exact⟨H,a,.inl ⟨rfl,j,rfl⟩⟩
  ·refine⟨H.aU c (.row 117 o 2 els),λb x i=>?_,.inr ⟨c,o,m,rfl,rfl⟩⟩
   by_cases e:b=c
   ·rw[e,aK] at i;rw[e,p];exact i
   ·rw[aJ e] at i;exact a _ _ i
def n0 (b:bn):Nat:=1+b.rg.length+b.ol.length+b.lc.length+b.ty.length+b.bl.length
def n1 (b:bn) (i:Nat):Nat:=n0 b+sm (λt:bp=>t.ar.length) (b.ty.take i)
def n2 (b:bn) (i:Nat):Nat:=n1 b b.ty.length+sm Ww (b.bl.take i)
def n3 (b:bn) (i j:Nat) (st:List qO):Nat:=n2 b i+sm (λs:qO=>4+s.pl.pr.length+s.rv.pl.pr.length) (st.take j)
def n3r (b:bn) (i j:Nat) (st:List qO):Nat:=n2 b i+sm ZA (st.take j)
def smB (b:bn):Prop:=XY b/\b.ol.length<=1000000/\b.ty.length<=1000000/\(∀x∈b.bl,aCs x)/\EE b<=1000000
theorem Bz {w:World}(f:eF w H'):∀{ds a:List D}{k:Nat},mz H0 H' ds a->bU w H'.others b k ds->bU w H0.others b k a
 |[],[],_,_,_=>trivial
 |d::ds,e::a,k,hf,h=>by
  simp only[bU] at h ⊢;obtain⟨⟨u,h2,h3,h4⟩,h5⟩:=h;exact⟨⟨u,h2,h3,hf.1 w u f h4⟩,Bz f hf.2 h5⟩
 |[],_::_,_,hf,_=>hf.elim
 |_::_,[],_,hf,_=>hf.elim
theorem FX:∀{ds a:List D},mz H0 H' ds a->ds.length=a.length
 |[],[],_=>rfl
 |d::ds,e::a,h=>ai Nat.succ (FX h.2)
 |[],_::_,h=>h.elim
 |_::_,[],h=>h.elim
theorem FY:∀{ds a:List (List D)},wg H0 H' ds a->ds.length=a.length
 |[],[],_=>rfl
 |d::ds,e::a,h=>ai Nat.succ (FY h.2)
 |[],_::_,h=>h.elim
 |_::_,[],h=>h.elim
theorem GN {w:World}(f:eF w H'):∀{ds a:List (List D)}{k:Nat},wg H0 H' ds a->cK w H'.others b sz k ds->cK w H0.others b sz k a
 |[],[],_,_,_=>trivial
 |d::ds,e::a,k,hf,h=>by
  simp only[cK] at h ⊢;exact⟨(FX hf.1).symm.trans h.1,Bz f hf.1 h.2.1,GN f hf.2 h.2.2⟩
 |[],_::_,_,hf,_=>hf.elim
 |_::_,[],_,hf,_=>hf.elim
theorem AK (a:H0.le H'):∀ds:List D,mz H0 H' ds ds
 |[]=>trivial
 |_::ds=>⟨aL a,AK a ds⟩
theorem FZ (a:H0.le H'):∀ds:List (List D),wg H0 H' ds ds
 |[]=>trivial
 |d::ds=>⟨AK a d,FZ a ds⟩
theorem F0 (a:H0.le H'){el el':List D}(hf:mz H0 H' el' el):∀{els:List (List D)}{i:Nat},els[i]?=some el->wg H0 H' (els.set i el') els
 |[],_,h=>by simp at h
 |e::l,0,h=>by
  simp only[lk,iJ] at h;subst h;exact⟨hf,FZ a l⟩
 |e::l,i+1,h=>⟨AK a e,F0 a hf (by simpa using h)⟩
theorem Ia {j:Cx}{c:Code}{Q:Exit->St->Prop}{s:St}(K:aA){ty:TypeId}(k:K b=some (.row ty o sz els))(f:(K.aU b (.row ty o sz els')).le s.H)(hf:wg (K.aU b (.row ty o sz els')) s.H els' els)(h:W j c Q (s.cJ K)):W j c Q s:=by
 have l:=f b _ (aK _ _ _);have m:Es K s.H:=λc a=>by
  have i:c≠b:=λe=>by rw[e,l] at a;cases a
  have:=gA f a;rwa[aJ i] at this
 refine Gv _ m (λw g c x a=>?_) h;by_cases e:c=b
 ·subst e
  rw[k] at a;injection a with a
  subst a;obtain⟨cs,p,r,t,u,v⟩:=g _ _ l;refine⟨cs,p,r,t,by rw[<-FY hf];exact u,?_⟩;have y:=GN g hf v;rwa[yC k] at y
 ·exact(nE m w).jb rfl (g c x (f c x ((aJ e).trans a)))
theorem Ay {a:Type}{l:List a}{i:Nat}{x:a}(h:l[i]?=some x):l.set i x=l:=by
 obtain⟨f,rfl⟩:=gI.1 h;exact List.set_getElem_self f
theorem yw {x:cY}(h:H c=some x):H.aU c x=H:=funext λb=>by
 by_cases e:b=c
 ·rw[e,aK,h]
 ·rw[aJ e]
theorem DA {x:cY}(h:jn A K)(f:K c=some x):∀M:aA,(M.add A) c=M c:=λM=>by
 have a:A c=none:=by
  cases e:A c with
  |none=>rfl
  |some y=>have:=h c y e;rw[f] at this;cases this
 unfold aA.add;rw[a]
theorem Qp.cells (h:Qp T sz els d A):d.cells=some [d]:=by rcases h with⟨_,rfl,_⟩|⟨b,o,_,rfl⟩ <;> rfl
theorem Qp.gl (h:Qp T sz els d A)(hj:jn A K)(a:H.le K):H.le (K.add A)/\∃ob,Gl H T sz els d (K.add A) ob/\∀c x,K c=some x->ob≠some c/\(K.add A) c=some x:=by
 rcases h with⟨rfl,rfl,rfl⟩|⟨b,o,rfl,rfl⟩
 ·exact⟨a,none,.inl ⟨rfl,rfl,rfl⟩,λc x h=>⟨by simp,h⟩⟩
 ·have f:=jS.1 hj
  rw[kI];refine⟨aQ a (iY a f),some b,.inr ⟨b,o,rfl,rfl,iY a f,aK _ _ _⟩,λc x h=>?_⟩;have g:c≠b:=λe=>by rw[e,f] at h;cases h
  exact⟨λe=>g (Option.some.inj e).symm,(aJ g).trans h⟩
theorem Gl.add {ob a:Option Nat}(h:Gl H T sz els d K ob)(hj:∀c x,K c=some x->a≠some c/\(K.add A) c=some x):Gl H T sz els d (K.add A) ob/\∀c,ob=some c->a≠some c:=by
 rcases h with⟨e,r⟩|⟨g,i,e,j,k,f⟩
 ·exact⟨.inl ⟨e,r⟩,λc h=>by cases e.symm.trans h⟩
 ·exact⟨.inr ⟨g,i,e,j,k,(hj _ _ f).2⟩,λc h=>Option.some.inj (e.symm.trans h)▸(hj _ _ f).1⟩
theorem En.gl (h:En T sz els H d H'):H.le H'/\∃ob,Gl H T sz els d H' ob:=by
 rcases h with⟨rfl,rfl,rfl⟩|⟨b,o,a,rfl,rfl⟩
 ·exact⟨aF _,none,.inl ⟨rfl,rfl,rfl⟩⟩
 ·exact⟨aQ (aF _) a,some b,.inr ⟨b,o,rfl,rfl,a,aK _ _ _⟩⟩
theorem DI {f:FuncId}{ds:List D}(h:aN prog f ds H (En T sz els H)):aN prog f ds H λd H'=>d=.seq sz els/\H=H':=
 aq (K:=λd=>d=.seq sz els) (h.mono λd H' h=>by
  obtain⟨a,i,g⟩:=h.gl;exact⟨a,_,da a g,rfl⟩)
theorem DH (p:gR)(H:aA)(hp:p.pr.length<=1000000):aN prog 29 [.agg (ee p)] H λd H'=>d=.agg (ee p)/\H=H':=by
 have s:=λm=>DI (YW (p.pr.map pD) m (by rw[aS];exact hp));unfold ee;refine dO func29 ntmps29 results29 λu t Q r=>?_;refine t0 ?_;intro U Y O C;intro h f i j;refine Y _ ?_;obtain⟨g,a⟩:=bF.1 j;have k:∀(K:aA) (x:cY),K.aU i x h=K h:=λK x=>aJ (Ne.symm g);have l:∀(K:aA) (x:cY),K.aU h x i=K i:=λK x=>aJ g;refine tq k ?_;intro U Y O C;refine(s _).q ?_;refine ur r (av k l) (av k l) ?_;exact⟨H,aQ (aQ (aQ (aQ (aF _) f) a) f) a,rfl⟩
theorem NI (z:List gq)(H:aA)(hz:z.length<=1000000)(hp:∀o∈z,o.pl.pr.length<=1000000):aN prog 30 [.seq 4 (z.map db)] H λd H'=>d=.seq 4 (z.map db)/\H=H':=by
 refine aq (K:=λd=>d=.seq 4 (z.map db)) ?_;have f:=lm db z;refine dO func30 ntmps30 results30 λw0 S Q B=>?_;refine t0 ?_;intro U Y O C;refine(YZ (z.map db) H (by rw[f];exact hz)).mono ?_;intro d j G;obtain⟨w,Z,N⟩:=G.gl;have V:∀s:St,s.H=j->True:=λ_ _=>trivial;clear G;rcases N with⟨rfl,rfl,M⟩|⟨c,o,rfl,rfl,L,u⟩
 ·have J:z=[]:=wN.1 M
  subst J;refine tz ?_;refine aO 0 (λi s=>s.df=[]/\s.fr 0=.val (.slice none 0 0)/\s.fr 7=i64 0/\s.fr 8=i64 0/\s.H=j) ⟨rfl,rfl,rfl,rfl,rfl⟩ ?_;rintro i s P ⟨g,m,p,r,x⟩;refine ur B (bQ m p r) g ?_;exact⟨_,aF _,by rw[x];exact w,_,iq,rfl⟩
 rw[f];refine tz ?_;refine aO z.length (λi s=>s.df=[]/\s.fr 0=.os c o 4 0 z.length/\s.fr 7=i64 z.length/\s.fr 8=i64 i/\s.H=j) ⟨rfl,rfl,rfl,rfl,rfl⟩ ?_;rintro i s P ⟨g,m,p,r,x⟩;by_cases a:i<z.length
 case neg=>
  have y:=lF i z.length;refine ur B (cA m p r y) g ?_;rw[<-x] at w u;exact⟨_,aF _,w,_,da w (.inr ⟨c,o,rfl,by rw[f],L,u⟩),rfl⟩
 have k:(i:Int)<(z.length:Int):=by omega
 have y:=lT i z.length a;have I:=aX i;have t:=aZ i;have h:(z.map db)[i]?=some (db z[i]):=bZ a;have R:=wS i;have v:=DH z[i].pl j (hp _ (ao a));simp only[ee] at v;simp only[db] at h;refine tq (bG m p r y x u f (cw h I t a k)) ?_;intro U Y O C;refine v.qs (bG r u f h I t a (av k R)) ?_;intro U Y O C;refine⟨a,g,m,p,rfl,?_⟩;exact(ai (λl=>j.aU c (.row 119 o 4 l)) (Ay h)).trans (yw u)
structure KK1 (b:bn) (H:aA) (c1 c2:Nat) (d1 d4:D) (o1 o4:Option Nat) (K:aA):Prop where
 le:H.le K
 r1:K c1=some (.row 28 0 7 [[bC b.nm,d1,.seq 2 (b.ol.map pD),.seq 5 (b.ty.map bS),d4,i64 b.ag,.seq 7 (b.bl.map dM)]])
 r2:K c2=some (.row 28 0 7 [[.val (.string ByteArray.empty),.val (.slice none 0 0),.val (.slice none 0 0),.val (.slice none 0 0),.val (.slice none 0 0),i64 0,.val (.slice none 0 0)]])
 g1:Gl H 9 1 (b.rg.map sD) d1 K o1
 g4:Gl H 36 2 (b.lc.map eQ) d4 K o4
 n1:o1≠some c1/\o1≠some c2
 n4:o4≠some c1/\o4≠some c2/\∀c,o1=some c->o4≠some c
structure KK2 (b:bn) (H:aA) (c1 c2:Nat) (d1 d3 d4 d6:D) (o1 o3 o4 o6:Option Nat) (K:aA):Prop where
 le:H.le K
 r1:K c1=some (.row 28 0 7 [[bC b.nm,d1,.seq 2 (b.ol.map pD),d3,d4,i64 b.ag,d6]])
 r2:K c2=some (.row 28 0 7 [[.val (.string ByteArray.empty),.val (.slice none 0 0),.val (.slice none 0 0),.val (.slice none 0 0),.val (.slice none 0 0),i64 0,.val (.slice none 0 0)]])
 g1:Gl H 9 1 (b.rg.map sD) d1 K o1
 g3:Gl H 71 5 (b.ty.map bS) d3 K o3
 g4:Gl H 36 2 (b.lc.map eQ) d4 K o4
 g6:Gl H 46 7 (b.bl.map dM) d6 K o6
 n1:o1≠some c1/\o1≠some c2
 n3:o3≠some c1/\o3≠some c2/\∀c,o1=some c->o3≠some c
 n4:o4≠some c1/\o4≠some c2/\(∀c,o1=some c->o4≠some c)/\∀c,o4=some c->o3≠some c
 n6:o6≠some c1/\o6≠some c2/\(∀c,o1=some c->o6≠some c)/\(∀c,o3=some c->o6≠some c)/\∀c,o4=some c->o6≠some c
def ClC (b:bn) (H:aA) (d:D) (H':aA):Prop:=∃d1 d3 d4 d6 h a g f,d=.agg [bC b.nm,d1,.seq 2 (b.ol.map pD),d3,d4,i64 b.ag,d6]/\H.le H'/\Gl H 9 1 (b.rg.map sD) d1 H' h/\Gl H 71 5 (b.ty.map bS) d3 H' a/\Gl H 36 2 (b.lc.map eQ) d4 H' g/\Gl H 46 7 (b.bl.map dM) d6 H' f/\(∀c,h=some c->a≠some c/\g≠some c/\f≠some c)/\(∀c,a=some c->f≠some c)/\∀c,g=some c->a≠some c/\f≠some c
theorem Re (b:bn)(H:aA)(hs:smB b):aN prog 8 [.agg (cu b)] H (ClC b H):=by
 unfold cu;refine dO func8 ntmps8 results8 λw0 g0 Q aB=>?_;refine t0 ?_;intro U Y O C;intro B a9 I bk;refine Y _ ?_;obtain⟨al,b7⟩:=bF.1 bk;have u1:∀(K:aA) (x:cY),K.aU I x B=K B:=λK x=>aJ (Ne.symm al);have u2:∀(K:aA) (x:cY),K.aU B x I=K I:=λK x=>aJ al;obtain⟨⟨bq,bm,bf⟩,OH,bs,bi,hN⟩:=hs;have k2:=λG=>DI (Y0 (b.ol.map pD) G (by rw[aS];exact OH));rw[cF];refine bW ?_;refine wE (λ_=>false) (λ_=>false) (λt _ d A=>(t=some 10->Qp 9 1 (b.rg.map sD) d A)/\(t=some 13->A=.none/\d=.seq 2 (b.ol.map pD))/\(t=some 16->Qp 36 2 (b.lc.map eQ) d A)) (λ_ _ _ _ _=>False) λU Y=>?_;have fs:=And.intro u1 u2;refine uj ?_;refine nx ?_;(try clear fs);refine⟨En.ok (λG=>Uc (b.rg.map sD) G (by rw[aS];exact bq)) _,λd1 A1 Dj b1=>?_⟩;have a1:=DA b1 ((u1 _ _).trans (aK _ _ _));refine⟨an λa0 _=>k2 a0,?_⟩;refine⟨En.ok (λG=>YX (b.lc.map eQ) G (by rw[aS];exact bm)) _,λd4 A4 ap b3=>?_⟩;have a4:=DA b3 ((a1 _).trans ((u1 _ _).trans (aK _ _ _)));have e1:=Dj.cells;have e4:=ap.cells;simp only[D.cells] at e1 e4;refine eV (eP u1 u2 a1 a4 e1 e4) ?_;refine nx ?_;rw[cF];have b6:H.le ((H.aU B (.row 28 0 7 [[bC b.nm,.seq 1 (b.rg.map sD),.seq 2 (b.ol.map pD),.seq 5 (b.ty.map bS),.seq 2 (b.lc.map eQ),i64 b.ag,.seq 7 (b.bl.map dM)]])).aU I (.row 28 0 7 [[.val (.string ByteArray.empty),.val (.slice none 0 0),.val (.slice none 0 0),.val (.slice none 0 0),.val (.slice none 0 0),i64 0,.val (.slice none 0 0)]])):=aQ (aQ (aF _) a9) b7;obtain⟨g1,o1,g2,g3⟩:=Dj.gl b1 b6;obtain⟨g4,o4,g5,g6⟩:=ap.gl b3 g1;refine iz (λs=>s.df=[]/\s.fr 1=.ep B 0 7 0 0/\s.fr 2=.ep I 0 7 0 0/\KK1 b H B I d1 d4 o1 o4 s.H) ⟨rfl,rfl,rfl,?_⟩ ?_
 ·obtain⟨m1,w1⟩:=g3 B _ ((u1 _ _).trans (aK _ _ _))
  obtain⟨m2,w2⟩:=g3 I _ (aK _ _ _);obtain⟨m3,w3⟩:=g6 B _ w1;obtain⟨m4,w4⟩:=g6 I _ w2;obtain⟨g7,bo⟩:=g2.add g6;show KK1 _ _ _ _ _ _ _ _ (aA.aU _ _ _);exact⟨aQ g4 a9,aK _ _ _,(aJ al).trans w4,g7.cM λc h=>aJ λe=>m1 (h.trans (ai some e)),g5.cM λc h=>aJ λe=>m3 (h.trans (ai some e)),⟨m1,m2⟩,m3,m4,bo⟩
 clear u1 u2 a1 a4 e1 e4 Dj ap b1 b3 g1 g2 g3 g4 g5 g6 b6;rintro s ⟨a,m,r,N⟩;have Z:=N.r1;refine bW ?_;refine wE (λ_=>false) (λ_=>false) (λt _ d A=>(t=some 22->Qp 71 5 (b.ty.map bS) d A)/\(t=some 25->Qp 46 7 (b.bl.map dM) d A)) (λ_ _ _ _ _=>False) λU Y=>?_;have fs:=And.intro m Z;refine uj ?_;refine nx ?_;(try clear fs);refine⟨En.ok (λG=>Y1 (b.ty.map bS) G (by rw[aS];exact bs)) _,λd3 A3 am b2=>?_⟩;have v3:=DA b2 Z;refine⟨En.ok (λG=>YV (b.bl.map dM) G (by rw[aS];exact bf)) _,λd6 A6 aw b4=>?_⟩;have v6:=DA b4 ((v3 _).trans Z);have e3:=am.cells;have e6:=aw.cells;simp only[D.cells] at e3 e6;refine eV (eP m v3 v6 Z e3 e6) ?_;refine nx ?_;rw[cF];obtain⟨q1,o3,q2,q3⟩:=am.gl b2 N.le;obtain⟨q4,o6,q5,q6⟩:=aw.gl b4 q1;refine iz (λs=>s.df=[]/\s.fr 1=.ep B 0 7 0 0/\s.fr 2=.ep I 0 7 0 0/\KK2 b H B I d1 d3 d4 d6 o1 o3 o4 o6 s.H) ⟨a,m,r,?_⟩ ?_
 ·obtain⟨m1,w1⟩:=q3 B _ N.r1
  obtain⟨m2,w2⟩:=q3 I _ N.r2;obtain⟨m3,w3⟩:=q6 B _ w1;obtain⟨m4,w4⟩:=q6 I _ w2;obtain⟨x1,y1⟩:=N.g1.add q3;obtain⟨x4,y4⟩:=N.g4.add q3;obtain⟨x1,z1⟩:=x1.add q6;obtain⟨x4,z4⟩:=x4.add q6;obtain⟨x3,z3⟩:=q2.add q6;show KK2 _ _ _ _ _ _ _ _ _ _ _ _ (aA.aU _ _ _);have a9:H B=none:=a9;exact⟨aQ q4 a9,aK _ _ _,(aJ al).trans w4,x1.cM λc h=>aJ λe=>N.n1.1 (h.trans (ai some e)),x3.cM λc h=>aJ λe=>m1 (h.trans (ai some e)),x4.cM λc h=>aJ λe=>N.n4.1 (h.trans (ai some e)),q5.cM λc h=>aJ λe=>m3 (h.trans (ai some e)),N.n1,⟨m1,m2,y1⟩,⟨N.n4.1,N.n4.2.1,N.n4.2.2,y4⟩,m3,m4,z1,z3,z4⟩
 clear N Z m r a v3 v6 e3 e6 am aw b2 b4 q1 q2 q3 q4 q5 q6;rintro s ⟨a,m,r,N⟩;obtain⟨K,ae⟩:=oX s.H;rw[<-ae] at N;have Z:=N.r1;have br:∀t∈b.ty,t.ar.length<=1000000:=λt ht=>by have h1:=jh (f:=λt:bp=>t.ar.length) ht;have h2:sm (λt:bp=>t.ar.length) b.ty<=EE b:=(by unfold EE;omega);omega
 refine bW ?_;refine nR (λs=>s.df=[]/\s.fr 1=.ep B 0 7 0 0/\s.fr 2=.ep I 0 7 0 0/\s.H=K) ?_ ?_
 ·have J:=lm bS b.ty
  rcases N.g3 with⟨_,rfl,he⟩|⟨c3,e3,_,rfl,c4,h3⟩
  ·refine tn (bQ m @ae.symm Z) ?_
   refine aO 0 (λi s=>s.df=[]/\s.fr 1=.ep B 0 7 0 0/\s.fr 2=.ep I 0 7 0 0/\s.fr 30=i64 0/\s.fr 31=i64 0/\s.H=K) ⟨a,m,r,rfl,rfl,rfl⟩ ?_;rintro i s hi ⟨a,m,r,a2,R,w⟩;refine tn (av a2 R) ?_;exact⟨a,m,r,w⟩
  rw[J] at Z;refine tn (bQ m @ae.symm Z) ?_;refine aO b.ty.length (λi s=>s.df=[]/\s.fr 1=.ep B 0 7 0 0/\s.fr 2=.ep I 0 7 0 0/\s.fr 30=i64 b.ty.length/\s.fr 31=i64 i/\s.H=K) ⟨a,m,r,rfl,rfl,rfl⟩ ?_;rintro i s hi ⟨a,m,r,a2,R,w⟩;by_cases p:i<b.ty.length
  case neg=>
   have p1:=lF i b.ty.length;refine tn (bQ a2 R p1) ?_;exact⟨a,m,r,w⟩
  have L:(i:Int)<(b.ty.length:Int):=by omega
  have p1:=lT i b.ty.length p;have hx:=aX i;have M:=aZ i;have z:(b.ty.map bS)[i]?=some (bS b.ty[i]):=bZ p;have w3:=wS i;have hI:=λG=>DI (Ub (b.ty[i].ar.map iD) G (by rw[aS];exact br _ (ao p)));have nc:c3≠B:=λe=>by rw[e,N.r1] at h3;cases h3
  simp only[bS] at z;refine tq (cA m a2 R p1) ?_;intro U Y O C;refine wE (λ_=>false) (λ_=>false) (λ_ _ d A=>A=.none/\d=.seq 1 (b.ty[i].ar.map iD)) (λ_ _ _ _ _=>False) λU Y=>?_;have fs:=And.intro m (And.intro R (And.intro w (And.intro Z (And.intro h3 (And.intro J (And.intro z (And.intro hx (And.intro M (And.intro p L)))))))));refine uj ?_;refine nx ?_;(try clear fs);refine⟨an λa0 _=>hI a0,?_⟩;refine nx ?_;refine tn (av R w3) ?_;exact⟨p,a,m,r,a2,rfl,(ai (λl=>K.aU c3 (.row 71 e3 5 l)) (Ay z)).trans (yw h3)⟩
 clear a m r ae;rintro s ⟨a,m,r,w⟩;have Z:=N.r1;refine bW ?_;refine nR (λs=>s.df=[]/\s.fr 1=.ep B 0 7 0 0/\s.fr 2=.ep I 0 7 0 0/\s.H=K) ?_ ?_
 ·have J:=lm dM b.bl
  rcases N.g6 with⟨_,rfl,he⟩|⟨c6,e6,_,rfl,c5,h6⟩
  ·refine tn (bQ m w Z) ?_
   refine aO 0 (λi s=>s.df=[]/\s.fr 1=.ep B 0 7 0 0/\s.fr 2=.ep I 0 7 0 0/\s.fr 49=i64 0/\s.fr 50=i64 0/\s.H=K) ⟨a,m,r,rfl,rfl,rfl⟩ ?_;rintro i s hi ⟨a,m,r,a2,R,w⟩;refine tn (av a2 R) ?_;exact⟨a,m,r,w⟩
  rw[J] at Z;refine tn (bQ m w Z) ?_;refine aO b.bl.length (λi s=>s.df=[]/\s.fr 1=.ep B 0 7 0 0/\s.fr 2=.ep I 0 7 0 0/\s.fr 49=i64 b.bl.length/\s.fr 50=i64 i/\s.H=K) ⟨a,m,r,rfl,rfl,rfl⟩ ?_;rintro i s hi ⟨a,m,r,u,v,w⟩;by_cases p:i<b.bl.length
  case neg=>
   have p1:=lF i b.bl.length;refine tn (bQ u v p1) ?_;exact⟨a,m,r,w⟩
  have L:(i:Int)<(b.bl.length:Int):=by omega
  have p1:=lT i b.bl.length p;have hx:=aX i;have M:=aZ i;have z:(b.bl.map dM)[i]?=some (dM b.bl[i]):=bZ p;have w3:=wS i;have V:=bi _ (ao p);have nc:c6≠B:=λe=>by rw[e,N.r1] at h6;cases h6
  obtain⟨x,bt⟩:=oX b.bl[i];rw[<-bt] at z V;have hS:=λG=>YY (x.st.map ji) G (by rw[aS];exact V.1);simp only[dM] at z;refine tq (bG m u v p1 w Z h6 (eP J z hx M p L)) ?_;intro U Y O C;refine(hS _).mono ?_;intro dS H2 hR;obtain⟨ba,oS,gS⟩:=hR.gl;have v5:=gS.cells;simp only[D.cells] at v5;have bc:=ba _ _ h6;obtain⟨E',hE⟩:∃E',E'=(b.bl.map dM).set i [dS,i64 x.tm.k,.seq 1 (x.tm.tg.map iD),.seq 4 (x.tm.ar.map db),i64 x.tm.pl.lo,.seq 2 (x.tm.pl.pr.map pD),bC x.tm.nm]:=⟨_,rfl⟩;refine nx ?_;refine tk (bG bc v5 J z hx M p L) ?_;intro U Y O C;rw[cF];obtain⟨H3,a7⟩:=oX (H2.aU c6 (.row 46 e6 7 E'));have b0:H3 c6=some (.row 46 e6 7 E'):=by rw[a7];exact aK _ _ _
  have b5:E'.length=b.bl.length:=by rw[hE,mA,J]
  have aa:E'[i]?=some [dS,i64 x.tm.k,.seq 1 (x.tm.tg.map iD),.seq 4 (x.tm.ar.map db),i64 x.tm.pl.lo,.seq 2 (x.tm.pl.pr.map pD),bC x.tm.nm]:=by rw[hE];exact wI (by rw[J];exact p)
  refine iz (λs=>s.df=[]/\s.fr 1=.ep B 0 7 0 0/\s.fr 2=.ep I 0 7 0 0/\s.fr 5=.ep c6 e6 7 i 0/\s.fr 49=i64 b.bl.length/\s.fr 50=i64 i/\s.H=H3) ⟨a,m,r,rfl,u,v,by rw[a7,hE] <;> rfl⟩ ?_;clear a m r u v w;rintro s ⟨a,m,r,P,u,v,w⟩;refine bW ?_;refine nR (λs=>s.df=[]/\s.fr 1=.ep B 0 7 0 0/\s.fr 2=.ep I 0 7 0 0/\s.fr 5=.ep c6 e6 7 i 0/\s.fr 49=i64 b.bl.length/\s.fr 50=i64 i/\s.H=H3) ?_ ?_
  ·rcases gS with⟨_,ak,he⟩|⟨cS,oo,_,ak,b8,be⟩
   ·rw[ak] at aa
    refine tn (bG P w b0 b5 aa hx M (av p L)) ?_;refine aO 0 (λi' s=>s.df=[]/\s.fr 1=.ep B 0 7 0 0/\s.fr 2=.ep I 0 7 0 0/\s.fr 5=.ep c6 e6 7 i 0/\s.fr 49=i64 b.bl.length/\s.fr 50=i64 i/\s.fr 69=i64 0/\s.fr 70=i64 0/\s.H=H3) ⟨a,m,r,P,u,v,rfl,rfl,rfl⟩ ?_;rintro i' s c7 ⟨a,m,r,P,u,v,a5,a6,w⟩;refine tn (av a5 a6) ?_;exact⟨a,m,r,P,u,v,w⟩
   have ab:=lm ji x.st;rw[ab] at ak;rw[ak] at aa;have nS:cS≠c6:=λe=>by rw[e,h6] at b8;cases b8
   have a8:H3 cS=some (.row 79 oo 11 (x.st.map ji)):=by rw[a7];exact(aJ nS).trans be
   have uS:=yw a8;refine tn (bG P w b0 b5 aa hx M (av p L)) ?_;refine aO x.st.length (λj s=>s.df=[]/\s.fr 1=.ep B 0 7 0 0/\s.fr 2=.ep I 0 7 0 0/\s.fr 5=.ep c6 e6 7 i 0/\s.fr 49=i64 b.bl.length/\s.fr 50=i64 i/\s.fr 69=i64 x.st.length/\s.fr 70=i64 j/\s.H=H3) ⟨a,m,r,P,u,v,rfl,rfl,rfl⟩ ?_;rintro j s hj ⟨a,m,r,P,u,v,a5,a6,w⟩;by_cases S:j<x.st.length
   case neg=>
    have p2:=lF j x.st.length;refine tn (bQ a5 a6 p2) ?_;exact⟨a,m,r,P,u,v,w⟩
   have ac:(j:Int)<(x.st.length:Int):=by omega
   have p2:=lT j x.st.length S;have hy:=aX j;have ad:=aZ j;have a3:(x.st.map ji)[j]?=some (ji x.st[j]):=bZ S;have w4:=wS j (by have:=V.1;omega);obtain⟨sp,bb,sa⟩:=V.2.1 _ (ao S);obtain⟨y,c0⟩:=oX x.st[j];rw[<-c0] at a3 sp bb sa;have q1:=λG=>DH y.pl G sp;have q2:=λG=>DH y.rv.pl G bb;have q3:=λG=>NI y.rv.ar G sa.1 sa.2;simp only[ee] at q1 q2;simp only[ji] at a3;have sj:=Ay a3;simp only[i64] at sj;refine tq (bG P a5 a6 w b0 b5 aa (bG hx M p L p2 a8 ab (cw a3 hy ad S ac))) ?_;intro U Y O C;refine wE (λ_=>false) (λ_=>false) (λt _ d A=>A=.none/\d=(if t=some 85 then .agg [i64 y.pl.lo,.seq 2 (y.pl.pr.map pD)] else .agg [i64 y.rv.pl.lo,.seq 2 (y.rv.pl.pr.map pD)])) (λ_ _ _ _ _=>False) λU Y=>?_;have fs:=And.intro w (And.intro a8 (And.intro ab (And.intro a3 (And.intro hy (And.intro ad (And.intro S (And.intro ac (And.intro sj uS))))))));refine uj ?_;refine nx ?_;(try clear fs);refine⟨an λa0 _=>q1 a0,?_⟩;refine⟨an λa0 _=>q2 a0,?_⟩;refine nx ?_;refine tq (bG a8 ab a3 hy ad S ac (av sj uS)) ?_;intro U Y O C;refine(q3 _).qs (bG a6 a8 ab a3 hy ad S (cA ac sj uS w4)) ?_;intro U Y O C;exact⟨S,a,m,r,P,u,v,a5,rfl,rfl⟩
  clear a m r P u v w;rintro s ⟨a,m,r,P,u,v,w⟩;have aM:(K.aU c6 (.row 46 e6 7 E')).le s.H:=λc y hc=>by
   rw[w,a7];by_cases e:c=c6
   ·subst e;rw[aK] at hc ⊢;exact hc
   ·rw[aJ e] at hc ⊢;exact ba _ _ hc
  have b9:Gl (K.aU c6 (.row 46 e6 7 E')) 79 11 (x.st.map ji) dS s.H oS:=by
   rcases gS with g|⟨cS,oo,g1,g2,g3,g4⟩
   ·exact .inl g
   ·have nS:cS≠c6:=λe=>by rw[e,h6] at g3;cases g3
    exact .inr ⟨cS,oo,g1,g2,(aJ nS).trans g3,by rw[w,a7];exact(aJ nS).trans g4⟩
  have rr:=λd=>aL (d:=d) aM;refine Ia K (els':=E') h6 aM ?_ ?_
  ·have:=F0 aM (el':=[dS,i64 x.tm.k,.seq 1 (x.tm.tg.map iD),.seq 4 (x.tm.ar.map db),i64 x.tm.pl.lo,.seq 2 (x.tm.pl.pr.map pD),bC x.tm.nm]) (el:=[.seq 11 (x.st.map ji),i64 x.tm.k,.seq 1 (x.tm.tg.map iD),.seq 4 (x.tm.ar.map db),i64 x.tm.pl.lo,.seq 2 (x.tm.pl.pr.map pD),bC x.tm.nm]) ⟨da aM b9,rr _,rr _,rr _,rr _,rr _,rr _,trivial⟩ z
   rw[<-hE] at this;exact this
  refine iz (λs=>s.df=[]/\s.fr 1=.ep B 0 7 0 0/\s.fr 2=.ep I 0 7 0 0/\s.fr 5=.ep c6 e6 7 i 0/\s.fr 49=i64 b.bl.length/\s.fr 50=i64 i/\s.H=K) ⟨a,m,r,P,u,v,rfl⟩ ?_;clear a m r P u v w aM b9 rr;rintro s ⟨a,m,r,P,u,v,w⟩;have q1:=λG=>DI (Ub (x.tm.tg.map iD) G (by rw[aS];exact V.2.2.1));have q2:=λG=>NI x.tm.ar G V.2.2.2.1.1 V.2.2.2.1.2;have q3:=λG=>DH x.tm.pl G V.2.2.2.2.1;simp only[ee] at q3;have si:=Ay z;simp only[i64] at si;have uK:=yw h6;refine tq (bG P w h6 J z hx M (av p L)) ?_;intro U Y O C;refine(q1 _).qs (bG P h6 J z hx M p (bQ L si uK)) ?_;intro U Y O C;refine(q2 _).qs (bG P h6 J z hx M p (bQ L si uK)) ?_;intro U Y O C;refine(q3 _).qs (bG P v h6 J z hx M (cw p L si uK w3)) ?_;intro U Y O C;exact⟨p,a,m,r,u,rfl,rfl⟩
 clear a m r w;rintro s ⟨a,m,r,w⟩;refine ur aB (cw m r w Z @N.r2) (av a r) ?_;obtain⟨k1,k2,k3,k4,k5,k6,k7,k8,k9,ka,kb⟩:=N;have kp:∀{o:Option Nat}(x:cY),o≠some I->∀c,o=some c->(K.aU I x) c=K c:=λx h c hc=>aJ λe=>h (hc.trans (ai some e));exact⟨_,aF _,d1,d3,d4,d6,o1,o3,o4,o6,rfl,aQ k1 b7,k4.cM (kp _ k8.2),k5.cM (kp _ k9.2.1),k6.cM (kp _ ka.2.1),k7.cM (kp _ kb.2.1),λc h=>⟨k9.2.2 c h,ka.2.2.1 c h,kb.2.2.1 c h⟩,kb.2.2.2.1,λc h=>⟨ka.2.2.2 c h,kb.2.2.2.2 c h⟩⟩
theorem aN.look {P:Program}{f:FuncId}{ds i:List D}{v:Value}(h:aN P f i .none λd H'=>d=.val v/\aA.none=H')(hf:mz .none H ds i):aN P f ds H λd H'=>d=.val v/\H=H':=
 And.intro h.1 λw y t k m=>(h.2 w y (mz.all k hf t) (λb x r=>by cases r) (m.le (pQ _))).mono λe z ⟨u,d,H',s,l,p,j,g,a⟩=>by
  subst a;subst g;simp only[D.is] at l;exact⟨u,.val v,H,s,by simp only[D.is];exact l,JM k j,HM j,rfl,rfl⟩
section
variable {α:Type}(f g:α->List D) (l:List α) {i:Nat}
def oW (i:Nat):List (List D):=(l.take i).map g++(l.drop i).map f
theorem Ox:oW f g l 0=l.map f:=by unfold oW;rw[gK,dj];rfl
theorem Oy:oW f g l l.length=l.map g:=by unfold oW;rw[dI,List.drop_length,fw,bz]
theorem sh (i:Nat):(oW f g l i).length=l.length:=by
 unfold oW;rw[aV,aS,aS,bX,gd];omega
theorem yn (h:i<=l.length):((l.take i).map g).length=i:=by rw[aS,bX];omega
theorem Hl (h:i<l.length):(oW f g l i)[i]?=some (f l[i]):=by
 unfold oW;rw[mO (by rw[yn g l (by omega)];exact bh _),yn g l (by omega),wU,cL h];rfl
theorem EA (h:i<l.length):(oW f g l i).set i (g l[i])=oW f g l (i+1):=by
 unfold oW;rw[List.set_append_right _ _ (by rw[yn g l (by omega)];exact bh _),yn g l (by omega),wU,cL h,bw h,bI,bE];rfl
end
structure uu (H:aA) (c7:Nat) (nm:D) (b:bn) (d1 d3 d4 d6:D) (o1 o3 o4 o6:Option Nat) (E1 E4 E6:List (List D)) (K:aA):Prop where
 le:H.le K
 h7:H c7=none
 r7:K c7=some (.row 28 0 7 [[nm,d1,.seq 2 (b.ol.map pD),d3,d4,i64 b.ag,d6]])
 g1:Gl H 9 1 E1 d1 K o1
 g3:Gl H 71 5 (b.ty.map bS) d3 K o3
 g4:Gl H 36 2 E4 d4 K o4
 g6:Gl H 46 7 E6 d6 K o6
 n1:∀c,o1=some c->c≠c7/\o3≠some c/\o4≠some c/\o6≠some c
 n3:∀c,o3=some c->c≠c7/\o6≠some c
 n4:∀c,o4=some c->c≠c7/\o3≠some c/\o6≠some c
 n6:∀c,o6=some c->c≠c7
section
variable {H K:aA}{c7:Nat}{nm d1 d3 d4 d6:D}{b:bn}{o1 o3 o4 o6:Option Nat}{E1 E4 E6:List (List D)}
theorem jT {x:cY}{o:Option Nat}(h:o≠some c):∀a,o=some a->(K.aU c x) a=K a:=λa e=>aJ λf=>h (e.trans (ai some f))
theorem Gl.row (h:Gl H e sz els (.os c o sz 0 n) K (some c)):K c=some (.row e o sz els)/\H c=none/\els.length=n:=by
 rcases h with⟨h,_⟩|⟨l,m,a,f,g,i⟩
 ·cases h
 ·cases a
  injection f with _ j _ _ k
  subst j;exact⟨i,g,k.symm⟩
theorem Gl.set (h:Gl H e sz els (.os c o sz 0 n) K (some c))(hl:els'.length=els.length):Gl H e sz els' (.os c o sz 0 n) (K.aU c (.row e o sz els')) (some c):=by
 obtain⟨_,a,f⟩:=h.row;exact .inr ⟨c,o,rfl,by rw[hl,f],a,aK _ _ _⟩
theorem uu.sn (h:uu H c7 nm b d1 d3 d4 d6 o1 o3 o4 o6 E1 E4 E6 K)(a:D):uu H c7 a b d1 d3 d4 d6 o1 o3 o4 o6 E1 E4 E6 (K.aU c7 (.row 28 0 7 [[a,d1,.seq 2 (b.ol.map pD),d3,d4,i64 b.ag,d6]])):=
 have f:∀{o:Option Nat},(∀c,o=some c->c≠c7)->o≠some c7:=λg e=>g _ e rfl
 ⟨aQ h.le h.h7,h.h7,aK _ _ _,h.g1.cM (jT (f λc e=>(h.n1 c e).1)),h.g3.cM (jT (f λc e=>(h.n3 c e).1)),h.g4.cM (jT (f λc e=>(h.n4 c e).1)),h.g6.cM (jT (f h.n6)),h.n1,h.n3,h.n4,h.n6⟩
theorem uu.s1 (h:uu H c7 nm b (.os c o 1 0 n) d3 d4 d6 (some c) o3 o4 o6 E1 E4 E6 K)(hl:E.length=E1.length):uu H c7 nm b (.os c o 1 0 n) d3 d4 d6 (some c) o3 o4 o6 E E4 E6 (K.aU c (.row 9 o 1 E)):=by
 obtain⟨i,a,f,g⟩:=h.n1 c rfl;exact⟨aQ h.le h.g1.row.2.1,h.h7,(aJ (Ne.symm i)).trans h.r7,h.g1.set hl,h.g3.cM (jT a),h.g4.cM (jT f),h.g6.cM (jT g),h.n1,h.n3,h.n4,h.n6⟩
theorem uu.s4 (h:uu H c7 nm b d1 d3 (.os c o 2 0 n) d6 o1 o3 (some c) o6 E1 E4 E6 K)(hl:E.length=E4.length):uu H c7 nm b d1 d3 (.os c o 2 0 n) d6 o1 o3 (some c) o6 E1 E E6 (K.aU c (.row 36 o 2 E)):=by
 obtain⟨i,f,g⟩:=h.n4 c rfl;have a:o1≠some c:=λe=>(h.n1 c e).2.2.1 rfl;exact⟨aQ h.le h.g4.row.2.1,h.h7,(aJ (Ne.symm i)).trans h.r7,h.g1.cM (jT a),h.g3.cM (jT f),h.g4.set hl,h.g6.cM (jT g),h.n1,h.n3,h.n4,h.n6⟩
theorem uu.s6 (h:uu H c7 nm b d1 d3 d4 (.os c o 7 0 n) o1 o3 o4 (some c) E1 E4 E6 K)(hl:E.length=E6.length):uu H c7 nm b d1 d3 d4 (.os c o 7 0 n) o1 o3 o4 (some c) E1 E4 E (K.aU c (.row 46 o 7 E)):=by
 have i:=h.n6 c rfl;have a:o1≠some c:=λe=>(h.n1 c e).2.2.2 rfl;have f:o3≠some c:=λe=>(h.n3 c e).2 rfl;have g:o4≠some c:=λe=>(h.n4 c e).2.2 rfl;exact⟨aQ h.le h.g6.row.2.1,h.h7,(aJ (Ne.symm i)).trans h.r7,h.g1.cM (jT a),h.g3.cM (jT f),h.g4.cM (jT g),h.g6.set hl,h.n1,h.n3,h.n4,h.n6⟩
theorem uu.cm {p:ByteArray}{X:cY}(h:uu .none c7 (bC (p++b.nm)) b d1 d3 d4 d6 o1 o3 o4 o6 ((jR p b).rg.map sD) ((jR p b).lc.map eQ) ((jR p b).bl.map dM) K):((aA.none.aU c7 X).aU c7 (.row 28 0 7 [[bC (p++b.nm),d1,.seq 2 (b.ol.map pD),d3,d4,i64 b.ag,d6]])).le K/\wg ((aA.none.aU c7 X).aU c7 (.row 28 0 7 [[bC (p++b.nm),d1,.seq 2 (b.ol.map pD),d3,d4,i64 b.ag,d6]])) K [[bC (p++b.nm),d1,.seq 2 (b.ol.map pD),d3,d4,i64 b.ag,d6]] [cu (jR p b)]:=by
 obtain⟨B,i⟩:=oX ((aA.none.aU c7 X).aU c7 (.row 28 0 7 [[bC (p++b.nm),d1,.seq 2 (b.ol.map pD),d3,d4,i64 b.ag,d6]]));rw[<-i];have f:B.le K:=λc x a=>by
  rw[i] at a;by_cases e:c=c7
  ·subst e;rw[aK] at a;injection a with a;subst a;exact h.r7
  ·rw[aJ e,aJ e] at a;cases a
 have go:∀{e:TypeId}{sz:Nat}{els:List (List D)}{d:D}{k:Option Nat},Gl .none e sz els d K k->(∀c,k=some c->c≠c7)->Gl B e sz els d K k:=λj l=>by
  rcases j with j|⟨c,o,g,m,t,s⟩
  ·exact .inl j
  ·exact .inr ⟨c,o,g,m,by rw[i,aJ (l c g),aJ (l c g)];rfl,s⟩
 have r:=λd=>aL (d:=d) f;exact⟨f,⟨r _,da f (go h.g1 λc e=>(h.n1 c e).1),r _,da f (go h.g3 λc e=>(h.n3 c e).1),da f (go h.g4 λc e=>(h.n4 c e).1),r _,da f (go h.g6 h.n6),trivial⟩,trivial⟩
end
end Go.Proofs.YtffgfafbffdgaaaGreatDoor
