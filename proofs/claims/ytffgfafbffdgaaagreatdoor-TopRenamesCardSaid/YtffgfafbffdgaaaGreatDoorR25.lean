/- Lemmas and contracts of functions, several texts in one. -/
import Derived.Test.YtffgfafbffdgaaaGreatDoorR24
set_option maxRecDepth 100000
set_option maxHeartbeats 4000000
set_option linter.all false
namespace Go.Proofs.YtffgfafbffdgaaaGreatDoor
variable {i j k n:Nat}{p q a b:Int}
abbrev Gr:=List (Nat×List Int)
def bu:Gr->Nat
 |[]=>0
 |x::G=>x.1+1+bu G
theorem xh:∀(G c:Gr),bu (G++c)=bu G+bu c
 |[],c=>by simp [bu]
 |x::G,c=>by simp only[dJ,bu];rw[xh G c];omega
def dG (G:Gr) (i:Nat):Nat:=bu (G.take i)
theorem wz (G:Gr):dG G 0=0:=rfl
theorem oB {G:Gr}(h:i<G.length):dG G (i+1)=dG G i+G[i].1+1:=by
 unfold dG;rw[bw h,xh];simp only[bu];omega
theorem lJ {G:Gr}(h:G.length<=i):dG G i=bu G:=by unfold dG;rw[bK h]
theorem CQ {G:Gr}(h:i<=j):dG G i<=dG G j:=by
 induction j with
 |zero=>
  obtain rfl:i=0:=by omega
  exact bh _
 |succ j f=>
  by_cases e:i=j+1
  ·subst e;exact bh _
  ·refine ma (f (by omega)) ?_
   by_cases c:j<G.length
   ·rw[oB c];omega
   ·rw[lJ (i:=j+1) (by omega),lJ (i:=j) (by omega)];exact bh _
theorem vS {G:Gr}(h:i<j)(hi:i<G.length):dG G i+G[i].1<dG G j:=by
 have c:=CQ (G:=G) (show i+1<=j by omega);rw[oB hi] at c;omega
theorem sH {G:Gr}:dG G i<=bu G:=by
 have:=CQ (G:=G) (show i<=i+G.length by omega);rwa[lJ (i:=i+G.length) (by omega)] at this
theorem vc:∀G:Gr,G.length<=bu G
 |[]=>by simp [bu]
 |x::G=>by have:=vc G;simp only[bx,bu];omega
def At (G:Gr) (p:Int) (i k:Nat):Prop:=∃h:i<G.length,k<=G[i].1/\p=(dG G i:Int)+k
theorem At.lt {G:Gr}(h:At G p i k):0<=p/\p<bu G:=by
 obtain⟨c,e,f⟩:=h;have:=vS (Nat.lt_succ_self i) c;have:=sH (G:=G) (i:=i+1);simp only[Nat.succ_eq_add_one] at *;omega
theorem At.uniq {G:Gr}{l:Nat}(h:At G p i k)(h':At G p j l):i=j/\k=l:=by
 obtain⟨f,o,r⟩:=h;obtain⟨c,g,m⟩:=h';have e:i=j:=by
  rcases Nat.lt_trichotomy i j with h|h|h
  ·have:=vS h f;omega
  ·exact h
  ·have:=vS h c;omega
 subst e;exact⟨rfl,by omega⟩
theorem U8 {G:Gr}(h0:0<=p):∀n,n<=G.length->p<dG G n->∃i k,At G p i k
 |0,_,h=>by rw[wz] at h;omega
 |n+1,hn,h=>by
  by_cases h1:p<dG G n
  ·exact U8 h0 n (by omega) h1
  ·rw[oB (by omega)] at h
   exact⟨n,(p - dG G n).toNat,by omega,by omega,by omega⟩
theorem Vd {G:Gr}:(∃i k,At G p i k)↔0<=p/\p<bu G:=by
 constructor
 ·rintro⟨i,k,h⟩;exact h.lt
 ·rintro⟨c,e⟩;exact U8 c G.length (bh _) (by rw[lJ (bh _)];exact e)
open Classical in
noncomputable def Oh (G:Gr) (p:Int):Option (Nat×Nat):=if h:∃x:Nat×Nat,At G p x.1 x.2 then some h.choose else none
theorem Sh {G:Gr}(h:At G p i k):Oh G p=some (i,k):=by
 unfold Oh;have c:∃x:Nat×Nat,At G p x.1 x.2:=⟨(i,k),h⟩;rw[kL c];have:=c.choose_spec.uniq h;exact ai some (mc this.1 this.2)
theorem Si {G:Gr}(h:¬(0<=p/\p<bu G)):Oh G p=none:=by
 unfold Oh;rw[dif_neg];rintro⟨x,c⟩;exact h c.lt
def Xl (G:Gr) (i k:Nat) (q:Int):Prop:=∃h:i<G.length,(k<G[i].1/\q=(dG G i:Int)+k+1)\/(k=G[i].1/\∃t∈G[i].2,0<=t/\t<G.length/\q=dG G t.toNat)
def I5 (G:Gr) (p q:Int):Prop:=∃i k,At G p i k/\Xl G i k q
theorem Nv {G:Gr}(h:At G p i k):I5 G p q↔Xl G i k q:=by
 constructor
 ·rintro⟨j,l,e,c⟩
  obtain⟨rfl,rfl⟩:=h.uniq e;exact c
 ·exact λc=>⟨i,k,h,c⟩
theorem Xl.at_ {G:Gr}(h:Xl G i k q):∃j l,At G q j l:=by
 obtain⟨c,e|⟨e,t,o,f,g,m⟩⟩:=h
 ·exact⟨i,k+1,c,by omega,by omega⟩
 ·exact⟨t.toNat,0,by omega,by omega,by omega⟩
theorem Xl.lt {G:Gr}(h:Xl G i k q):0<=q/\q<bu G:=by obtain⟨j,l,h⟩:=h.at_;exact h.lt
theorem I5.lt {G:Gr}(h:I5 G p q):(0<=p/\p<bu G)/\(0<=q/\q<bu G):=by
 obtain⟨i,k,c,e⟩:=h;exact⟨c.lt,e.lt⟩
def my (n:Nat):List Int:=(List.range n).map λ(q:Nat)=>(q:Int)
theorem mU:q∈my n↔0<=q/\q<n:=by
 unfold my;rw[cD];constructor
 ·rintro⟨m,c,rfl⟩;rw[ib] at c;omega
 ·rintro⟨e,f⟩;exact⟨q.toNat,by rw[ib];omega,by omega⟩
theorem uf (n:Nat):(my n).Pairwise (·<·):=by
 unfold my;rw[rE];exact tI.imp λh=>by omega
theorem iw (n:Nat):(my n).length=n:=by unfold my;simp
theorem Ee (h:i<(my n).length):(my n)[i]=(i:Int):=by simp only[my,tN,List.getElem_range]
theorem G9 (n:Nat):my (n+1)=my n++[(n:Int)]:=by unfold my;rw[rG,bI];rfl
open Classical in
noncomputable def Gf (G:Gr) (p:Int):List Int:=(my (bu G)).filter λq=>decide (I5 G p q)
theorem yl {G:Gr}:q∈Gf G p↔I5 G p q:=by
 simp only[Gf,fN,dF,mU];exact⟨λh=>h.2,λh=>⟨h.lt.2,h⟩⟩
theorem A8 (G:Gr)(p:Int):(Gf G p).Pairwise (·<·):=(uf _).filter _
theorem EF (G:Gr)(p:Int):(Gf G p).length<=bu G:=by
 have:=kU (λq=>@decide (I5 G p q) (Classical.propDecidable _)) (my (bu G));rw[iw] at this;exact this
noncomputable def oh (G:Gr):List (Int×Int):=(my (bu G)).flatMap λp=>(Gf G p).map λq=>(p,q)
theorem sM {G:Gr}{e:Int×Int}:e∈oh G↔I5 G e.1 e.2:=by
 unfold oh;rw[la];constructor
 ·rintro⟨p,_,h⟩
  obtain⟨q,c,rfl⟩:=cD.1 h;exact yl.1 c
 ·intro h
  exact⟨e.1,mU.2 h.lt.1,cD.2 ⟨e.2,yl.2 h,rfl⟩⟩
inductive RC (G:Gr):Int->Int->Prop
 |one {a b:Int}:I5 G a b->RC G a b
 |step {a b c:Int}:RC G a b->I5 G b c->RC G a c
theorem RC.trans {G:Gr}{c:Int}(h:RC G a b)(h':RC G b c):RC G a c:=by
 induction h' with
 |one e=>exact .step h e
 |step _ e f=>exact .step f e
theorem RC.lt {G:Gr}(h:RC G a b):(0<=a/\a<bu G)/\(0<=b/\b<bu G):=by
 induction h with
 |one h=>exact h.lt
 |step f c e=>exact⟨e.1,c.lt.2⟩
end Go.Proofs.YtffgfafbffdgaaaGreatDoor
namespace Go.Proofs.YtffgfafbffdgaaaGreatDoor
open Go.RowKit
variable {b:bn}{p:Int}
def fD (b:bn):Gr:=b.bl.map λx=>(x.st.length,x.tm.tg)
theorem pB (b:bn):(fD b).length=b.bl.length:=aS _
theorem sc {i:Nat}(h:i<b.bl.length):(fD b)[i]'(by rw[pB];exact h)=(b.bl[i].st.length,b.bl[i].tm.tg):=by simp only[fD,tN]
def EK (l:List gq):List gq:=l.filter λo=>decide (o.k=0\/o.k=1)
def tf (l:List gq):List Int:=(EK l).map λo=>o.pl.lo
def I2 (p:gR):List Int:=if p.pr=[] then [] else [p.lo]
def MZ (p:gR):Option Int:=if p.pr=[] then some p.lo else none
def usS (s:qO):List Int:=if s.k=0 then tf s.rv.ar++((if s.rv.k=1 then [s.rv.pl.lo] else [])++I2 s.pl) else []
def dfS (s:qO):Option Int:=if s.k=0 then MZ s.pl else if s.k=1 then some s.lo else none
def Xu (t:ra):List Int:=tf t.ar++(if t.k=3 then I2 t.pl else if t.k=4 then [t.pl.lo] else [])
def Y7 (t:ra):Option Int:=if t.k=3 then MZ t.pl else none
def Er (x:im) (k:Nat):List Int:=match x.st[k]? with
 |some s=>usS s
 |none=>Xu x.tm
def CI (x:im) (k:Nat):Option Int:=match x.st[k]? with
 |some s=>dfS s
 |none=>Y7 x.tm
structure Qn where
 pl:gR
 wr:Bool
 dp:Bool
structure pT where
 rg:Int
 pt:Int
 mu:Bool
 pl:gR
def B2 (l:List gq):List Qn:=(EK l).map λo=>⟨o.pl,decide (o.k=1),true⟩
def acS (s:qO):List Qn:=B2 s.rv.ar++((if s.rv.k=1 then [⟨s.rv.pl,s.rv.mu,true⟩] else [])++(if s.k=0 then [⟨s.pl,true,false⟩] else if s.k=1 then [⟨⟨s.lo,[]⟩,true,false⟩] else []))
def acT (t:ra):List Qn:=B2 t.ar++(if t.k=3\/t.k=4 then [⟨t.pl,true,false⟩] else [])
def Mj (x:im) (k:Nat):List Qn:=match x.st[k]? with
 |some s=>acS s
 |none=>acT x.tm
def IB (p q:gR):Bool:=decide (p.lo=q.lo/\p.pr.length<=q.pr.length/\p.pr=q.pr.take p.pr.length)
def DU (p:gR) (n:Nat):Bool:=(p.pr.drop n).any λx=>decide (x.1=0)
def Xr (p q:gR):Bool:=decide (p.lo=q.lo/\p.pr.take (min p.pr.length q.pr.length)=q.pr.take (min p.pr.length q.pr.length))
def Kf (a:Qn) (l:pT):Bool:=if (a.wr=false/\l.mu=false)\/Xr a.pl l.pl=false then false else if a.dp=true then true else !(DU l.pl a.pl.pr.length)
def HY (x:im) (k:Nat) (l:pT):Bool:=(Mj x k).any λa=>Kf a l
def asB (x:im) (k:Nat):Option gR:=match x.st[k]? with
 |some s=>if s.k=0 then some s.pl else none
 |none=>if x.tm.k=3 then some x.tm.pl else none
def Dr (x:im) (k:Nat) (l:pT):Bool:=match asB x k with
 |some p=>IB p l.pl&&DU l.pl p.pr.length
 |none=>false
def BW (b:bn) (p:Int) (x:im) (k:Nat):Prop:=∃i,∃h:i<b.bl.length,At (fD b) p i k/\x=b.bl[i]
theorem BW.uniq {x y:im}{k j:Nat}(h:BW b p x k)(h':BW b p y j):x=y/\k=j:=by
 obtain⟨i,f,a,rfl⟩:=h;obtain⟨g,e,c,rfl⟩:=h';obtain⟨rfl,rfl⟩:=a.uniq c;exact⟨rfl,rfl⟩
theorem DD (h0:0<=p)(h:p<bu (fD b)):∃x k,BW b p x k:=by
 obtain⟨i,k,c⟩:=Vd.2 ⟨h0,h⟩;have e:i<b.bl.length:=by obtain⟨a,_⟩:=c;rw[pB] at a;exact a
 exact⟨_,k,i,e,c,rfl⟩
inductive zU (b:bn):Int->Int->Prop
 |use {p x:Int}{y:im}{k:Nat}:BW b p y k->x∈Er y k->zU b p x
 |step {p q x:Int}{y:im}{k:Nat}:BW b p y k->CI y k≠some x->I5 (fD b) p q->zU b q x->zU b p x
def KA (b:bn) (x:Int):Int:=match b.lc[x.toNat]? with
 |some l=>l.ty
 |none=>0
def KS (b:bn) (r p:Int):Prop:=∃x m,zU b p x/\Qv b.ty (KA b x) m/\gh b.ol b.rg.length r m=true
def KR (b:bn) (p:Int) (l:pT):Prop:=∃x k,BW b p x k/\Dr x k l=true
def KP (b:bn) (p:Int) (l:pT):Prop:=∃x k,BW b p x k/\HY x k l=true
def Xk (b:bn) (l:pT) (p q:Int):Prop:=¬KR b p l/\I5 (fD b) p q/\KS b l.rg q
inductive RI (b:bn) (l:pT):Int->Prop
 |one {q:Int}:Xk b l l.pt q->RI b l q
 |step {p q:Int}:RI b l p->Xk b l p q->RI b l q
def J0 (p:Int) (s:qO):List pT:=if s.k=0/\s.rv.k=1 then [⟨s.rv.rg,p,s.rv.mu,s.rv.pl⟩] else []
def CW:Int->List qO->List pT
 |_,[]=>[]
 |p,s::l=>J0 p s++CW (p+1) l
def Fe:Int->List im->List pT
 |_,[]=>[]
 |p,x::l=>CW p x.st++Fe (p+x.st.length+1) l
def pg (b:bn):List pT:=Fe 0 b.bl
def VP (b:bn) (i p:Int):Prop:=∃l,0<=i/\(pg b)[i.toNat]?=some l/\RI b l p/\KP b p l
theorem RI.lt {l:pT}(h:RI b l p):0<=p/\p<bu (fD b):=by
 cases h with
 |one h=>exact h.2.1.lt.2
 |step _ h=>exact h.2.1.lt.2
def Oo (x y:Int×Int):Prop:=x.1<y.1\/(x.1=y.1/\x.2<y.2)
theorem Oq:∀{l m:List (Int×Int)},l.Pairwise Oo->m.Pairwise Oo->(∀x,x∈l↔x∈m)->l=m
 |[],[],_,_,_=>rfl
 |[],b::m,_,_,h=>by have:=(h b).2 (by simp);simp at this
 |a::l,[],_,_,h=>by have:=(h a).1 (by simp);simp at this
 |a::l,b::m,h1,h2,h=>by
  rw[oa] at h1 h2;have g:a=b:=by
   have ha:=(h a).1 (by simp);have hb:=(h b).2 (by simp);rcases bV.1 ha with e|ha
   ·exact e
   rcases bV.1 hb with e|hb
   ·exact e.symm
   have c:=h1.1 b hb;have i:=h2.1 a ha;unfold Oo at c i;omega
  subst g;rw[Oq h1.2 h2.2 λx=>?_];constructor
  ·intro f
   have c:=h1.1 x f;rcases bV.1 ((h x).1 (dH _ f)) with e|h
   ·rw[e] at c;unfold Oo at c;omega
   ·exact h
  ·intro f
   have c:=h2.1 x f;rcases bV.1 ((h x).2 (dH _ f)) with e|h
   ·rw[e] at c;unfold Oo at c;omega
   ·exact h
open Classical in
noncomputable def qe (n m:Nat) (P:Int->Int->Prop):List (Int×Int):=(my n).flatMap λi=>((my m).filter λp=>decide (P i p)).map λp=>(i,p)
open Classical in
theorem ym {n m:Nat}{P:Int->Int->Prop}{x:Int×Int}:x∈qe n m P↔(0<=x.1/\x.1<n)/\(0<=x.2/\x.2<m)/\P x.1 x.2:=by
 unfold qe;rw[la];constructor
 ·rintro⟨i,g,h⟩
  obtain⟨p,a,rfl⟩:=cD.1 h;rw[fN,mU,dF] at a;exact⟨mU.1 g,a.1,a.2⟩
 ·rintro⟨c,e,f⟩
  exact⟨x.1,mU.2 c,cD.2 ⟨x.2,by rw[fN,mU,dF];exact⟨e,f⟩,rfl⟩⟩
theorem FP {f:Int->List Int}(hf:∀i,(f i).Pairwise (·<·)):∀{l:List Int},l.Pairwise (·<·)->(l.flatMap λi=>(f i).map λp=>(i,p)).Pairwise Oo
 |[],_=>by simp
 |a::l,h=>by
  rw[oa] at h;rw[lz,nj];refine⟨?_,FP hf h.2,?_⟩
  ·rw[rE];exact(hf a).imp λh=>.inr ⟨rfl,h⟩
  ·intro x hx y hy
   obtain⟨p,hp,rfl⟩:=cD.1 hx;obtain⟨i,e,c⟩:=la.1 hy;obtain⟨q,g,rfl⟩:=cD.1 c;exact .inl (h.1 i e)
open Classical in
theorem IE (n m:Nat)(P:Int->Int->Prop):(qe n m P).Pairwise Oo:=FP (λi=>(uf m).filter _) (uf n)
noncomputable def x8 (b:bn):List (Int×Int):=qe (pg b).length (bu (fD b)) (VP b)
theorem VP.lt {i:Int}(h:VP b i p):(0<=i/\i<(pg b).length)/\(0<=p/\p<bu (fD b)):=by
 obtain⟨l,e,a,c,_⟩:=h;have:=(gI.1 a).1;exact⟨by omega,c.lt⟩
theorem Ow {x:Int×Int}:x∈x8 b↔VP b x.1 x.2:=by
 unfold x8;rw[ym];exact⟨λh=>h.2.2,λh=>⟨h.lt.1,h.lt.2,h⟩⟩
theorem Gc (b:bn):(x8 b).Pairwise Oo:=IE _ _ _
open Tryz
theorem Nq (l m:List (Int×Int))(hl:cH l.length):aN prog 251 [.seq 2 (l.map pD),.seq 2 (m.map pD)] .none λd _=>d=.val (.bool (decide (l=m))):=by
 unfold cH at hl;have n:=lm pD l;have o:=lm pD m;have w:=aG CM;refine dO func251 ntmps251 results251 λw0 Z Q A=>?_;by_cases L:l.length=m.length
 case neg=>
  have q:=nF ((l.length:Int)=(m.length:Int));refine ur A (bQ n o q) trivial ?_;exact⟨_,aF _,by rw[af λe=>L (by rw[e])]⟩
 have q:=nT ((l.length:Int)=(m.length:Int));refine tn (bQ n o q) ?_;refine aO l.length (λi s=>s.df=[]/\s.fr 0=.seq 2 (l.map pD)/\s.fr 1=.seq 2 (m.map pD)/\s.fr 12=i64 l.length/\s.fr 13=i64 i/\s.H=aA.none/\l.take i=m.take i) ⟨rfl,rfl,rfl,rfl,rfl,rfl,by simp⟩ ?_;rintro i s hi ⟨r,G,I,u,c,V,z⟩;have M:=aX i;have v:=aZ i;by_cases a:i<l.length
 case neg=>
  have S:=lF i l.length;rw[bK (by omega),bK (by omega)] at z;refine ur A (bQ u c S) r ?_;exact⟨_,aF _,by rw[ah z]⟩
 have S:=lT i l.length;have k:i<m.length:=by omega
 have g:=bZ (f:=pD) a;have j:=bZ (f:=pD) k;have T:=wS i;have t:l[i]≠m[i]->decide (l=m)=false:=λh=>af (by rintro rfl;exact h rfl);have K:=IP z a k;obtain⟨x,N⟩:=oX l[i];obtain⟨y,P⟩:=oX m[i];rw[<-N] at g t K;rw[<-P] at j t K;simp only[pD,i64] at g j;refine tq (bQ u c S) ?_;intro U Y O C;by_cases B:x.1=y.1
 case neg=>
  have J:(x.1=y.1)=False:=aI B;refine dE (λ_ _ _ _=>False) λU Y=>?_;refine dst (bG G I n o g j M (bG v a k J w @fu @fq (bQ @dq @kF @jW))) ?_;intro U Y O C;refine ur A (av c T) r ?_;exact⟨_,aF _,by rw[t λh=>B (by rw[h])]⟩
 have J:(x.1=y.1)=True:=aG B;by_cases E:x.2=y.2
 case neg=>
  have R:(x.2=y.2)=False:=aI E;refine dE (λ_ _ _ _=>False) λU Y=>?_;refine dst (bG G I n o g j M (bG v a k J R w @fu (cA @fq @dq @kF @jW))) ?_;intro U Y O C;refine ur A (av c T) r ?_;exact⟨_,aF _,by rw[t λh=>E (by rw[h])]⟩
 have R:(x.2=y.2)=True:=aG E;refine dE (λ_ _ _ _=>False) λU Y=>?_;refine dst (bG G I n o g j M (bG v a k J R w @fu (cA @fq @dq @kF @jW))) ?_;intro U Y O C;refine tq (av c T) ?_;intro U Y O C;refine⟨a,r,G,I,u,rfl,V,?_⟩;exact K (mc B E)
theorem CN (H:aA)(l m:List (Int×Int))(hl:cH l.length):aN prog 251 [.seq 2 (l.map pD),.seq 2 (m.map pD)] H λd H'=>d=.val (.bool (decide (l=m)))/\H=H':=
 qf (Nq l m hl) rfl (MM (iU _ _) (iU _ _))
theorem Ea (l:List (Int×Int))(n:Nat):(l.map pD).take n=(l.take n).map pD:=(iK ..).symm
theorem Rq (l:List (Int×Int))(n:Nat):(l.map pD).drop n=(l.drop n).map pD:=(List.map_drop ..).symm
theorem F6 (p:gR)(n:Nat)(H:aA)(hp:cH p.pr.length)(hn:cH n):aN prog 151 [.agg (ee p),i64 n] H λd H'=>d=.val (.bool (DU p n))/\H=H':=by
 refine aq (K:=λd=>d=.val (.bool (DU p n))) ?_;have j:=aF H;have f:=lm pD p.pr;unfold cH at hp hn;have a:=Io (p.pr.drop (min n p.pr.length)) 215 (λx=>decide (x.1=0)) H (by unfold cH;rw[gd];omega) (λx _ g=>Uj x g);have e:(p.pr.drop (min n p.pr.length)).any (λx=>decide (x.1=0))=DU p n:=by
  unfold DU;by_cases h:n<=p.pr.length
  ·rw[mZ h]
  ·rw[Nat.min_eq_right (by omega),cb (bh _),cb (by omega)]
 rw[e] at a;refine dO func151 ntmps151 results151 λr o Q i=>?_;refine tq @ee.eq_1 ?_;intro U Y O C;intro m c;refine Y _ ?_;refine cm 2 c ?_;have k:max (n:Int) 0=n:=by omega
 have l:min (n:Int) (p.pr.length:Int)=((min n p.pr.length:Nat):Int):=by omega
 refine tq (bQ f k l) ?_;intro U Y O C;rw[Rq];refine⟨by omega,by omega,a.mono ?_⟩;rintro d _ ⟨rfl,rfl⟩;refine u0 i ?_;exact zf j rfl
theorem P0 (p q:gR)(H:aA)(hp:cH p.pr.length)(z:cH q.pr.length):aN prog 178 [.agg (ee p),.agg (ee q)] H λd H'=>d=.val (.bool (IB p q))/\H=H':=by
 refine aq (K:=λd=>d=.val (.bool (IB p q))) ?_;have l:=aF H;have c:=lm pD p.pr;have e:=lm pD q.pr;have i:∀x,cP prog 251 [.seq 2 (p.pr.map pD),.seq 2 ((q.pr.map pD).take p.pr.length)] x λd A=>A=aA.none/\d=.val (.bool (decide (p.pr=q.pr.take p.pr.length))):=λx=>an λo _=>by rw[Ea];exact CN o _ _ hp
 unfold cH at hp z;have a:IB p q=decide (p.lo=q.lo/\p.pr.length<=q.pr.length/\p.pr=q.pr.take p.pr.length):=rfl;obtain⟨E,y⟩:=oX (IB p q);rw[<-y] at a ⊢;clear y;obtain⟨v,g⟩:=p;obtain⟨w,k⟩:=q;simp only[ee] at i a c e hp z ⊢;refine dO func178 ntmps178 results178 λJ I Q r=>?_;refine t0 ?_;intro U Y O C;intro s t G u;refine Y _ ?_;refine uB 2 3 t u ?_;refine tq (av c e) ?_;intro U Y O C;have B:(0:Int)<=(g.length:Int):=aZ _;by_cases m:v=w
 case neg=>
  have j:(v=w)=False:=aI m;rw[af λh=>m h.1] at a;refine dE (λ_ _ _ _=>False) λU Y=>?_;refine dst j ?_;intro U Y O C;refine u0 r ?_;exact zf l ((by rw[a]))
 have j:(v=w)=True:=aG m;by_cases s:g.length<=k.length
 case neg=>
  have n:=nF ((g.length:Int)<=(k.length:Int));rw[af λh=>s h.2.1] at a;refine dE (λ_ _ _ _=>False) λU Y=>?_;refine dst (cA j n c e) ?_;intro U Y O C;refine u0 r ?_;exact zf l ((by rw[a]))
 have f:(g.length:Int)<=(k.length:Int):=by omega
 have n:((g.length:Int)<=(k.length:Int))=True:=aG f;refine dE (λ_ _ d A=>A=.none/\d=.val (.bool (decide (g=k.take g.length)))) λU Y=>?_;refine dst (eP j n c e B f) ?_;intro U Y O C;refine⟨(i _),?_⟩;(first|refine C _ ?_|skip);(first|refine dst (eP j n c e B f) ?_;intro U Y O C|skip);refine u0 r ?_;exact⟨_,aF _,l,_,aL l,(by rw[a];exact ai (λb:Bool=>D.val (.bool b)) (decide_eq_decide.2 ⟨λh=>⟨m,s,h⟩,λh=>h.2.2⟩))⟩
theorem Hy (p q:gR)(H:aA)(hp:cH p.pr.length)(y:cH q.pr.length):aN prog 254 [.agg (ee p),.agg (ee q)] H λd H'=>d=.val (.bool (Xr p q))/\H=H':=by
 refine aq (K:=λd=>d=.val (.bool (Xr p q))) ?_;have k:=aF H;have c:=lm pD p.pr;have e:=lm pD q.pr;unfold cH at hp y;obtain⟨m,x⟩:=oX (min p.pr.length q.pr.length);have f:∀u,cP prog 251 [.seq 2 ((p.pr.map pD).take m),.seq 2 ((q.pr.map pD).take m)] u λd A=>A=aA.none/\d=.val (.bool (decide (p.pr.take m=q.pr.take m))):=λu=>an λj _=>by rw[Ea,Ea];exact CN j _ _ (by unfold cH;rw[bX];omega)
 have a:Xr p q=decide (p.lo=q.lo/\p.pr.take m=q.pr.take m):=by rw[x];rfl
 obtain⟨E,w⟩:=oX (Xr p q);rw[<-w] at a ⊢;clear w;have z:min (p.pr.length:Int) (q.pr.length:Int)=(m:Int):=by omega
 have B:=aZ m;have s:(m:Int)<=(p.pr.length:Int):=by omega
 have t:(m:Int)<=(q.pr.length:Int):=by omega
 have G:=aX m;clear x;obtain⟨o,I⟩:=p;obtain⟨r,J⟩:=q;simp only[ee] at f a c e hp y z s t ⊢;refine dO func254 ntmps254 results254 λP N Q v=>?_;refine t0 ?_;intro U Y O C;intro L l M n;refine Y _ ?_;refine uB 2 3 l n ?_;refine tq (bQ c e z) ?_;intro U Y O C;by_cases g:o=r
 case neg=>
  have i:(o=r)=False:=aI g;rw[af λh=>g h.1] at a;refine dE (λ_ _ _ _=>False) λU Y=>?_;refine dst i ?_;intro U Y O C;refine u0 v ?_;exact zf k ((by rw[a]))
 have i:(o=r)=True:=aG g;refine dE (λ_ _ d A=>A=.none/\d=.val (.bool (decide (I.take m=J.take m)))) λU Y=>?_;refine dst (ej i c e B s t G) ?_;intro U Y O C;refine⟨(f _),?_⟩;(first|refine C _ ?_|skip);(first|refine dst (ej i c e B s t G) ?_;intro U Y O C|skip);refine u0 v ?_;exact⟨_,aF _,k,_,aL k,(by rw[a];exact ai (λb:Bool=>D.val (.bool b)) (decide_eq_decide.2 ⟨λh=>⟨g,h⟩,λh=>h.2⟩))⟩
def oq (x:im) (k:Nat):gR×Bool×Bool:=match x.st[k]? with
 |some s=>if s.k=0 then (s.pl,true,true) else if s.k=1 then (⟨s.lo,[]⟩,true,false) else (⟨0,[]⟩,false,false)
 |none=>(x.tm.pl,decide (x.tm.k=3\/x.tm.k=4),decide (x.tm.k=3))
def U1 (z:gR×Bool×Bool):D:=.eO [.agg (ee z.1),.val (.bool z.2.1),.val (.bool z.2.2)]
theorem Cr (x:im)(k:Nat)(H:aA)(hs:cH x.st.length)(hk:k<=x.st.length):aN prog 177 [.agg (dM x),i64 k] H λd H'=>d=U1 (oq x k)/\H=H':=by
 obtain⟨Z,a⟩:=oX (oq x k);rw[<-a];refine aq (K:=λd=>d=U1 Z) ?_;have R:=aF H;have g:=lm ji x.st;unfold cH at hs;obtain⟨i,f⟩:=x;simp only at hs hk g;simp only[dM];refine dO func177 ntmps177 results177 λw0 V Q n=>?_;refine t0 ?_;intro U Y O C;intro S o M r;refine Y _ ?_;refine Yc 2 o r ?_;have E:=iY (H:=H) (aQ (x:=.row 46 0 7 [[.seq 11 (i.map ji),i64 f.k,.seq 1 (f.tg.map iD),.seq 4 (f.ar.map db),i64 f.pl.lo,.seq 2 (f.pl.pr.map pD),bC f.nm]]) (aF _) o) r;have c:∀(v:cY),H.le (H.aU M v):=λv=>aQ (aF _) E;by_cases m:k<i.length
 case neg=>
  have e:k=i.length:=by omega
  subst e;have s:((i.length:Int)=(i.length:Int))=True:=aG rfl;unfold oq at a;rw[lu (bh _)] at a;simp only at a;by_cases j:f.k=3
  ·have A:(f.k=3)=True:=aG j
   rw[ah (.inl j),ah j] at a;refine ur n (bQ g s A) trivial ?_;exact⟨_,aF _,c _,_,aL (c _),by rw[a] <;> rfl⟩
  have A:(f.k=3)=False:=aI j;by_cases y:f.k=4
  ·have L:(f.k=4)=True:=aG y
   rw[ah (.inr y),af j] at a;refine ur n (cA g s A L) trivial ?_;exact⟨_,aF _,c _,_,aL (c _),by rw[a] <;> rfl⟩
  have L:(f.k=4)=False:=aI y;rw[af (λh=>h.elim j y),af j] at a;refine ur n (cA g s A L) trivial ?_;exact⟨_,aF _,c _,_,aL (c _),by rw[a] <;> rfl⟩
 have B:(k:Int)<(i.length:Int):=by omega
 have s:=nF ((k:Int)=(i.length:Int));have P:=aX k;have G:=aZ k;have l:(i.map ji)[k]?=some (ji i[k]):=bZ m;unfold oq at a;rw[az m] at a;simp only at a;obtain⟨u,N⟩:=oX i[k];rw[<-N] at l a;simp only[ji] at l;refine tq (ej g s l P G m B) ?_;intro U Y O C;intro T I;refine Y _ ?_;refine cm 8 I ?_;by_cases t:u.k=0
 ·have z:(u.k=0)=True:=aG t
  rw[aD t] at a;refine ur n z trivial ?_;exact⟨_,aF _,c _,_,aL (c _),by rw[a] <;> rfl⟩
 have z:(u.k=0)=False:=aI t;rw[aC t] at a;by_cases w:u.k=1
 ·have J:(u.k=1)=True:=aG w
  rw[aD w] at a;refine ur n (av z J) trivial ?_;exact⟨_,aF _,c _,_,lI (Yb (yd (HP (aL (c _)) iq)) (aL (c _)) (aL (c _))),by rw[a] <;> rfl⟩
 have J:(u.k=1)=False:=aI w;rw[aC w] at a;refine ur n (av z J) trivial ?_;exact⟨_,aF _,c _,_,lI (Yb (yd (HP (aL (c _)) iq)) (aL (c _)) (aL (c _))),by rw[a] <;> rfl⟩
def Xn (a:Qn):List D:=[i64 a.pl.lo,.seq 2 (a.pl.pr.map pD),.val (.bool a.wr),.val (.bool a.dp)]
def pF (l:pT):List D:=[i64 l.rg,i64 l.pt,.val (.bool l.mu),i64 l.pl.lo,.seq 2 (l.pl.pr.map pD)]
theorem WA (a:Qn)(l:pT)(H:aA)(ha:cH a.pl.pr.length)(hl:cH l.pl.pr.length):aN prog 180 [.agg (Xn a),.agg (pF l)] H λd H'=>d=.val (.bool (Kf a l))/\H=H':=by
 obtain⟨Z,e⟩:=oX (Kf a l);rw[<-e];refine aq (K:=λd=>d=.val (.bool Z)) ?_;have t:=aF H;have i:=lm pD a.pl.pr;have c:=λk=>Hy a.pl l.pl k ha hl;have f:=λk=>F6 l.pl a.pl.pr.length k hl ha;unfold Kf at e;obtain⟨E,u⟩:=oX (Xr a.pl l.pl);obtain⟨G,v⟩:=oX (DU l.pl a.pl.pr.length);rw[<-u] at e c;rw[<-v] at e f;clear u v;obtain⟨⟨A,B⟩,j,y⟩:=a;obtain⟨R,N,lm,⟨M,P⟩⟩:=l;simp only[ee] at c f e i;simp only[Xn,pF];refine dO func180 ntmps180 results180 λS L Q x=>?_;refine t0 ?_;intro U Y O C;intro I n J o;refine Y _ ?_;refine uB 2 3 n o ?_;have fin:∀s:St,s.df=[]->s.fr 4=.val (.bool Z)->s.H=H->Q .ret s:=λs r z w=>by
  refine x _ _ (.inr rfl) r ?_;show ∃H':aA,_;exact⟨s.H,aF _,by rw[w];exact t,_,by rw[z];exact aL (by rw[w];exact t),rfl⟩
 by_cases m:j=false/\lm=false
 ·obtain⟨rfl,rfl⟩:=m
  rw[aD (.inl ⟨rfl,rfl⟩)] at e;subst e;refine t0 ?_;intro U Y O C;exact fin _ rfl rfl rfl
 have g:(j=true)\/(j=false/\lm=true):=by cases j <;> cases lm <;> simp at m ⊢
 cases E
 ·rw[aD (.inr rfl)] at e
  subst e;rcases g with rfl|⟨rfl,rfl⟩
  ·refine t0 ?_;intro U Y O C
   refine(c _).qt ?_;intro U Y O C;exact fin _ rfl rfl rfl
  ·refine t0 ?_;intro U Y O C
   refine(c _).qt ?_;intro U Y O C;exact fin _ rfl rfl rfl
 rw[aC (λh=>h.elim m (λh=>by cases h))] at e;cases y
 ·rw[aC (by decide)] at e
  subst e;rcases g with rfl|⟨rfl,rfl⟩
  ·refine t0 ?_;intro U Y O C
   refine(c _).qs i ?_;intro U Y O C;refine(f _).qt ?_;intro U Y O C;exact fin _ rfl rfl rfl
  ·refine t0 ?_;intro U Y O C
   refine(c _).qs i ?_;intro U Y O C;refine(f _).qt ?_;intro U Y O C;exact fin _ rfl rfl rfl
 ·rw[aD rfl] at e
  subst e;rcases g with rfl|⟨rfl,rfl⟩
  ·refine t0 ?_;intro U Y O C
   refine(c _).qt ?_;intro U Y O C;exact fin _ rfl rfl rfl
  ·refine t0 ?_;intro U Y O C
   refine(c _).qt ?_;intro U Y O C;exact fin _ rfl rfl rfl
def kO (S l:List (Int×Int)):List (Int×Int):=l.foldl uQ S
theorem L7 {S l:List (Int×Int)}{j:Nat}(h:j<l.length):kO S (l.take (j+1))=uQ (kO S (l.take j)) l[j]:=by
 unfold kO;rw[bw h,mX];rfl
theorem jt {l:List (Int×Int)}:∀{S:List (Int×Int)}{y:Int×Int},y∈kO S l↔y∈S\/y∈l:=by
 induction l with
 |nil=>intro S y;simp [kO]
 |cons r l a=>
  intro S y
  have e:kO S (r::l)=kO (uQ S r) l:=rfl
  rw[e,a,Fm,bV]
  constructor
  ·rintro((h|h)|h)
   ·exact .inl h
   ·exact .inr (.inl h)
   ·exact .inr (.inr h)
  ·rintro(h|h|h)
   ·exact .inl (.inl h)
   ·exact .inl (.inr h)
   ·exact .inr h
theorem Tx (l:List (Int×Int))(H:aA)(hl:cH l.length)(g:∀y∈l,du y.1/\du y.2):aN prog 181 [.seq 2 (l.map pD)] H λd H'=>∃e,H e=none/\d=.val (.map (some e))/\H'=H.aU e (.map (yO (kO [] l))):=by
 have m:=lm pD l;unfold cH at hl;refine dO func181 ntmps181 results181 λN L Q G=>?_;refine t0 ?_;intro U Y O C;intro e w;refine Y _ ?_;refine tn m ?_;refine aO l.length (λi s=>s.df=[]/\s.fr 3=.val (.map (some e))/\s.fr 7=.seq 2 (l.map pD)/\s.fr 8=i64 l.length/\s.fr 9=i64 i/\s.H=H.aU e (.map (yO (kO [] (l.take i))))) ⟨rfl,rfl,rfl,rfl,rfl,rfl⟩ ?_;rintro i s M ⟨j,n,E,o,r,u⟩;have A:=aX i;have t:=aZ i;by_cases c:i<l.length
 case neg=>
  have B:=lF i l.length;rw[bK (by omega)] at u;refine ur G (cA n o r B) j ?_;exact⟨_,aF _,e,w,rfl,u⟩
 have B:=lT i l.length;have k:=il c;have J:=wS i;have z:=L7 (S:=[]) c;have f:=Ey (S:=kO [] (l.take i)) (λx A=>g x (by rcases jt.1 A with h|h;cases h;exact rC h)) (g l[i] (ao _));have a:=I8 (kO [] (l.take i)) l[i];rw[<-z] at a;obtain⟨y,I⟩:=oX l[i];rw[<-I] at k f a;simp only[pk] at f a;refine tq (bG E o r B k A t (av c m)) ?_;intro U Y O C;intro K v;refine Y _ ?_;refine cm 5 v ?_;refine tn (eP n r u a f J) ?_;exact⟨c,j,n,E,o,rfl,rfl⟩
def Uh (a:List pT) (E K V L:List (Int×Int)):List D:=[.seq 5 (a.map pF),.seq 2 (E.map pD),.seq 2 (K.map pD),.seq 2 (V.map pD),.seq 2 (L.map pD)]
def JP (a:List pT) (E K V L:List (Int×Int)) (c e f g:Nat):D:=.rp [.seq 5 (a.map pF),.seq 2 (E.map pD),.seq 2 (K.map pD),.seq 2 (V.map pD),.seq 2 (L.map pD),.val (.map (some c)),.val (.map (some e)),.val (.map (some f)),.val (.map (some g))]
def KT (E:List (Int×Int)):Bool->Int->List Int:=λk x=>if k=true then fA E x else []
theorem M8 (E:List (Int×Int))(e:Int×Int):KT (E++[e])=BV (KT E) true e.1 (KT E true e.1++[e.2]):=by
 funext k x;cases k
 ·rw[jO (by simp)];rfl
 ·by_cases a:x=e.1
  ·subst a;rw[lW];simp [KT,fA]
  ·rw[jO (by simp [a])]
   have:¬e.1=x:=λh=>a h.symm;simp [KT,fA,this]
theorem Qy (E:List (Int×Int))(k:Bool)(x:Int):(KT E k x).length<=E.length:=by cases k <;> simp only[KT,ia,dY,dN,fA,aS,dX] <;> first|exact kU _ _|omega
theorem Vn {R:Nat->aA}{V:Nat->D}{p:D->aA->Prop}:(∀d A,(∃b,A=R b/\d=V b)->p d A)=∀b,p (V b) (R b):=propext
 ⟨λh b=>h _ _ ⟨b,rfl,rfl⟩,λh d A ⟨b,a,c⟩=>by rw[a,c];exact h b⟩
theorem evM {P Q:Prop}(hq:Q)(h:Q->P:=by intro h;simp (maxSteps:=4000000) only[vX,vB,vT,vZ,ij,fh,Fp,yk,AX,gV,fE,fj,↓iR,yb,cU,DJ,ze,By,oi,od,pn,po,ki,j8,kh,ic,D.nilPtr,D.iM,D.iF,fH,Bj,CE,wX,gy,jw,fieldsOf,gU,B6,B7,B8,B9,sL,BT,D.cells,jx,DE,DB,pv,eK,eH,B3,BR,jd,EC,rS,Be,gP,TD.gX,TD.agg,Eo,rU,oe,FI,nZ,pY,pX,Ba,B5,mF,pZ,dR,eT,Value.oneCell',iX,iV,gp,reduceCtorEq,kY,iZ,dN,dY,↓reduceIte,Nat.reduceEqDiff,Int.reduceLE,Int.reduceLT,Int.reduceNeg,Int.reduceToNat,Nat.reduceAdd,Nat.reduceMul,Nat.reduceLeDiff,Nat.reduceMod,Nat.reduceSub,Int.reduceEq,Int.reduceNe,Int.reduceAdd,Int.reduceSub,Int.reduceMul,iW,cR,cO,cE,au,cF,fW,cp,eU,fK,fL,fQ,fR,fP,Q3,IZ,gdY,dh,St.out,jX,kI,jS,lG,iJ,or_true,true_or,or_false,pS,↓zi,↓Q7,rP,F1,dq,fi,jk,St.jg,↓Vn,i64,cC,fw];exact h):P:=h hq
theorem Pq (l:List (Int×Int))(H:aA)(hl:cH l.length)(c:∀y∈l,du y.1/\du y.2):cP prog 181 [.seq 2 (l.map pD)] H λd A=>∃b,A=aA.none.aU b (.map (yO (kO [] l)))/\d=.val (.map (some b)):=
 wk (λa _=>Tx l a hl c) λa d h ⟨b,e,f,g⟩=>⟨aA.none.aU b (.map (yO (kO [] l))),oO e,by rw[g,kI],b,rfl,f⟩
structure VR (LN:List pT) (E K V L:List (Int×Int)) (H:aA) (i b1 b2 b3 b4:Nat) (Hs:aA):Prop where
 le:H.le Hs
 n1:H b1=none
 n2:H b2=none
 n3:H b3=none
 n4:H b4=none
 ne:b2≠b1/\b3≠b1/\b4≠b1
 hm:∃m c dm,Hs b1=some (.map m)/\fZ m (dm true)/\Et H (KT (E.take i)) c dm Hs
 m2:Hs b2=some (.map (yO (kO [] K)))
 m3:Hs b3=some (.map (yO (kO [] V)))
 m4:Hs b4=some (.map (yO (kO [] L)))
theorem TC (LN:List pT)(E K V L:List (Int×Int))(H:aA)(hK:cH K.length)(hV:cH V.length)(hL:cH L.length)(hE:E.length<=1000000)(be:∀y∈K,du y.1/\du y.2)(bm:∀y∈V,du y.1/\du y.2)(bf:∀y∈L,du y.1/\du y.2)(am:∀y∈E,du y.1/\du y.2):
  aN prog 99 [.agg (Uh LN E K V L)] H λd H'=>∃v J M N,d=JP LN E K V L v J M N/\VR LN E K V L H E.length v J M N H':=by
 have s1:=λH1=>Pq K H1 hK be;have s2:=λH1=>Pq V H1 hV bm;have s3:=λH1=>Pq L H1 hL bf;have ac:=lm pD E;unfold Uh;refine dO func99 ntmps99 results99 λw0 g0 Q aB=>?_;refine t0 ?_;intro U Y O C;intro c1 b8;refine Y _ ?_;refine cm 1 b8 ?_;refine bW ?_;refine I9 (λt _ d A=>∃b,A=aA.none.aU b (.map (yO (kO [] (if t=some 10 then K else if t=some 13 then V else L))))/\d=.val (.map (some b))) (by kernel_rfl) (by kernel_rfl) (by kernel_rfl) λU Y=>?_;refine Eh ?_;refine evM ?_;intro v S;refine⟨s1 _,?_⟩;intro J aw;refine⟨s2 _,?_⟩;intro M b0;refine⟨s3 _,?_⟩;intro N b5 bR b7;refine Y _ ?_;refine cm 3 b7 ?_;obtain⟨a3,a7⟩:=bF.1 aw;obtain⟨bi,ag⟩:=bF.1 b0;obtain⟨a4,a8⟩:=bF.1 ag;obtain⟨bl,al⟩:=bF.1 b5;obtain⟨bk,ak⟩:=bF.1 al;obtain⟨a5,a9⟩:=bF.1 ak;clear s1 s2 s3;refine tn ac ?_;refine aO E.length (λi s=>s.df=[]/\s.fr 3=JP LN E K V L v J M N/\s.fr 20=.seq 2 (E.map pD)/\s.fr 21=i64 E.length/\s.fr 22=i64 i/\VR LN E K V L H i v J M N s.H) ⟨rfl,rfl,rfl,rfl,rfl,aQ (aQ (aQ (aQ (aF _) S) a7) a8) a9,S,a7,a8,a9,⟨a3,a4,a5⟩,⟨[],λ_ _=>0,λ_ _=>none,(aJ a5.symm).trans ((aJ a4.symm).trans ((aJ a3.symm).trans (aK _ _ _))),fZ.nil,⟨λ_ _ _=>rfl,λk x h=>absurd (by cases k <;> simp [KT,fA]) h,λk x _ _ h _ _=>absurd (by cases k <;> simp [KT,fA]) h⟩⟩,(aJ bk.symm).trans ((aJ bi.symm).trans (aK _ _ _)),(aJ bl.symm).trans (aK _ _ _),aK _ _ _⟩ ?_;rintro i s hi ⟨T,f3,R,w,B,⟨aM,n1,n2,n3,n4,ne,⟨m,c,dm,hm,rV,hF⟩,Z,a0,a1⟩⟩;have hx:=aX i;have ar:=aZ i;by_cases l:i<E.length
 case neg=>
  have q1:=lF i E.length;have ba:i=E.length:=by omega
  subst ba;refine ur aB (cA f3 w B q1) T ?_;exact⟨_,aF _,v,J,M,N,rfl,⟨aM,n1,n2,n3,n4,ne,⟨m,c,dm,hm,rV,hF⟩,Z,a0,a1⟩⟩
 have q1:=lT i E.length;have ab:=il l;have w3:=wS i;have I:=am E[i] (ao _);obtain⟨p,a2⟩:=oX E[i];rw[<-a2] at ab I;have a6:=M8 (E.take i) p;rw[a2,<-bw l,<-a2] at a6;refine tq (bG R w B q1 ab hx ar (av l ac)) ?_;intro U Y O C;intro b9 b6;refine Y _ ?_;refine cm 5 b6 ?_;have bo:=Qy (E.take i) true p.1;have bq:(E.take i).length<=1000000:=by rw[bX];omega
 have u:=rV.get p.1;have G:=rV.ok (P:=prog) underlying3 I.1;obtain⟨ob,hg,ad,ae⟩:=hF.gl true p.1;have r:∀b z,s.H b=some (.map z)->ob≠some b:=λb z hz e=>by obtain⟨o,ap,he⟩:=ad b e;rw[hz] at he;cases he
 have fin:∀d n f,Gl H 3 1 ((KT (E.take i) true p.1).map iD++[iD p.2]) d n f->H.le n->(∀b z,s.H b=some z->ob≠some b->n b=some z/\f≠some b)->
   n v=some (.map m)/\VR LN E K V L H (i+1) v J M N (n.aU v (.map (eJ m (.int .i64 p.1) d))):=λd n f g j a=>by
  have e1:=(a _ _ hm (r _ _ hm)).1;rw[show[iD p.2]=[p.2].map iD from rfl,<-bI] at g;obtain⟨c',aa⟩:=hF.step g λk' x' he bb=>by
   obtain⟨o,h1,h2,h3⟩:=hF.own k' x' he;have:=a _ _ h3 (ae k' x' he bb);exact⟨this.1.trans h3.symm,this.2⟩
  rw[<-a6] at aa;refine⟨e1,aQ j S,n1,n2,n3,n4,ne,⟨_,c',BV dm true p.1 (some d),aK _ _ _,(rV.set I.1 d).congr λx=>by simp [BV],aa.cM λb z hz ⟨o,ap,bc⟩=>?_⟩,(aJ a3).trans (a _ _ Z (r _ _ Z)).1,(aJ a4).trans (a _ _ a0 (r _ _ a0)).1,(aJ a5).trans (a _ _ a1 (r _ _ a1)).1⟩;rw[aJ λe=>by rw[e,e1,bc] at hz;cases hz];exact hz
 cases hdm:dm true p.1 with
 |none=>
  rw[hdm] at u hg
  refine wE (λt=>t==some 29||t==some 30||t==some 31||t==some 35||t==some 36||t==some 37||t==some 39||t==some 40) (λ_=>false) (λ_ _ _ _=>False) (λ_ _ _ _ _=>False) λU Y=>?_;have fs:=And.intro f3 (And.intro @JP.eq_1 (And.intro hm u));refine uj ?_;refine nx ?_;(try clear fs)
  refine⟨G,?_⟩
  refine ax (e:=3) fk rfl fk rfl yv rfl (by decide) aM hg (new:=[iD p.2]) (by exact⟨rfl,rfl⟩) (by rw[aS];show(_+1) * 8<=_;omega) λd n f g j a=>?_
  obtain⟨e1,e2⟩:=fin d n f g j a
  simp only[e1]
  refine⟨G,?_⟩
  refine tn (av B w3) ?_
  exact⟨l,T,f3,R,w,rfl,e2⟩
 |some dv=>
  rw[hdm] at u hg
  refine wE (λt=>t==some 29||t==some 30||t==some 31||t==some 35||t==some 36||t==some 37||t==some 39||t==some 40) (λ_=>false) (λ_ _ _ _=>False) (λ_ _ _ _ _=>False) λU Y=>?_;have fs:=And.intro f3 (And.intro @JP.eq_1 (And.intro hm u));refine uj ?_;refine nx ?_;(try clear fs)
  refine⟨G,?_⟩
  refine ax (e:=3) fk rfl fk rfl yv rfl (by decide) aM hg (new:=[iD p.2]) (by exact⟨rfl,rfl⟩) (by rw[aS];show(_+1) * 8<=_;omega) λd n f g j a=>?_
  obtain⟨e1,e2⟩:=fin d n f g j a
  simp only[e1]
  refine⟨G,?_⟩
  refine tn (av B w3) ?_
  exact⟨l,T,f3,R,w,rfl,e2⟩
structure U3 (E K V L:List (Int×Int)) (b1 b2 b3 b4:Nat) (m1:List (Value×D)) (Hs:aA):Prop where
 m1:Hs b1=some (.map m1)
 m2:Hs b2=some (.map (yO (kO [] K)))
 m3:Hs b3=some (.map (yO (kO [] V)))
 m4:Hs b4=some (.map (yO (kO [] L)))
theorem Uq (z:List pT)(E K V L:List (Int×Int))(H:aA)(hK:cH K.length)(hV:cH V.length)(hL:cH L.length)(hE:E.length<=1000000)(Z:∀y∈K,du y.1/\du y.2)(a4:∀y∈V,du y.1/\du y.2)(a0:∀y∈L,du y.1/\du y.2)(I:∀y∈E,du y.1/\du y.2):
  aN prog 99 [.agg (Uh z E K V L)] H λd H'=>∃g k l n m1,d=JP z E K V L g k l n/\H.le H'/\fZ m1 (λx=>Aa (fA E x))/\U3 E K V L g k l n m1 H':=
 (TC z E K V L H hK hV hL hE Z a4 a0 I).xQ λd H' ⟨g,k,l,n,R,A,n1,n2,n3,n4,⟨a1,a2,a3⟩,⟨m,c,dm,S,rV,N⟩,s,t,u⟩=>by
  rw[dI] at N;obtain⟨M,hM⟩:=oX (m.map λp=>(p.1,AQ (KT E true) p.1));obtain⟨i,j⟩:∃i:aA,i=λb=>if b=g then some (.map M) else if b=k\/b=l\/b=n then H' b else H b:=⟨_,rfl⟩
  have e1:i g=some (.map M):=by rw[j];exact aD rfl
  have B:∀b,b≠g->i b=H' b\/i b=H b:=λb h=>by
   rw[j];simp only[aC h];split
   ·exact .inl rfl
   ·exact .inr rfl
  have G:∀b,b≠g->(b=k\/b=l\/b=n)->i b=H' b:=λb h J=>by rw[j];simp only[aC h,aD J]
  have v:Es i H':=λb a=>by
   rcases B b (λe=>by rw[e,S] at a;cases a) with h|h
   ·rw[h];exact a
   ·rw[h];exact gA A a
  have T:∀b o r,H' b=some (.row 3 o 1 r)->H b=none->i b=none:=λb o r f J=>by
   have P:b≠g:=λe=>by rw[e,S] at f;cases f
   by_cases hq:b=k\/b=l\/b=n
   ·rcases hq with e|e|e <;> rw[e] at f
    ·rw[s] at f;cases f
    ·rw[t] at f;cases f
    ·rw[u] at f;cases f
   ·rw[j];simp only[aC P,aC hq];exact J
  refine⟨d,i,v,λw hH=>hH.xQ v λb x a=>?_,AM v,g,k,l,n,M,R,λb x a=>?_,hM▸Dd N rV,e1,(G k a1 (.inl rfl)).trans s,(G l a2 (.inr (.inl rfl))).trans t,(G n a3 (.inr (.inr rfl))).trans u⟩
  ·by_cases f:b=g
   ·subst f
    rw[e1] at a;injection a with a
    exact .inr ⟨m,AQ (KT E true),S,by rw[<-a,hM],Dc N rV v T⟩
   ·rcases B b f with h|h
    ·exact .inl (h.symm.trans a)
    ·exact .inl (A _ _ (h.symm.trans a))
  ·rcases B b (λe=>by rw[e,n1] at a;cases a) with h|h
   ·rw[h];exact A _ _ a
   ·rw[h];exact a
end Go.Proofs.YtffgfafbffdgaaaGreatDoor
