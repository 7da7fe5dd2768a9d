/- Lemmas and contracts of functions, several texts in one. -/
import Derived.ChangeKeysEq
import Derived.Laws.StructEq
import Derived.Test.YtffgfafbffdgaaaGreatDoorR11
set_option maxRecDepth 100000
set_option maxHeartbeats 4000000
set_option linter.all false
namespace Go.Proofs.YtffgfafbffdgaaaGreatDoor
open Go.RowKit
variable {t:List ByteArray}{l m:List UInt8}{d:List Int}{b:Nat}{ts:List bp}{n:Int}{ds es:List D}{k r:Bool}{H0 H:aA}
deriving instance DecidableEq for bp
theorem qI {c:Type}{p:List c->Prop}(h0:p [])(h1:∀l a,p l->p (l++[a]))(l:List c):p l:=by
 have h:∀l:List c,p l.reverse:=λl=>by
  induction l with
  |nil=>exact h0
  |cons a l e=>rw[List.reverse_cons];exact h1 _ _ e
 have:=h l.reverse;rwa[List.reverse_reverse] at this
def oQ (t:bp):List bp->Nat->Int
 |[],_=> -1
 |x::a,i=>if x=t then (i:Int) else oQ t a (i+1)
theorem FV {t:bp}:∀{l:List bp}{i:Nat},t∉l->oQ t l i= -1
 |[],_,_=>rfl
 |x::a,i,h=>by
  rw[oQ,aC (λe=>h (by simp [e]))];exact FV λhm=>h (dH _ hm)
theorem JE {t:bp}:∀{l:List bp}{i:Nat},t∈l->(i:Int)<=oQ t l i
 |x::a,i,h=>by
  rw[oQ];by_cases e:x=t
  ·rw[aD e];exact kJ _
  ·rw[aC e]
   have:=JE (i:=i+1) (show t∈a by rcases bV.1 h with h|h;exact absurd h.symm e;exact h);omega
theorem FU {t:bp}{l:List bp}:0<=oQ t l 0↔t∈l:=by
 by_cases h:t∈l
 ·exact⟨λ_=>h,λ_=>JE h⟩
 ·rw[FV h];exact⟨λh=>by omega,λa=>absurd a h⟩
def nG (d:List Int) (k:Int) (f:Int):Int:=max k (d.getD f.toNat 0)
def mi (d:List Int) (t:bp):Int:=t.ar.foldl (nG d) (if t.k=3 then d.getD t.e.toNat 0 else 0)
def fe (ts:List bp):List Int:=ts.foldl (λd t=>d++[mi d t+1]) []
theorem py (ts:List bp)(t:bp):fe (ts++[t])=fe ts++[mi (fe ts) t+1]:=by unfold fe;rw[mX];rfl
theorem sE (ts:List bp):(fe ts).length=ts.length:=by
 induction ts using qI with
 |h0=>rfl
 |h1 ts t a=>rw[py,aV,aV,a];rfl
theorem JG {b:Int}(hd:∀x∈d,x<=b)(h0:0<=b):∀(l:List Int) (k:Int),k<=b->l.foldl (nG d) k<=b
 |[],k,h=>h
 |f::l,k,h=>by
  rw[rH];refine JG hd h0 l _ ?_;unfold nG;have:d.getD f.toNat 0<=b:=by
   rw[gZ];cases e:d[f.toNat]? with
   |none=>exact h0
   |some x=>exact hd x (eh e)
  omega
theorem JF {d:List Int}:∀(l:List Int) (k:Int),k<=l.foldl (nG d) k/\∀f∈l,d.getD f.toNat 0<=l.foldl (nG d) k
 |[],k=>⟨kJ _,λf hf=>by cases hf⟩
 |f::l,k=>by
  rw[rH];have h:=JF (d:=d) l (nG d k f);refine⟨Int.le_trans (by unfold nG;omega) h.1,λg hg=>?_⟩;rcases bV.1 hg with rfl|hg
  ·exact Int.le_trans (by unfold nG;omega) h.1
  ·exact h.2 g hg
theorem SB {b:Int}(hd:∀x∈d,x<=b)(h0:0<=b)(i:Nat):d.getD i 0<=b:=by
 rw[gZ];cases e:d[i]? with
 |none=>exact h0
 |some x=>exact hd x (eh e)
theorem JI {b:Int}(hd:∀x∈d,b<=x)(h0:b<=0)(i:Nat):b<=d.getD i 0:=by
 rw[gZ];cases e:d[i]? with
 |none=>exact h0
 |some x=>exact hd x (eh e)
theorem yi {b:Int}(hd:∀x∈d,x<=b)(h0:0<=b)(t:bp):mi d t<=b:=by
 unfold mi;refine JG hd h0 _ _ ?_;split
 ·exact SB hd h0 _
 ·exact h0
theorem yh (hd:∀x∈d,0<=x)(t:bp):0<=mi d t:=by
 unfold mi;refine Int.le_trans ?_ (JF _ _).1;split
 ·exact JI hd (kJ _) _
 ·exact kJ _
theorem ya (ts:List bp):∀x∈fe ts,1<=x/\x<=ts.length:=by
 induction ts using qI with
 |h0=>intro x hx;simp [fe] at hx
 |h1 ts t a=>
  intro x hx
  rw[py] at hx
  rw[aV]
  simp only[eE]
  rcases bB.1 hx with hx|hx
  ·have:=a x hx;omega
  ·rw[bM] at hx
   subst hx
   have h1:=yi (b:=ts.length) (λx hx=>(a x hx).2) (by omega) t
   have c:=yh (λx hx=>by have:=a x hx;omega) t
   omega
theorem Kt {n:Nat}(h:n<ts.length):fe (ts.take (n+1))=fe (ts.take n)++[mi (fe (ts.take n)) ts[n]+1]:=by rw[bw h,py]
theorem NY (ts us:List bp):∃x,fe (ts++us)=fe ts++x:=by
 induction us using qI with
 |h0=>exact⟨[],by simp⟩
 |h1 us u c=>
  obtain⟨x,a⟩:=c
  exact⟨x++[mi (fe (ts++us)) u+1],by rw[<-bE,py,a,bE]⟩
theorem NW {i n:Nat}(hi:i<n)(hn:n<=ts.length):(fe (ts.take n))[i]?=(fe ts)[i]?:=by
 obtain⟨x,a⟩:=NY (ts.take n) (ts.drop n);rw[ga] at a;rw[a,kT (by rw[sE,bX];omega)]
def zw (ts:List bp) (i:Int):Int:=if bN ts.length i then (fe ts).getD i.toNat 0 else 0
open Classical in
noncomputable def qW (ps:List bp) (n:Int) (t:bp):Nat:=
 if t.k<0\/4<t.k then 14
 else if (t.k≠3/\(t.m=true\/t.r≠0\/t.e≠0))\/(t.k≠4/\0<t.ar.length) then 2
 else if t.k=3/\(t.r<0\/n<=t.r\/t.e<0\/(ps.length:Int)<=t.e) then 3
 else if ∃f∈t.ar,f<0\/(ps.length:Int)<=f then 3
 else if t.k=4/\(t.ar.length=0\/65535<t.ar.length) then 15
 else if 32<mi (fe ps) t+1 then 19
 else if t∈ps then 21
 else 0
noncomputable def pU (n:Int):List bp->List bp->Nat
 |_,[]=>0
 |ps,t::ts=>if qW ps n t=0 then pU n (ps++[t]) ts else qW ps n t
noncomputable def rT (ts:List bp) (n:Int):Nat:=if 65535<ts.length then 15 else pU n [] ts
structure VS (ps:List bp) (n:Int) (t:bp):Prop where
 k0:0<=t.k
 k4:t.k<=4
 pl:t.k≠3->t.m=false/\t.r=0/\t.e=0
 fl:t.k≠4->t.ar=[]
 rr:t.k=3->0<=t.r/\t.r<n/\0<=t.e/\t.e<ps.length
 fr:∀f∈t.ar,0<=f/\f<ps.length
 tl:t.k=4->0<t.ar.length/\t.ar.length<=65535
 dp:mi (fe ps) t+1<=32
 nw:t∉ps
theorem Ik {ps:List bp}{t:bp}:qW ps n t=0↔VS ps n t:=by
 unfold qW;by_cases v:t.k<0\/4<t.k
 ·rw[aD v];exact⟨λh=>(by cases h),λh=>by have:=h.k0;have:=h.k4;omega⟩
 rw[aC v];by_cases i:(t.k≠3/\(t.m=true\/t.r≠0\/t.e≠0))\/(t.k≠4/\0<t.ar.length)
 ·rw[aD i]
  refine⟨λh=>(by cases h),λh=>?_⟩;rcases i with⟨a,b⟩|⟨a,b⟩
  ·have:=h.pl a
   rcases b with b|b|b
   ·rw[this.1] at b;cases b
   ·exact absurd this.2.1 b
   ·exact absurd this.2.2 b
  ·rw[h.fl a] at b;simp at b
 rw[aC i];by_cases j:t.k=3/\(t.r<0\/n<=t.r\/t.e<0\/(ps.length:Int)<=t.e)
 ·rw[aD j];exact⟨λh=>(by cases h),λh=>by have:=h.rr j.1;omega⟩
 rw[aC j];by_cases o:∃f∈t.ar,f<0\/(ps.length:Int)<=f
 ·rw[aD o];exact⟨λh=>(by cases h),λh=>by obtain⟨f,u,x⟩:=o;have:=h.fr f u;omega⟩
 rw[aC o];by_cases s:t.k=4/\(t.ar.length=0\/65535<t.ar.length)
 ·rw[aD s];exact⟨λh=>(by cases h),λh=>by have:=h.tl s.1;omega⟩
 rw[aC s];by_cases w:32<mi (fe ps) t+1
 ·rw[aD w];exact⟨λh=>(by cases h),λh=>by have:=h.dp;omega⟩
 rw[aC w];by_cases p:t∈ps
 ·rw[aD p];exact⟨λh=>(by cases h),λh=>absurd p h.nw⟩
 rw[aC p];refine⟨λ_=>⟨by omega,by omega,λh=>?_,λh=>?_,λh=>?_,λf u=>?_,λh=>by omega,by omega,p⟩,λ_=>rfl⟩
 ·have g:¬(t.m=true\/t.r≠0\/t.e≠0):=λc=>i (.inl ⟨h,c⟩)
  refine⟨by simpa using λc=>g (.inl c),?_,?_⟩
  ·exact eC λc=>g (.inr (.inl c))
  ·exact eC λc=>g (.inr (.inr c))
 ·have g:¬0<t.ar.length:=λc=>i (.inr ⟨h,c⟩)
  exact cy (by omega)
 ·have g:¬(t.r<0\/n<=t.r\/t.e<0\/(ps.length:Int)<=t.e):=λc=>j ⟨h,c⟩
  omega
 ·have g:¬(f<0\/(ps.length:Int)<=f):=λc=>o ⟨f,u,c⟩
  omega
theorem y9:∀{ts ps:List bp},pU n ps ts=0↔∀i (h:i<ts.length),VS (ps++ts.take i) n ts[i]
 |[],ps=>⟨λ_ i h=>by simp at h,λ_=>rfl⟩
 |t::ts,ps=>by
  rw[pU];by_cases h:qW ps n t=0
  ·rw[aD h,y9]
   constructor
   ·intro h1 i hi
    cases i with
    |zero=>simpa using Ik.1 h
    |succ i=>simpa using h1 i (by simpa using hi)
   ·intro h1 i hi
    have h2:VS (ps++(t::ts).take (i+1)) n ts[i]:=h1 (i+1) (by simpa using hi);simpa using h2
  ·rw[aC h]
   refine⟨λh1=>absurd h1 h,λh1=>absurd (Ik.2 ?_) h⟩;have h2:VS (ps++(t::ts).take 0) n t:=h1 0 (by simp);simpa using h2
theorem DG:rT ts n=0↔ts.length<=65535/\∀i (h:i<ts.length),VS (ts.take i) n ts[i]:=by
 unfold rT;by_cases h:65535<ts.length
 ·rw[aD h];exact⟨λh=>(by cases h),λa=>by omega⟩
 ·rw[aC h,y9]
  simp only[cz];exact⟨λa=>⟨by omega,a⟩,λa=>a.2⟩
theorem wA (h:∀i (h:i<ts.length),VS (ts.take i) n ts[i]):pI ts:=λi c=>by
 have a:=h i c;have e:(ts.take i).length=i:=by rw[bX];omega
 refine⟨λf=>?_,λx g=>?_⟩
 ·have:=a.rr f;rw[e] at this;omega
 ·have:=a.fr x g;rw[e] at this;omega
theorem Q5 (h:pI ts)(n:Nat):pI (ts.take n):=λi a=>by
 rw[bX] at a;have:=h i (by omega);rw[List.getElem_take];exact this
theorem wu:∀{ts ps:List bp}{t:bp},pU n ps ts=0->pU n ps (ts++[t])=qW (ps++ts) n t
 |[],ps,t,_=>by
  rw[cz,bz,pU];by_cases h:qW ps n t=0
  ·rw[aD h,h];rfl
  ·rw[aC h]
 |u::ts,ps,t,h=>by
  rw[pU] at h;by_cases h1:qW ps n u=0
  ·rw[aD h1] at h
   rw[dJ,pU,aD h1,wu h];simp
  ·rw[aC h1] at h;exact absurd h h1
theorem zn:∀{ts us ps:List bp},pU n ps ts≠0->pU n ps (ts++us)=pU n ps ts
 |[],us,ps,h=>absurd rfl h
 |t::ts,us,ps,h=>by
  rw[pU] at h;rw[dJ,pU,pU];by_cases h1:qW ps n t=0
  ·rw[aD h1] at h ⊢
   rw[aD h1,zn h]
  ·rw[aC h1,aC h1]
def Xj (P:Program) (e:TypeId) (k:Bool):Prop:=P.plainKey e=true/\P.underlying e=some (if k=true then .string else .int .i64)
theorem FM {o:List Bool}(h:yb ds es=some (k::o,r)):∃v u c f p g,ds=.val v::c/\es=.val u::f/\yb c f=some (o,g)/\r=(p&&g)/\∀(P:Program) (e:TypeId) (d:Nat) (w:World),Xj P e k->(Op.equalIn (d+1) e v u).run P w=.ok p w:=by
 unfold yb at h;split at h
 ·simp at h
 ·rename_i a x b y
  split at h
  ·rename_i z g j
   simp only[iJ,Prod.mk.injEq,rI] at h;obtain⟨⟨rfl,rfl⟩,rfl⟩:=h;refine⟨_,_,_,_,_,_,rfl,rfl,j,rfl,λP e d w ⟨s,i⟩=>?_⟩;have:=run_equalIn_int (P:=P) w d e .i64 .i64 a b i;rw[this];have:(a==b)=decide (a=b):=by by_cases e:a=b <;> simp [e]
   rw[this]
  ·cases h
 ·rename_i a x b y
  split at h
  ·rename_i z g j
   simp only[iJ,Prod.mk.injEq,rI] at h;obtain⟨⟨rfl,rfl⟩,rfl⟩:=h;refine⟨_,_,_,_,_,_,rfl,rfl,j,rfl,λP e d w ⟨s,i⟩=>?_⟩;have:=run_equalIn_string (P:=P) w d e a b i;rw[this];have:(a.toList==b.toList)=decide (a.toList=b.toList):=by by_cases e:a.toList=b.toList <;> simp [e]
   rw[this]
  ·cases h
 ·cases h
theorem Iy {l:Bool}(h:yb ds es=some ([k,l],r)):∃v u g f a c,ds=[.val v,.val g]/\es=[.val u,.val f]/\r=(a&&c)/\(∀(P:Program) (e:TypeId) (d:Nat) (w:World),Xj P e k->(Op.equalIn (d+1) e v u).run P w=.ok a w)/\∀(P:Program) (e:TypeId) (d:Nat) (w:World),Xj P e l->(Op.equalIn (d+1) e g f).run P w=.ok c w:=by
 obtain⟨v,u,p,s,a,B,rfl,rfl,x,rfl,z⟩:=FM h;obtain⟨g,f,i,j,c,A,rfl,rfl,h3,rfl,o⟩:=FM x;have y:i=[]/\j=[]/\A=true:=by
  unfold yb at h3;split at h3
  ·simpa using h3.symm
  ·split at h3 <;> simp at h3
  ·split at h3 <;> simp at h3
  ·cases h3
 obtain⟨rfl,rfl,rfl⟩:=y;exact⟨v,u,g,f,a,c,rfl,rfl,by simp,z,o⟩
theorem s0 {w:World}{S:Nat->Prop}{a b:Value}{vs:List Value}(h:aW w S [.val a,.val b] vs):vs=[a,b]:=by
 simp only[aW,D.is] at h;obtain⟨u,c,rfl,_,rfl,v,vs,rfl,_,rfl,rfl⟩:=h;rfl
theorem vP {P:Program}{t:TypeId}{k l:Bool}(f g:Field)(hu:P.underlying t=some (.struct #[f,g]))(I:P.stoodInHeld t=false)(hm:P.eqGuardType P.depth t=false)
  (fn:f.name≠ "_") (B:g.name≠ "_") (o:f.offset=0) (s:g.offset=1) (h:Xj P f.type k) (a:Xj P g.type l):Gm P t [k,l]:=by
 intro ds es r T R w S L p q G J K;obtain⟨v,u,e,c,M,N,rfl,rfl,rfl,E,x⟩:=Iy G;rw[s0 J,s0 K];refine⟨run_eqGuard_agg w L t p q _ _ hm,?_⟩;have y:P.fieldsOf t= #[f,g]:=by unfold Program.fieldsOf;rw[hu]
 have:=run_equalIn_struct (P:=P) w 9999 t [v,e].toArray [u,c].toArray (by rw[y];exact hu) I;unfold Op.equal;rw[show Op.maxDepth=9999+1 from rfl,this,y];have z:∀w,(Go.part f.type [v,e].toArray f.offset).run P w=.ok v w:=λw=>run_part_plain w h.1 (by rw[o] <;> rfl);have A:∀w,(Go.part f.type [u,c].toArray f.offset).run P w=.ok u w:=λw=>run_part_plain w h.1 (by rw[o] <;> rfl);have i:∀w,(Go.part g.type [v,e].toArray g.offset).run P w=.ok e w:=λw=>run_part_plain w a.1 (by rw[s] <;> rfl);have j:∀w,(Go.part g.type [u,c].toArray g.offset).run P w=.ok c w:=λw=>run_part_plain w a.1 (by rw[s] <;> rfl);simp only[Op.eqFields,gp,fn,B,not_false_eq_true,dN,Sem.run_bind,z,A,i,j,E P _ 9998 _ h,x P _ 9998 _ a,Result.andThen];cases M <;> cases N <;> simp [Sem.run,i,j,x P _ 9998 _ a,Op.eqFields,Sem.run_bind,Result.andThen]
theorem CL {P:Program}{t e:TypeId}{i:TypeInfo}(hu:P.underlying t=some (.array 2 e))(hi:P.info? e=some i)(hc:P.cellsOf e=1)(hm:P.eqGuardType P.depth t=false)(a:Xj P e k):Gm P t [k,k]:=by
 intro ds es r K J w S E p q y A B;obtain⟨v,u,f,c,G,I,rfl,rfl,rfl,x,j⟩:=Iy y;rw[s0 A,s0 B];refine⟨run_eqGuard_agg w E t p q _ _ hm,?_⟩;have:=run_equalIn_array (P:=P) w 9999 [v,f].toArray [u,c].toArray hu hi;unfold Op.equal;rw[show Op.maxDepth=9999+1 from rfl,this,hc];have o:∀w,(Go.part e [v,f].toArray 0).run P w=.ok v w:=λw=>run_part_plain w a.1 rfl;have s:∀w,(Go.part e [u,c].toArray 0).run P w=.ok u w:=λw=>run_part_plain w a.1 rfl;have g:∀w,(Go.part e [v,f].toArray 1).run P w=.ok f w:=λw=>run_part_plain w a.1 rfl;have h:∀w,(Go.part e [u,c].toArray 1).run P w=.ok c w:=λw=>run_part_plain w a.1 rfl;have z:List.range 2=[0,1]:=rfl;rw[z];simp only[Op.eqItems,rL,Nat.one_mul,Sem.run_bind,o,s,g,h,x P _ 9998 _ a,j P _ 9998 _ a,Result.andThen];cases G <;> cases I <;> simp [Sem.run,g,h,j P _ 9998 _ a,Op.eqItems,Sem.run_bind,Result.andThen]
open Tryz
structure gR where
 lo:Int
 pr:List (Int×Int)
deriving DecidableEq
structure gq where
 k:Int
 pl:gR
 n:Int
deriving DecidableEq
structure tx where
 k:Int
 op:Int
 rg:Int
 mu:Bool
 pl:gR
 ar:List gq
deriving DecidableEq
structure qO where
 k:Int
 pl:gR
 rv:tx
 lo:Int
deriving DecidableEq
structure ra where
 k:Int
 tg:List Int
 ar:List gq
 pl:gR
 nm:ByteArray
deriving DecidableEq
structure im where
 st:List qO
 tm:ra
deriving DecidableEq
structure mQ where
 nm:ByteArray
 ty:Int
deriving DecidableEq
structure bn where
 nm:ByteArray
 rg:List ByteArray
 ol:List (Int×Int)
 ty:List bp
 lc:List mQ
 ag:Int
 bl:List im
deriving DecidableEq
def ee (p:gR):List D:=[i64 p.lo,.seq 2 (p.pr.map pD)]
def db (o:gq):List D:=[i64 o.k,i64 o.pl.lo,.seq 2 (o.pl.pr.map pD),i64 o.n]
def uo (r:tx):List D:=[i64 r.k,i64 r.op,i64 r.rg,.val (.bool r.mu),i64 r.pl.lo,.seq 2 (r.pl.pr.map pD),.seq 4 (r.ar.map db)]
def ji (s:qO):List D:=[i64 s.k,i64 s.pl.lo,.seq 2 (s.pl.pr.map pD),i64 s.rv.k,i64 s.rv.op,i64 s.rv.rg,.val (.bool s.rv.mu),i64 s.rv.pl.lo,.seq 2 (s.rv.pl.pr.map pD),.seq 4 (s.rv.ar.map db),i64 s.lo]
def G2 (t:ra):List D:=[i64 t.k,.seq 1 (t.tg.map iD),.seq 4 (t.ar.map db),i64 t.pl.lo,.seq 2 (t.pl.pr.map pD),bC t.nm]
def dM (b:im):List D:=[.seq 11 (b.st.map ji),i64 b.tm.k,.seq 1 (b.tm.tg.map iD),.seq 4 (b.tm.ar.map db),i64 b.tm.pl.lo,.seq 2 (b.tm.pl.pr.map pD),bC b.tm.nm]
def eQ (l:mQ):List D:=[bC l.nm,i64 l.ty]
def cu (b:bn):List D:=[bC b.nm,.seq 1 (b.rg.map sD),.seq 2 (b.ol.map pD),.seq 5 (b.ty.map bS),.seq 2 (b.lc.map eQ),i64 b.ag,.seq 7 (b.bl.map dM)]
def xN (p:gR):Prop:=cH p.pr.length
def yW (o:gq):Prop:=xN o.pl
def Bb (r:tx):Prop:=xN r.pl/\cH r.ar.length/\∀o∈r.ar,yW o
def PH (s:qO):Prop:=xN s.pl/\Bb s.rv
def Ht (t:ra):Prop:=cH t.tg.length/\(cH t.ar.length/\∀o∈t.ar,yW o)/\xN t.pl
def TI (b:im):Prop:=(cH b.st.length/\∀s∈b.st,PH s)/\Ht b.tm
def ZD (l:List bp):Prop:=cH l.length/\∀t∈l,cH t.ar.length
def xM (b:bn):Prop:=cH b.rg.length/\cH b.ol.length/\ZD b.ty/\cH b.lc.length/\cH b.bl.length/\∀x∈b.bl,TI x
theorem CM:Gm prog 117 [false,false]:=
 vP (f:=(prog.fieldsOf 117)[0]!) (g:=(prog.fieldsOf 117)[1]!) (by kernel_rfl) (by kernel_rfl) (by kernel_rfl) (by decide+kernel) (by decide+kernel) (by kernel_rfl) (by kernel_rfl) ⟨by kernel_rfl,by kernel_rfl⟩ ⟨by kernel_rfl,by kernel_rfl⟩
theorem HJ:Gm prog 36 [true,false]:=
 vP (f:=(prog.fieldsOf 36)[0]!) (g:=(prog.fieldsOf 36)[1]!) (by kernel_rfl) (by kernel_rfl) (by kernel_rfl) (by decide+kernel) (by decide+kernel) (by kernel_rfl) (by kernel_rfl) ⟨by kernel_rfl,by kernel_rfl⟩ ⟨by kernel_rfl,by kernel_rfl⟩
theorem LO:Gm prog 60 [false,false]:=CL (e:=3) (by kernel_rfl) (i:=(prog.info? 3).get!) (by kernel_rfl) (by kernel_rfl) (by kernel_rfl) ⟨by kernel_rfl,by kernel_rfl⟩
def fy (n:Int):List UInt8:=put (IntKind.u64.wrap n).toNat
def eW {a:Type}(f:a->List UInt8) (l:List a):List UInt8:=fy l.length++l.flatMap f
def tZ (t:List ByteArray) (s:ByteArray):List UInt8:=fy (rQ t s)
def Bd (p:Int×Int):List UInt8:=fy p.1++fy p.2
def mv (n:Int):UInt8:=UInt8.ofNat (IntKind.u8.wrap n).toNat
def BU (t:bp):List UInt8:=mv (if t.m then 5 else t.k)::(if t.k=3 then fy t.r++fy t.e else if t.k=4 then eW fy t.ar else [])
def AV (t:List ByteArray) (x:mQ):List UInt8:=tZ t x.nm++fy x.ty
def CF (t:List ByteArray) (b:bn):List UInt8:=tZ t b.nm++(eW (tZ t) b.rg++(eW Bd b.ol++(eW BU b.ty++(eW (AV t) b.lc++fy b.ag))))
theorem Ed (n:Int):0<=IntKind.u64.wrap n/\IntKind.u64.wrap n<18446744073709551616:=by rw[IntKind.wrap_u64];omega
theorem ud (n:Int):IntKind.u8.wrap n=((mv n).toNat:Int):=by
 unfold mv;rw[pJ,pN];omega
def qX (b:Nat) (t:List ByteArray):D:=.rp [.ep b 0 1 0 0,fB t,i64 0]
theorem mL (n:Int)(h:WS H0 b l H)(hl:(l++fy n).length<=1000000000):aN prog 81 [qX b t,i64 n] H λd H'=>WS H0 b (l++fy n) H':=by
 have g:=Ed n;have e:IntKind.u64.wrap n=((IntKind.u64.wrap n).toNat:Int):=by omega
 rw[aV] at hl;unfold qX;refine dO func81 ntmps81 results81 λi f Q a=>?_;refine tq @fB.eq_1 ?_;intro U Y O C;rw[e];refine(wB _ (by omega) h (by omega)).mono ?_;intro d H' c;refine u0 a ?_;exact⟨_,aF _,c⟩
theorem D9 (s:ByteArray)(hs:s∈t)(ht:t.Pairwise xx)(j:t.length<=1000000)(h:WS H0 b l H)(hl:(l++tZ t s).length<=1000000000):aN prog 73 [qX b t,bC s] H λd H'=>WS H0 b (l++tZ t s) H':=by
 have a:=F7 t s H (by omega) ht;have e:=mN.2 hs;have i:sK t s=.eO [i64 (rQ t s),.val (.bool true)]:=by unfold sK;rw[aD e,ah e]
 rw[i] at a;have c:=mL (rQ t s) (t:=t) h hl;unfold qX fB bC at *;refine dO func73 ntmps73 results73 λp o Q f=>?_;refine t0 ?_;intro U Y O C;refine a.qt ?_;intro U Y O C;refine c.mono ?_;intro d H' g;refine u0 f ?_;exact⟨_,aF _,g⟩
theorem Rp (p:Int×Int)(h:WS H0 b l H)(hl:(l++Bd p).length<=1000000000):aN prog 76 [qX b t,.agg (pD p)] H λd H'=>WS H0 b (l++Bd p) H':=by
 unfold Bd at hl ⊢;rw[<-bE] at hl ⊢;have a:(l++fy p.1).length<=1000000000:=by rw[aV] at hl;omega
 unfold pD;refine dO func76 ntmps76 results76 λu s Q e=>?_;refine t0 ?_;intro U Y O C;intro c i;refine Y _ ?_;refine cm 3 i ?_;refine t0 ?_;intro U Y O C;refine(mL p.1 h a).mono ?_;intro d j f;refine t0 ?_;intro U Y O C;refine(mL p.2 f hl).mono ?_;intro d o g;refine u0 e ?_;exact⟨_,aF _,g⟩
theorem Na (x:mQ)(hs:x.nm∈t)(ht:t.Pairwise xx)(e:t.length<=1000000)(h:WS H0 b l H)(hl:(l++AV t x).length<=1000000000):aN prog 80 [qX b t,.agg (eQ x)] H λd H'=>WS H0 b (l++AV t x) H':=by
 unfold AV at hl ⊢;rw[<-bE] at hl ⊢;have a:(l++tZ t x.nm).length<=1000000000:=by rw[aV] at hl;omega
 unfold eQ;refine dO func80 ntmps80 results80 λu s Q f=>?_;refine t0 ?_;intro U Y O C;intro c j;refine Y _ ?_;refine cm 3 j ?_;refine t0 ?_;intro U Y O C;refine(D9 x.nm hs ht e h a).mono ?_;intro d o g;refine t0 ?_;intro U Y O C;refine(mL x.ty g hl).mono ?_;intro d p i;refine u0 f ?_;exact⟨_,aF _,i⟩
theorem N5 (l:List Int)(h:WS H0 b m H)(hl:(m++eW fy l).length<=1000000000)(M:l.length<=1000000):aN prog 158 [qX b t,.seq 1 (l.map iD),.fb 81 [qX b t] []] H λd H'=>WS H0 b (m++eW fy l) H':=by
 have g:=lm iD l;have A:∀i,∀h:i<l.length,∃r,m++eW fy l=m++fy l.length++(l.take i).flatMap fy++fy l[i]++r/\m++fy l.length++(l.take (i+1)).flatMap fy=m++fy l.length++(l.take i).flatMap fy++fy l[i]:=λi h=>by
  refine⟨(l.drop (i+1)).flatMap fy,?_,?_⟩
  ·have e:l=l.take i++l[i]::l.drop (i+1):=by rw[qz,ga]
   have J:l.flatMap fy=(l.take i++l[i]::l.drop (i+1)).flatMap fy:=ai _ e;unfold eW;rw[J,gb,lz];simp only[bE]
  ·rw[bw h,gb,rA,<-bE]
 have x:(m++fy l.length).length<=1000000000:=by unfold eW at hl;rw[<-bE,aV] at hl;omega
 refine dO func158 ntmps158 results158 λZ T Q G=>?_;refine tq g ?_;intro U Y O C;refine(mL l.length (t:=t) h x).mono ?_;intro d R K;refine tn g ?_;refine aO l.length (λi s=>s.df=[]/\s.fr 2=.fb 81 [qX b t] []/\s.fr 12=.seq 1 (l.map iD)/\s.fr 13=i64 l.length/\s.fr 14=i64 i/\WS H0 b (m++fy l.length++(l.take i).flatMap fy) s.H) ⟨rfl,rfl,rfl,rfl,rfl,by rw[gK,nL,bz];exact K⟩ ?_;rintro i s V ⟨o,E,j,c,f,w⟩;by_cases a:i<l.length
 case neg=>
  have B:=lF i l.length;rw[bK (by omega)] at w;refine ur G (bQ c f B) o ?_;exact⟨_,aF _,by unfold eW;rw[<-bE];exact w⟩
 have u:(i:Int)<(l.length:Int):=by omega
 have B:=lT i l.length a;have N:=aX i;have v:=aZ i;have p:(l.map iD)[i]?=some (iD l[i]):=bZ a;have P:=wS i;obtain⟨r,y,z⟩:=A i a;rw[y,aV] at hl;have I:=ao a;simp only[iD] at p;refine tq (bG E j c f B g p (cA N v a u)) ?_;intro U Y O C;refine(mL l[i] (t:=t) w (by omega)).mono ?_;intro d S L;refine tn (av f P) ?_;exact⟨a,o,E,j,c,rfl,by rw[z];exact L⟩
theorem N7 (l:List (Int×Int))(h:WS H0 b m H)(hl:(m++eW Bd l).length<=1000000000)(P:l.length<=1000000):aN prog 75 [qX b t,.seq 2 (l.map pD),.fb 76 [qX b t] []] H λd H'=>WS H0 b (m++eW Bd l) H':=by
 have j:=lm pD l;have E:∀i,∀h:i<l.length,∃r,m++eW Bd l=m++fy l.length++(l.take i).flatMap Bd++Bd l[i]++r/\m++fy l.length++(l.take (i+1)).flatMap Bd=m++fy l.length++(l.take i).flatMap Bd++Bd l[i]:=λi h=>by
  refine⟨(l.drop (i+1)).flatMap Bd,?_,?_⟩
  ·have e:l=l.take i++l[i]::l.drop (i+1):=by rw[qz,ga]
   have K:l.flatMap Bd=(l.take i++l[i]::l.drop (i+1)).flatMap Bd:=ai _ e;unfold eW;rw[K,gb,lz];simp only[bE]
  ·rw[bw h,gb,rA,<-bE]
 have z:(m++fy l.length).length<=1000000000:=by unfold eW at hl;rw[<-bE,aV] at hl;omega
 refine dO func75 ntmps75 results75 λw0 Z Q I=>?_;refine tq j ?_;intro U Y O C;refine(mL l.length (t:=t) h z).mono ?_;intro d T L;refine tn j ?_;refine aO l.length (λi s=>s.df=[]/\s.fr 2=.fb 76 [qX b t] []/\s.fr 12=.seq 2 (l.map pD)/\s.fr 13=i64 l.length/\s.fr 14=i64 i/\WS H0 b (m++fy l.length++(l.take i).flatMap Bd) s.H) ⟨rfl,rfl,rfl,rfl,rfl,by rw[gK,nL,bz];exact L⟩ ?_;rintro i s hi ⟨p,w,o,f,g,y⟩;by_cases a:i<l.length
 case neg=>
  have G:=lF i l.length;rw[bK (by omega)] at y;refine ur I (bQ f g G) p ?_;exact⟨_,aF _,by unfold eW;rw[<-bE];exact y⟩
 have v:(i:Int)<(l.length:Int):=by omega
 have G:=lT i l.length a;have R:=aX i;have x:=aZ i;have u:(l.map pD)[i]?=some (pD l[i]):=bZ a;have S:=wS i;obtain⟨r,A,B⟩:=E i a;rw[A,aV] at hl;have J:=ao a;simp only[pD] at u;refine tq (bG w o f g G j u (cA R x a v)) ?_;intro U Y O C;intro c N;refine Y _ ?_;refine cm 7 N ?_;refine tq w ?_;intro U Y O C;refine(Rp l[i] (t:=t) y (by omega)).mono ?_;intro d V M;refine tn (av g S) ?_;exact⟨a,p,w,o,f,rfl,by rw[B];exact M⟩
theorem N8 (l:List ByteArray)(ht:t.Pairwise xx)(E:t.length<=1000000)(hs:∀s∈l,s∈t)(h:WS H0 b m H)(hl:(m++eW (tZ t) l).length<=1000000000)(N:l.length<=1000000):aN prog 74 [qX b t,.seq 1 (l.map sD),.fb 73 [qX b t] []] H λd H'=>WS H0 b (m++eW (tZ t) l) H':=by
 have g:=lm sD l;have B:∀i,∀h:i<l.length,∃r,m++eW (tZ t) l=m++fy l.length++(l.take i).flatMap (tZ t)++(tZ t) l[i]++r/\m++fy l.length++(l.take (i+1)).flatMap (tZ t)=m++fy l.length++(l.take i).flatMap (tZ t)++(tZ t) l[i]:=λi h=>by
  refine⟨(l.drop (i+1)).flatMap (tZ t),?_,?_⟩
  ·have e:l=l.take i++l[i]::l.drop (i+1):=by rw[qz,ga]
   have K:l.flatMap (tZ t)=(l.take i++l[i]::l.drop (i+1)).flatMap (tZ t):=ai _ e;unfold eW;rw[K,gb,lz];simp only[bE]
  ·rw[bw h,gb,rA,<-bE]
 have y:(m++fy l.length).length<=1000000000:=by unfold eW at hl;rw[<-bE,aV] at hl;omega
 refine dO func74 ntmps74 results74 λw0 V Q J=>?_;refine tq g ?_;intro U Y O C;refine(mL l.length (t:=t) h y).mono ?_;intro d S L;refine tn g ?_;refine aO l.length (λi s=>s.df=[]/\s.fr 2=.fb 73 [qX b t] []/\s.fr 12=.seq 1 (l.map sD)/\s.fr 13=i64 l.length/\s.fr 14=i64 i/\WS H0 b (m++fy l.length++(l.take i).flatMap (tZ t)) s.H) ⟨rfl,rfl,rfl,rfl,rfl,by rw[gK,nL,bz];exact L⟩ ?_;rintro i s Z ⟨o,I,j,c,f,x⟩;by_cases a:i<l.length
 case neg=>
  have G:=lF i l.length;rw[bK (by omega)] at x;refine ur J (bQ c f G) o ?_;exact⟨_,aF _,by unfold eW;rw[<-bE];exact x⟩
 have u:(i:Int)<(l.length:Int):=by omega
 have G:=lT i l.length a;have P:=aX i;have w:=aZ i;have p:(l.map sD)[i]?=some (sD l[i]):=bZ a;have R:=wS i;obtain⟨r,z,A⟩:=B i a;rw[z,aV] at hl;have v:=ao a;simp only[sD] at p;refine tq (bG I j c f G g p (cA P w a u)) ?_;intro U Y O C;refine(D9 l[i] (hs _ v) ht E x (by omega)).mono ?_;intro d T M;refine tn (av f R) ?_;exact⟨a,o,I,j,c,rfl,by rw[A];exact M⟩
theorem N6 (l:List mQ)(ht:t.Pairwise xx)(J:t.length<=1000000)(hs:∀x∈l,x.nm∈t)(h:WS H0 b m H)(hl:(m++eW (AV t) l).length<=1000000000)(S:l.length<=1000000):aN prog 79 [qX b t,.seq 2 (l.map eQ),.fb 80 [qX b t] []] H λd H'=>WS H0 b (m++eW (AV t) l) H':=by
 have j:=lm eQ l;have I:∀i,∀h:i<l.length,∃r,m++eW (AV t) l=m++fy l.length++(l.take i).flatMap (AV t)++(AV t) l[i]++r/\m++fy l.length++(l.take (i+1)).flatMap (AV t)=m++fy l.length++(l.take i).flatMap (AV t)++(AV t) l[i]:=λi h=>by
  refine⟨(l.drop (i+1)).flatMap (AV t),?_,?_⟩
  ·have e:l=l.take i++l[i]::l.drop (i+1):=by rw[qz,ga]
   have M:l.flatMap (AV t)=(l.take i++l[i]::l.drop (i+1)).flatMap (AV t):=ai _ e;unfold eW;rw[M,gb,lz];simp only[bE]
  ·rw[bw h,gb,rA,<-bE]
 have B:(m++fy l.length).length<=1000000000:=by unfold eW at hl;rw[<-bE,aV] at hl;omega
 refine dO func79 ntmps79 results79 λw0 g0 Q L=>?_;refine tq j ?_;intro U Y O C;refine(mL l.length (t:=t) h B).mono ?_;intro d Z N;refine tn j ?_;refine aO l.length (λi s=>s.df=[]/\s.fr 2=.fb 80 [qX b t] []/\s.fr 12=.seq 2 (l.map eQ)/\s.fr 13=i64 l.length/\s.fr 14=i64 i/\WS H0 b (m++fy l.length++(l.take i).flatMap (AV t)) s.H) ⟨rfl,rfl,rfl,rfl,rfl,by rw[gK,nL,bz];exact N⟩ ?_;rintro i s hi ⟨p,y,o,f,g,A⟩;by_cases a:i<l.length
 case neg=>
  have K:=lF i l.length;rw[bK (by omega)] at A;refine ur L (bQ f g K) p ?_;exact⟨_,aF _,by unfold eW;rw[<-bE];exact A⟩
 have v:(i:Int)<(l.length:Int):=by omega
 have K:=lT i l.length a;have T:=aX i;have z:=aZ i;have u:(l.map eQ)[i]?=some (eQ l[i]):=bZ a;have V:=wS i;obtain⟨r,E,G⟩:=I i a;rw[E,aV] at hl;have w:=ao a;simp only[eQ] at u;refine tq (bG y o f g K j u (cA T z a v)) ?_;intro U Y O C;intro c R;refine Y _ ?_;refine cm 7 R ?_;refine tq y ?_;intro U Y O C;refine(Na l[i] (hs _ w) ht J A (by omega)).mono ?_;intro d H2 P;refine tn (av g V) ?_;exact⟨a,p,y,o,f,rfl,by rw[G];exact P⟩
theorem Nf (x:bp)(h:WS H0 b m H)(hl:(m++BU x).length<=1000000000)(u:x.ar.length<=1000000):aN prog 78 [qX b t,.agg (bS x)] H λd H'=>WS H0 b (m++BU x) H':=by
 unfold BU at hl ⊢;obtain⟨k,i⟩:=oX (if x.m then 5 else x.k);rw[<-i] at hl ⊢;have s:m.length<=1000000000:=by rw[aV] at hl;omega
 have z:∀y:List UInt8,m++(mv k::y)=m++[mv k]++y:=λy=>by simp
 rw[z] at hl ⊢;cases hm:x.m
 all_goals
  rw[hm] at i
  simp only[ia,dN,dY] at i
  subst i
  refine dO func78 ntmps78 results78 λI G Q f=>?_
  refine tq @bS.eq_1 ?_;intro U Y O C
  intro c A
  refine Y _ ?_
  refine cm 3 A ?_
  refine tq (bQ hm @qX.eq_1 ud) ?_;intro U Y O C
  refine(mV _ h s).mono ?_
  intro d B o
  by_cases a:x.k=3
  ·have j:(x.k=3)=True:=aG a
   rw[aD a,<-bE] at hl
   rw[aD a,<-bE] at f
   refine tq j ?_;intro U Y O C
   refine(mL x.r (t:=t) o (by rw[aV] at hl;omega)).mono ?_
   intro d w p
   refine t0 ?_;intro U Y O C
   refine(mL x.e (t:=t) p hl).mono ?_
   intro d E a
   refine u0 f ?_
   exact⟨_,aF _,a⟩
  have j:(x.k=3)=False:=aI a
  rw[aC a] at hl
  rw[aC a] at f
  by_cases g:x.k=4
  ·have v:(x.k=4)=True:=aG g
   rw[aD g] at hl
   rw[aD g] at f
   refine tq (av j v) ?_;intro U Y O C
   refine(N5 x.ar (t:=t) o hl u).mono ?_
   intro d w p
   refine u0 f ?_
   exact⟨_,aF _,p⟩
  ·have v:(x.k=4)=False:=aI g
   rw[aC g,bz] at hl
   rw[aC g,bz] at f
   refine ur f (av j v) trivial ?_
   exact⟨_,aF _,o⟩
theorem N9 (l:List bp)(hs:∀x∈l,x.ar.length<=1000000)(h:WS H0 b m H)(hl:(m++eW BU l).length<=1000000000)(R:l.length<=1000000):aN prog 77 [qX b t,.seq 5 (l.map bS),.fb 78 [qX b t] []] H λd H'=>WS H0 b (m++eW BU l) H':=by
 have j:=lm bS l;have I:∀i,∀h:i<l.length,∃r,m++eW BU l=m++fy l.length++(l.take i).flatMap BU++BU l[i]++r/\m++fy l.length++(l.take (i+1)).flatMap BU=m++fy l.length++(l.take i).flatMap BU++BU l[i]:=λi h=>by
  refine⟨(l.drop (i+1)).flatMap BU,?_,?_⟩
  ·have e:l=l.take i++l[i]::l.drop (i+1):=by rw[qz,ga]
   have L:l.flatMap BU=(l.take i++l[i]::l.drop (i+1)).flatMap BU:=ai _ e;unfold eW;rw[L,gb,lz];simp only[bE]
  ·rw[bw h,gb,rA,<-bE]
 have B:(m++fy l.length).length<=1000000000:=by unfold eW at hl;rw[<-bE,aV] at hl;omega
 refine dO func77 ntmps77 results77 λw0 g0 Q K=>?_;refine tq j ?_;intro U Y O C;refine(mL l.length (t:=t) h B).mono ?_;intro d V M;refine tn j ?_;refine aO l.length (λi s=>s.df=[]/\s.fr 2=.fb 78 [qX b t] []/\s.fr 12=.seq 5 (l.map bS)/\s.fr 13=i64 l.length/\s.fr 14=i64 i/\WS H0 b (m++fy l.length++(l.take i).flatMap BU) s.H) ⟨rfl,rfl,rfl,rfl,rfl,by rw[gK,nL,bz];exact M⟩ ?_;rintro i s hi ⟨p,y,o,f,g,A⟩;by_cases a:i<l.length
 case neg=>
  have J:=lF i l.length;rw[bK (by omega)] at A;refine ur K (bQ f g J) p ?_;exact⟨_,aF _,by unfold eW;rw[<-bE];exact A⟩
 have v:(i:Int)<(l.length:Int):=by omega
 have J:=lT i l.length a;have S:=aX i;have z:=aZ i;have u:(l.map bS)[i]?=some (bS l[i]):=bZ a;have T:=wS i;obtain⟨r,E,G⟩:=I i a;rw[E,aV] at hl;have w:=ao a;simp only[bS] at u;refine tq (bG y o f g J j u (cA S z a v)) ?_;intro U Y O C;intro c P;refine Y _ ?_;refine cm 7 P ?_;refine tq y ?_;intro U Y O C;refine(Nf l[i] (t:=t) A (by omega) (hs _ w)).mono ?_;intro d Z N;refine tn (av g T) ?_;exact⟨a,p,y,o,f,rfl,by rw[G];exact N⟩
theorem CG (b:bn)(t:List ByteArray)(H:aA)(g:∀H1,aN prog 35 [.agg (cu b)] H1 λd H'=>d=i64 0/\H1=H')(ht:t.Pairwise xx)(a:t.length<=1000000)(z:b.nm∈t)(A:∀s∈b.rg,s∈t)(y:∀x∈b.lc,x.nm∈t)(u:∀x∈b.ty,x.ar.length<=1000000)
  (h1:b.rg.length<=1000000) (h2:b.ol.length<=1000000) (h3:b.ty.length<=1000000) (h4:b.lc.length<=1000000) (hl:(CF t b).length<=1000000000):aN prog 38 [.agg (cu b),fB t] H λd H'=>d=.eO [.seq 1 ((CF t b).map bD),i64 0]/\H=H':=by
 have I:(CF t b).length=(tZ t b.nm).length+((eW (tZ t) b.rg).length+((eW Bd b.ol).length+((eW BU b.ty).length+((eW (AV t) b.lc).length+(fy b.ag).length)))):=by unfold CF;simp only[aV]
 have v:CF t b=[]++tZ t b.nm++eW (tZ t) b.rg++eW Bd b.ol++eW BU b.ty++eW (AV t) b.lc++fy b.ag:=by unfold CF;simp
 unfold cu at g ⊢;unfold fB;refine dO func38 ntmps38 results38 λT S Q B=>?_;refine t0 ?_;intro U Y O C;intro c G;refine Y _ ?_;refine cm 2 G ?_;refine t0 ?_;intro U Y O C;refine(g _).qt ?_;intro U Y O C;refine(sO _).mono ?_;rintro d H1 ⟨w,rfl,E⟩;refine t0 ?_;intro U Y O C;intro e J;refine Y _ ?_;refine cm 6 J ?_;refine t0 ?_;intro U Y O C;refine(D9 b.nm (t:=t) z ht a E (by simp only[aV,dX];omega)).mono ?_;intro d K h;refine t0 ?_;intro U Y O C;refine(N8 b.rg (t:=t) ht a A h (by simp only[aV,dX];omega) h1).mono ?_;intro d L i;refine t0 ?_;intro U Y O C;refine(N7 b.ol (t:=t) i (by simp only[aV,dX];omega) h2).mono ?_;intro d M j;refine t0 ?_;intro U Y O C;refine(N9 b.ty (t:=t) u j (by simp only[aV,dX];omega) h3).mono ?_;intro d N o;refine t0 ?_;intro U Y O C;refine(N6 b.lc (t:=t) ht a y o (by simp only[aV,dX];omega) h4).mono ?_;intro d P p;refine t0 ?_;intro U Y O C;refine(mL b.ag (t:=t) p (by simp only[aV,dX];omega)).mono ?_;intro d R f;rw[<-v] at f;refine t0 ?_;intro U Y O C;refine(BM f hl).q ?_;refine u0 B ?_;exact⟨_,aF _,rfl⟩
end Go.Proofs.YtffgfafbffdgaaaGreatDoor
