/- Lemmas and contracts of functions, several texts in one. -/
import Derived.Test.YtfiipaodjpiooaaGreatDoorQ11
import Derived.Shelf.Sort.Plain
import Derived.Shelf.Slices.In.SortNone
set_option maxRecDepth 100000
set_option maxHeartbeats 4000000
set_option linter.all false
namespace Go.Proofs.YtfiipaodjpiooaaGreatDoor
open Go.RowKit
def iD (n:Int):List D:=[i64 n]
def pD (p:Int×Int):List D:=[i64 p.1,i64 p.2]
theorem cO {l:List Int} {i:Nat} (h:i<l.length):(l.map iD)[i]?=some [.val (.int .i64 l[i])]:=by
 rw[dN,bX h];rfl
def cE (n a:Int):Prop:=0<=a/\a<n
instance (n a:Int):Decidable (cE n a):=by unfold cE;exact inferInstance
structure dS where
 k:Int
 m:Bool
 r:Int
 e:Int
 ar:List Int
def cP (t:dS):List D:=[i64 t.k,.val (.bool t.m),i64 t.r,i64 t.e,.seq 1 (t.ar.map iD)]
def cZ (ts:List dS) (a:Int):dS:=ts.getD a.toNat ⟨0,false,0,0,[]⟩
def zJ (ts:List dS):Prop:=∀(i:Nat) (h:i<ts.length),(ts[i].k=3->0<=ts[i].e/\ts[i].e<i)/\∀x∈ts[i].ar,0<=x/\x<i
theorem BP {ts:List dS} {a:Int} (h:cE ts.length a):∃h',cZ ts a=ts[a.toNat]'h':=by
 unfold cE at h
 refine⟨by omega,?_⟩
 unfold cZ
 rw[oT,bX (by omega)];rfl
theorem CS {ts:List dS} (hw:zJ ts) {a:Int} (h:cE ts.length a):((cZ ts a).k=3->0<=(cZ ts a).e/\(cZ ts a).e<a)/\∀x∈(cZ ts a).ar,0<=x/\x<a:=by
 obtain⟨h',he⟩:=BP h
 rw[he]
 have:=hw a.toNat h'
 unfold cE at h
 refine⟨fun hk=>?_,fun x hx=>?_⟩
 ·have:=this.1 hk;omega
 ·have:=this.2 x hx;omega
theorem mD {ts:List dS} {a:Int} (h:cE ts.length a):(ts.map cP)[a.toNat]?=some (cP (cZ ts a)):=by
 obtain⟨h',he⟩:=BP h
 rw[he,dN,bX h'];rfl
deriving instance DecidableEq for dS
theorem BM {α:Type} {p:List α->Prop} (h0:p []) (h1:∀l a,p l->p (l++[a])) (l:List α):p l:=by
 have h:∀l:List α,p l.reverse:=fun l=>by
  induction l with
  |nil=>exact h0
  |cons a l ih=>rw[List.reverse_cons];exact h1 _ _ ih
 have:=h l.reverse
 rwa[List.reverse_reverse] at this
def xU (t:dS):List dS->Nat->Int
 |[],_=> -1
 |x::xs,i=>if x=t then (i:Int) else xU t xs (i+1)
theorem aAX {t:dS}:∀{l:List dS} {i:Nat},t∉l->xU t l i= -1
 |[],_,_=>rfl
 |x::xs,i,h=>by
  rw[xU,aA (fun e=>h (by simp [e]))]
  exact aAX fun hm=>h (gY _ hm)
theorem aDW {t:dS}:∀{l:List dS} {i:Nat},t∈l->(i:Int)<=xU t l i
 |x::xs,i,h=>by
  rw[xU]
  by_cases e:x=t
  ·rw[aE e];exact rO _
  ·rw[aA e]
   have:=aDW (i:=i+1) (show t∈xs by rcases dJ.1 h with h|h;exact absurd h.symm e;exact h)
   omega
theorem aAW {t:dS} {l:List dS}:0<=xU t l 0↔t∈l:=by
 by_cases h:t∈l
 ·exact⟨fun _=>h,fun _=>aDW h⟩
 ·rw[aAX h];exact⟨fun h=>by omega,fun h'=>absurd h' h⟩
def vR (d:List Int) (k:Int) (f:Int):Int:=max k (d.getD f.toNat 0)
def vG (d:List Int) (t:dS):Int:=t.ar.foldl (vR d) (if t.k=3 then d.getD t.e.toNat 0 else 0)
def kR (ts:List dS):List Int:=ts.foldl (fun d t=>d++[vG d t+1]) []
theorem AU (ts:List dS) (t:dS):kR (ts++[t])=kR ts++[vG (kR ts) t+1]:=by
 unfold kR;rw[zP];rfl
theorem EB (ts:List dS):(kR ts).length=ts.length:=by
 induction ts using BM with
 |h0=>rfl
 |h1 ts t ih=>rw[AU,bN,bN,ih];rfl
theorem aDY {d:List Int} {b:Int} (hd:∀x∈d,x<=b) (h0:0<=b):∀(l:List Int) (k:Int),k<=b->l.foldl (vR d) k<=b
 |[],k,h=>h
 |f::l,k,h=>by
  rw[KX]
  refine aDY hd h0 l _ ?_
  unfold vR
  have:d.getD f.toNat 0<=b:=by
   rw[oT]
   cases e:d[f.toNat]? with
   |none=>exact h0
   |some x=>exact hd x (iQ e)
  omega
theorem aDX {d:List Int}:∀(l:List Int) (k:Int),k<=l.foldl (vR d) k/\∀f∈l,d.getD f.toNat 0<=l.foldl (vR d) k
 |[],k=>⟨rO _,fun f hf=>by cases hf⟩
 |f::l,k=>by
  rw[KX]
  have h:=aDX (d:=d) l (vR d k f)
  refine⟨Int.le_trans (by unfold vR;omega) h.1,fun g hg=>?_⟩
  rcases dJ.1 hg with rfl|hg
  ·exact Int.le_trans (by unfold vR;omega) h.1
  ·exact h.2 g hg
theorem aKK {d:List Int} {b:Int} (hd:∀x∈d,x<=b) (h0:0<=b) (i:Nat):d.getD i 0<=b:=by
 rw[oT]
 cases e:d[i]? with
 |none=>exact h0
 |some x=>exact hd x (iQ e)
theorem aD0 {d:List Int} {b:Int} (hd:∀x∈d,b<=x) (h0:b<=0) (i:Nat):b<=d.getD i 0:=by
 rw[oT]
 cases e:d[i]? with
 |none=>exact h0
 |some x=>exact hd x (iQ e)
theorem O3 {d:List Int} {b:Int} (hd:∀x∈d,x<=b) (h0:0<=b) (t:dS):vG d t<=b:=by
 unfold vG
 refine aDY hd h0 _ _ ?_
 split
 ·exact aKK hd h0 _
 ·exact h0
theorem O2 {d:List Int} (hd:∀x∈d,0<=x) (t:dS):0<=vG d t:=by
 unfold vG
 refine Int.le_trans ?_ (aDX _ _).1
 split
 ·exact aD0 hd (rO _) _
 ·exact rO _
theorem OR (ts:List dS):∀x∈kR ts,1<=x/\x<=ts.length:=by
 induction ts using BM with
 |h0=>intro x hx;simp [kR] at hx
 |h1 ts t ih=>
  intro x hx
  rw[AU] at hx
  rw[bN]
  simp only[wB]
  rcases bV.1 hx with hx|hx
  ·have:=ih x hx;omega
  ·rw[cR] at hx
   subst hx
   have h1:=O3 (b:=ts.length) (fun x hx=>(ih x hx).2) (by omega) t
   have h2:=O2 (fun x hx=>by have:=ih x hx;omega) t
   omega
theorem aEh {ts:List dS} {n:Nat} (h:n<ts.length):kR (ts.take (n+1))=kR (ts.take n)++[vG (kR (ts.take n)) ts[n]+1]:=by
 rw[dH h,AU]
theorem aG1 (ts us:List dS):∃x,kR (ts++us)=kR ts++x:=by
 induction us using BM with
 |h0=>exact⟨[],by simp⟩
 |h1 us u ih=>
  obtain⟨x,hx⟩:=ih
  exact⟨x++[vG (kR (ts++us)) u+1],by rw[<-iR,AU,hx,iR]⟩
theorem aG0 {ts:List dS} {i n:Nat} (hi:i<n) (hn:n<=ts.length):(kR (ts.take n))[i]?=(kR ts)[i]?:=by
 obtain⟨x,hx⟩:=aG1 (ts.take n) (ts.drop n)
 rw[uQ] at hx
 rw[hx,r5 (by rw[EB,dU];omega)]
def QP (ts:List dS) (i:Int):Int:=if cE ts.length i then (kR ts).getD i.toNat 0 else 0
open Classical in
noncomputable def B3 (ps:List dS) (n:Int) (t:dS):Nat:=
 if t.k<0\/4<t.k then 14
 else if (t.k≠3/\(t.m=true\/t.r≠0\/t.e≠0))\/(t.k≠4/\0<t.ar.length) then 2
 else if t.k=3/\(t.r<0\/n<=t.r\/t.e<0\/(ps.length:Int)<=t.e) then 3
 else if ∃f∈t.ar,f<0\/(ps.length:Int)<=f then 3
 else if t.k=4/\(t.ar.length=0\/65535<t.ar.length) then 15
 else if 32<vG (kR ps) t+1 then 19
 else if t∈ps then 21
 else 0
noncomputable def zX (n:Int):List dS->List dS->Nat
 |_,[]=>0
 |ps,t::ts=>if B3 ps n t=0 then zX n (ps++[t]) ts else B3 ps n t
noncomputable def B4 (ts:List dS) (n:Int):Nat:=if 65535<ts.length then 15 else zX n [] ts
structure Ok1 (ps:List dS) (n:Int) (t:dS):Prop where
 k0:0<=t.k
 k4:t.k<=4
 pl:t.k≠3->t.m=false/\t.r=0/\t.e=0
 fl:t.k≠4->t.ar=[]
 rr:t.k=3->0<=t.r/\t.r<n/\0<=t.e/\t.e<ps.length
 fr:∀f∈t.ar,0<=f/\f<ps.length
 tl:t.k=4->0<t.ar.length/\t.ar.length<=65535
 dp:vG (kR ps) t+1<=32
 nw:t∉ps
theorem aDF {ps:List dS} {n:Int} {t:dS}:B3 ps n t=0↔Ok1 ps n t:=by
 unfold B3
 by_cases h1:t.k<0\/4<t.k
 ·rw[aE h1];exact⟨fun h=>(by cases h),fun h=>by have:=h.k0;have:=h.k4;omega⟩
 rw[aA h1]
 by_cases h2:(t.k≠3/\(t.m=true\/t.r≠0\/t.e≠0))\/(t.k≠4/\0<t.ar.length)
 ·rw[aE h2]
  refine⟨fun h=>(by cases h),fun h=>?_⟩
  rcases h2 with⟨a,b⟩|⟨a,b⟩
  ·have:=h.pl a
   rcases b with b|b|b
   ·rw[this.1] at b;cases b
   ·exact absurd this.2.1 b
   ·exact absurd this.2.2 b
  ·rw[h.fl a] at b;simp at b
 rw[aA h2]
 by_cases h3:t.k=3/\(t.r<0\/n<=t.r\/t.e<0\/(ps.length:Int)<=t.e)
 ·rw[aE h3];exact⟨fun h=>(by cases h),fun h=>by have:=h.rr h3.1;omega⟩
 rw[aA h3]
 by_cases h4:∃f∈t.ar,f<0\/(ps.length:Int)<=f
 ·rw[aE h4];exact⟨fun h=>(by cases h),fun h=>by obtain⟨f,hf,hb⟩:=h4;have:=h.fr f hf;omega⟩
 rw[aA h4]
 by_cases h5:t.k=4/\(t.ar.length=0\/65535<t.ar.length)
 ·rw[aE h5];exact⟨fun h=>(by cases h),fun h=>by have:=h.tl h5.1;omega⟩
 rw[aA h5]
 by_cases h6:32<vG (kR ps) t+1
 ·rw[aE h6];exact⟨fun h=>(by cases h),fun h=>by have:=h.dp;omega⟩
 rw[aA h6]
 by_cases h7:t∈ps
 ·rw[aE h7];exact⟨fun h=>(by cases h),fun h=>absurd h7 h.nw⟩
 rw[aA h7]
 refine⟨fun _=>⟨by omega,by omega,fun h=>?_,fun h=>?_,fun h=>?_,fun f hf=>?_,fun h=>by omega,by omega,h7⟩,fun _=>rfl⟩
 ·have h8:¬(t.m=true\/t.r≠0\/t.e≠0):=fun h9=>h2 (.inl ⟨h,h9⟩)
  refine⟨by simpa using fun h9=>h8 (.inl h9),?_,?_⟩
  ·exact jO fun h9=>h8 (.inr (.inl h9))
  ·exact jO fun h9=>h8 (.inr (.inr h9))
 ·have h8:¬0<t.ar.length:=fun h9=>h2 (.inr ⟨h,h9⟩)
  exact iX (by omega)
 ·have h8:¬(t.r<0\/n<=t.r\/t.e<0\/(ps.length:Int)<=t.e):=fun h9=>h3 ⟨h,h9⟩
  omega
 ·have h8:¬(f<0\/(ps.length:Int)<=f):=fun h9=>h4 ⟨f,hf,h9⟩
  omega
theorem OQ {n:Int}:∀{ts ps:List dS},zX n ps ts=0↔∀i (h:i<ts.length),Ok1 (ps++ts.take i) n ts[i]
 |[],ps=>⟨fun _ i h=>by simp at h,fun _=>rfl⟩
 |t::ts,ps=>by
  rw[zX]
  by_cases h:B3 ps n t=0
  ·rw[aE h,OQ]
   constructor
   ·intro h1 i hi
    cases i with
    |zero=>simpa using aDF.1 h
    |succ i=>simpa using h1 i (by simpa using hi)
   ·intro h1 i hi
    have h2:Ok1 (ps++(t::ts).take (i+1)) n ts[i]:=h1 (i+1) (by simpa using hi)
    simpa using h2
  ·rw[aA h]
   refine⟨fun h1=>absurd h1 h,fun h1=>absurd (aDF.2 ?_) h⟩
   have h2:Ok1 (ps++(t::ts).take 0) n t:=h1 0 (by simp)
   simpa using h2
theorem W6 {ts:List dS} {n:Int}:B4 ts n=0↔ts.length<=65535/\∀i (h:i<ts.length),Ok1 (ts.take i) n ts[i]:=by
 unfold B4
 by_cases h:65535<ts.length
 ·rw[aE h];exact⟨fun h=>(by cases h),fun h'=>by omega⟩
 ·rw[aA h,OQ]
  simp only[gZ]
  exact⟨fun h'=>⟨by omega,h'⟩,fun h'=>h'.2⟩
theorem KJ {ts:List dS} {n:Int} (h:∀i (h:i<ts.length),Ok1 (ts.take i) n ts[i]):zJ ts:=fun i hi=>by
 have h1:=h i hi
 have e:(ts.take i).length=i:=by rw[dU];omega
 refine⟨fun hk=>?_,fun x hx=>?_⟩
 ·have:=h1.rr hk;rw[e] at this;omega
 ·have:=h1.fr x hx;rw[e] at this;omega
theorem aJD {ts:List dS} (h:zJ ts) (n:Nat):zJ (ts.take n):=fun i hi=>by
 rw[dU] at hi
 have:=h i (by omega)
 rw[PZ]
 exact this
theorem LI {n:Int}:∀{ts ps:List dS} {t:dS},zX n ps ts=0->zX n ps (ts++[t])=B3 (ps++ts) n t
 |[],ps,t,_=>by
  rw[gZ,iJ,zX]
  by_cases h:B3 ps n t=0
  ·rw[aE h,h];rfl
  ·rw[aA h]
 |u::ts,ps,t,h=>by
  rw[zX] at h
  by_cases h1:B3 ps n u=0
  ·rw[aE h1] at h
   rw[gP,zX,aE h1,LI h]
   simp
  ·rw[aA h1] at h;exact absurd h h1
theorem QK {n:Int}:∀{ts us ps:List dS},zX n ps ts≠0->zX n ps (ts++us)=zX n ps ts
 |[],us,ps,h=>absurd rfl h
 |t::ts,us,ps,h=>by
  rw[zX] at h
  rw[gP,zX,zX]
  by_cases h1:B3 ps n t=0
  ·rw[aE h1] at h ⊢
   rw[aE h1,QK h]
  ·rw[aA h1,aA h1]
def tX (t:dS):List Int:=if t.k=3 then [t.e] else t.ar
def aLY (t:dS):List Int:=t.ar
inductive TO (par:dS->List Int) (ts:List dS):Int->Int->Prop
 |refl (a:Int):TO par ts a a
 |step {a p b:Int} (h:p∈par (cZ ts a)) (h2:TO par ts p b):TO par ts a b
theorem TO.iff {par:dS->List Int} {ts:List dS} {a b:Int}:TO par ts a b↔a=b\/∃p∈par (cZ ts a),TO par ts p b:=by
 constructor
 ·intro h
  cases h with
  |refl=>exact .inl rfl
  |step h h2=>exact .inr ⟨_,h,h2⟩
 ·rintro(rfl|⟨p,hp,h⟩)
  ·exact .refl _
  ·exact .step hp h
theorem TO.trans {par:dS->List Int} {ts:List dS} {a b c:Int} (h:TO par ts a b):TO par ts b c->TO par ts a c:=by
 induction h with
 |refl=>exact id
 |step h _ ih=>exact fun h3=>.step h (ih h3)
def Dn (par:dS->List Int) (ts:List dS):Prop:=∀a,cE ts.length a->∀p∈par (cZ ts a),0<=p/\p<a
theorem Dn.A {ts:List dS} (hw:zJ ts):Dn tX ts:=fun a ha p hp=>by
 have:=CS hw ha
 unfold tX at hp
 split at hp
 ·rename_i h3
  rw[cR] at hp
  rw[hp]
  exact this.1 h3
 ·exact this.2 p hp
theorem Dn.F {ts:List dS} (hw:zJ ts):Dn aLY ts:=fun a ha p hp=>(CS hw ha).2 p hp
theorem TO.le {par:dS->List Int} {ts:List dS} (hd:Dn par ts) {a b:Int} (h:TO par ts a b):cE ts.length a->0<=b/\b<=a:=by
 induction h with
 |refl=>exact fun ha=>⟨ha.1,rO _⟩
 |step hp _ ih=>
  intro ha
  have h1:=hd _ ha _ hp
  have h2:=ih ⟨h1.1,Int.lt_trans h1.2 ha.2⟩
  exact⟨h2.1,by omega⟩
def aJR (ts:List dS) (i r:Int):Prop:=cE ts.length i/\∃b,TO tX ts i b/\(cZ ts b).k=3/\(cZ ts b).r=r
open Classical in
noncomputable def aDq (ts:List dS) (i r:Int):Bool:=decide (aJR ts i r)
theorem aLI {ts:List dS} {i r:Int}:aDq ts i r=true↔aJR ts i r:=by simp [aDq]
noncomputable def MD (ts:List dS) (i:Int):List Int:=((List.range 1000000).map Int.ofNat).filter fun r=>aDq ts i r
theorem aBL (ts:List dS) (i:Int):(MD ts i).Pairwise (·<·):=by
 refine List.Pairwise.filter _ ?_
 rw[CW]
 exact F0.imp fun h=>by show(_:Int)<_;simp only[Int.ofNat_eq_natCast];omega
theorem SA {ts:List dS} {i r:Int}:r∈MD ts i↔cE 1000000 r/\aJR ts i r:=by
 unfold MD
 rw[jX,eW,aLI]
 constructor
 ·rintro⟨⟨k,hk,rfl⟩,h⟩
  rw[oB] at hk
  exact⟨⟨bM _,by simp only[Int.ofNat_eq_natCast];omega⟩,h⟩
 ·rintro⟨h1,h2⟩
  unfold cE at h1
  exact⟨⟨r.toNat,by rw[oB];omega,by simp only[Int.ofNat_eq_natCast];omega⟩,h2⟩
def Cop (ts:List dS) (i:Int):Prop:=cE ts.length i/\∀b,TO aLY ts i b->¬((cZ ts b).k=3/\(cZ ts b).m=true)
open Classical in
noncomputable def pK (ts:List dS) (i:Int):Bool:=decide (Cop ts i)
theorem EA {ts:List dS} {i:Int}:pK ts i=true↔Cop ts i:=by simp [pK]
theorem zZ {ts:List dS} {i:Int}:pK ts i=false↔¬Cop ts i:=by simp [pK]
theorem aDJ {ts:List dS} (hw:zJ ts) {i:Int} (hi:cE ts.length i):Cop ts i↔¬((cZ ts i).k=3/\(cZ ts i).m=true)/\∀p∈(cZ ts i).ar,Cop ts p:=by
 have hd:=Dn.F hw
 constructor
 ·rintro⟨_,h⟩
  refine⟨h i (.refl _),fun p hp=>?_⟩
  have:=hd i hi p hp
  exact⟨⟨this.1,Int.lt_trans this.2 hi.2⟩,fun b hb=>h b (.step hp hb)⟩
 ·rintro⟨h1,h2⟩
  refine⟨hi,fun b hb=>?_⟩
  rcases TO.iff.1 hb with rfl|⟨p,hp,h⟩
  ·exact h1
  ·exact(h2 p hp).2 b h
def rfN (ts:List dS):Prop:=∀t∈ts,t.k=3->t.ar=[]
theorem wV {ts:List dS} {a:Int} (h:cE ts.length a):cZ ts a∈ts:=by
 obtain⟨h',he⟩:=BP h
 rw[he];exact bU h'
theorem aFZ {ts:List dS} {n:Int} (h:∀i (h:i<ts.length),Ok1 (ts.take i) n ts[i]):rfN ts:=fun t ht h3=>by
 obtain⟨i,hi,rfl⟩:=sA ht
 exact(h i hi).fl (by omega)
theorem L7:∀(N:Nat) (S:List Nat),S.Nodup->(∀x∈S,x<N)->S.length<=N
 |0,S,_,h=>by
  cases S with
  |nil=>simp
  |cons x S=>exact absurd (h x (by simp)) (by omega)
 |N+1,S,hn,h=>by
  by_cases hm:N∈S
  ·have h1:=L7 N (S.erase N) (hn.erase N) fun x hx=>by
    have h2:=(hn.mem_erase_iff).1 hx
    have:=h x h2.2
    omega
   rw[List.length_erase_of_mem hm] at h1
   omega
  ·have:=L7 N S hn fun x hx=>by
    have:=h x hx
    have:x≠N:=fun e=>hm (e▸hx)
    omega
   omega
theorem rC {n:Int} {S:List Int} (hn:S.Nodup) (h:∀x∈S,cE n x):S.length<=n.toNat:=by
 have:=L7 n.toNat (S.map Int.toNat) (by
  rw[PJ,CW]
  rw[PJ] at hn
  refine ZT ?_ hn
  intro a b ha hb hab e
  have h1:=h a ha
  have h2:=h b hb
  unfold cE at h1 h2
  exact hab (by omega)) (fun x hx=>by
   obtain⟨y,hy,rfl⟩:=eW.1 hx
   have:=h y hy
   unfold cE at this
   omega)
 simpa using this
open Tryz
theorem tD {H:aC} {b:Nat} {x:fK} (h:H b=some x):H.bH b x=H:=by
 funext c
 by_cases e:c=b
 ·rw[e,aO,h]
 ·rw[aN e]
def HC (x:Int):Prop:= -9223372036854775808<=x/\x<=9223372036854775807
def SV (S:List Int):List (Value×Value):=S.map fun k=>(.int .i64 k,.bool true)
def SM (S:List Int):List (Value×D):=(SV S).map fun p=>(p.1,.val p.2)
theorem IU (a:Int) (S:List Int):SM (a::S)=(.int .i64 a,.val (.bool true))::SM S:=rfl
theorem aFs {S:List Int} {x:Int}:x∈S->mX (SM S) (.int .i64 x)=some (.val (.bool true)):=by
 induction S with
 |nil=>intro h;cases h
 |cons a S ih=>
  intro h
  rw[IU]
  by_cases e:a=x
  ·subst e;simp [mX]
  ·have h2:x∈S:=by rcases dJ.1 h with h|h;exact absurd h.symm e;exact h
   simp only[mX]
   rw[aA (by simpa using e)]
   exact ih h2
theorem aBa {S:List Int} {x:Int}:x∉S->mX (SM S) (.int .i64 x)=none:=by
 induction S with
 |nil=>intro _;rfl
 |cons a S ih=>
  intro h
  rw[IU]
  have e:¬a=x:=fun e=>h (by simp [e])
  simp only[mX]
  rw[aA (by simpa using e)]
  exact ih fun h2=>h (gY _ h2)
theorem WN {S:List Int} {x:Int}:x∉S->iM (SM S) (.int .i64 x) (.val (.bool true))=SM (S++[x]):=by
 induction S with
 |nil=>intro _;rfl
 |cons a S ih=>
  intro h
  rw[gP,IU,IU]
  have e:¬a=x:=fun e=>h (by simp [e])
  simp only[iM]
  rw[aA (by simpa using e),ih fun h2=>h (gY _ h2)]
theorem aMY {S:List Int} {n:Int} (hn:n<=1000000) (h:∀x∈S,cE n x) {x:Int} (hx:HC x):kOK prog 3 (SM S) (.int .i64 x):=
 ⟨Go.Maps.int_keyed underlying3,sI underlying3 hx,fun p hp=>by
  unfold SM SV at hp
  rw[oZ,eW] at hp
  obtain⟨y,hy,rfl⟩:=hp
  have:=h y hy
  exact sI underlying3 (by unfold cE at this;omega)⟩
end Go.Proofs.YtfiipaodjpiooaaGreatDoor
namespace Go.Proofs.YtfiipaodjpiooaaGreatDoor
open Go.RowKit Go.Sort
open Tryz
def aZS:Go.Shelf.Ren where
 f:=fun x=>match x with
  |189=>121
  |125=>36
  |257=>163
  |128=>80
  |129=>81
  |294=>199
  |295=>200
  |296=>201
  |297=>202
  |298=>203
  |299=>204
  |216=>205
  |300=>206
  |301=>207
  |328=>220
  |329=>134
  |330=>135
  |331=>221
  |332=>222
  |215=>82
  |343=>226
  |n=>n
 t:=fun x=>match x with
  |28=>32
  |3=>3
  |46=>80
  |0=>0
  |51=>145
  |53=>147
  |4=>4
  |183=>139
  |182=>138
  |131=>86
  |5=>5
  |9=>9
  |218=>203
  |222=>207
  |228=>238
  |229=>160
  |n=>n
 g:=fun n=>n
theorem Y3:Lays.n189 prog aZS where
 mixed:=by kernel_rfl
 f125:=func36.trans (cS some (by kernel_rfl))
 f128:=func80.trans (cS some (by kernel_rfl))
 f129:=func81.trans (cS some (by kernel_rfl))
 f189:=func121.trans (cS some (by kernel_rfl))
 f215:=func82.trans (cS some (by kernel_rfl))
 f216:=func205.trans (cS some (by kernel_rfl))
 f257:=func163.trans (cS some (by kernel_rfl))
 f294:=func199.trans (cS some (by kernel_rfl))
 f295:=func200.trans (cS some (by kernel_rfl))
 f296:=func201.trans (cS some (by kernel_rfl))
 f297:=func202.trans (cS some (by kernel_rfl))
 f298:=func203.trans (cS some (by kernel_rfl))
 f299:=func204.trans (cS some (by kernel_rfl))
 f300:=func206.trans (cS some (by kernel_rfl))
 f301:=func207.trans (cS some (by kernel_rfl))
 f328:=func220.trans (cS some (by kernel_rfl))
 f329:=func134.trans (cS some (by kernel_rfl))
 f330:=func135.trans (cS some (by kernel_rfl))
 f331:=func221.trans (cS some (by kernel_rfl))
 f332:=func222.trans (cS some (by kernel_rfl))
 f343:=func226.trans (cS some (by kernel_rfl))
 t0:=underlying0
 a0:=Tryz.isAgg0
 z0:=Tryz.sizeOf0
 v0:=Tryz.zeroValue0
 t3:=underlying3
 a3:=Tryz.isAgg3
 z3:=Tryz.sizeOf3
 v3:=Tryz.zeroValue3
 t4:=underlying4
 a4:=Tryz.isAgg4
 z4:=Tryz.sizeOf4
 v4:=Tryz.zeroValue4
 t5:=underlying5
 a5:=Tryz.isAgg5
 z5:=Tryz.sizeOf5
 v5:=Tryz.zeroValue5
 t9:=underlying9
 a9:=Tryz.isAgg9
 z9:=Tryz.sizeOf9
 v9:=Tryz.zeroValue9
 t28:=underlying32
 a28:=Tryz.isAgg32
 z28:=Tryz.sizeOf32
 v28:=Tryz.zeroValue32
 t46:=underlying80
 a46:=Tryz.isAgg80
 z46:=Tryz.sizeOf80
 v46:=Tryz.zeroValue80
 t51:=underlying145
 a51:=Tryz.isAgg145
 z51:=Tryz.sizeOf145
 v51:=Tryz.zeroValue145
 t53:=underlying147
 a53:=Tryz.isAgg147
 z53:=Tryz.sizeOf147
 v53:=Tryz.zeroValue147
 t131:=underlying86
 a131:=Tryz.isAgg86
 z131:=Tryz.sizeOf86
 v131:=Tryz.zeroValue86
 t182:=underlying138
 a182:=Tryz.isAgg138
 z182:=Tryz.sizeOf138
 v182:=Tryz.zeroValue138
 t183:=underlying139
 a183:=Tryz.isAgg139
 z183:=Tryz.sizeOf139
 v183:=Tryz.zeroValue139
 t218:=underlying203
 a218:=Tryz.isAgg203
 z218:=Tryz.sizeOf203
 v218:=Tryz.zeroValue203
 t222:=underlying207
 a222:=Tryz.isAgg207
 z222:=Tryz.sizeOf207
 v222:=Tryz.zeroValue207
 t228:=underlying238
 a228:=Tryz.isAgg238
 z228:=Tryz.sizeOf238
 v228:=Tryz.zeroValue238
 t229:=underlying160
 a229:=Tryz.isAgg160
 z229:=Tryz.sizeOf160
 v229:=Tryz.zeroValue160
def fX (l:List Int):List Int:=l.mergeSort fun x y=>decide (x<=y)
theorem iF (l:List Int):(fX l).length=l.length:=List.length_mergeSort _
theorem aF5 {l:List Int} {j:Nat} (h:j<l.length):(fX l).toArray[j]! =(fX l)[j]'(by rw[iF];exact h):=by
 have h':j<(fX l).length:=by rw[iF];exact h
 rw[C4 (fX l).toArray j (by simpa using h')]
 simp
theorem KB {H:aC} {b o:Nat} {T:TypeId} {l:List Int} (hb:H b=some (.row T o 1 (l.map iD))) (hl:l.length<4611686018427387904):
  bE prog 121 [.os b o 1 0 l.length] H fun d H'=>d=.pG []/\H'=H.bH b (.row T o 1 ((fX l).map iD)):=
 And.intro (uH func121 rfl rfl) fun w vs zD hH _=>by
  simp only[aW] at zD
  obtain⟨u,_,rfl,h1,rfl⟩:=zD
  simp only[D.is] at h1
  obtain⟨A,c,rfl,hnc,h1⟩:=h1
  obtain⟨cs,fr,NA,Z5,lZ,G7⟩:=hH _ _ hb
  rw[bC,C6] at lZ
  have kL:=hH.lt hb
  have G5:∀j (hj:j<l.length),cs[o+j]?=some (.int .i64 l[j]):=fun j hj=>by
   have:=(fH G7 j [.val (.int .i64 l[j])] (by rw[dN,bX hj] <;> rfl)).2
   simp only[dL,D.is] at this
   obtain⟨⟨v,hv,_,rfl⟩,_⟩:=this
   rw[cell_of_row _ _ _ _ _ _ NA,C6] at hv
   exact hv
  by_cases YA:l.length=0
  ·have BT:l=[]:=iX YA
   subst BT
   refine(Any.slices_Sort_int_none Y3 A c w).mono ?_
   rintro e w' ⟨rfl,rfl⟩
   have hs:fX []=[]:=iX (iF [])
   refine⟨_,_,H,rfl,(by simp only[D.is];exact⟨[],rfl,by simp only[aW]⟩),hH,fT _ _,rfl,?_⟩
   funext b'
   by_cases M9:b'=b
   ·subst M9;rw[aO,hb,hs]
   ·rw[aN M9]
  have hA:A=some ⟨b,o,none⟩:=by
   rcases h1 with h1|h1
   ·omega
   ·rw[h1.1];simp
  subst hA
  have ND:=iF l
  have aCA:Holds (Value.int .i64) w b o l.toArray:=fun j hj=>by
   have hj':j<l.length:=by simpa using hj
   refine⟨?_,?_⟩
   ·rw[cell_of_row _ _ _ _ _ _ NA,G5 j hj',C4 l.toArray j hj];simp
   ·have:=Z5.not (o+j) (by omega)
    simp only[World.frozen?,NA]
    simp
    omega
  refine(Any.slices_Sort_int Y3 b o c l w aCA kL hl).mono ?_
  rintro e w' ⟨rfl,n,os,rfl⟩
  obtain⟨ar,oF⟩:∃ar,ar=(fX l).toArray:=⟨_,rfl⟩
  have aKO:ar.size=l.length:=by rw[oF];simpa using ND
  rw[show(l.mergeSort fun x y=>decide (x<=y)).toArray=ar from oF.symm]
  have hwb:(grow (putRow (Value.int .i64) (Go.Sort.ahead w n) b o ar) os).heap[b]?=some (Obj.cells (putCells (Value.int .i64) o ar cs) T fr):=by
   rw[heap_grow_old _ _ (by rw[size_putRow];exact kL)]
   show(w.heap.modify b _)[b]?=_
   rw[CT,aE rfl,NA]
   rfl
  have hwo:∀b',b'<w.heap.size->b'≠b->(grow (putRow (Value.int .i64) (Go.Sort.ahead w n) b o ar) os).heap[b']?=w.heap[b']?:=fun b' h fM=>by
   rw[heap_grow_old _ _ (by rw[size_putRow];exact h)]
   show(w.heap.modify b _)[b']?=_
   rw[CT,aA (Ne.symm fM)]
  have lO:Ev H w (H.bH b (.row T o 1 ((fX l).map iD))) (grow (putRow (Value.int .i64) (Go.Sort.ahead w n) b o ar) os):=by
   refine⟨rfl,rfl,rfl,?_,fun b' h1 h2=>?_,fun b' w9 t' fr' h=>?_⟩
   ·rw[size_grow,size_putRow];exact Nat.le_add_right _ _
   ·have fM:b'≠b:=fun e=>by rw[e,hb] at h2;cases h2
    exact⟨hwo b' h1 fM,by rw[aN fM];exact h2⟩
   ·by_cases fM:b'=b
    ·subst fM
     rw[NA] at h
     cases h
     exact⟨_,_,hwb,by simp [putCells]⟩
    ·exact⟨w9,fr',by rw[hwo b' (tL.1 h).1 fM];exact h,rfl⟩
  refine⟨_,_,_,rfl,(by simp only[D.is];exact⟨[],rfl,by simp only[aW]⟩),?_,lO,rfl,rfl⟩
  intro b' y hy
  by_cases fM:b'=b
  ·subst fM
   rw[aO] at hy
   injection hy with hy
   subst hy
   refine⟨_,fr,hwb,?_,?_,gO fun i el hi=>?_⟩
   ·rw[show(putCells (Value.int .i64) o ar cs).size=cs.size by simp [putCells]];exact Z5
   ·rw[show(putCells (Value.int .i64) o ar cs).size=cs.size by simp [putCells],bC,ND];omega
   ·rw[dN] at hi
    have aV:i<l.length:=by
     rcases oC i (fX l).length with h|h
     ·omega
     ·rw[uR h] at hi;cases hi
    rw[bX (by omega)] at hi
    injection hi with hi
    subst hi
    refine⟨rfl,?_⟩
    simp only[iD,i64,dL,D.is]
    refine⟨⟨_,?_,rfl,rfl⟩,trivial⟩
    rw[cell_of_row _ _ _ _ _ _ hwb,C6]
    have h2:o+i<cs.size:=by omega
    have h3:=aF5 aV
    rw[<-oF] at h3
    rw[C4 ar i (by omega)] at h3
    simp [putCells,h2,aKO,aV]
    exact h3
  ·rw[aN fM] at hy
   exact lO.sZ (hwo b' (hH.lt hy) fM) (hH b' y hy)
theorem KA (H:aC):bE prog 121 [.val (.slice none 0 0)] H fun d H'=>d=.pG []/\H=H':=
 And.intro (uH func121 rfl rfl) fun w vs zD hH _=>by
  simp only[aW] at zD
  obtain⟨u,_,rfl,h1,rfl⟩:=zD
  simp only[D.is] at h1
  subst h1
  refine(Any.slices_Sort_int_none Y3 none 0 w).mono ?_
  rintro e w' ⟨rfl,rfl⟩
  exact⟨_,_,H,rfl,(by simp only[D.is];exact⟨[],rfl,by simp only[aW]⟩),hH,fT _ _,rfl,rfl⟩
end Go.Proofs.YtfiipaodjpiooaaGreatDoor
namespace Go.Proofs.YtfiipaodjpiooaaGreatDoor
open Go.RowKit
theorem FM {l:List Int} {x:Int}:x∈fX l↔x∈l:=List.mem_mergeSort
theorem J9 (l:List Int):(fX l).Pairwise (·<=·):=by
 have h1:(fX l).Pairwise fun a b=>decide (a<=b)=true:=ZU (fun a b c h1 h2=>by simp at *;omega) (fun a b=>by simp;omega) l
 exact h1.imp fun {a b} h=>by simpa using h
end Go.Proofs.YtfiipaodjpiooaaGreatDoor
namespace Go.Proofs.YtfiipaodjpiooaaGreatDoor
open Go.ChangeMaps (setBlock)
open Go.RowKit
open Tryz
def aJQ (es:Array MapEntry) (cI:Nat) (vs:List (Value×Value)):Prop:=
 es.toList.map (fun e=>(e.key,e.val))=vs/\(∀x∈es.toList,x.born<cI)/\(es.toList.map (·.born)).Nodup
theorem UP {cx:Cx} {c:Code} {Q:Exit->St->Prop} {s:St} (b:Nat) (vs:List (Value×Value)) (hb:s.H b=some (.map (vs.map fun p=>(p.1,.val p.2)))) (h:∀es cI,aJQ es cI vs->W cx c Q (s.dY (s.H.bH b (.obj (.map es cI))))):W cx c Q s:=fun a w m=>by
 obtain⟨es,cI,h1,h2,h3,h4,h5,h6⟩:=m.H _ _ hb
 have aA9:Dom (s.H.bH b (.obj (.map es cI))) s.H:=fun c hc=>by
  rw[aN (fun e=>by rw[e,hb] at hc;cases hc)];exact hc
 have uK:iK w (s.H.bH b (.obj (.map es cI))):=fun c y hc=>by
  by_cases ec:c=b
  ·subst ec
   rw[aO] at hc
   injection hc with hc
   subst hc
   exact h1
  ·rw[aN ec] at hc
   exact(xT aA9 w).sZ rfl (m.H c y hc)
 refine h es cI ⟨R2 _ _ ?_ ?_,fun x hx=>h5 _ (KR (f:=(·.born)) hx),h6⟩ a w (m.go (xT aA9 w) uK)
 ·rw[h2,oZ];rfl
 ·exact ZM vs _ h3
theorem UN {cx:Cx} {o:Oper} {K:St->Prop} {s:St} {t k e:TypeId} {x:Operand} {b:Nat} {es:Array MapEntry} {cI:Nat} {vs:List (Value×Value)} (e0:o.op=.range t x) (hd:DE cx.n o.dst) (ht:cx.P.underlying t=some (.map k e))
  (hx:s.ev x=.val (.map (some b))) (hb:s.H b=some (.obj (.map es cI))) (hm:aJQ es cI vs)
  (h:∀r y,s.H r=none->r≠b->TP (s.H.bH r (.obj y)) b r vs->K ((s.dY (s.H.bH r (.obj y))).put o.dst (.val (.pointer (some ⟨r,0,none⟩))))):WO cx o K s:=
 uF (by simp [e0]) hd fun a w m=>by
  have NG:=m.xS x
  rw[hx] at NG
  have OE:=dZ NG
  have h1:w.heap[b]?=some (.map es cI):=m.H _ _ hb
  have kL:b<w.heap.size:=(tL.1 h1).1
  have fM:w.heap.size≠b:=by omega
  have mV:iK (w.alloc (.mapIter (some b) cI #[] cI)) (s.H.bH w.heap.size (.obj (.mapIter (some b) cI #[] cI))):=iK.alloc m.H (heap_alloc_new w _)
  refine⟨.pointer (some ⟨w.heap.size,0,none⟩),_,_,_,?_,uA _,mV,jZ _ _ m.H,h w.heap.size _ (jF m.H) fM ⟨es,cI,cI,#[],cI,?_,aO ..,hm.2.1,dI _,dI _,hm.2.2,?_⟩⟩
  ·simp only[execOp,e0,OE]
   have:=run_range_map (P:=cx.P) w t k e b es cI ht h1
   simp only[Sem.run_bind,this,Result.andThen,Sem.run_pure]
  ·rw[aN (Ne.symm fM),hb]
  ·have hl:leftOf es #[]=es:=by
    unfold leftOf
    rw[Array.filter_eq_self]
    intro y _
    simp
   rw[hl]
   exact hm.1.symm
theorem aAB.obj {H:aC} {b r:Nat} {p:Value×Value} (h:aAB H b r p):∃y,H r=some (.obj y):=by
 obtain⟨es,cI,mL,seen,e,h1,h2,h3⟩:=h
 exact⟨_,h2⟩
theorem TP.obj {H:aC} {b r:Nat} {kO:List (Value×Value)} (h:TP H b r kO):∃y,H r=some (.obj y):=by
 obtain⟨es,cI,mL,seen,c0,h1,h2,h3⟩:=h
 exact⟨_,h2⟩
theorem TP.map {H:aC} {b r:Nat} {kO:List (Value×Value)} (h:TP H b r kO):∃y,H b=some (.obj y):=by
 obtain⟨es,cI,mL,seen,c0,h1,h2,h3⟩:=h
 exact⟨_,h1⟩
theorem aIw {H H':aC} {r:Nat} {x:fK} (hr:H' r=some x) (hk:∀c,c≠r->H' c=H c):H'=H.bH r x:=funext fun c=>by
 by_cases e:c=r
 ·rw[e,hr,aO]
 ·rw[hk c e,aN e]
def aPc {α:Type} (S:List α) (l:List α):Prop:=∃r,(l++r).Perm S
def aE0 (bm:Nat) (es:Array MapEntry) (cI:Nat) (H:aC):Prop:=H bm=some (.obj (.map es cI))
theorem aH3 (S:List Int) (bm:Nat) (es:Array MapEntry) (cI:Nat) (hm:aJQ es cI (SV S)):
  AN prog 160 [.rp [.val (.map (some bm))]] (fun x:Int=>[i64 x]) (aPc S) (·.Perm S) (aE0 bm es cI) (aE0 bm es cI):=by
 refine JT _ func160 rfl rfl ntmps160 results160 (by simp) fun l J Jx H w0 g0 Q fI hJ hC hCx G6 hY aD=>?_
 unfold aE0 at fI G6
 refine tq @yD.eq_1 ?_;intro Nx aB Gx aF
 refine UN rfl (show(5:Nat)<14 by decide) underlying188 rfl fI hm ?_
 intro r y JP hrb hR
 refine aB _ ?_
 refine tq trivial ?_;intro Nx aB Gx aF
 refine pZ (fun k s=>∃(kO dn:List Int),k=kO.length/\s.df=[]/\s.fr 0=yD l/\s.fr 5=.val (.pointer (some ⟨r,0,none⟩))/\TP s.H bm r (SV kO)/\J dn s.H/\(dn++kO).Perm S) S.length ⟨S,[],rfl,rfl,rfl,rfl,hR,hC _ _ _ _ JP (fun z hz=>by rw[JP] at hz;cases hz) hJ,List.Perm.refl _⟩ ?_
 rintro n s ⟨kO,dn,rfl,aT,f0,f5,hR,hj,hp⟩
 refine tq f5 ?_;intro Nx aB Gx aF
 refine IX rfl (show(6:Nat)<14 by decide) f5 hR (fun YH=>?_) (fun l1 p l2 H3 YH hR3 hE3 qS=>?_)
 ·have T6:kO=[]:=by
   cases kO with
   |nil=>rfl
   |cons a l=>cases YH
  subst T6
  (have fs:=trivial;refine qK ?_;try clear fs);(first|refine aF _ ?_|refine aB _ ?_|skip)
  refine tq trivial ?_;intro Nx aB Gx aF
  rw[iJ] at hp
  exact aD _ _ (.inl rfl) aT (.inl ⟨dn,hp,hj⟩)
 ·obtain⟨t1,t2',e1,e2,e3⟩:=KM.1 YH
  obtain⟨b,t2,e4,e5,e6⟩:=KQ.1 e3
  subst e1 e4 e2 e6 e5
  have VJ:((dn++[b])++(t1++t2)).Perm S:=by
   refine List.Perm.trans ?_ hp
   rw[iR]
   exact PN _ (P2 (l₁:=t1) (l₂:=t2) (a:=b)).symm
  have hR4:TP H3 bm r (SV (t1++t2)):=by
   have:SV (t1++t2)=SV t1++SV t2:=cQ
   rw[this];exact hR3
  obtain⟨y3,hy3⟩:=hE3.obj
  have y8:=aIw hy3 qS
  have hj3:J dn H3:=by
   rw[y8]
   exact hC _ _ _ _ JP (fun z hz=>by obtain⟨y',h⟩:=hR.obj;rw[h] at hz;injection hz with hz;exact⟨_,hz.symm⟩) hj
  (have fs:=trivial;refine qK ?_;try clear fs);(first|refine aF _ ?_|refine aB _ ?_|skip)
  refine tq trivial ?_;intro Nx aB Gx aF
  refine DZ rfl (show(8:Nat)<14 by decide) (by exact f5) hE3 ?_
  (have fs:=And.intro f0 @yD.eq_1;refine qK ?_;try clear fs);(first|refine aF _ ?_|refine aB _ ?_|skip)
  refine tq (dG f0 @yD.eq_1) ?_;intro Nx aB Gx aF
  refine w8 dn b rfl rfl rfl (by simp [DE]) hY (fT _ _) ⟨_,VJ⟩ hj3 rfl (fun H4 hj4 vE=>?_) fun H4 hj4 vE=>?_
  ·have k1:H4 bm=H3 bm:=by
    have h1:=G6 _ _ hj3
    have h2:=G6 _ _ hj4
    rw[h1,h2]
   have k2:H4 r=H3 r:=by rw[hy3];exact vE r y3 JP hy3
   (have fs:=trivial;refine qK ?_;try clear fs);(first|refine aF _ ?_|refine aB _ ?_|skip)
   refine tq trivial ?_;intro Nx aB Gx aF
   exact⟨_,by show(t1++t2).length<(t1++b::t2).length;rw[bN,bN,eO];omega,t1++t2,dn++[b],rfl,aT,f0,f5,hR4.fS k1 k2,hj4,VJ⟩
  ·(have fs:=trivial;refine qK ?_;try clear fs);(first|refine aF _ ?_|refine aB _ ?_|skip)
   refine tq trivial ?_;intro Nx aB Gx aF
   exact aD _ _ (.inr rfl) aT (.inr ⟨_,hj4⟩)
def ApI (H:aC) (c:Nat) (l:List Int) (Hc:aC):Prop:=H.le Hc/\∃x ob,Hc c=some (.row 32 0 1 [[x]])/\Gl H 3 1 (l.map iD) x Hc ob/\ob≠some c
theorem Gl.SB {H0:aC} {e:TypeId} {sz:Nat} {els:List (List D)} {d:D} {H H':aC} {ob:Option Nat} (h:Gl H0 e sz els d H ob) (hr:SB H H'):Gl H0 e sz els d H' ob:=by
 rcases h with h3|⟨c,o,g1,g2,g3,g4⟩
 ·exact .inl h3
 ·exact .inr ⟨c,o,g1,g2,g3,hr _ _ g4 (by simp)⟩
theorem aGo {H0:aC} {e:TypeId} {sz:Nat} {els:List (List D)} {d:D} {H:aC} {ob:Option Nat} {M:Nat} {o:Obj} {x:fK} (h:Gl H0 e sz els d H ob) (hM:H M=some (.obj o)):Gl H0 e sz els d (H.bH M x) ob:=h.fS fun c h1=>aN fun e=>by
 rcases h with⟨g,_⟩|⟨c2,o2,h2,_,_,h4⟩
 ·rw[g] at h1;cases h1
 ·rw[h1] at h2;injection h2 with h2;rw[<-h2,e,hM] at h4;cases h4
theorem aJ7 {gf:FuncId} {eL:List D} {Pf Fn:List Int->Prop} {ok kp:aC->Prop} (it:AN prog gf eL (fun x:Int=>[i64 x]) Pf Fn ok kp) (H:aC) (fI:∀H',H.le H'->ok H') (G6:∀Hc,lU H Hc->kp Hc) (hP:∀l,Pf l->l.length<=1000000000000):
  bE prog 198 [.val (.slice none 0 0),.fn gf eL] H fun d H'=>∃ys ob,Fn ys/\Gl H 3 1 (ys.map iD) d H' ob/\H.le H':=by
 refine xR _ _ func198 rfl rfl ntmps198 results198 (by simp) fun w0 g0 Q aD=>?_
 refine tq trivial ?_;intro Nx aB Gx aF
 intro c2 lH
 refine aB _ ?_
 refine tq trivial ?_;intro Nx aB Gx aF
 have rT:H.le (H.bH c2 (.row 32 0 1 [[.val (.slice none 0 0)]])):=bK (aG _) lH
 refine sR (fun s=>s.df=[]/\s.fr 2=.ep c2 0 1 0 0/\s.fr 6=.fn gf eL/\H.le s.H/\ApI H.DS c2 [] s.H) ⟨rfl,rfl,rfl,rT,mH (L6 H) rT,_,none,aO _ _ _,iW _ _ _ _,by simp⟩ ?_
 rintro s ⟨aT,f2,f6,aY,hI0⟩
 refine sS rfl it f6 (fun H' h=>fI H' (mH aY h)) (by simp) (fun _=>rfl) (fun _=>True) (fun _ _=>trivial) (fun pre=>ApI H.DS c2 pre) (fun _ Hc _ h=>G6 Hc fun b o hb=>h b o trivial (aY _ _ hb)) (fun _ _ _=>False) ?_ ?_ ?_ ?_ ?_ ?_
 ·rintro pre H1 b o _ hz ⟨h1,x,ob,h2,h3,h4⟩
  exact⟨nU (rX H) h1 (s6 hz),x,ob,s6 hz _ _ h2 (by simp),h3.SB (s6 hz),h4⟩
 ·exact fun _ _ _ _ _ _ _ h=>h
 ·exact hI0
 ·rintro l w1 pre x Hc o gk1 _ lP ⟨g1,xs,ob,g2,g3,g4⟩ kN hl
  rw[aIR]
  refine tq (jE eY eX eN bW aT) ?_;intro Nx aB Gx aF
  simp only[eQ]
  refine⟨rfl,fun b o _ h=>h,fun w2 y gk2 _=>?_⟩
  have zB:=hP _ lP
  rw[bN,wB] at zB
  have n2:c2≠l:=fun e=>by rw[e,hl] at g2;cases g2
  have r2:(Hc.bH l (.obj y)) c2=some (.row 32 0 1 [[xs]]):=(aN n2).trans g2
  have g3':Gl H.DS 3 1 (pre.map iD) xs (Hc.bH l (.obj y)) ob:=g3.SB (s7 hl)
  have g1':H.DS.le (Hc.bH l (.obj y)):=nU (rX H) g1 (s7 hl)
  simp only[bW,jN,nA,s5,eX,lX]
  have yJ:uC (fun _=>True) (Hc.bH l (.obj y)) (Hc.bH l (.obj y)):=fun b o _ h=>h
  refine tq (kB f2 eY eX eN bW r2) ?_;intro Nx aB Gx aF
  refine dD (e:=3) kZ rfl kZ rfl PF rfl (by decide) g1' g3' (new:=[iD x]) (by exact⟨rfl,rfl⟩) (by rw[bC];show(_+1) * 8<=_;omega) fun d H6 oG j6 eM nJ=>?_
  have q3:=nJ _ _ r2 g4
  have q31:=q3.1
  have hd6:∃c o n,d=.os c o 1 0 n:=by
   rcases j6 with⟨_,_,h⟩|⟨c,o,_,h,_⟩
   ·simp at h
   ·exact⟨c,o,_,h⟩
  obtain⟨c',o',n',rfl⟩:=hd6
  have e:(pre++[x]).map iD=pre.map iD++[iD x]:=by simp
  (have fs:=And.intro f2 q31;refine qK ?_;try clear fs);(first|refine aF _ ?_|refine aB _ ?_|skip)
  refine⟨rfl,fun b o _ h=>(FF (xE _) g3' nJ).row q31 (by simp) b o h,bK eM (rB lH),_,oG,aO _ _ _,?_,q3.2⟩
  rw[e]
  exact j6.fS fun c h=>aN fun e=>q3.2 (by rw[h,e])
 ·rintro ys Hc M EJ ⟨g1,xs,ob,g2,g3,g4⟩ kN hD NZ
  rw[xP,fP,eQ,aT]
  have TB:c2≠M:=fun e=>by rw[e,hD] at g2;cases g2
  have g1:=vH g1 aY fun b o h=>kN b o trivial h
  have g3:=XY g3 g1
  refine tq (dG f2 g2) ?_;intro Nx aB Gx aF
  refine aD _ _ (.inr rfl) ?_ ?_
  ·(have fs:=f2;refine evG ?_;clear fs)
   exact mk1 hD
  ·(have fs:=f2;refine evG ?_;clear fs)
   rw[J1]
   have iC:H.le (Hc.bH M .hid):=bK g1 (tJ aY NZ)
   exact⟨_,aG _,ys,ob,EJ,aGo g3 hD,iC⟩
 ·exact fun _ _ _ _ _ _ h=>h.elim
theorem aCh {l l':List Int} (h:l.Perm l'):fX l=fX l':=
 List.Perm.eq_of_pairwise (fun a b _ _ h1 h2=>Int.le_antisymm h1 h2) (J9 l) (J9 l') (((F4 l _).trans h).trans (F4 l' _).symm)
theorem aJl {gf:FuncId} {eL:List D} {Pf Fn:List Int->Prop} {ok kp:aC->Prop} (it:AN prog gf eL (fun x:Int=>[i64 x]) Pf Fn ok kp) (H:aC) (fI:∀H',H.le H'->ok H') (G6:∀Hc,lU H Hc->kp Hc) (hP:∀l,Pf l->l.length<=1000000000000):
  bE prog 159 [.fn gf eL] H fun d H'=>∃ys ob,Fn ys/\Gl H 3 1 (ys.map iD) d H' ob/\H.le H':=by
 refine aQ _ _ func159 rfl rfl ntmps159 results159 (by simp) fun w0 g0 Q aD=>?_
 refine tq trivial ?_;intro Nx aB Gx aF
 refine(aJ7 it H fI G6 hP).mono ?_
 rintro d H1 ⟨ys,ob,EJ,hg,aS⟩
 obtain⟨dx,rfl⟩:∃dx,dx=d:=⟨_,rfl⟩
 have hdc:=hg.cells
 refine tq trivial ?_;intro Nx aB Gx aF
 refine rt aD hdc ?_
 exact⟨_,aG _,ys,ob,EJ,hg,aS⟩
theorem aF6 {gf:FuncId} {eL:List D} {Pf Fn:List Int->Prop} {ok kp:aC->Prop} (it:AN prog gf eL (fun x:Int=>[i64 x]) Pf Fn ok kp) (S:List Int) (H:aC) (fI:∀H',H.le H'->ok H') (G6:∀Hc,lU H Hc->kp Hc) (hP:∀l,Pf l->l.length<=1000000000000) (hS:∀l,Fn l->l.Perm S) (hl:S.length<=1000000000000):
  bE prog 118 [.fn gf eL] H fun d H'=>d=.seq 1 ((fX S).map iD)/\H=H':=by
 refine bO (K:=fun d=>d=.seq 1 ((fX S).map iD)) ?_
 refine aQ _ _ func118 rfl rfl ntmps118 results118 (by simp) fun w0 g0 Q aD=>?_
 refine tq trivial ?_;intro Nx aB Gx aF
 refine(aJl it H fI G6 hP).mono ?_
 rintro d H1 ⟨ys,ob,EJ,hg,aS⟩
 have hp:=hS ys EJ
 have hyl:ys.length<=1000000000000:=by rw[hp.length_eq];exact hl
 have hso:=aCh hp
 rcases hg with⟨_,e1,e2⟩|⟨c,o,e0,e1,e2,e3⟩
 ·have hy0:ys=[]:=by simpa using e2
  subst e1
  refine tq trivial ?_;intro Nx aB Gx aF
  refine(KA _).mono ?_
  rintro d _ ⟨rfl,rfl⟩
  refine tq trivial ?_;intro Nx aB Gx aF
  refine rt aD trivial ?_
  exact⟨_,aG _,aS,.seq 1 [],qA,by rw[<-hso,hy0];simp [fX]⟩
 ·rw[bC] at e1
  subst e1
  refine tq trivial ?_;intro Nx aB Gx aF
  refine(KB e3 (by omega)).mono ?_
  rintro d _ ⟨rfl,rfl⟩
  refine tq trivial ?_;intro Nx aB Gx aF
  refine rt aD trivial ?_
  have eM:H.le (H1.bH c (.row 3 o 1 ((fX ys).map iD))):=bK aS e2
  have hnl:=iF ys
  exact⟨_,aG _,eM,_,yY (k:=0) eM (aO _ _ _) e2 (by rw[bC];omega),by rw[jB,cW (by rw[bC];omega),hso]⟩
theorem aKm (bm:Nat) (H:aC):bE prog 119 [.val (.map (some bm))] H fun d H'=>d=.fn 160 [.rp [.val (.map (some bm))]]/\H=H':=by
 refine aQ _ _ func119 rfl rfl ntmps119 results119 (by simp) fun w0 g0 Q aD=>?_
 refine tq trivial ?_;intro Nx aB Gx aF
 intro c1 mA
 refine aB _ ?_
 refine fZ 1 mA ?_
 refine tq trivial ?_;intro Nx aB Gx aF
 refine rt aD trivial ?_
 exact⟨_,aG _,by first|rfl|exact⟨rfl,rfl⟩⟩
end Go.Proofs.YtfiipaodjpiooaaGreatDoor

