/- Lemmas and contracts of functions, several texts in one. -/
import Derived.Test.YtelbfbioomcmeaaGreatDoorQ11
import Derived.Maps.RangeRun
import Derived.ChangeKeysEq
import Derived.Laws.StructEq
import Derived.Lib.ConvBytes
set_option maxRecDepth 100000
set_option maxHeartbeats 4000000
set_option linter.all false
namespace Go.Proofs.YtelbfbioomcmeaaGreatDoor
open Go.RowKit
deriving instance DecidableEq for cQ
theorem JI {α:Type} {p:List α->Prop} (h0:p []) (h1:∀l a,p l->p (l++[a])) (l:List α):p l:=by
 have h:∀l:List α,p l.reverse:=fun l=>by
  induction l with
  |nil=>exact h0
  |cons a l ih=>rw[List.reverse_cons];exact h1 _ _ ih
 have:=h l.reverse
 rwa[List.reverse_reverse] at this
def sE (t:cQ):List cQ->Nat->Int
 |[],_=> -1
 |x::xs,i=>if x=t then (i:Int) else sE t xs (i+1)
theorem QA {t:cQ}:∀{l:List cQ} {i:Nat},t∉l->sE t l i= -1
 |[],_,_=>rfl
 |x::xs,i,h=>by
  rw[sE,aD (fun e=>h (by simp [e]))]
  exact QA fun hm=>h (jR _ hm)
theorem V0 {t:cQ}:∀{l:List cQ} {i:Nat},t∈l->(i:Int)<=sE t l i
 |x::xs,i,h=>by
  rw[sE]
  by_cases e:x=t
  ·rw[aH e];exact pU _
  ·rw[aD e]
   have:=V0 (i:=i+1) (show t∈xs by rcases eG.1 h with h|h;exact absurd h.symm e;exact h)
   omega
theorem P9 {t:cQ} {l:List cQ}:0<=sE t l 0↔t∈l:=by
 by_cases h:t∈l
 ·exact⟨fun _=>h,fun _=>V0 h⟩
 ·rw[QA h];exact⟨fun h=>by omega,fun h'=>absurd h' h⟩
def qQ (d:List Int) (k:Int) (f:Int):Int:=max k (d.getD f.toNat 0)
def qB (d:List Int) (t:cQ):Int:=t.ar.foldl (qQ d) (if t.k=3 then d.getD t.e.toNat 0 else 0)
def gX (ts:List cQ):List Int:=ts.foldl (fun d t=>d++[qB d t+1]) []
theorem uM (ts:List cQ) (t:cQ):gX (ts++[t])=gX ts++[qB (gX ts) t+1]:=by
 unfold gX;rw[zV];rfl
theorem xP (ts:List cQ):(gX ts).length=ts.length:=by
 induction ts using JI with
 |h0=>rfl
 |h1 ts t ih=>rw[uM,bJ,bJ,ih];rfl
theorem V2 {d:List Int} {b:Int} (hd:∀x∈d,x<=b) (h0:0<=b):∀(l:List Int) (k:Int),k<=b->l.foldl (qQ d) k<=b
 |[],k,h=>h
 |f::l,k,h=>by
  rw[DP]
  refine V2 hd h0 l _ ?_
  unfold qQ
  have:d.getD f.toNat 0<=b:=by
   rw[l6]
   cases e:d[f.toNat]? with
   |none=>exact h0
   |some x=>exact hd x (jQ e)
  omega
theorem V1 {d:List Int}:∀(l:List Int) (k:Int),k<=l.foldl (qQ d) k/\∀f∈l,d.getD f.toNat 0<=l.foldl (qQ d) k
 |[],k=>⟨pU _,fun f hf=>by cases hf⟩
 |f::l,k=>by
  rw[DP]
  have h:=V1 (d:=d) l (qQ d k f)
  refine⟨Int.le_trans (by unfold qQ;omega) h.1,fun g hg=>?_⟩
  rcases eG.1 hg with rfl|hg
  ·exact Int.le_trans (by unfold qQ;omega) h.1
  ·exact h.2 g hg
theorem aDi {d:List Int} {b:Int} (hd:∀x∈d,x<=b) (h0:0<=b) (i:Nat):d.getD i 0<=b:=by
 rw[l6]
 cases e:d[i]? with
 |none=>exact h0
 |some x=>exact hd x (jQ e)
theorem V3 {d:List Int} {b:Int} (hd:∀x∈d,b<=x) (h0:b<=0) (i:Nat):b<=d.getD i 0:=by
 rw[l6]
 cases e:d[i]? with
 |none=>exact h0
 |some x=>exact hd x (jQ e)
theorem GY {d:List Int} {b:Int} (hd:∀x∈d,x<=b) (h0:0<=b) (t:cQ):qB d t<=b:=by
 unfold qB
 refine V2 hd h0 _ _ ?_
 split
 ·exact aDi hd h0 _
 ·exact h0
theorem GX {d:List Int} (hd:∀x∈d,0<=x) (t:cQ):0<=qB d t:=by
 unfold qB
 refine Int.le_trans ?_ (V1 _ _).1
 split
 ·exact V3 hd (pU _) _
 ·exact pU _
theorem GO (ts:List cQ):∀x∈gX ts,1<=x/\x<=ts.length:=by
 induction ts using JI with
 |h0=>intro x hx;simp [gX] at hx
 |h1 ts t ih=>
  intro x hx
  rw[uM] at hx
  rw[bJ]
  simp only[nT]
  rcases cS.1 hx with hx|hx
  ·have:=ih x hx;omega
  ·rw[eS] at hx
   subst hx
   have h1:=GY (b:=ts.length) (fun x hx=>(ih x hx).2) (by omega) t
   have h2:=GX (fun x hx=>by have:=ih x hx;omega) t
   omega
theorem YL {ts:List cQ} {n:Nat} (h:n<ts.length):gX (ts.take (n+1))=gX (ts.take n)++[qB (gX (ts.take n)) ts[n]+1]:=by
 rw[dH h,uM]
theorem aAo (ts us:List cQ):∃x,gX (ts++us)=gX ts++x:=by
 induction us using JI with
 |h0=>exact⟨[],by simp⟩
 |h1 us u ih=>
  obtain⟨x,hx⟩:=ih
  exact⟨x++[qB (gX (ts++us)) u+1],by rw[<-dN,uM,hx,dN]⟩
theorem aAn {ts:List cQ} {i n:Nat} (hi:i<n) (hn:n<=ts.length):(gX (ts.take n))[i]?=(gX ts)[i]?:=by
 obtain⟨x,hx⟩:=aAo (ts.take n) (ts.drop n)
 rw[kV] at hx
 rw[hx,nS (by rw[xP,dJ];omega)]
def H8 (ts:List cQ) (i:Int):Int:=if dG ts.length i then (gX ts).getD i.toNat 0 else 0
open Classical in
noncomputable def vI (ps:List cQ) (n:Int) (t:cQ):Nat:=
 if t.k<0\/4<t.k then 14
 else if (t.k≠3/\(t.m=true\/t.r≠0\/t.e≠0))\/(t.k≠4/\0<t.ar.length) then 2
 else if t.k=3/\(t.r<0\/n<=t.r\/t.e<0\/(ps.length:Int)<=t.e) then 3
 else if ∃f∈t.ar,f<0\/(ps.length:Int)<=f then 3
 else if t.k=4/\(t.ar.length=0\/65535<t.ar.length) then 15
 else if 32<qB (gX ps) t+1 then 19
 else if t∈ps then 21
 else 0
noncomputable def tW (n:Int):List cQ->List cQ->Nat
 |_,[]=>0
 |ps,t::ts=>if vI ps n t=0 then tW n (ps++[t]) ts else vI ps n t
noncomputable def wV (ts:List cQ) (n:Int):Nat:=if 65535<ts.length then 15 else tW n [] ts
structure Ok1 (ps:List cQ) (n:Int) (t:cQ):Prop where
 k0:0<=t.k
 k4:t.k<=4
 pl:t.k≠3->t.m=false/\t.r=0/\t.e=0
 fl:t.k≠4->t.ar=[]
 rr:t.k=3->0<=t.r/\t.r<n/\0<=t.e/\t.e<ps.length
 fr:∀f∈t.ar,0<=f/\f<ps.length
 tl:t.k=4->0<t.ar.length/\t.ar.length<=65535
 dp:qB (gX ps) t+1<=32
 nw:t∉ps
theorem VJ {ps:List cQ} {n:Int} {t:cQ}:vI ps n t=0↔Ok1 ps n t:=by
 unfold vI
 by_cases h1:t.k<0\/4<t.k
 ·rw[aH h1];exact⟨fun h=>(by cases h),fun h=>by have:=h.k0;have:=h.k4;omega⟩
 rw[aD h1]
 by_cases h2:(t.k≠3/\(t.m=true\/t.r≠0\/t.e≠0))\/(t.k≠4/\0<t.ar.length)
 ·rw[aH h2]
  refine⟨fun h=>(by cases h),fun h=>?_⟩
  rcases h2 with⟨a,b⟩|⟨a,b⟩
  ·have:=h.pl a
   rcases b with b|b|b
   ·rw[this.1] at b;cases b
   ·exact absurd this.2.1 b
   ·exact absurd this.2.2 b
  ·rw[h.fl a] at b;simp at b
 rw[aD h2]
 by_cases h3:t.k=3/\(t.r<0\/n<=t.r\/t.e<0\/(ps.length:Int)<=t.e)
 ·rw[aH h3];exact⟨fun h=>(by cases h),fun h=>by have:=h.rr h3.1;omega⟩
 rw[aD h3]
 by_cases h4:∃f∈t.ar,f<0\/(ps.length:Int)<=f
 ·rw[aH h4];exact⟨fun h=>(by cases h),fun h=>by obtain⟨f,hf,hb⟩:=h4;have:=h.fr f hf;omega⟩
 rw[aD h4]
 by_cases h5:t.k=4/\(t.ar.length=0\/65535<t.ar.length)
 ·rw[aH h5];exact⟨fun h=>(by cases h),fun h=>by have:=h.tl h5.1;omega⟩
 rw[aD h5]
 by_cases h6:32<qB (gX ps) t+1
 ·rw[aH h6];exact⟨fun h=>(by cases h),fun h=>by have:=h.dp;omega⟩
 rw[aD h6]
 by_cases h7:t∈ps
 ·rw[aH h7];exact⟨fun h=>(by cases h),fun h=>absurd h7 h.nw⟩
 rw[aD h7]
 refine⟨fun _=>⟨by omega,by omega,fun h=>?_,fun h=>?_,fun h=>?_,fun f hf=>?_,fun h=>by omega,by omega,h7⟩,fun _=>rfl⟩
 ·have h8:¬(t.m=true\/t.r≠0\/t.e≠0):=fun h9=>h2 (.inl ⟨h,h9⟩)
  refine⟨by simpa using fun h9=>h8 (.inl h9),?_,?_⟩
  ·exact kF fun h9=>h8 (.inr (.inl h9))
  ·exact kF fun h9=>h8 (.inr (.inr h9))
 ·have h8:¬0<t.ar.length:=fun h9=>h2 (.inr ⟨h,h9⟩)
  exact gP (by omega)
 ·have h8:¬(t.r<0\/n<=t.r\/t.e<0\/(ps.length:Int)<=t.e):=fun h9=>h3 ⟨h,h9⟩
  omega
 ·have h8:¬(f<0\/(ps.length:Int)<=f):=fun h9=>h4 ⟨f,hf,h9⟩
  omega
theorem GM {n:Int}:∀{ts ps:List cQ},tW n ps ts=0↔∀i (h:i<ts.length),Ok1 (ps++ts.take i) n ts[i]
 |[],ps=>⟨fun _ i h=>by simp at h,fun _=>rfl⟩
 |t::ts,ps=>by
  rw[tW]
  by_cases h:vI ps n t=0
  ·rw[aH h,GM]
   constructor
   ·intro h1 i hi
    cases i with
    |zero=>simpa using VJ.1 h
    |succ i=>simpa using h1 i (by simpa using hi)
   ·intro h1 i hi
    have h2:Ok1 (ps++(t::ts).take (i+1)) n ts[i]:=h1 (i+1) (by simpa using hi)
    simpa using h2
  ·rw[aD h]
   refine⟨fun h1=>absurd h1 h,fun h1=>absurd (VJ.2 ?_) h⟩
   have h2:Ok1 (ps++(t::ts).take 0) n t:=h1 0 (by simp)
   simpa using h2
theorem VL {ts:List cQ} {n:Int}:wV ts n=0↔ts.length<=65535/\∀i (h:i<ts.length),Ok1 (ts.take i) n ts[i]:=by
 unfold wV
 by_cases h:65535<ts.length
 ·rw[aH h];exact⟨fun h=>(by cases h),fun h'=>by omega⟩
 ·rw[aD h,GM]
  simp only[fR]
  exact⟨fun h'=>⟨by omega,h'⟩,fun h'=>h'.2⟩
theorem DB {ts:List cQ} {n:Int} (h:∀i (h:i<ts.length),Ok1 (ts.take i) n ts[i]):vY ts:=fun i hi=>by
 have h1:=h i hi
 have e:(ts.take i).length=i:=by rw[dJ];omega
 refine⟨fun hk=>?_,fun x hx=>?_⟩
 ·have:=h1.rr hk;rw[e] at this;omega
 ·have:=h1.fr x hx;rw[e] at this;omega
theorem aCx {ts:List cQ} (h:vY ts) (n:Nat):vY (ts.take n):=fun i hi=>by
 rw[dJ] at hi
 have:=h i (by omega)
 rw[List.getElem_take]
 exact this
theorem DZ {n:Int}:∀{ts ps:List cQ} {t:cQ},tW n ps ts=0->tW n ps (ts++[t])=vI (ps++ts) n t
 |[],ps,t,_=>by
  rw[fR,kX,tW]
  by_cases h:vI ps n t=0
  ·rw[aH h,h];rfl
  ·rw[aD h]
 |u::ts,ps,t,h=>by
  rw[tW] at h
  by_cases h1:vI ps n u=0
  ·rw[aH h1] at h
   rw[eT,tW,aH h1,DZ h]
   simp
  ·rw[aD h1] at h;exact absurd h h1
theorem HU {n:Int}:∀{ts us ps:List cQ},tW n ps ts≠0->tW n ps (ts++us)=tW n ps ts
 |[],us,ps,h=>absurd rfl h
 |t::ts,us,ps,h=>by
  rw[tW] at h
  rw[eT,tW,tW]
  by_cases h1:vI ps n t=0
  ·rw[aH h1] at h ⊢
   rw[aH h1,HU h]
  ·rw[aD h1,aD h1]
end Go.Proofs.YtelbfbioomcmeaaGreatDoor
namespace Go.Proofs.YtelbfbioomcmeaaGreatDoor
open Go.ChangeMaps (setBlock)
open Go.RowKit
def Rng (H:aA) (b r:Nat) (aFN:List (Value×Value)):Prop:=
 ∃es kJ AZ seen c0,H b=some (.obj (.map es kJ))/\H r=some (.obj (.mapIter (some b) AZ seen c0))/\(∀x∈es.toList,x.born<AZ)/\AZ<=c0/\AZ<=kJ/\
  (es.toList.map (·.born)).Nodup/\aFN=(leftOf es seen).toList.map fun e=>(e.key,e.val)
def aFr (H:aA) (b r:Nat) (p:Value×Value):Prop:=
 ∃(es:Array MapEntry) (kJ AZ:Nat) (seen:Array Nat) (e:MapEntry),H b=some (.obj (.map es kJ))/\H r=some (.obj (.mapIter (some b) AZ (seen.push e.born) kJ))/\e∈es.toList/\(es.toList.map (·.born)).Nodup/\p=(e.key,e.val)
theorem Rng.jY {H H':aA} {b r:Nat} {aFN:List (Value×Value)} (h:Rng H b r aFN) (hb:H' b=H b) (hr:H' r=H r):Rng H' b r aFN:=by
 obtain⟨es,kJ,AZ,seen,c0,h1,h2,h3⟩:=h
 exact⟨es,kJ,AZ,seen,c0,hb.trans h1,hr.trans h2,h3⟩
theorem aFr.jY {H H':aA} {b r:Nat} {p:Value×Value} (h:aFr H b r p) (hb:H' b=H b) (hr:H' r=H r):aFr H' b r p:=by
 obtain⟨es,kJ,AZ,seen,e,h1,h2,h3⟩:=h
 exact⟨es,kJ,AZ,seen,e,hb.trans h1,hr.trans h2,h3⟩
end Go.Proofs.YtelbfbioomcmeaaGreatDoor
namespace Go.Proofs.YtelbfbioomcmeaaGreatDoor
open Go.RowKit
def bX (s:ByteArray):D:=.val (.string s)
def sD (s:ByteArray):List D:=[bX s]
def fC (n:Nat):Prop:=n<=140737488351232
theorem fG {a b:ByteArray}:a.toList=b.toList↔a=b:=by
 constructor
 ·intro h
  rw[ByteArray.toList_eq,ByteArray.toList_eq] at h
  obtain⟨⟨x⟩⟩:=a
  obtain⟨⟨y⟩⟩:=b
  simp only at h
  rw[h]
 ·rintro rfl;rfl
theorem mB {α:Type} {f:α->List D} {l:List α} {i:Nat} (h:i<l.length):(l.map f)[i]?=some (f l[i]):=by
 rw[cR,cP h];rfl
theorem SH (p:Prop):∃b,p=b/\((b=True/\p)\/(b=False/\¬p)):=⟨p,rfl,by by_cases h:p <;> simp [h]⟩
theorem jG {l:List ByteArray} {i:Nat} (h:i<l.length):(l.map sD)[i]?=some [.val (.string l[i])]:=by
 rw[cR,cP h];rfl
structure pO where
 lo:Int
 pr:List (Int×Int)
deriving DecidableEq
structure tE where
 k:Int
 pl:pO
 n:Int
deriving DecidableEq
structure HN where
 k:Int
 op:Int
 rg:Int
 mu:Bool
 pl:pO
 ar:List tE
deriving DecidableEq
structure StS where
 k:Int
 pl:pO
 rv:HN
 lo:Int
deriving DecidableEq
structure PM where
 k:Int
 tg:List Int
 ar:List tE
 pl:pO
 nm:ByteArray
deriving DecidableEq
structure BkS where
 st:List StS
 tm:PM
deriving DecidableEq
structure tD where
 nm:ByteArray
 ty:Int
deriving DecidableEq
structure iF where
 nm:ByteArray
 rg:List ByteArray
 ol:List (Int×Int)
 ty:List cQ
 lc:List tD
 ag:Int
 bl:List BkS
deriving DecidableEq
def kT (p:pO):List D:=[i64 p.lo,.seq 2 (p.pr.map pD)]
def jL (o:tE):List D:=[i64 o.k,i64 o.pl.lo,.seq 2 (o.pl.pr.map pD),i64 o.n]
def GF (r:HN):List D:=[i64 r.k,i64 r.op,i64 r.rg,.val (.bool r.mu),i64 r.pl.lo,.seq 2 (r.pl.pr.map pD),.seq 4 (r.ar.map jL)]
def J4 (s:StS):List D:=[i64 s.k,i64 s.pl.lo,.seq 2 (s.pl.pr.map pD),i64 s.rv.k,i64 s.rv.op,i64 s.rv.rg,.val (.bool s.rv.mu),i64 s.rv.pl.lo,.seq 2 (s.rv.pl.pr.map pD),.seq 4 (s.rv.ar.map jL),i64 s.lo]
def SI (t:PM):List D:=[i64 t.k,.seq 1 (t.tg.map iD),.seq 4 (t.ar.map jL),i64 t.pl.lo,.seq 2 (t.pl.pr.map pD),bX t.nm]
def rE (b:BkS):List D:=[.seq 11 (b.st.map J4),i64 b.tm.k,.seq 1 (b.tm.tg.map iD),.seq 4 (b.tm.ar.map jL),i64 b.tm.pl.lo,.seq 2 (b.tm.pl.pr.map pD),bX b.tm.nm]
def lI (l:tD):List D:=[bX l.nm,i64 l.ty]
def iG (b:iF):List D:=[bX b.nm,.seq 1 (b.rg.map sD),.seq 2 (b.ol.map pD),.seq 5 (b.ty.map cE),.seq 2 (b.lc.map lI),i64 b.ag,.seq 7 (b.bl.map rE)]
def RS (p:pO):Prop:=fC p.pr.length
def KM (o:tE):Prop:=RS o.pl
def KN (r:HN):Prop:=RS r.pl/\fC r.ar.length/\∀o∈r.ar,KM o
def aE4 (s:StS):Prop:=RS s.pl/\KN s.rv
def ZX (t:PM):Prop:=fC t.tg.length/\(fC t.ar.length/\∀o∈t.ar,KM o)/\RS t.pl
def aJ6 (b:BkS):Prop:=(fC b.st.length/\∀s∈b.st,aE4 s)/\ZX b.tm
def aJ7 (l:List cQ):Prop:=fC l.length/\∀t∈l,fC t.ar.length
def RR (b:iF):Prop:=fC b.rg.length/\fC b.ol.length/\aJ7 b.ty/\fC b.lc.length/\fC b.bl.length/\∀x∈b.bl,aJ6 x
theorem AD.aAd {w:World} {S:Nat->Prop}:∀{ds es:List D} {vs:List Value},AD ds es->aU w S ds vs->aU w S es vs
 |[],[],vs,_,h=>by simp only[aU] at h ⊢;exact h
 |d::ds,e::es,vs,hv,h=>by
  simp only[aU] at h ⊢
  obtain⟨u,us,rfl,h0,h1,h2⟩:=h
  exact⟨u,us,rfl,h0,hv.1 w S u h1,AD.aAd hv.2 h2⟩
 |[],_::_,_,hv,_=>hv.elim
 |_::_,[],_,hv,_=>hv.elim
theorem aBo {ds es:List D} (h:AD ds es):Imp (.agg ds) (.agg es):=fun w S v hv=>by
 simp only[D.is] at hv ⊢
 obtain⟨vs,rfl,h1⟩:=hv
 exact⟨vs,rfl,h.aAd h1⟩
theorem J6.imp {H H':aA} {d d0 d1:D} (h:J6 H H' d d0) (h2:Imp d0 d1):J6 H H' d d1:=fun w v hH hv=>h2 _ _ _ (h w v hH hv)
theorem MK {cx:Cx} {x:Code} {N:St->Prop} {Q:Exit->St->Prop} {s:St} (M:St->Prop) (h1:W cx x (iV M (fun _ _=>False)) s) (h2:∀s,M s->N s):W cx x (iV N Q) s:=
 sA h1 fun e s' q=>by cases e <;> first|exact h2 s' q|exact q.elim
theorem AS {cx:Cx} {x:Code} {N:St->Prop} {Q:Exit->St->Prop} {s:St} (M:St->Prop) (h1:W cx x (iV M (fun e s'=>e≠ .normal/\Q e s')) s) (h2:∀s,M s->N s):W cx x (iV N Q) s:=
 sA h1 fun e s' q=>by cases e <;> first|exact h2 s' q|exact q.2
open Tryz
theorem aAV {cx:Cx} {o:Oper} {K:St->Prop} {s:St} {a b e:TypeId} {x:Operand} (tA:o.op=.convert a b x) (hx:s.ev x=.val (.string ByteArray.empty)) (ha:cx.P.underlying a=some .string) (hb:cx.P.underlying b=some (.slice e)) (he:cx.P.underlying e=some (.int .u8)) (hd:BS cx.n o.dst)
  (hk:K (s.put o.dst (.seq 1 []))):WO cx o K s:=r9 (by simp [tA]) hd fun ac w m=>by
 have hv:=m.uA x
 rw[hx] at hv
 simp only[D.is] at hv
 have uW:=Lib.run_convert_string_bytes w a b e ByteArray.empty ha hb he
 have hat:=fun j hj=>Lib.bytesWorld_at_old w e ByteArray.empty j hj
 have iP:Ev s.H w s.H (Lib.bytesWorld w e ByteArray.empty):=by
  refine⟨?_,?_,?_,by rw[Lib.bytesWorld_size];omega,fun c hc hn=>⟨hat c hc,hn⟩,fun c cs t fr hc=>⟨cs,fr,(hat c (nR.1 hc).1).trans hc,rfl⟩⟩ <;> simp [Lib.bytesWorld,World.freeze,World.alloc,World.drew,-World.alloc_eq,-World.drew_eq]
 refine⟨.slice (some ⟨w.heap.size,0,none⟩) ByteArray.empty.size (grownCap w ByteArray.empty.size 0 e),_,.seq 1 [],s.H,by simp only[execOp,tA,hv,Sem.run_bind,uW,Result.andThen,Sem.run_pure],?_,fun c y hc=>iP.rC (hat c (m.H.lt hc)) (m.H c y hc),iP,hk⟩
 simp only[D.is]
 exact⟨_,_,rfl,tV _,.inl trivial⟩
def aDE (b:iF) (C:Int):Prop:=C≠0/\∀H,aT prog 22 [.agg (iG b)] H fun d H'=>d=i64 C/\H=H'
section
variable {b:iF} {C:Int} (h:aDE b C) (H:aA)
include h
theorem aBD:aT prog 11 [.agg (iG b)] H fun d H'=>d=.fV [.val (.slice none 0 0),i64 16]/\H=H':=by
 obtain⟨fP,hc⟩:=h
 have q1:(C=0)=False:=aI fP
 unfold iG at hc ⊢
 refine aN _ _ func11 rfl rfl ntmps11 results11 (by simp) fun w0 g0 Q aC=>?_
 refine tq trivial ?_;intro Nx aB Gx aG
 intro c1 l9
 refine aB _ ?_
 refine fW 1 l9 ?_
 refine tq trivial ?_;intro Nx aB Gx aG
 refine(hc _).mono ?_
 rintro d _ ⟨rfl,rfl⟩
 refine tq q1 ?_;intro Nx aB Gx aG
 refine rt aC trivial ?_
 exact⟨_,aE _,rfl⟩
theorem aHe:aT prog 132 [.agg (iG b)] H fun d H'=>d=.fV [bX ByteArray.empty,i64 16]/\H=H':=by
 obtain⟨fP,hc⟩:=h
 have q1:(C=0)=False:=aI fP
 unfold iG at hc ⊢
 refine aN _ _ func132 rfl rfl ntmps132 results132 (by simp) fun w0 g0 Q aC=>?_
 refine tq trivial ?_;intro Nx aB Gx aG
 intro c1 l9
 refine aB _ ?_
 refine fW 1 l9 ?_
 refine tq trivial ?_;intro Nx aB Gx aG
 refine(hc _).mono ?_
 rintro d _ ⟨rfl,rfl⟩
 refine tq q1 ?_;intro Nx aB Gx aG
 refine rt aC trivial ?_
 exact⟨_,aE _,rfl,rfl⟩
theorem aHg:aT prog 59 [.agg (iG b)] H fun d H'=>d=.fV [.seq 1 [],i64 16]/\H=H':=by
 refine bM (K:=fun d=>d=.fV [.seq 1 [],i64 16]) ?_
 have hp:=fun H1=>aHe h H1
 unfold iG bX at *
 refine aN _ _ func59 rfl rfl ntmps59 results59 (by simp) fun w0 g0 Q aC=>?_
 refine tq trivial ?_;intro Nx aB Gx aG
 intro c1 l9
 refine aB _ ?_
 refine fW 1 l9 ?_
 refine tq trivial ?_;intro Nx aB Gx aG
 refine(hp _).mono ?_
 rintro d _ ⟨rfl,rfl⟩
 (have fs:=trivial;(iterate 2 (first|refine aG _ ?_|refine aB _ ?_|refine cX ?_|refine cW ?_|refine eH ?_|refine cF ?_|refine cG ?_|refine cC ?_|refine bO ?_|((first|refine tS fun Nx aB=>?_|refine mE rfl rfl (by kernel_rfl) (by kernel_rfl) fun Gx aG=>?_|refine cD (by kernel_rfl) ?_|refine lJ fun A B vJ vK=>?_);refine yR ?_;(first|refine aG _ ?_|refine aB _ ?_|refine vJ ?_|refine vK ?_|skip))));(try clear fs))
 (have fs:=trivial;refine VD (1) (by kernel_rfl) ?_;refine CL ?_;(try clear fs))
 refine tF rfl (aAV rfl rfl (e:=5) (by kernel_rfl) (by kernel_rfl) (by kernel_rfl) (by simp [BS]) ?_)
 refine tq trivial ?_;intro Nx aB Gx aG
 refine rt aC trivial ?_
 exact⟨_,aE _,aE _,_,aJ (aE _),rfl⟩
theorem aHv:aT prog 58 [.agg (iG b)] H fun d H'=>d=.fV [.val (.slice none 0 0),i64 16]/\H=H':=by
 have hp:=fun H1=>aBD h H1
 unfold iG at *
 refine aN _ _ func58 rfl rfl ntmps58 results58 (by simp) fun w0 g0 Q aC=>?_
 refine tq trivial ?_;intro Nx aB Gx aG
 intro c1 l9
 refine aB _ ?_
 refine fW 1 l9 ?_
 refine tq trivial ?_;intro Nx aB Gx aG
 refine(hp _).mono ?_
 rintro d _ ⟨rfl,rfl⟩
 refine tq trivial ?_;intro Nx aB Gx aG
 refine rt aC trivial ?_
 exact⟨_,aE _,rfl⟩
theorem aIB (i:Nat) (hi:i<3):aT prog 18 [.agg (iG b),i64 i] H fun d H'=>d=.fV [.seq 1 [],i64 16]/\H=H':=by
 have h0:∀H1,aT prog 11 [.agg (iG b)] H1 fun d H'=>d=.fV [.seq 1 [],i64 16]/\H1=H':=fun H1=>(aBD h H1).post fun d H' ⟨h1,h2⟩=>⟨_,H',aE _,by subst h1;exact pS (TT yT (aJ (aE _))),rfl,h2⟩
 have h1:∀H1,aT prog 58 [.agg (iG b)] H1 fun d H'=>d=.fV [.seq 1 [],i64 16]/\H1=H':=fun H1=>(aHv h H1).post fun d H' ⟨h1,h2⟩=>⟨_,H',aE _,by subst h1;exact pS (TT yT (aJ (aE _))),rfl,h2⟩
 have h2:=fun H1=>aHg h H1
 have q1:((i:Int)<0)=False:=aI (by omega)
 have q2:((3:Int)<=(i:Int))=False:=aI (by omega)
 unfold iG at *
 rcases i with _|_|_|i
 all_goals (try omega)
 all_goals
  refine aN _ _ func18 rfl rfl ntmps18 results18 (by simp) fun w0 g0 Q aC=>?_
  refine tq trivial ?_;intro Nx aB Gx aG
  intro c1 l9
  refine aB _ ?_
  refine fW 2 l9 ?_
  refine tq trivial ?_;intro Nx aB Gx aG
  intro c6 JX
  refine aB _ ?_
  refine tq (cZ q1 q2) ?_;intro Nx aB Gx aG
  refine dE (fun _ _ d A=>A=.none/\d=.fV [.seq 1 [],i64 16]) fun Nx aB=>?_;refine dst trivial ?_;intro Nx aB Gx aG
  refine⟨bN fun eL _=>by first|exact h0 eL|exact h1 eL|exact h2 eL,?_⟩
  refine dst trivial ?_;intro Nx aB Gx aG
  refine tq trivial ?_;intro Nx aB Gx aG
  refine rt aC trivial ?_
  exact⟨H,bQ (aE _) JX,rfl⟩
end
section
variable {b:iF} {C:Int} (h:aDE b C) (H:aA)
include h
theorem aBM:aT prog 19 [.agg (iG b)] H fun d H'=>d=.fV [.agg [.val (.slice none 0 0),.val (.slice none 0 0),.val (.slice none 0 0),.val (.slice none 0 0),.val (.slice none 0 0)],i64 16]/\H=H':=by
 obtain⟨fP,hc⟩:=h
 have q1:(C=0)=False:=aI fP
 unfold iG at hc ⊢
 refine aN _ _ func19 rfl rfl ntmps19 results19 (by simp) fun w0 g0 Q aC=>?_
 refine tq trivial ?_;intro Nx aB Gx aG
 intro c1 l9 c2 pZ
 refine aB _ ?_
 obtain⟨n21,aXM⟩:=bT.1 pZ
 refine bS 1 rfl (b:=c1) (by simp only[kN,oH];rw[aP (Ne.symm n21),aQ]) rfl ?_
 simp only[St.gU,kN,gV,oH,lV,pK (Ne.symm n21),nV,oU l9,List.drop]
 refine tq trivial ?_;intro Nx aB Gx aG
 refine(hc _).mono ?_
 rintro d _ ⟨rfl,rfl⟩
 refine tq q1 ?_;intro Nx aB Gx aG
 refine rt aC trivial ?_
 have kL:=fun z=>bQ (x:=z) (aE H) aXM
 exact⟨H,kL _,by first|rfl|exact⟨rfl,rfl⟩⟩
theorem aJ0:aT prog 13 [.agg (iG b)] H fun d H'=>d=.fV [.val (.slice none 0 0),i64 16]/\H=H':=by
 have hc:=fun H1=>aBM h H1
 unfold iG at hc ⊢
 refine aN _ _ func13 rfl rfl ntmps13 results13 (by simp) fun w0 g0 Q aC=>?_
 refine tq trivial ?_;intro Nx aB Gx aG
 intro c1 l9
 refine aB _ ?_
 refine fW 1 l9 ?_
 refine tq trivial ?_;intro Nx aB Gx aG
 refine(hc _).mono ?_
 rintro d _ ⟨rfl,rfl⟩
 refine tq trivial ?_;intro Nx aB Gx aG
 intro c4 wQ
 refine aB _ ?_
 refine fW 4 wQ ?_
 refine tq trivial ?_;intro Nx aB Gx aG
 refine rt aC trivial ?_
 exact⟨_,aE _,by first|rfl|exact⟨rfl,rfl⟩⟩
theorem aJh:aT prog 20 [.agg (iG b)] H fun d H'=>d=.fV [.val (.slice none 0 0),i64 16]/\H=H':=by
 have hc:=fun H1=>aJ0 h H1
 unfold iG at hc ⊢
 refine aN _ _ func20 rfl rfl ntmps20 results20 (by simp) fun w0 g0 Q aC=>?_
 refine tq trivial ?_;intro Nx aB Gx aG
 intro c1 l9
 refine aB _ ?_
 refine fW 1 l9 ?_
 refine tq trivial ?_;intro Nx aB Gx aG
 refine(hc _).mono ?_
 rintro d _ ⟨rfl,rfl⟩
 refine tq trivial ?_;intro Nx aB Gx aG
 refine rt aC trivial ?_
 exact⟨_,aE _,by first|rfl|exact⟨rfl,rfl⟩⟩
theorem aJa:aT prog 21 [.agg (iG b)] H fun d H'=>d=.fV [bX ByteArray.empty,i64 16]/\H=H':=by
 have hc:=fun H1=>aBM h H1
 unfold iG at hc ⊢
 unfold bX at *
 refine aN _ _ func21 rfl rfl ntmps21 results21 (by simp) fun w0 g0 Q aC=>?_
 refine tq trivial ?_;intro Nx aB Gx aG
 intro c1 l9
 refine aB _ ?_
 refine fW 1 l9 ?_
 refine tq trivial ?_;intro Nx aB Gx aG
 refine(hc _).mono ?_
 rintro d _ ⟨rfl,rfl⟩
 refine tq trivial ?_;intro Nx aB Gx aG
 intro c4 wQ
 refine aB _ ?_
 refine fW 4 wQ ?_
 refine tq trivial ?_;intro Nx aB Gx aG
 refine rt aC trivial ?_
 exact⟨_,aE _,by first|rfl|exact⟨rfl,rfl⟩⟩
end
theorem aFL:TA prog 170 [.rp [.val (.slice none 0 0),.val (.slice none 0 0),.val (.slice none 0 0),.val (.slice none 0 0),.val (.slice none 0 0)],.rp [i64 0],.rp [i64 0]] (fun _:Nat=>[.agg [.val (.slice none 0 0),i64 0,i64 0]]) (List.range 4) fun _=>True:=by
 refine N3 _ func170 rfl rfl ntmps170 results170 (by simp) fun l J Jx H w0 g0 Q eX hJ hY aC=>?_
 have hF:∀(x:aA) (k:Nat),k<4->J (List.range (k+1)) x\/Jx (List.range (k+1)) x->True:=fun _ _ _ _=>trivial
 (have fs:=trivial;(iterate 2 (first|refine aG _ ?_|refine aB _ ?_|refine cX ?_|refine cW ?_|refine eH ?_|refine cF ?_|refine cG ?_|refine cC ?_|refine bO ?_|((first|refine tS fun Nx aB=>?_|refine mE rfl rfl (by kernel_rfl) (by kernel_rfl) fun Gx aG=>?_|refine cD (by kernel_rfl) ?_|refine lJ fun A B vJ vK=>?_);refine yR ?_;(first|refine aG _ ?_|refine aB _ ?_|refine vJ ?_|refine vK ?_|skip))));(try clear fs))
 rw[fL]
 (have fs:=@yD.eq_1;refine VD (6) (by kernel_rfl) ?_;refine CL ?_;(try clear fs))
 refine tF rfl (pW [] 0 rfl rfl rfl (by simp [BS]) hY (by decide) hJ rfl (fun H1 hj1=>?_) fun H1 hj1=>?_)
 ·refine tq trivial ?_;intro Nx aB Gx aG
  refine pW [0] 1 rfl rfl rfl (by simp [BS]) hY (by decide) hj1 rfl (fun H2 JZ=>?_) fun H2 JZ=>?_
  ·refine tq trivial ?_;intro Nx aB Gx aG
   refine pW [0,1] 2 rfl rfl rfl (by simp [BS]) hY (by decide) JZ rfl (fun H3 hj3=>?_) fun H3 hj3=>?_
   ·refine tq trivial ?_;intro Nx aB Gx aG
    refine pW [0,1,2] 3 rfl rfl rfl (by simp [BS]) hY (by decide) hj3 rfl (fun H4 hj4=>?_) fun H4 hj4=>?_
    ·refine tq trivial ?_;intro Nx aB Gx aG
     exact aC _ _ (.inl rfl) rfl (.inl hj4)
    ·refine tq trivial ?_;intro Nx aB Gx aG
     exact aC _ _ (.inl rfl) rfl (.inr ⟨_,hj4⟩)
   ·refine tq trivial ?_;intro Nx aB Gx aG
    exact aC _ _ (.inl rfl) rfl (.inr ⟨_,hj3⟩)
  ·refine tq trivial ?_;intro Nx aB Gx aG
   exact aC _ _ (.inl rfl) rfl (.inr ⟨_,JZ⟩)
 ·refine tq trivial ?_;intro Nx aB Gx aG
  exact aC _ _ (.inl rfl) rfl (.inr ⟨_,hj1⟩)
theorem aHy (H:aA):aT prog 75 [.agg [.val (.slice none 0 0),.val (.slice none 0 0),.val (.slice none 0 0),.val (.slice none 0 0),.val (.slice none 0 0)],i64 0,i64 0] H fun d H'=>d=.fn 170 [.rp [.val (.slice none 0 0),.val (.slice none 0 0),.val (.slice none 0 0),.val (.slice none 0 0),.val (.slice none 0 0)],.rp [i64 0],.rp [i64 0]]/\H=H':=by
 refine aN _ _ func75 rfl rfl ntmps75 results75 (by simp) fun w0 g0 Q aC=>?_
 refine tq trivial ?_;intro Nx aB Gx aG
 intro b3 GQ b4 V9 b5 O8
 refine aB _ ?_
 obtain⟨n43,V9⟩:=bT.1 V9
 obtain⟨n54,O8⟩:=bT.1 O8
 obtain⟨n53,O8⟩:=bT.1 O8
 refine bS 3 rfl (b:=b3) (by simp only[kN,oH];rw[aP (Ne.symm n53),aP (Ne.symm n43),aQ]) rfl ?_
 simp only[St.gU,kN,gV,oH,lV,pK (Ne.symm n53),pK (Ne.symm n43),nV,oU GQ,List.drop]
 refine bS 4 rfl (b:=b4) (by simp only[kN,oH];rw[aP (Ne.symm n54),aQ]) rfl ?_
 simp only[St.gU,kN,gV,oH,lV,pK (Ne.symm n54),nV,oU V9,List.drop]
 refine bS 5 rfl (b:=b5) (by simp only[kN,oH];rw[aQ]) rfl ?_
 simp only[St.gU,kN,gV,oH,lV,nV,oU O8,List.drop]
 refine tq trivial ?_;intro Nx aB Gx aG
 refine rt aC trivial ?_
 exact⟨_,aE _,rfl⟩
def ZZ (c3:Nat) (pre:List Nat) (Hc:aA):Prop:=Hc c3=some (.row 3 0 1 [[i64 0]])
theorem aFE:aT prog 23 [.agg [.val (.slice none 0 0),.val (.slice none 0 0),.val (.slice none 0 0),.val (.slice none 0 0),.val (.slice none 0 0)]] .none fun d _=>d=i64 0:=by
 refine xR _ _ func23 rfl rfl ntmps23 results23 (by simp) fun w0 g0 Q aC=>?_
 refine tq trivial ?_;intro Nx aB Gx aG
 intro c1 l9
 refine aB _ ?_
 refine fW 1 l9 ?_
 refine tq trivial ?_;intro Nx aB Gx aG
 intro c3 mH
 refine aB _ ?_
 refine tq trivial ?_;intro Nx aB Gx aG
 refine(aHy _).mono ?_
 rintro d _ ⟨rfl,rfl⟩
 refine tq trivial ?_;intro Nx aB Gx aG
 obtain⟨H2,iW⟩:∃H2,H2=aA.none.bH c3 (.row 3 0 1 [[i64 0]]):=⟨_,rfl⟩
 have e80:H2 c3=some (.row 3 0 1 [[i64 0]]):=by rw[iW];exact aQ _ _ _
 simp only[i64] at iW
 rw[<-iW]
 clear iW
 refine PN (fun s=>s.df=[]/\s.fr 3=.ep c3 0 1 0 0/\s.fr 9=.fn 170 [.rp [.val (.slice none 0 0),.val (.slice none 0 0),.val (.slice none 0 0),.val (.slice none 0 0),.val (.slice none 0 0)],.rp [i64 0],.rp [i64 0]]/\s.H=H2) ⟨rfl,rfl,rfl,rfl⟩ ?_
 rintro s ⟨bG,f3,f9,hsH⟩
 refine pX rfl aFL f9 (fun _ _=>trivial) (by simp) (fun _=>rfl) (ZZ c3) (fun _ _ _=>False) ?_ ?_ ?_ ?_ ?_ ?_
 ·intro pre H1 H2 hr h
  exact hr _ _ h (by simp)
 ·intro _ _ _ _ _ h
  exact h
 ·show s.H c3=_
  rw[hsH];exact e80
 ·rintro l w1 pre x Hc o g1 oA hi rU s7
  rw[aJc]
  refine tq (gE fH fM eQ cB bG) ?_;intro Nx aB Gx aG
  intro c4 wQ
  refine aB _ ?_
  simp only[fL]
  refine⟨rfl,mC.new (rV _) wQ,fun w2 y g2=>?_⟩
  have l5:l≠c4:=fun e=>by rw[e,wQ] at s7;cases s7
  have n8:c3≠l:=fun e=>by unfold ZZ at hi;rw[e,s7] at hi;cases hi
  refine bS 4 rfl (b:=c4) (by simp only[kN,fM,oN];rw[aP (Ne.symm l5),aQ]) rfl ?_
  simp only[St.gU,kN,fM,oN,gV,cB,l4,pK (Ne.symm l5),nV,oU wQ,List.drop]
  have NW:=fun (x:gB) (hx:∀o,x≠ .obj o)=>y9 (H:=Hc) (b:=c4) (l:=l) (y:=y) hx
  have r8:(Hc.bH l (.obj y)) c3=some (.row 3 0 1 [[i64 0]]):=(aP n8).trans hi
  refine tq (jA f3 fH fM eQ cB r8) ?_;intro Nx aB Gx aG
  simp only[iC,fK]
  refine⟨rfl,(NW _ (by simp)).row r8 (by simp),?_⟩
  unfold ZZ
  exact aQ _ _ _
 ·rintro Hc M hi rU hD QE
  rw[D3,fK,fL,bG]
  unfold ZZ at hi
  refine tq (jA f3 fH fM eQ cB hi) ?_;intro Nx aB Gx aG
  refine aC _ _ (.inr rfl) ?_ ?_
  ·(have fs:=f3;refine evG ?_;clear fs)
   exact mk1 hD
  ·simp only[yF,eQ,LS]
   (have fs:=f3;refine evG ?_;clear fs)
   exact⟨aA.none,wJ _⟩
 ·rintro e c pre Hc M hj h2
  exact h2.elim
theorem aFF (H:aA):aT prog 23 [.agg [.val (.slice none 0 0),.val (.slice none 0 0),.val (.slice none 0 0),.val (.slice none 0 0),.val (.slice none 0 0)]] H fun d H'=>d=i64 0/\H=H':=
 yE aFE rfl ⟨nG _ _,trivial⟩
end Go.Proofs.YtelbfbioomcmeaaGreatDoor

