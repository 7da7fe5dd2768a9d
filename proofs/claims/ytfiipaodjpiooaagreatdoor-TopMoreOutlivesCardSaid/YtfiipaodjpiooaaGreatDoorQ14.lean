/- Lemmas and contracts of functions, several texts in one. -/
import Derived.ChangeKeysEq
import Derived.Laws.StructEq
import Derived.Test.YtfiipaodjpiooaaGreatDoorQ13
set_option maxRecDepth 100000
set_option maxHeartbeats 4000000
set_option linter.all false
namespace Go.Proofs.YtfiipaodjpiooaaGreatDoor
abbrev Gr:=List (Nat×List Int)
def bZ:Gr->Nat
 |[]=>0
 |x::G=>x.1+1+bZ G
theorem D9:∀(G G':Gr),bZ (G++G')=bZ G+bZ G'
 |[],G'=>by simp [bZ]
 |x::G,G'=>by simp only[gP,bZ];rw[D9 G G'];omega
def cY (G:Gr) (i:Nat):Nat:=bZ (G.take i)
theorem LM (G:Gr):cY G 0=0:=rfl
theorem mT {G:Gr} {i:Nat} (h:i<G.length):cY G (i+1)=cY G i+G[i].1+1:=by
 unfold cY
 rw[dH h,D9]
 simp only[bZ];omega
theorem nS {G:Gr} {i:Nat} (h:G.length<=i):cY G i=bZ G:=by
 unfold cY;rw[cW h]
theorem VE {G:Gr} {i j:Nat} (h:i<=j):cY G i<=cY G j:=by
 induction j with
 |zero=>
  obtain rfl:i=0:=by omega
  exact dI _
 |succ j ih=>
  by_cases e:i=j+1
  ·subst e;exact dI _
  ·refine qQ (ih (by omega)) ?_
   by_cases hj:j<G.length
   ·rw[mT hj];omega
   ·rw[nS (i:=j+1) (by omega),nS (i:=j) (by omega)];exact dI _
theorem E8 {G:Gr} {i j:Nat} (h:i<j) (hi:i<G.length):cY G i+G[i].1<cY G j:=by
 have h1:=VE (G:=G) (show i+1<=j by omega)
 rw[mT hi] at h1
 omega
theorem AX {G:Gr} {i:Nat}:cY G i<=bZ G:=by
 have:=VE (G:=G) (show i<=i+G.length by omega)
 rwa[nS (i:=i+G.length) (by omega)] at this
theorem FC:∀G:Gr,G.length<=bZ G
 |[]=>by simp [bZ]
 |x::G=>by have:=FC G;simp only[eO,bZ];omega
def At (G:Gr) (p:Int) (i k:Nat):Prop:=∃h:i<G.length,k<=G[i].1/\p=(cY G i:Int)+k
theorem At.lt {G:Gr} {p:Int} {i k:Nat} (h:At G p i k):0<=p/\p<bZ G:=by
 obtain⟨h1,h2,h3⟩:=h
 have:=E8 (Nat.lt_succ_self i) h1
 have:=AX (G:=G) (i:=i+1)
 simp only[Nat.succ_eq_add_one] at *
 omega
theorem At.uniq {G:Gr} {p:Int} {i k j l:Nat} (h:At G p i k) (h':At G p j l):i=j/\k=l:=by
 obtain⟨h1,h2,h3⟩:=h
 obtain⟨g1,g2,g3⟩:=h'
 have e:i=j:=by
  rcases Nat.lt_trichotomy i j with h|h|h
  ·have:=E8 h h1;omega
  ·exact h
  ·have:=E8 h g1;omega
 subst e
 exact⟨rfl,by omega⟩
theorem aM0 {G:Gr} {p:Int} (h0:0<=p):∀n,n<=G.length->p<cY G n->∃i k,At G p i k
 |0,_,h=>by rw[LM] at h;omega
 |n+1,hn,h=>by
  by_cases h1:p<cY G n
  ·exact aM0 h0 n (by omega) h1
  ·rw[mT (by omega)] at h
   exact⟨n,(p - cY G n).toNat,by omega,by omega,by omega⟩
theorem LG {G:Gr} {p:Int}:(∃i k,At G p i k)↔0<=p/\p<bZ G:=by
 constructor
 ·rintro⟨i,k,h⟩;exact h.lt
 ·rintro⟨h1,h2⟩;exact aM0 h1 G.length (dI _) (by rw[nS (dI _)];exact h2)
open Classical in
noncomputable def aFR (G:Gr) (p:Int):Option (Nat×Nat):=if h:∃x:Nat×Nat,At G p x.1 x.2 then some h.choose else none
theorem aDn {G:Gr} {p:Int} {i k:Nat} (h:At G p i k):aFR G p=some (i,k):=by
 unfold aFR
 have hx:∃x:Nat×Nat,At G p x.1 x.2:=⟨(i,k),h⟩
 rw[dif_pos hx]
 have:=hx.choose_spec.uniq h
 exact cS some (tK this.1 this.2)
theorem aLD {G:Gr} {p:Int} (h:¬(0<=p/\p<bZ G)):aFR G p=none:=by
 unfold aFR
 rw[dif_neg]
 rintro⟨x,hx⟩
 exact h hx.lt
def Suc (G:Gr) (i k:Nat) (q:Int):Prop:=∃h:i<G.length,(k<G[i].1/\q=(cY G i:Int)+k+1)\/(k=G[i].1/\∃t∈G[i].2,0<=t/\t<G.length/\q=cY G t.toNat)
def P6 (G:Gr) (p q:Int):Prop:=∃i k,At G p i k/\Suc G i k q
theorem B6 {G:Gr} {p q:Int} {i k:Nat} (h:At G p i k):P6 G p q↔Suc G i k q:=by
 constructor
 ·rintro⟨j,l,h1,h2⟩
  obtain⟨rfl,rfl⟩:=h.uniq h1
  exact h2
 ·exact fun h2=>⟨i,k,h,h2⟩
theorem Suc.at_ {G:Gr} {i k:Nat} {q:Int} (h:Suc G i k q):∃j l,At G q j l:=by
 obtain⟨h1,h2|⟨h2,t,ht,h3,h4,h5⟩⟩:=h
 ·exact⟨i,k+1,h1,by omega,by omega⟩
 ·exact⟨t.toNat,0,by omega,by omega,by omega⟩
theorem Suc.lt {G:Gr} {i k:Nat} {q:Int} (h:Suc G i k q):0<=q/\q<bZ G:=by
 obtain⟨j,l,h⟩:=h.at_;exact h.lt
theorem P6.lt {G:Gr} {p q:Int} (h:P6 G p q):(0<=p/\p<bZ G)/\(0<=q/\q<bZ G):=by
 obtain⟨i,k,h1,h2⟩:=h
 exact⟨h1.lt,h2.lt⟩
def vN (n:Nat):List Int:=(List.range n).map fun (q:Nat)=>(q:Int)
theorem u4 {n:Nat} {q:Int}:q∈vN n↔0<=q/\q<n:=by
 unfold vN
 rw[eW]
 constructor
 ·rintro⟨m,hm,rfl⟩;rw[oB] at hm;omega
 ·rintro⟨h1,h2⟩;exact⟨q.toNat,by rw[oB];omega,by omega⟩
theorem IH (n:Nat):(vN n).Pairwise (·<·):=by
 unfold vN
 rw[CW]
 exact F0.imp fun h=>by omega
theorem oX (n:Nat):(vN n).length=n:=by unfold vN;simp
theorem ZK {n i:Nat} (h:i<(vN n).length):(vN n)[i]=(i:Int):=by simp only[vN,zQ,List.getElem_range]
theorem aB1 (n:Nat):vN (n+1)=vN n++[(n:Int)]:=by unfold vN;rw[P3,cQ];rfl
open Classical in
noncomputable def nxt (G:Gr) (p:Int):List Int:=(vN (bZ G)).filter fun q=>decide (P6 G p q)
theorem PA {G:Gr} {p q:Int}:q∈nxt G p↔P6 G p q:=by
 simp only[nxt,jX,fV,u4]
 exact⟨fun h=>h.2,fun h=>⟨h.lt.2,h⟩⟩
theorem RV (G:Gr) (p:Int):(nxt G p).Pairwise (·<·):=(IH _).filter _
theorem YW (G:Gr) (p:Int):(nxt G p).length<=bZ G:=by
 have:=r9 (fun q=>@decide (P6 G p q) (Classical.propDecidable _)) (vN (bZ G))
 rw[oX] at this
 exact this
noncomputable def tQ (G:Gr):List (Int×Int):=(vN (bZ G)).flatMap fun p=>(nxt G p).map fun q=>(p,q)
theorem BG {G:Gr} {e:Int×Int}:e∈tQ G↔P6 G e.1 e.2:=by
 unfold tQ
 rw[tF]
 constructor
 ·rintro⟨p,_,h⟩
  obtain⟨q,hq,rfl⟩:=eW.1 h
  exact PA.1 hq
 ·intro h
  exact⟨e.1,u4.2 h.lt.1,eW.2 ⟨e.2,PA.2 h,rfl⟩⟩
inductive Rea (G:Gr):Int->Int->Prop
 |one {a b:Int}:P6 G a b->Rea G a b
 |step {a b c:Int}:Rea G a b->P6 G b c->Rea G a c
theorem Rea.trans {G:Gr} {a b c:Int} (h:Rea G a b) (h':Rea G b c):Rea G a c:=by
 induction h' with
 |one h2=>exact .step h h2
 |step _ h2 ih=>exact .step ih h2
theorem Rea.lt {G:Gr} {a b:Int} (h:Rea G a b):(0<=a/\a<bZ G)/\(0<=b/\b<bZ G):=by
 induction h with
 |one h=>exact h.lt
 |step h1 h2 ih=>exact⟨ih.1,h2.lt.2⟩
end Go.Proofs.YtfiipaodjpiooaaGreatDoor
namespace Go.Proofs.YtfiipaodjpiooaaGreatDoor
open Go.RowKit
def KTy (P:Program) (e:TypeId) (k:Bool):Prop:=P.plainKey e=true/\P.underlying e=some (if k=true then .string else .int .i64)
theorem aAR {ds es:List D} {k:Bool} {ks:List Bool} {r:Bool} (h:OS ds es=some (k::ks,r)):∃v u ds' es' r1 r',ds=.val v::ds'/\es=.val u::es'/\OS ds' es'=some (ks,r')/\r=(r1&&r')/\∀(P:Program) (e:TypeId) (d:Nat) (w:World),KTy P e k->(Op.equalIn (d+1) e v u).run P w=.ok r1 w:=by
 unfold OS at h
 split at h
 ·simp at h
 ·rename_i a x b y
  split at h
  ·rename_i k' r' he
   simp only[oU,Prod.mk.injEq,F7] at h
   obtain⟨⟨rfl,rfl⟩,rfl⟩:=h
   refine⟨_,_,_,_,_,_,rfl,rfl,he,rfl,fun P e d w ⟨h1,h2⟩=>?_⟩
   have:=run_equalIn_int (P:=P) w d e .i64 .i64 a b h2
   rw[this]
   have:(a==b)=decide (a=b):=by by_cases e:a=b <;> simp [e]
   rw[this]
  ·cases h
 ·rename_i a x b y
  split at h
  ·rename_i k' r' he
   simp only[oU,Prod.mk.injEq,F7] at h
   obtain⟨⟨rfl,rfl⟩,rfl⟩:=h
   refine⟨_,_,_,_,_,_,rfl,rfl,he,rfl,fun P e d w ⟨h1,h2⟩=>?_⟩
   have:=run_equalIn_string (P:=P) w d e a b h2
   rw[this]
   have:(a.toList==b.toList)=decide (a.toList=b.toList):=by by_cases e:a.toList=b.toList <;> simp [e]
   rw[this]
  ·cases h
 ·cases h
theorem aDR {ds es:List D} {k l:Bool} {r:Bool} (h:OS ds es=some ([k,l],r)):∃v u v2 u2 r1 r2,ds=[.val v,.val v2]/\es=[.val u,.val u2]/\r=(r1&&r2)/\(∀(P:Program) (e:TypeId) (d:Nat) (w:World),KTy P e k->(Op.equalIn (d+1) e v u).run P w=.ok r1 w)/\∀(P:Program) (e:TypeId) (d:Nat) (w:World),KTy P e l->(Op.equalIn (d+1) e v2 u2).run P w=.ok r2 w:=by
 obtain⟨v,u,ds',es',r1,r',rfl,rfl,h2,rfl,hr⟩:=aAR h
 obtain⟨v2,u2,ds2,es2,r2,r3,rfl,rfl,h3,rfl,hr2⟩:=aAR h2
 have h4:ds2=[]/\es2=[]/\r3=true:=by
  unfold OS at h3
  split at h3
  ·simpa using h3.symm
  ·split at h3 <;> simp at h3
  ·split at h3 <;> simp at h3
  ·cases h3
 obtain⟨rfl,rfl,rfl⟩:=h4
 exact⟨v,u,v2,u2,r1,r2,rfl,rfl,by simp,hr,hr2⟩
theorem E4 {w:World} {S:Nat->Prop} {a b:Value} {vs:List Value} (h:aU w S [.val a,.val b] vs):vs=[a,b]:=by
 simp only[aU,D.is] at h
 obtain⟨u,us,rfl,_,rfl,v,vs,rfl,_,rfl,rfl⟩:=h
 rfl
theorem XQ {P:Program} {t:TypeId} {k l:Bool} (f g:Field) (hu:P.underlying t=some (.struct #[f,g])) (hh:P.stoodInHeld t=false) (hm:P.eqGuardType P.depth t=false)
  (fn:f.name≠ "_") (gn:g.name≠ "_") (f0:f.offset=0) (g1:g.offset=1) (kf:KTy P f.type k) (kg:KTy P g.type l):aFn P t [k,l]:=by
 intro ds es r vs us w S op p q he hv hw
 obtain⟨v,u,v2,u2,r1,r2,rfl,rfl,rfl,h1,h2⟩:=aDR he
 rw[E4 hv,E4 hw]
 refine⟨run_eqGuard_agg w op t p q _ _ hm,?_⟩
 have hf:P.fieldsOf t= #[f,g]:=by unfold Program.fieldsOf;rw[hu]
 have:=run_equalIn_struct (P:=P) w 9999 t [v,v2].toArray [u,u2].toArray (by rw[hf];exact hu) hh
 unfold Op.equal
 rw[show Op.maxDepth=9999+1 from rfl,this,hf]
 have e1:∀w,(Go.part f.type [v,v2].toArray f.offset).run P w=.ok v w:=fun w=>run_part_plain w kf.1 (by rw[f0] <;> rfl)
 have e2:∀w,(Go.part f.type [u,u2].toArray f.offset).run P w=.ok u w:=fun w=>run_part_plain w kf.1 (by rw[f0] <;> rfl)
 have e3:∀w,(Go.part g.type [v,v2].toArray g.offset).run P w=.ok v2 w:=fun w=>run_part_plain w kg.1 (by rw[g1] <;> rfl)
 have e4:∀w,(Go.part g.type [u,u2].toArray g.offset).run P w=.ok u2 w:=fun w=>run_part_plain w kg.1 (by rw[g1] <;> rfl)
 simp only[Op.eqFields,mR,fn,gn,not_false_eq_true,fO,Sem.run_bind,e1,e2,e3,e4,h1 P _ 9998 _ kf,h2 P _ 9998 _ kg,Result.andThen]
 cases r1 <;> cases r2 <;> simp [Sem.run,e3,e4,h2 P _ 9998 _ kg,Op.eqFields,Sem.run_bind,Result.andThen]
theorem aEs {P:Program} {t e:TypeId} {k:Bool} {i:TypeInfo} (hu:P.underlying t=some (.array 2 e)) (hi:P.info? e=some i) (hc:P.cellsOf e=1) (hm:P.eqGuardType P.depth t=false) (ke:KTy P e k):aFn P t [k,k]:=by
 intro ds es r vs us w S op p q he hv hw
 obtain⟨v,u,v2,u2,r1,r2,rfl,rfl,rfl,h1,h2⟩:=aDR he
 rw[E4 hv,E4 hw]
 refine⟨run_eqGuard_agg w op t p q _ _ hm,?_⟩
 have:=run_equalIn_array (P:=P) w 9999 [v,v2].toArray [u,u2].toArray hu hi
 unfold Op.equal
 rw[show Op.maxDepth=9999+1 from rfl,this,hc]
 have e1:∀w,(Go.part e [v,v2].toArray 0).run P w=.ok v w:=fun w=>run_part_plain w ke.1 rfl
 have e2:∀w,(Go.part e [u,u2].toArray 0).run P w=.ok u w:=fun w=>run_part_plain w ke.1 rfl
 have e3:∀w,(Go.part e [v,v2].toArray 1).run P w=.ok v2 w:=fun w=>run_part_plain w ke.1 rfl
 have e4:∀w,(Go.part e [u,u2].toArray 1).run P w=.ok u2 w:=fun w=>run_part_plain w ke.1 rfl
 have hr:List.range 2=[0,1]:=rfl
 rw[hr]
 simp only[Op.eqItems,C5,Nat.one_mul,Sem.run_bind,e1,e2,e3,e4,h1 P _ 9998 _ ke,h2 P _ 9998 _ ke,Result.andThen]
 cases r1 <;> cases r2 <;> simp [Sem.run,e3,e4,h2 P _ 9998 _ ke,Op.eqItems,Sem.run_bind,Result.andThen]
def cX (s:ByteArray):D:=.val (.string s)
def sD (s:ByteArray):List D:=[cX s]
def dO (n:Nat):Prop:=n<=140737488351232
theorem kH {a b:ByteArray}:a.toList=b.toList↔a=b:=by
 constructor
 ·intro h
  rw[ByteArray.toList_eq,ByteArray.toList_eq] at h
  obtain⟨⟨x⟩⟩:=a
  obtain⟨⟨y⟩⟩:=b
  simp only at h
  rw[h]
 ·rintro rfl;rfl
theorem fY {α:Type} {f:α->List D} {l:List α} {i:Nat} (h:i<l.length):(l.map f)[i]?=some (f l[i]):=by
 rw[dN,bX h];rfl
theorem aCj {α:Type} {l m:List α} {i:Nat} (h:l.take i=m.take i) (h1:i<l.length) (h2:i<m.length) (he:l[i]=m[i]):l.take (i+1)=m.take (i+1):=by
 rw[dH h1,dH h2,h,he]
theorem tfB (p:Prop):∃b,p=b/\((b=True/\p)\/(b=False/\¬p)):=⟨p,rfl,by by_cases h:p <;> simp [h]⟩
theorem Q6 {l:List ByteArray} {i:Nat} (h:i<l.length):(l.map sD)[i]?=some [.val (.string l[i])]:=by
 rw[dN,bX h];rfl
open Tryz
structure pA where
 lo:Int
 pr:List (Int×Int)
deriving DecidableEq
structure qV where
 k:Int
 pl:pA
 n:Int
deriving DecidableEq
structure G0 where
 k:Int
 op:Int
 rg:Int
 mu:Bool
 pl:pA
 ar:List qV
deriving DecidableEq
structure EZ where
 k:Int
 pl:pA
 rv:G0
 lo:Int
deriving DecidableEq
structure HF where
 k:Int
 tg:List Int
 ar:List qV
 pl:pA
 nm:ByteArray
deriving DecidableEq
structure mP where
 st:List EZ
 tm:HF
deriving DecidableEq
structure AO where
 nm:ByteArray
 ty:Int
deriving DecidableEq
structure cT where
 nm:ByteArray
 rg:List ByteArray
 ol:List (Int×Int)
 ty:List dS
 lc:List AO
 ag:Int
 bl:List mP
deriving DecidableEq
def lN (p:pA):List D:=[i64 p.lo,.seq 2 (p.pr.map pD)]
def jW (o:qV):List D:=[i64 o.k,i64 o.pl.lo,.seq 2 (o.pl.pr.map pD),i64 o.n]
def IM (r:G0):List D:=[i64 r.k,i64 r.op,i64 r.rg,.val (.bool r.mu),i64 r.pl.lo,.seq 2 (r.pl.pr.map pD),.seq 4 (r.ar.map jW)]
def vV (s:EZ):List D:=[i64 s.k,i64 s.pl.lo,.seq 2 (s.pl.pr.map pD),i64 s.rv.k,i64 s.rv.op,i64 s.rv.rg,.val (.bool s.rv.mu),i64 s.rv.pl.lo,.seq 2 (s.rv.pl.pr.map pD),.seq 4 (s.rv.ar.map jW),i64 s.lo]
def tmD (t:HF):List D:=[i64 t.k,.seq 1 (t.tg.map iD),.seq 4 (t.ar.map jW),i64 t.pl.lo,.seq 2 (t.pl.pr.map pD),cX t.nm]
def jP (b:mP):List D:=[.seq 11 (b.st.map vV),i64 b.tm.k,.seq 1 (b.tm.tg.map iD),.seq 4 (b.tm.ar.map jW),i64 b.tm.pl.lo,.seq 2 (b.tm.pl.pr.map pD),cX b.tm.nm]
def mN (l:AO):List D:=[cX l.nm,i64 l.ty]
def iS (b:cT):List D:=[cX b.nm,.seq 1 (b.rg.map sD),.seq 2 (b.ol.map pD),.seq 5 (b.ty.map cP),.seq 2 (b.lc.map mN),i64 b.ag,.seq 7 (b.bl.map jP)]
def L9 (p:pA):Prop:=dO p.pr.length
def RW (o:qV):Prop:=L9 o.pl
def UE (r:G0):Prop:=L9 r.pl/\dO r.ar.length/\∀o∈r.ar,RW o
def aHw (s:EZ):Prop:=L9 s.pl/\UE s.rv
def aFW (t:HF):Prop:=dO t.tg.length/\(dO t.ar.length/\∀o∈t.ar,RW o)/\L9 t.pl
def aLS (b:mP):Prop:=(dO b.st.length/\∀s∈b.st,aHw s)/\aFW b.tm
def aRQ (l:List dS):Prop:=dO l.length/\∀t∈l,dO t.ar.length
def AG (b:cT):Prop:=dO b.rg.length/\dO b.ol.length/\aRQ b.ty/\dO b.lc.length/\dO b.bl.length/\∀x∈b.bl,aLS x
theorem aEt:aFn prog 119 [false,false]:=
 XQ (f:=(prog.fieldsOf 119)[0]!) (g:=(prog.fieldsOf 119)[1]!) (by kernel_rfl) (by kernel_rfl) (by kernel_rfl) (by decide+kernel) (by decide+kernel) (by kernel_rfl) (by kernel_rfl) ⟨by kernel_rfl,by kernel_rfl⟩ ⟨by kernel_rfl,by kernel_rfl⟩
def oM (S:List Int) (x:Int):Option D:=if x∈S then some (.val (.bool true)) else none
theorem IG (x:Int) (S:List Int):∀y,(if y=x then some (D.val (.bool true)) else oM S y)=oM (x::S) y:=fun y=>by
 unfold oM
 by_cases h:y=x
 ·subst h;simp
 ·rw[aA h]
  have:(y∈x::S)=(y∈S):=by simp [h]
  simp only[this]
theorem WC:∀y,(none:Option D)=oM [] y:=fun y=>by simp [oM]
inductive Reach (l:List (Int×Int)):Int->Int->Prop
 |refl (a:Int):Reach l a a
 |step {a b c:Int}:Reach l a b->(b,c)∈l->Reach l a c
theorem Reach.trans {l:List (Int×Int)} {a b c:Int} (h:Reach l a b) (h':Reach l b c):Reach l a c:=by
 induction h' with
 |refl=>exact h
 |step _ h2 ih=>exact .step ih h2
theorem J6 {l:List (Int×Int)} {S:List Int} {a:Int} (ha:a∈S) (hc:∀x∈S,∀y,(x,y)∈l->y∈S) {b:Int} (h:Reach l a b):b∈S:=by
 induction h with
 |refl=>exact ha
 |step _ h2 ih=>exact hc _ ih _ h2
open Classical in
noncomputable def lL (l:List (Int×Int)) (n a b:Int):Bool:=decide (cE n a/\cE n b/\Reach l a b)
open Classical in
theorem J5 {l:List (Int×Int)} {n a b:Int} (h:cE n a/\cE n b/\Reach l a b):lL l n a b=true:=bG h
open Classical in
theorem rM {l:List (Int×Int)} {n a b:Int} (h:¬(cE n a/\cE n b/\Reach l a b)):lL l n a b=false:=bB h
def jD (l:List (Int×Int)) (x:Int):List Int:=(l.filter fun p=>decide (p.1=x)).map (·.2)
def eC (l:List (Int×Int)) (x:Int):List Int:=(l.filter fun p=>decide (p.2=x)).map (·.1)
theorem FD {l:List (Int×Int)} {x y:Int}:y∈jD l x↔(x,y)∈l:=by
 simp only[jD,eW,jX,fV]
 constructor
 ·rintro⟨⟨a,b⟩,⟨h1,rfl⟩,rfl⟩;exact h1
 ·intro h;exact⟨_,⟨h,rfl⟩,rfl⟩
theorem BH {l:List (Int×Int)} {x y:Int}:y∈eC l x↔(y,x)∈l:=by
 simp only[eC,eW,jX,fV]
 constructor
 ·rintro⟨⟨a,b⟩,⟨h1,rfl⟩,rfl⟩;exact h1
 ·intro h;exact⟨_,⟨h,rfl⟩,rfl⟩
def RY (l:List Int):Option D:=if l=[] then none else some (.seq 1 (l.map iD))
def jL (n:Int) (b1 b2:Nat):D:=.rp [i64 n,.val (.map (some b1)),.val (.map (some b2))]
def yL (l:List (Int×Int)) (b1 b2:Nat) (H:aC):Prop:=∃m1 m2,H b1=some (.map m1)/\kP m1 (fun x=>RY (jD l x))/\H b2=some (.map m2)/\kP m2 (fun x=>RY (eC l x))
theorem aGr (n a:Int) (b1 b2:Nat) (H:aC):bE prog 123 [jL n b1 b2,i64 a] H fun d H'=>d=.val (.bool (decide (cE n a)))/\H=H':=by
 refine aQ _ _ func123 rfl rfl ntmps123 results123 (by simp) fun w0 g0 Q aD=>?_
 by_cases h1:0<=a
 ·have q1:(0<=a)=True:=aK h1
  by_cases h2:a<n
  ·have q2:(a<n)=True:=aK h2
   have e:decide (cE n a)=true:=bG ⟨h1,h2⟩
   rw[e] at aD
   refine tq (eA @jL.eq_1 q1 q2) ?_;intro Nx aB Gx aF
   refine Y9 aD @jL.eq_1 ?_;exact⟨_,aG _,by first|rfl|exact⟨rfl,rfl⟩|assumption⟩
  ·have q2:(a<n)=False:=aI h2
   have e:decide (cE n a)=false:=bB fun h=>h2 h.2
   rw[e] at aD
   refine tq (eA @jL.eq_1 q1 q2) ?_;intro Nx aB Gx aF
   refine Y9 aD @jL.eq_1 ?_;exact⟨_,aG _,by first|rfl|exact⟨rfl,rfl⟩|assumption⟩
 ·have q1:(0<=a)=False:=aI h1
  have e:decide (cE n a)=false:=bB fun h=>h1 h.1
  rw[e] at aD
  refine tq (dG @jL.eq_1 q1) ?_;intro Nx aB Gx aF
  refine Y9 aD @jL.eq_1 ?_;exact⟨_,aG _,by first|rfl|exact⟨rfl,rfl⟩|assumption⟩
structure aJY (l:List (Int×Int)) (n a:Int) (z:Option Int) (S q:List Int):Prop where
 nd:S.Nodup
 inr:∀x∈S,cE n x/\Reach l a x
 st:a∈S
 qs:∀x∈q,x∈S
 cl:∀x∈S,x∉q->some x≠z->∀y,(x,y)∈l->y∈S
def OI (l:List (Int×Int)) (n a b:Int) (b1 b2 bm:Nat) (H:aC) (k:Nat) (s:St):Prop:=
 s.df=[]/\s.fr 0=jL n b1 b2/\s.fr 2=i64 b/\s.fr 7=.val (.map (some bm))/\H.le s.H/\k<=2 * n.toNat/\∃M S q ob,s.H bm=some (.map M)/\kP M (oM S)/\Gk H 3 1 (q.map iD) (s.fr 8) s.H ob/\ob≠some bm/\aJY l n a none S q/\2 * (n.toNat - S.length)+q.length<=k
theorem aID (l:List (Int×Int)) (n a b:Int) (b1 b2:Nat) (H:aC) (hR:yL l b1 b2 H) (iI:∀p∈l,cE n p.1/\cE n p.2) (hn:n<=1000000) (hl:l.length<=1000000):bE prog 190 [jL n b1 b2,i64 a,i64 b] H fun d H'=>d=.val (.bool (lL l n a b))/\H=H':=by
 refine bO (K:=fun d=>d=.val (.bool (lL l n a b))) ?_
 obtain⟨m1,m2,NB,B9,CB,EM⟩:=hR
 refine aQ _ _ func190 rfl rfl ntmps190 results190 (by simp) fun w0 g0 Q aD=>?_
 refine tq trivial ?_;intro Nx aB Gx aF
 refine(aGr n a b1 b2 _).mono ?_
 rintro d _ ⟨rfl,rfl⟩
 by_cases ha:cE n a
 case neg=>
  rw[bB ha]
  refine tq trivial ?_;intro Nx aB Gx aF
  refine Y9 aD trivial ?_
  exact⟨_,aG _,aG _,_,aH (aG _),by rw[rM fun h=>ha h.1]⟩
 rw[bG ha]
 refine tq trivial ?_;intro Nx aB Gx aF
 refine(aGr n b b1 b2 _).mono ?_
 rintro d _ ⟨rfl,rfl⟩
 by_cases hb:cE n b
 case neg=>
  rw[bB hb]
  refine tq trivial ?_;intro Nx aB Gx aF
  refine Y9 aD trivial ?_
  exact⟨_,aG _,aG _,_,aH (aG _),by rw[rM fun h=>hb h.2.1]⟩
 rw[bG hb]
 unfold cE at ha hb
 have Q9: -9223372036854775808<=a/\a<=9223372036854775807:=by omega
 have X0: -9223372036854775808<=b/\b<=9223372036854775807:=by omega
 have HP:=kP.nil.ok (P:=prog) underlying3 Q9
 refine to trivial ?_;intro Nx aB Gx aF
 intro bm tR
 refine⟨HP,?_⟩
 have pB:kP (iM [] (.int .i64 a) (.val (.bool true))) (oM [a]):=((kP.nil.set Q9 (.val (.bool true))).congr fun x=>by rw[<-IG a [] x,<-WC])
 refine to trivial ?_;intro Nx aB Gx aF
 intro bq hbq
 obtain⟨M,hM⟩:∃M,M=iM [] (.int .i64 a) (.val (.bool true)):=⟨_,rfl⟩
 rw[<-hM] at hbq pB ⊢
 have aQR:(H.bH bm (.map M)) bm=some (.map M):=aO _ _ _
 have nqm:bm≠bq:=nZ aQR hbq
 have hq0:H bq=none:=(bY.1 hbq).2
 refine tq trivial ?_;intro Nx aB Gx aF
 refine pZ (OI l n a b b1 b2 bm H) (2 * (n.toNat - 1)+1) ⟨rfl,rfl,rfl,rfl,bK (bK (aG _) tR) hq0,by omega,M,[a],[a],some bq,(aN nqm).trans aQR,pB,.inr ⟨bq,0,0,[[i64 a]],rfl,rfl,hq0,aO _ _ _,rfl,by simp⟩,(fun e=>nqm (by injection e with e;exact e.symm)),⟨by simp,(by intro x hx;rw[cR] at hx;subst hx;exact⟨ha,.refl _⟩),by simp,by simp,(by intro x hx hq;exact absurd hx hq)⟩,by simp⟩ ?_
 rintro k s ⟨aT,f0,f2,f7,aS,hk,M,S,q,ob,JJ,TB,TG,fM,hS,DC⟩
 cases q with
 |nil=>
  have jQ:∀v:Bool,(b∈S↔v=true)->v=lL l n a b:=fun v hv=>by
   cases v with
   |true=>rw[J5 ⟨ha,hb,(hS.inr b (hv.2 rfl)).2⟩]
   |false=>rw[rM];rintro⟨_,_,hr⟩;exact absurd (hv.1 (J6 hS.st (fun x hx y hy=>hS.cl x hx (by simp) (by simp) y hy) hr)) (by simp)
  have RG:=TB.get b
  have RF:=TB.ok (P:=prog) underlying3 X0
  have q0:∃c o k',s.fr 8=.val (.slice none 0 0)\/s.fr 8=.os c o 1 k' 0:=by
   rcases TG with⟨_,h,_⟩|⟨c,o,k',_,_,h,_⟩
   ·exact⟨0,0,0,.inl h⟩
   ·exact⟨c,o,k',.inr h⟩
  obtain⟨c,o,k',q0⟩:=q0
  by_cases hbS:b∈S
  ·have xZ:oM S b=some (.val (.bool true)):=aE hbS
   rw[xZ] at RG
   have hv:=jQ true (by simp [hbS])
   rcases q0 with f8|f8
   ·refine tq (jE f2 f7 f8 JJ RG) ?_;intro Nx aB Gx aF;refine⟨RF,?_⟩;refine tq (eA f2 f7 f8) ?_;intro Nx aB Gx aF;refine rt aD aT ?_;exact⟨_,aG _,aS,_,aH aS,by rw[hv]⟩
   ·refine tq (jE f2 f7 f8 JJ RG) ?_;intro Nx aB Gx aF;refine⟨RF,?_⟩;refine tq (eA f2 f7 f8) ?_;intro Nx aB Gx aF;refine rt aD aT ?_;exact⟨_,aG _,aS,_,aH aS,by rw[hv]⟩
  ·have xZ:oM S b=none:=aA hbS
   rw[xZ] at RG
   have hv:=jQ false (by simp [hbS])
   rcases q0 with f8|f8
   ·refine tq (jE f2 f7 f8 JJ RG) ?_;intro Nx aB Gx aF;refine⟨RF,?_⟩;refine tq (eA f2 f7 f8) ?_;intro Nx aB Gx aF;refine rt aD aT ?_;exact⟨_,aG _,aS,_,aH aS,by rw[hv]⟩
   ·refine tq (jE f2 f7 f8 JJ RG) ?_;intro Nx aB Gx aF;refine⟨RF,?_⟩;refine tq (eA f2 f7 f8) ?_;intro Nx aB Gx aF;refine rt aD aT ?_;exact⟨_,aG _,aS,_,aH aS,by rw[hv]⟩
 |cons x q=>
  obtain⟨c,o,kq,iU,kN,f8,AL,K4,X5,aY4,hgx,OU,aON⟩:=Gk.cons (show Gk H 3 1 (iD x::q.map iD) (s.fr 8) s.H ob from TG)
  have hxS:=hS.inr x (hS.qs x (by simp))
  have aFJ: -9223372036854775808<=x/\x<=9223372036854775807:=by have:=hxS.1;unfold cE at this;omega
  rw[bC] at f8
  have q1:((0:Int)<((q.length+1:Nat):Int))=True:=aK (by omega)
  have aK1:iU[kq]?=some [.val (.int .i64 x)]:=hgx
  have w1:((1:Int)<=((q.length+1:Nat):Int))=True:=aK (by omega)
  have aQg:s.H b1=some (.map m1):=aS _ _ NB
  have X9:=B9.ok (P:=prog) underlying3 aFJ
  have OV:=B9.get x
  (have fs:=And.intro f0 (And.intro f2 (And.intro f7 (And.intro f8 (And.intro q1 (And.intro w1 (And.intro K4 aK1))))));(iterate 10 (first|refine aF _ ?_|refine aB _ ?_|refine dW ?_|refine dV ?_|refine fE ?_|refine cU ?_|refine cV ?_|refine cL ?_|refine bP ?_|((first|refine tS fun Nx aB=>?_|refine mS rfl rfl (by kernel_rfl) (by kernel_rfl) fun Gx aF=>?_|refine cH (by kernel_rfl) ?_|refine mJ fun A B wL wM=>?_);refine qK ?_;(first|refine aF _ ?_|refine aB _ ?_|refine wL ?_|refine wM ?_|skip))));(try clear fs))
  have aYo:c≠bm:=fun e=>fM (by rw[kN,e])
  refine aBd 40 (.val (.slice none 0 0)) (.seq 1 []) fR (fun s'=>s'.df=[]/\s'.fr 0=jL n b1 b2/\s'.fr 2=i64 b/\s'.fr 7=.val (.map (some bm))/\s'.fr 8=.os c o 1 (kq+1) q.length/\s'.fr 40=.seq 1 ((jD l x).map iD)/\s'.fr 41=i64 (jD l x).length/\s'.fr 42=i64 0/\s'.H=s.H) ?_ ?_
  ·unfold RY at OV
   by_cases hsx:jD l x=[]
   ·rw[aE hsx] at OV
    refine tq (kB f0 f2 f7 @jL.eq_1 aQg OV) ?_;intro Nx aB Gx aF
    refine⟨X9,aB _ (.inr ⟨rfl,aT,f0,f2,f7,rfl,by rw[hsx] <;> rfl,by rw[hsx] <;> rfl,rfl,rfl⟩)⟩
   ·rw[aA hsx] at OV
    refine tq (kB f0 f2 f7 @jL.eq_1 aQg OV) ?_;intro Nx aB Gx aF
    refine⟨X9,aB _ (.inl ⟨aT,f0,f2,f7,rfl,rfl,rfl,rfl,rfl⟩)⟩
  rintro s1 ⟨pP,g0,g2,g7,g8,g40,g41,g42,uK⟩
  have ND:(jD l x).length<=l.length:=by unfold jD;rw[bC];exact r9 _ _
  have hq2:(iU.drop (kq+1))=q.map iD:=OU
  refine cL ?_
  refine aZ (jD l x).length (fun i s=>s.df=[]/\s.fr 0=jL n b1 b2/\s.fr 2=i64 b/\s.fr 7=.val (.map (some bm))/\s.fr 40=.seq 1 ((jD l x).map iD)/\s.fr 41=i64 (jD l x).length/\s.fr 42=i64 i/\H.le s.H/\∃M S q ob,s.H bm=some (.map M)/\kP M (oM S)/\Gk H 3 1 (q.map iD) (s.fr 8) s.H ob/\ob≠some bm/\aJY l n a (some x) S q/\x∈S/\(∀j (h:j<i) (h2:j<(jD l x).length),(jD l x)[j]∈S)/\2 * (n.toNat - S.length)+q.length<k) ?_ ?_
  ·refine⟨pP,g0,g2,g7,g40,g41,g42,by rw[uK];exact aS,M,S,q,some c,by rw[uK];exact JJ,TB,.inr ⟨c,o,kq+1,iU,rfl,by rw[g8,bC],AL,by rw[uK];exact K4,OU,aON⟩,(fun e=>aYo (by injection e)),⟨hS.nd,hS.inr,hS.st,fun y hy=>hS.qs y (by simp [hy]),fun z hz hzq hzx y hy=>hS.cl z hz (by simp [hzq];intro e;exact hzx (by rw[e])) (by simp) y hy⟩,hS.qs x (by simp),by omega,by simp at DC;omega⟩
  rintro i s2 hi ⟨qX,k0,k2,k7,k40,k41,k42,pC,M3,S3,q3,YX,aFB,hM3,aOK,aCG,hS3,aRB,RI,aQi⟩
  have OE:=bI i
  have cJ:=bM i
  have aOQ:(List.map iD (jD l x)).length=(jD l x).length:=bC _
  by_cases aV:i<(jD l x).length
  case neg=>
   have p1:((i:Int)<((jD l x).length:Int))=False:=aI (by omega)
   refine tq (eA k41 k42 p1) ?_;intro Nx aB Gx aF
   refine⟨_,?_,qX,k0,k2,k7,pC,?_,M3,S3,q3,YX,aFB,hM3,aOK,aCG,⟨hS3.nd,hS3.inr,hS3.st,hS3.qs,fun z hz hzq _ y hy=>?_⟩,dI _⟩
   ·exact aQi
   ·omega
   ·by_cases hzx:z=x
    ·subst hzx
     obtain⟨j,hj,rfl⟩:=sA (FD.2 hy)
     exact RI j (by omega) hj
    ·exact hS3.cl z hz hzq (by simpa using hzx) y hy
  have p1:((i:Int)<((jD l x).length:Int))=True:=aK (by omega)
  have cD:=cO aV
  obtain⟨y,hy⟩:∃y,y=(jD l x)[i]:=⟨_,rfl⟩
  rw[<-hy] at cD
  have hyl:(x,y)∈l:=FD.1 (by rw[hy];exact bU aV)
  have hyR:=(iI _ hyl).2
  have T8: -9223372036854775808<=y/\y<=9223372036854775807:=by have:=hyR;unfold cE at this;simp only at this;omega
  have w3:=wS i (by omega)
  have hkb:=hM3.ok (P:=prog) underlying3 X0
  have hky:=hM3.ok (P:=prog) underlying3 T8
  by_cases hyb:y=b
  ·have p2:(y=b)=True:=aK hyb
   refine tq (W7 k2 k7 k40 k41 k42 p1 p2 cD OE cJ aV aOQ aFB) ?_;intro Nx aB Gx aF
   refine⟨hkb,?_⟩
   have hMb:=hM3.set X0 (.val (.bool true))
   have aQ9:=hMb.ok (P:=prog) underlying3 X0
   have aQd:=pR M3 (.int .i64 b) (.val (.bool true))
   obtain⟨M4,hM4⟩:∃M4,M4=iM M3 (.int .i64 b) (.val (.bool true)):=⟨_,rfl⟩
   rw[<-hM4] at aQ9 aQd ⊢
   have hm4:(s2.H.bH bm (.map M4)) bm=some (.map M4):=aO _ _ _
   have nT:H.le (s2.H.bH bm (.map M4)):=bK pC tR
   refine tq (eA k2 k7 aQd) ?_;intro Nx aB Gx aF
   refine⟨aQ9,?_⟩
   refine tq (dG k2 k7) ?_;intro Nx aB Gx aF
   refine rt aD qX ?_
   refine⟨_,aG _,nT,_,aH nT,?_⟩
   rw[J5 ⟨ha,hb,(hxS.2).step (hyb▸hyl)⟩]
  have p2:(y=b)=False:=aI hyb
  have YD:=hM3.get y
  by_cases hyS:y∈S3
  ·have xZ:oM S3 y=some (.val (.bool true)):=aE hyS
   rw[xZ] at YD
   refine tq (DH k2 k7 k40 k41 k42 p1 p2 cD OE cJ aV aOQ aFB YD) ?_;intro Nx aB Gx aF
   refine⟨hky,?_⟩
   refine tq (gQ k2 k7 k42 w3) ?_;intro Nx aB Gx aF
   refine⟨aV,qX,k0,k2,k7,k40,k41,rfl,pC,M3,S3,q3,YX,aFB,hM3,aOK,aCG,hS3,aRB,fun j hj h2=>?_,aQi⟩
   by_cases hji:j=i
   ·subst hji;rw[<-hy];exact hyS
   ·exact RI j (by omega) h2
  ·have xZ:oM S3 y=none:=aA hyS
   rw[xZ] at YD
   refine tq (DH k2 k7 k40 k41 k42 p1 p2 cD OE cJ aV aOQ aFB YD) ?_;intro Nx aB Gx aF
   refine⟨hky,?_⟩
   refine tq (gQ k2 k7 k42 aFB) ?_;intro Nx aB Gx aF
   refine⟨hky,?_⟩
   have hMy:kP (iM M3 (.int .i64 y) (.val (.bool true))) (oM (y::S3)):=(hM3.set T8 (.val (.bool true))).congr (IG y S3)
   obtain⟨M4,hM4⟩:∃M4,M4=iM M3 (.int .i64 y) (.val (.bool true)):=⟨_,rfl⟩
   rw[<-hM4] at hMy ⊢
   have hm4:(s2.H.bH bm (.map M4)) bm=some (.map M4):=aO _ _ _
   have nT:H.le (s2.H.bH bm (.map M4)):=bK pC tR
   have aYZ:Gk H 3 1 (q3.map iD) (s2.fr 8) (s2.H.bH bm (.map M4)) YX:=aOK.fS fun c' gG=>aN fun e=>aCG (by rw[gG,e])
   refine tq (gQ k2 k7 k42 w3) ?_;intro Nx aB Gx aF
   have IK:(y::S3).Nodup:=zT.2 ⟨hyS,hS3.nd⟩
   have aHH:∀z∈y::S3,cE n z/\Reach l a z:=fun z hz=>by
    rcases dJ.1 hz with rfl|hz
    ·exact⟨hyR,hxS.2.step hyl⟩
    ·exact hS3.inr z hz
   have aK2:=rC IK fun z hz=>(aHH z hz).1
   refine UU (e:=3) kZ rfl kZ rfl PF rfl (by decide) nT aYZ (new:=[iD y]) (by exact⟨rfl,rfl⟩) (by rw[bC];show(_+1) * 8<=_;omega) fun d H6 oG j6 eM nJ=>?_
   have hm6:=nJ _ _ hm4 aCG
   rw[show[iD y]=[y].map iD from rfl,<-cQ] at j6
   refine tq (gQ k2 k7 k42 w3) ?_;intro Nx aB Gx aF
   refine⟨aV,qX,k0,k2,k7,k40,k41,rfl,eM,M4,y::S3,q3++[y],oG,hm6.1,hMy,Gk.of j6,hm6.2,⟨IK,aHH,gY _ hS3.st,?_,?_⟩,gY _ aRB,?_,?_⟩
   ·intro z hz
    rcases bV.1 hz with hz|hz
    ·exact gY _ (hS3.qs z hz)
    ·rw[cR] at hz;subst hz;exact AK
   ·intro z hz hzq hzx y' hy'
    rcases dJ.1 hz with rfl|hz
    ·exact absurd (bV.2 (.inr (by simp))) hzq
    ·exact gY _ (hS3.cl z hz (fun h=>hzq (bV.2 (.inl h))) hzx y' hy')
   ·intro j hj h2
    by_cases hji:j=i
    ·subst hji;rw[<-hy];exact AK
    ·exact gY _ (RI j (by omega) h2)
   ·rw[bN,eO,wB] at *
    omega
def dK (b:cT):Gr:=b.bl.map fun x=>(x.st.length,x.tm.tg)
theorem jR (b:cT):(dK b).length=b.bl.length:=bC _
theorem sW {b:cT} {i:Nat} (h:i<b.bl.length):(dK b)[i]'(by rw[jR];exact h)=(b.bl[i].st.length,b.bl[i].tm.tg):=by simp only[dK,zQ]
def Y0 (l:List qV):List qV:=l.filter fun o=>decide (o.k=0\/o.k=1)
def GR (l:List qV):List Int:=(Y0 l).map fun o=>o.pl.lo
def wrV (p:pA):List Int:=if p.pr=[] then [] else [p.lo]
def wrF (p:pA):Option Int:=if p.pr=[] then some p.lo else none
def usS (s:EZ):List Int:=if s.k=0 then GR s.rv.ar++((if s.rv.k=1 then [s.rv.pl.lo] else [])++wrV s.pl) else []
def dfS (s:EZ):Option Int:=if s.k=0 then wrF s.pl else if s.k=1 then some s.lo else none
def usT (t:HF):List Int:=GR t.ar++(if t.k=3 then wrV t.pl else if t.k=4 then [t.pl.lo] else [])
def dfT (t:HF):Option Int:=if t.k=3 then wrF t.pl else none
def usB (x:mP) (k:Nat):List Int:=match x.st[k]? with
 |some s=>usS s
 |none=>usT x.tm
def ZZ (x:mP) (k:Nat):Option Int:=match x.st[k]? with
 |some s=>dfS s
 |none=>dfT x.tm
structure AcS where
 pl:pA
 wr:Bool
 dp:Bool
structure uV where
 rg:Int
 pt:Int
 mu:Bool
 pl:pA
def TR (l:List qV):List AcS:=(Y0 l).map fun o=>⟨o.pl,decide (o.k=1),true⟩
def acS (s:EZ):List AcS:=TR s.rv.ar++((if s.rv.k=1 then [⟨s.rv.pl,s.rv.mu,true⟩] else [])++(if s.k=0 then [⟨s.pl,true,false⟩] else if s.k=1 then [⟨⟨s.lo,[]⟩,true,false⟩] else []))
def acT (t:HF):List AcS:=TR t.ar++(if t.k=3\/t.k=4 then [⟨t.pl,true,false⟩] else [])
def acB (x:mP) (k:Nat):List AcS:=match x.st[k]? with
 |some s=>acS s
 |none=>acT x.tm
def aC5 (p q:pA):Bool:=decide (p.lo=q.lo/\p.pr.length<=q.pr.length/\p.pr=q.pr.take p.pr.length)
def XE (p:pA) (n:Nat):Bool:=(p.pr.drop n).any fun x=>decide (x.1=0)
def ovP (p q:pA):Bool:=decide (p.lo=q.lo/\p.pr.take (min p.pr.length q.pr.length)=q.pr.take (min p.pr.length q.pr.length))
def cfB (a:AcS) (l:uV):Bool:=if (a.wr=false/\l.mu=false)\/ovP a.pl l.pl=false then false else if a.dp=true then true else !(XE l.pl a.pl.pr.length)
def aKh (x:mP) (k:Nat) (l:uV):Bool:=(acB x k).any fun a=>cfB a l
def asB (x:mP) (k:Nat):Option pA:=match x.st[k]? with
 |some s=>if s.k=0 then some s.pl else none
 |none=>if x.tm.k=3 then some x.tm.pl else none
def aFP (x:mP) (k:Nat) (l:uV):Bool:=match asB x k with
 |some p=>aC5 p l.pl&&XE l.pl p.pr.length
 |none=>false
def MS (b:cT) (p:Int) (x:mP) (k:Nat):Prop:=∃i,∃h:i<b.bl.length,At (dK b) p i k/\x=b.bl[i]
theorem MS.uniq {b:cT} {p:Int} {x y:mP} {k j:Nat} (h:MS b p x k) (h':MS b p y j):x=y/\k=j:=by
 obtain⟨i,hi,h1,rfl⟩:=h
 obtain⟨i',hi',h2,rfl⟩:=h'
 obtain⟨rfl,rfl⟩:=h1.uniq h2
 exact⟨rfl,rfl⟩
theorem W2 {b:cT} {p:Int} (h0:0<=p) (h:p<bZ (dK b)):∃x k,MS b p x k:=by
 obtain⟨i,k,hk⟩:=LG.2 ⟨h0,h⟩
 have hi:i<b.bl.length:=by obtain⟨h1,_⟩:=hk;rw[jR] at h1;exact h1
 exact⟨_,k,i,hi,hk,rfl⟩
inductive GZ (b:cT):Int->Int->Prop
 |use {p x:Int} {y:mP} {k:Nat}:MS b p y k->x∈usB y k->GZ b p x
 |step {p q x:Int} {y:mP} {k:Nat}:MS b p y k->ZZ y k≠some x->P6 (dK b) p q->GZ b q x->GZ b p x
def tyL (b:cT) (x:Int):Int:=match b.lc[x.toNat]? with
 |some l=>l.ty
 |none=>0
def LvR (b:cT) (r p:Int):Prop:=∃x m,GZ b p x/\aJR b.ty (tyL b x) m/\lL b.ol b.rg.length r m=true
def WJ (b:cT) (p:Int) (l:uV):Prop:=∃x k,MS b p x k/\aFP x k l=true
def aB5 (b:cT) (p:Int) (l:uV):Prop:=∃x k,MS b p x k/\aKh x k l=true
def Stp (b:cT) (l:uV) (p q:Int):Prop:=¬WJ b p l/\P6 (dK b) p q/\LvR b l.rg q
inductive Scp (b:cT) (l:uV):Int->Prop
 |one {q:Int}:Stp b l l.pt q->Scp b l q
 |step {p q:Int}:Scp b l p->Stp b l p q->Scp b l q
def VQ (p:Int) (s:EZ):List uV:=if s.k=0/\s.rv.k=1 then [⟨s.rv.rg,p,s.rv.mu,s.rv.pl⟩] else []
def DD:Int->List EZ->List uV
 |_,[]=>[]
 |p,s::l=>VQ p s++DD (p+1) l
def L4:Int->List mP->List uV
 |_,[]=>[]
 |p,x::l=>DD p x.st++L4 (p+x.st.length+1) l
def mO (b:cT):List uV:=L4 0 b.bl
def VP (b:cT) (i p:Int):Prop:=∃l,0<=i/\(mO b)[i.toNat]?=some l/\Scp b l p/\aB5 b p l
theorem Scp.lt {b:cT} {l:uV} {p:Int} (h:Scp b l p):0<=p/\p<bZ (dK b):=by
 cases h with
 |one h=>exact h.2.1.lt.2
 |step _ h=>exact h.2.1.lt.2
def ltP (x y:Int×Int):Prop:=x.1<y.1\/(x.1=y.1/\x.2<y.2)
theorem RS:∀{l m:List (Int×Int)},l.Pairwise ltP->m.Pairwise ltP->(∀x,x∈l↔x∈m)->l=m
 |[],[],_,_,_=>rfl
 |[],b::m,_,_,h=>by have:=(h b).2 (by simp);simp at this
 |a::l,[],_,_,h=>by have:=(h a).1 (by simp);simp at this
 |a::l,b::m,h1,h2,h=>by
  rw[wW] at h1 h2
  have hab:a=b:=by
   have ha:=(h a).1 (by simp)
   have hb:=(h b).2 (by simp)
   rcases dJ.1 ha with e|ha
   ·exact e
   rcases dJ.1 hb with e|hb
   ·exact e.symm
   have h3:=h1.1 b hb
   have h4:=h2.1 a ha
   unfold ltP at h3 h4
   omega
  subst hab
  rw[RS h1.2 h2.2 fun x=>?_]
  constructor
  ·intro hx
   have h3:=h1.1 x hx
   rcases dJ.1 ((h x).1 (gY _ hx)) with e|h
   ·rw[e] at h3;unfold ltP at h3;omega
   ·exact h
  ·intro hx
   have h3:=h2.1 x hx
   rcases dJ.1 ((h x).2 (gY _ hx)) with e|h
   ·rw[e] at h3;unfold ltP at h3;omega
   ·exact h
open Classical in
noncomputable def tO (n m:Nat) (P:Int->Int->Prop):List (Int×Int):=(vN n).flatMap fun i=>((vN m).filter fun p=>decide (P i p)).map fun p=>(i,p)
open Classical in
theorem zE {n m:Nat} {P:Int->Int->Prop} {x:Int×Int}:x∈tO n m P↔(0<=x.1/\x.1<n)/\(0<=x.2/\x.2<m)/\P x.1 x.2:=by
 unfold tO
 rw[tF]
 constructor
 ·rintro⟨i,hi,h⟩
  obtain⟨p,hp,rfl⟩:=eW.1 h
  rw[jX,u4,fV] at hp
  exact⟨u4.1 hi,hp.1,hp.2⟩
 ·rintro⟨h1,h2,h3⟩
  exact⟨x.1,u4.2 h1,eW.2 ⟨x.2,by rw[jX,u4,fV];exact⟨h2,h3⟩,rfl⟩⟩
theorem aAU {f:Int->List Int} (hf:∀i,(f i).Pairwise (·<·)):∀{l:List Int},l.Pairwise (·<·)->(l.flatMap fun i=>(f i).map fun p=>(i,p)).Pairwise ltP
 |[],_=>by simp
 |a::l,h=>by
  rw[wW] at h
  rw[F5,F3]
  refine⟨?_,aAU hf h.2,?_⟩
  ·rw[CW];exact(hf a).imp fun h=>.inr ⟨rfl,h⟩
  ·intro x hx y hy
   obtain⟨p,hp,rfl⟩:=eW.1 hx
   obtain⟨i,hi,h3⟩:=tF.1 hy
   obtain⟨q,hq,rfl⟩:=eW.1 h3
   exact .inl (h.1 i hi)
open Classical in
theorem R5 (n m:Nat) (P:Int->Int->Prop):(tO n m P).Pairwise ltP:=aAU (fun i=>(IH m).filter _) (IH n)
noncomputable def rZ (b:cT):List (Int×Int):=tO (mO b).length (bZ (dK b)) (VP b)
theorem VP.lt {b:cT} {i p:Int} (h:VP b i p):(0<=i/\i<(mO b).length)/\(0<=p/\p<bZ (dK b)):=by
 obtain⟨l,h0,h1,h2,_⟩:=h
 have:=(mE.1 h1).1
 exact⟨by omega,h2.lt⟩
theorem oK {b:cT} {x:Int×Int}:x∈rZ b↔VP b x.1 x.2:=by
 unfold rZ
 rw[zE]
 exact⟨fun h=>h.2.2,fun h=>⟨h.lt.1,h.lt.2,h⟩⟩
theorem sM (b:cT):(rZ b).Pairwise ltP:=R5 _ _ _
end Go.Proofs.YtfiipaodjpiooaaGreatDoor

