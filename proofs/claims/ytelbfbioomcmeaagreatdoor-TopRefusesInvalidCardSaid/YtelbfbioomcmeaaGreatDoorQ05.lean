/- Lemmas and contracts of functions, several texts in one. -/
import Derived.Test.YtelbfbioomcmeaaGreatDoorQ04
set_option maxRecDepth 100000
set_option maxHeartbeats 4000000
set_option linter.all false
namespace Go.Proofs.YtelbfbioomcmeaaGreatDoor
open Go.RowKit
def tH (d:D) (A B:Prop):Prop:=
 match d with
 | .val (.bool b)=>vU b A B
 |_=>False
theorem qM {cx:Cx} {Q:Exit->St->Prop} {s:St} {c:Operand} {x y:Code} (h:tH (s.ev c) (W cx x Q s) (W cx y Q s)):W cx (.cond c x y) Q s:=by
 unfold tH at h
 split at h
 ·rename_i b hb
  exact aFy b hb (OQ h) (OP h)
 ·exact h.elim
theorem R2 (s:St) (t:Nat) (d:D) (x:Nat):(s.put (some t) d).fr x=if x=t then d else s.fr x:=rfl
theorem aCW (s:St) (d:D):s.put none d=s:=rfl
theorem kN (s:St) (t:Option Tmp) (d:D):(s.put t d).H=s.H:=by cases t <;> rfl
theorem yF (s:St) (t:Option Tmp) (d:D):(s.put t d).df=s.df:=by cases t <;> rfl
theorem oN (s:St) (H:aA):(s.dW H).H=H:=rfl
theorem aCz (s:St) (H:aA):(s.dW H).fr=s.fr:=rfl
theorem vD (s:St) (H:aA):(s.dW H).df=s.df:=rfl
theorem aG6 (s:St) (t:Nat):s.ev (.tmp t)=s.fr t:=rfl
theorem aBL (s:St) (v:Value):s.ev (.const v)=D.ofV v:=rfl
theorem aDd (s:St) (f:FuncId):s.ev (.func f)=.fn f []:=rfl
theorem YZ (s:St) (g:Nat):s.ev (.global g)=gD g:=rfl
theorem aEI (ds:List D) (H:aA) (t:Nat):(St.init ds H).fr t=ds.getD t (.val undef):=rfl
theorem oH (ds:List D) (H:aA):(St.init ds H).H=H:=rfl
theorem aEH (ds:List D) (H:aA):(St.init ds H).df=[]:=rfl
theorem aDe (s:St) (l:List Operand):s.xT ⟨l⟩=l.map s.ev:=rfl
theorem ZY (s:St) (l:List (Nat×Operand)):s.parts ⟨l⟩=l.map fun p=>(p.1,s.ev p.2):=rfl
theorem aE2 (k:IntKind) (n:Int):D.ofV (.int k n)=.val (.int k n):=rfl
theorem aCK (b:Bool):D.ofV (.bool b)=.val (.bool b):=rfl
theorem UN (s:ByteArray):D.ofV (.string s)=.val (.string s):=rfl
theorem ZW (a:Option Addr) (n c:Nat):D.ofV (.slice a n c)=.val (.slice a n c):=rfl
theorem RP (a:Option Addr):D.ofV (.pointer a)=.val (.pointer a):=rfl
theorem aE3 (a:Option Nat):D.ofV (.map a)=.val (.map a):=rfl
theorem RO:D.ofV .nilFunc=.val .nilFunc:=rfl
theorem U0 {α:Type} (l:List α):(⟨l⟩:Array α).toList=l:=rfl
theorem aDa (l:List Oper) (j:Nat):mF ⟨l⟩ j=(l[j]?).bind (·.dst):=by simp [mF]
def BW (P:Program) (s:St) (rs:List ResultVar) (K:D->Prop):Prop:=
 match rs with
 |[.tmp t]=>K (s.fr t)
 |[.tmp t,.tmp u]=>K (.fV [s.fr t,s.fr u])
 |[.tmp t,.tmp u,.tmp v]=>K (.fV [s.fr t,s.fr u,s.fr v])
 |[]=>K (.fV [])
 |[.cell a t]=>BQ P s.H t (s.fr a) K
 |[.cell a t,.cell b u]=>BQ P s.H t (s.fr a) fun x=>BQ P s.H u (s.fr b) fun y=>K (.fV [x,y])
 |[.cell a t,.cell b u,.cell c v]=>BQ P s.H t (s.fr a) fun x=>BQ P s.H u (s.fr b) fun y=>BQ P s.H v (s.fr c) fun z=>K (.fV [x,y,z])
 |[.cell a t,.tmp u]=>BQ P s.H t (s.fr a) fun x=>K (.fV [x,s.fr u])
 |[.tmp u,.cell a t]=>BQ P s.H t (s.fr a) fun x=>K (.fV [s.fr u,x])
 |[.cell a t,.tmp u,.tmp v]=>BQ P s.H t (s.fr a) fun x=>K (.fV [x,s.fr u,s.fr v])
 |_=>False
theorem oK {P:Program} {cx:Cx} {s:St} {a:Act} {w:World} (m:cH cx s a w) {t:Nat} {ty:TypeId} {K:D->Prop} (h:BQ P s.H ty (s.fr t) K):∃u d p,a.tmps[t]?.getD undef=.pointer (some p)/\(loadVar ty p).run P w=.ok u w/\D.is w s.H.others d u/\K d:=by
 obtain⟨u,d,h1,h2,h3⟩:=W9 m.H h (m.fr t)
 have hp:∃p,a.tmps.getD t undef=.pointer (some p):=by
  have hf:=m.fr t
  unfold BQ at h
  split at h
  ·split at h
   ·rename_i e;rw[e] at hf;simp only[D.is] at hf;obtain⟨b,o,hv,_⟩:=hf;exact⟨_,hv⟩
   ·rename_i e;rw[e] at hf;simp only[D.is] at hf;exact⟨_,hf⟩
   ·exact h.elim
  ·exact h.elim
 obtain⟨p,hp⟩:=hp
 refine⟨u,d,p,by rw[<-uE];exact hp,?_,h2,h3⟩
 rw[hp] at h1
 simpa only[Instr.loadAt,Instr.sureAddr,Sem.run_bind,Sem.run_pure,Result.andThen] using h1
theorem CJ {cx:Cx} {fn:Func} {K:D->aA->Prop} {s:St} {e:Exit} (he:e=.normal\/e=.ret) (bG:s.df=[]) (h:BW cx.P s fn.results.toList fun d=>∃H',H'.le s.H/\K d H'):aBE cx fn K e s:=by
 have key:PL cx fn s K:=by
  intro a w m
  have fin:∀(v:Value) (d:D),(results fn a.tmps).run cx.P w=.ok v w->D.is w s.H.others d v->(∃H',H'.le s.H/\K d H')->∃v d H',(results fn a.tmps).run cx.P w=.ok v w/\D.is w H'.others d v/\H'.le s.H/\K d H':=by
   rintro v d h1 h2 ⟨H',h3,h4⟩
   exact⟨v,d,H',h1,pN (nI h3 w) _ h2,h3,h4⟩
  have J1:∀l,fn.results.toList=l->fn.results=⟨l⟩:=fun l e=>kY (by simpa using e)
  unfold BW at h
  split at h
  ·rename_i t e
   exact fin _ _ (by simp [results,J1 _ e]) (m.fr t) h
  ·rename_i t u e
   exact fin (.tuple #[a.tmps.getD t undef,a.tmps.getD u undef]) _ (by simp [results,J1 _ e]) (by simp only[D.is,aW];exact⟨_,rfl,_,_,rfl,m.fr t,_,_,rfl,m.fr u,rfl⟩) h
  ·rename_i t u v e
   exact fin (.tuple #[a.tmps.getD t undef,a.tmps.getD u undef,a.tmps.getD v undef]) _ (by simp [results,J1 _ e]) (by simp only[D.is,aW];exact⟨_,rfl,_,_,rfl,m.fr t,_,_,rfl,m.fr u,_,_,rfl,m.fr v,rfl⟩) h
  ·rename_i e
   exact fin (.tuple #[]) _ (by simp [results,J1 _ e]) (by simp only[D.is,aW];exact⟨_,rfl,rfl⟩) h
  ·rename_i b t e
   obtain⟨x,dx,p,h0,h1,h2,h3⟩:=oK m h
   exact fin x dx (by simp [results,J1 _ e,h0,h1,Result.andThen,asAddr]) h2 h3
  ·rename_i b t c u e
   obtain⟨x,dx,p,h0,h1,h2,h3⟩:=oK m h
   obtain⟨y,dy,q,g0,h4,h5,h6⟩:=oK m h3
   exact fin (.tuple #[x,y]) _ (by simp [results,J1 _ e,h0,h1,g0,h4,Result.andThen,asAddr]) (by simp only[D.is,aW];exact⟨_,rfl,_,_,rfl,h2,_,_,rfl,h5,rfl⟩) h6
  ·rename_i b t c u d v e
   obtain⟨x,dx,p,h0,h1,h2,h3⟩:=oK m h
   obtain⟨y,dy,q,g0,h4,h5,h6⟩:=oK m h3
   obtain⟨z,dz,r,k0,h7,h8,h9⟩:=oK m h6
   exact fin (.tuple #[x,y,z]) _ (by simp [results,J1 _ e,h0,h1,g0,h4,k0,h7,Result.andThen,asAddr]) (by simp only[D.is,aW];exact⟨_,rfl,_,_,rfl,h2,_,_,rfl,h5,_,_,rfl,h8,rfl⟩) h9
  ·rename_i b t u e
   obtain⟨x,dx,p,h0,h1,h2,h3⟩:=oK m h
   exact fin (.tuple #[x,a.tmps.getD u undef]) _ (by simp [results,J1 _ e,h0,h1,Result.andThen,asAddr]) (by simp only[D.is,aW];exact⟨_,rfl,_,_,rfl,h2,_,_,rfl,m.fr u,rfl⟩) h3
  ·rename_i u b t e
   obtain⟨x,dx,p,h0,h1,h2,h3⟩:=oK m h
   exact fin (.tuple #[a.tmps.getD u undef,x]) _ (by simp [results,J1 _ e,h0,h1,Result.andThen,asAddr]) (by simp only[D.is,aW];exact⟨_,rfl,_,_,rfl,m.fr u,_,_,rfl,h2,rfl⟩) h3
  ·rename_i b t u v e
   obtain⟨x,dx,p,h0,h1,h2,h3⟩:=oK m h
   exact fin (.tuple #[x,a.tmps.getD u undef,a.tmps.getD v undef]) _ (by simp [results,J1 _ e,h0,h1,Result.andThen,asAddr]) (by simp only[D.is,aW];exact⟨_,rfl,_,_,rfl,h2,_,_,rfl,m.fr u,_,_,rfl,m.fr v,rfl⟩) h3
  ·exact h.elim
 rcases he with rfl|rfl <;> exact⟨bG,key⟩
theorem aN {P:Program} {f:FuncId} {fn:Func} {c:Code} {ds:List D} {H:aA} {K:D->aA->Prop} (N:Nat) (rs:List ResultVar) (hf:P.funcs[f]?=some fn) (uV:(fn.name== "runtime.NumGoroutine")=false) (hb:fn.body=some c) (hN:fn.ntmps=N) (J1:fn.results=rs.toArray) (hl:ds.length<=N)
  (h:∀w0 (g0:E3 w0 H) (Q:Exit->St->Prop),(∀e s,e=.normal\/e=.ret->s.df=[]->BW P s rs (fun d=>∃H',H'.le s.H/\K d H')->Q e s)->W ⟨P,none,N,H,w0,g0⟩ c Q (St.init ds H)):aT P f ds H K:=
 TO N hf uV hb hN hl fun w0 g0=>h w0 g0 _ fun _ _ he bG hr=>CJ he bG (by rw[J1];simpa using hr)
theorem aA1:IntKind.i64.bits=64:=rfl
theorem aA4:IntKind.u64.bits=64:=rfl
theorem aA3:IntKind.u32.bits=32:=rfl
theorem aA2:IntKind.u16.bits=16:=rfl
theorem aDM:IntKind.u8.bits=8:=rfl
theorem aY {x:Int} (h: -9223372036854775808<=x/\x<=9223372036854775807):IntKind.i64.wrap x=x:=by rw[IntKind.wrap_i64];omega
theorem j6 {x:Int} (h:0<=x/\x<=18446744073709551615):IntKind.u64.wrap x=x:=by rw[IntKind.wrap_u64];omega
theorem qK (x:Int):IntKind.u8.wrap x=x % 256:=by simp [IntKind.wrap,IntKind.bits,IntKind.signed]
theorem gV (s:St) (t:Option Tmp) (d:D) (H:aA):(s.put t d).dW H=(s.dW H).put t d:=by cases t <;> rfl
theorem l4 (s:St) (H H':aA):(s.dW H).dW H'=s.dW H':=rfl
theorem lV (ds:List D) (H H':aA):(St.init ds H).dW H'=St.init ds H':=rfl
theorem aA.aCu {H:aA} {b c:Nat} {x:gB}:(H.bH b x) c=Option.none↔c≠b/\H c=Option.none:=by
 by_cases h:c=b
 ·subst h;simp [aQ]
 ·simp [aP h,h]
abbrev bT:=@aA.aCu
theorem aA.MV (H:aA) (b:Nat) (x:gB):(H.bH b x).del b=H.del b:=funext fun c=>by
 by_cases h:c=b
 ·subst h;rw[sX,sX]
 ·rw[bP h,bP h,aP h]
abbrev nV:=@aA.MV
theorem aA.TN {H:aA} {b c:Nat} {x:gB} (h:b≠c):(H.bH c x).del b=(H.del b).bH c x:=funext fun k=>by
 by_cases h1:k=b
 ·subst h1;rw[sX,aP h,sX]
 ·rw[bP h1]
  by_cases h2:k=c
  ·subst h2;rw[aQ,aQ]
  ·rw[aP h2,aP h2,bP h1]
abbrev pK:=@aA.TN
theorem aA.aAl {H:aA} {b:Nat} (h:H b=Option.none):H.del b=H:=funext fun k=>by
 by_cases h1:k=b
 ·subst h1;rw[sX,h]
 ·rw[bP h1]
abbrev oU:=@aA.aAl
theorem aA.zJ (H:aA) (b:Nat) (x y:gB):(H.bH b x).bH b y=H.bH b y:=funext fun k=>by
 by_cases h1:k=b
 ·subst h1;rw[aQ,aQ]
 ·rw[aP h1,aP h1,aP h1]
abbrev DS:=@aA.zJ
theorem aA.aH2 {H H':aA} (h:H.le H') (b:Nat) (x:gB):(H.bH b x).le (H'.bH b x):=fun c y e=>by
 by_cases hc:c=b
 ·subst hc;rw[aQ] at e ⊢;exact e
 ·rw[aP hc] at e ⊢;exact h _ _ e
theorem aA.N8 {H H':aA} {b:Nat} (h:H.le H') (hb:H b=Option.none):H.le (H'.del b):=fun c y e=>by
 by_cases hc:c=b
 ·subst hc;rw[hb] at e;cases e
 ·rw[bP hc];exact h _ _ e
theorem aF0 {x:Int} {c:UInt8} (h:x=(c.toNat:Int)):[D.val (.int .u8 x)]=bD c:=by rw[h];rfl
def xF (F:(D->Prop)->Prop):Prop:=∃(p:Prop) (d:D),∀K:D->Prop,F K↔(p/\K d)
theorem cM (d:D):xF fun K=>K d:=⟨True,d,fun K=>by simp⟩
theorem bE:xF fun _=>False:=⟨False,default,fun K=>by simp⟩
theorem bW {p:Prop} {F:(D->Prop)->Prop} (h:p->xF F):xF fun K=>p/\F K:=by
 by_cases hp:p
 ·obtain⟨q,d,hq⟩:=h hp
  exact⟨q,d,fun K=>by simp only[hp,true_and];exact hq K⟩
 ·exact⟨False,default,fun K=>by simp [hp]⟩
theorem M5 {c:Prop} [Decidable c] {F G:(D->Prop)->Prop} (h:c->xF F) (h':¬c->xF G):xF fun K=>if c then F K else G K:=by
 by_cases hc:c
 ·simpa only[aH hc] using h hc
 ·simpa only[aD hc] using h' hc
theorem aAp (op:BinOp) (k:IntKind) (a b:Int):xF (AF op k a b):=by
 unfold AF
 cases op <;> first|exact cM _|exact bW fun _=>cM _|exact bE
theorem aAq (op:BinOp) (a b:ByteArray):xF (AG op a b):=by
 unfold AG
 cases op <;> first|exact cM _|exact bW fun _=>cM _|exact bE
theorem yQ (op:BinOp) (b:Bool):xF (m8 op b):=by
 unfold m8
 cases op <;> first|exact cM _|exact bE
theorem YN (P:Program) (op:BinOp) (t:TypeId) (x:D):xF (rA P op t x):=by
 unfold rA
 split
 ·exact yQ _ _
 ·exact bE
theorem YO (P:Program) (op:BinOp) (t:TypeId) (x:D):xF (oZ P op t x):=by
 unfold oZ
 split
 ·exact yQ _ _
 ·exact bE
theorem YM (P:Program) (op:BinOp) (t:TypeId) (x:D):xF (qZ P op t x):=by
 unfold qZ
 split
 ·exact yQ _ _
 ·exact bE
theorem H9 (P:Program) (op:BinOp) (t:TypeId) (x y:D):xF (wU P op t x y):=by
 unfold wU
 split
 ·split
  ·exact bW fun _=>cM _
  ·exact bW fun _=>cM _
  ·exact bW fun _=>aAp _ _ _ _
 ·exact aAq _ _ _
 ·refine bW fun _=>?_
  split
  ·exact cM _
  ·exact cM _
  ·exact bE
 ·split
  ·exact bW fun _=>yQ _ _
  ·exact bE
 ·exact YN _ _ _ _
 ·exact YO _ _ _ _
 ·exact YM _ _ _ _
 ·exact bE
theorem NA (op:UnOp) (x:D):xF (SN op x):=by
 unfold SN
 split
 ·exact cM _
 ·exact cM _
 ·exact cM _
 ·exact bE
theorem aAr (H:aA) (sz:Nat) (x:D) (F:List (List D)->(D->Prop)->Prop) (h:∀els,xF (F els)):xF fun K=>kU H sz x fun els=>F els K:=by
 unfold kU
 split
 ·exact bW fun _=>h _
 ·split
  ·exact bW fun _=>bW fun _=>bW fun _=>bW fun _=>h _
  ·exact bE
 ·exact h _
 ·exact h _
 ·exact bE
theorem MX (P:Program) (H:aA) (a b:TypeId) (x:D):xF (GN P H a b x):=by
 unfold GN
 split
 ·split
  ·exact cM _
  ·exact cM _
  ·split
   ·refine aAr H 1 _ (fun els K=>match bytesOf els with|some l=>K (.val (.string (e8 l)))|none=>False) fun els=>?_
    split
    ·exact cM _
    ·exact bE
   ·exact bE
  ·exact bE
 ·exact bE
theorem K7 (P:Program) (t:TypeId) (cs:List D) (pB:Nat):xF (qC P t cs pB):=by
 unfold qC
 split
 ·refine M5 (fun _=>cM _) fun _=>?_
  split
  ·exact cM _
  ·exact bE
 ·exact bE
theorem BI (P:Program) (t:TypeId) (x:D) (f:Nat):xF (lR P t x f):=by
 unfold lR
 split
 ·exact K7 _ _ _ _
 ·exact bE
theorem MZ (P:Program) (t:TypeId) (x:D) (f:Nat):xF (P6 P t x f):=by
 unfold P6
 split
 ·split
  ·refine bW fun _=>?_
   split
   ·exact cM _
   ·exact cM _
   ·exact bE
  ·exact bE
 ·exact bE
theorem M0 (P:Program) (H:aA) (t:TypeId) (x ix:D):xF (Q9 P H t x ix):=by
 unfold Q9
 split
 ·split
  ·split
   ·split
    ·refine bW fun _=>bW fun _=>?_
     split
     ·exact cM _
     ·exact bE
    ·exact bW fun _=>bW fun _=>bW fun _=>cM _
    ·exact bE
   ·exact bE
  ·split
   ·refine bW fun _=>bW fun _=>?_
    split
    ·exact cM _
    ·exact cM _
    ·exact bE
   ·exact bE
  ·exact bE
 ·exact bE
theorem M6 (P:Program) (t:TypeId) (x ix:D):xF (RA P t x ix):=by
 unfold RA
 split
 ·split
  ·split
   ·exact bW fun _=>bW fun _=>K7 _ _ _ _
   ·exact bE
  ·refine bW fun _=>?_
   split
   ·exact cM _
   ·exact bE
  ·exact bE
 ·exact bE
theorem VR (ag:Bool) (sz:Nat) (cs:List D):xF (RE ag sz cs):=by
 unfold RE
 refine M5 (fun _=>M5 (fun _=>cM _) fun _=>bW fun _=>cM _) fun _=>?_
 split
 ·exact cM _
 ·exact bE
theorem M7 (P:Program) (H:aA) (t:TypeId) (x:D):xF (BQ P H t x):=by
 unfold BQ
 split
 ·split
  ·exact VR _ _ _
  ·split
   ·refine bW fun _=>bW fun _=>?_
    split
    ·exact VR _ _ _
    ·exact bE
   ·exact bE
  ·exact bE
 ·exact bE
theorem M9 (P:Program) (H:aA) (t:TypeId) (x:D) (lo hi mx:Option D):xF (SB P H t x lo hi mx):=by
 unfold SB
 split
 ·split
  ·split
   ·split
    ·exact bW fun _=>bW fun _=>bW fun _=>bW fun _=>cM _
    ·exact bE
   ·split
    ·exact bW fun _=>bW fun _=>bW fun _=>bW fun _=>cM _
    ·exact bE
   ·split
    ·exact bW fun _=>bW fun _=>cM _
    ·exact bE
   ·split
    ·exact bW fun _=>bW fun _=>cM _
    ·exact bE
   ·split
    ·exact bW fun _=>bW fun _=>bW fun _=>bW fun _=>cM _
    ·exact bE
   ·exact bE
  ·split
   ·split
    ·exact cM _
    ·exact cM _
    ·exact cM _
    ·exact cM _
    ·exact bE
   ·exact bE
  ·exact bE
 ·split
  ·split
   ·exact bW fun _=>bW fun _=>bW fun _=>cM _
   ·exact bE
  ·exact bE
 ·split
  ·split
   ·split
    ·exact bW fun _=>bW fun _=>bW fun _=>bW fun _=>cM _
    ·exact bW fun _=>bW fun _=>bW fun _=>bW fun _=>cM _
   ·exact bE
  ·exact bE
 ·exact bE
theorem MW (P:Program) (t:TypeId) (ds:List (Nat×D)):xF (PR P t ds):=by
 unfold PR
 split
 ·refine bW fun _=>bW fun _=>?_
  split
  ·exact cM _
  ·exact bE
 ·exact bE
theorem IA (P:Program) (H:aA) (t:TypeId) (x:D):xF (uZ P H t x):=by
 unfold uZ
 split
 ·split
  ·exact cM _
  ·exact cM _
  ·exact cM _
  ·exact cM _
  ·exact cM _
  ·exact cM _
  ·exact cM _
  ·split
   ·exact cM _
   ·exact bE
  ·exact bE
 ·exact bE
theorem IC (xs:List D):xF (x7 xs):=by
 unfold x7
 split
 ·exact cM _
 ·exact bE
theorem IB (xs:List D):xF (x6 xs):=by
 unfold x6
 split
 ·exact cM _
 ·exact bE
theorem M8 (x:D):xF (RK x):=by
 unfold RK
 split
 ·exact cM _
 ·exact cM _
 ·exact cM _
 ·exact bE
theorem MY (x:D) (i:Nat):xF (P5 x i):=by
 unfold P5
 split
 ·split
  ·exact cM _
  ·exact bE
 ·exact bE
theorem aDb {H H':aA} (aR:H.le H') {sz:Nat} {x:D} {K:List (List D)->Prop} (h:kU H sz x K):kU H' sz x K:=by
 unfold kU at h ⊢
 split at h
 ·exact h
 ·split at h
  ·rename_i hb
   rw[aR _ _ hb]
   exact h
  ·exact h.elim
 ·exact h
 ·exact h
 ·exact h.elim
theorem aHX {P:Program} {H H':aA} (aR:H.le H') {t:TypeId} {x:D} {K:D->Prop} (h:BQ P H t x K):BQ P H' t x K:=by
 unfold BQ at h ⊢
 split at h
 ·rename_i hT
  split at h
  ·exact h
  ·split at h
   ·rename_i hb
    simp only[aR _ _ hb]
    exact h
   ·exact h.elim
  ·exact h.elim
 ·exact h.elim
theorem aEU {P:Program} {H H':aA} (aR:H.le H') {t:TypeId} {x:D} {K:D->Prop} (h:uZ P H t x K):uZ P H' t x K:=by
 unfold uZ at h ⊢
 split at h
 ·split at h <;> first
   |exact h
   |exact h.elim
   |skip
  split at h
  ·rename_i hb
   simp only[aR _ _ hb]
   exact h
  ·exact h.elim
 ·exact h.elim
theorem VS (P:Program) (H:aA) (t:TypeId) (x ix:D) (ok:Bool):xF (LL P H t x ix ok):=by
 unfold LL
 split
 ·split
  ·refine bW fun _=>?_
   split
   ·exact cM _
   ·exact cM _
  ·exact bE
 ·exact bE
theorem aH3 {P:Program} {H H':aA} (aR:H.le H') {t:TypeId} {x ix:D} {ok:Bool} {K:D->Prop} (h:LL P H t x ix ok K):LL P H' t x ix ok K:=by
 unfold LL at h ⊢
 split at h
 ·split at h
  ·rename_i hb hz
   simp only[aR _ _ hb,hz]
   exact h
  ·exact h.elim
 ·exact h.elim
theorem aGZ {P:Program} {H H':aA} (aR:H.le H') {a b:TypeId} {x:D} {K:D->Prop} (h:GN P H a b x K):GN P H' a b x K:=by
 unfold GN at h ⊢
 split at h
 ·split at h
  ·exact h
  ·exact h
  ·split at h
   ·exact aDb aR h
   ·exact h.elim
  ·exact h.elim
 ·exact h.elim
end Go.Proofs.YtelbfbioomcmeaaGreatDoor

