/- Lemmas and contracts of functions, several texts in one. -/
import Derived.Test.YtfiipaodjpiooaaGreatDoorQ04
set_option maxRecDepth 100000
set_option maxHeartbeats 4000000
set_option linter.all false
namespace Go.Proofs.YtfiipaodjpiooaaGreatDoor
open Go.RowKit
def tY (d:D) (A B:Prop):Prop:=
 match d with
 | .val (.bool b)=>CL b A B
 |_=>False
theorem vO {cx:Cx} {Q:Exit->St->Prop} {s:St} {c:Operand} {x y:Code} (h:tY (s.ev c) (W cx x Q s) (W cx y Q s)):W cx (.cond c x y) Q s:=by
 unfold tY at h
 split at h
 ·rename_i b hb
  exact aNE b hb (ZB h) (ZA h)
 ·exact h.elim
theorem zG (s:St) (t:Nat) (d:D) (x:Nat):(s.put (some t) d).fr x=if x=t then d else s.fr x:=rfl
theorem aIM (s:St) (d:D):s.put none d=s:=rfl
theorem s5 (s:St) (t:Option Tmp) (d:D):(s.put t d).H=s.H:=by cases t <;> rfl
theorem IC (s:St) (t:Option Tmp) (d:D):(s.put t d).df=s.df:=by cases t <;> rfl
theorem lX (s:St) (H:aC):(s.dY H).H=H:=rfl
theorem aJF (s:St) (H:aC):(s.dY H).fr=s.fr:=rfl
theorem BQ (s:St) (H:aC):(s.dY H).df=s.df:=rfl
theorem aNf (s:St) (t:Nat):s.ev (.tmp t)=s.fr t:=rfl
theorem aGf (s:St) (v:Value):s.ev (.const v)=D.ofV v:=rfl
theorem aKC (s:St) (f:FuncId):s.ev (.func f)=.fn f []:=rfl
theorem aEw (s:St) (g:Nat):s.ev (.global g)=gD g:=rfl
theorem aKg (ds:List D) (H:aC) (t:Nat):(St.init ds H).fr t=ds.getD t (.val undef):=rfl
theorem aCL (ds:List D) (H:aC):(St.init ds H).H=H:=rfl
theorem aKf (ds:List D) (H:aC):(St.init ds H).df=[]:=rfl
theorem aKD (s:St) (l:List Operand):s.G3 ⟨l⟩=l.map s.ev:=rfl
theorem aFX (s:St) (l:List (Nat×Operand)):s.parts ⟨l⟩=l.map fun p=>(p.1,s.ev p.2):=rfl
theorem aLQ (k:IntKind) (n:Int):D.ofV (.int k n)=.val (.int k n):=rfl
theorem aHu (b:Bool):D.ofV (.bool b)=.val (.bool b):=rfl
theorem aCY (s:ByteArray):D.ofV (.string s)=.val (.string s):=rfl
theorem aFV (a:Option Addr) (n c:Nat):D.ofV (.slice a n c)=.val (.slice a n c):=rfl
theorem aBB (a:Option Addr):D.ofV (.pointer a)=.val (.pointer a):=rfl
theorem aLR (a:Option Nat):D.ofV (.map a)=.val (.map a):=rfl
theorem aBA:D.ofV .nilFunc=.val .nilFunc:=rfl
theorem aCk {α:Type} (l:List α):(⟨l⟩:Array α).toList=l:=rfl
theorem aJw (l:List Oper) (j:Nat):qF ⟨l⟩ j=(l[j]?).bind (·.dst):=by simp [qF]
def BK (P:Program) (s:St) (rs:List ResultVar) (K:D->Prop):Prop:=
 match rs with
 |[.tmp t]=>K (s.fr t)
 |[.tmp t,.tmp u]=>K (.pG [s.fr t,s.fr u])
 |[.tmp t,.tmp u,.tmp v]=>K (.pG [s.fr t,s.fr u,s.fr v])
 |[]=>K (.pG [])
 |[.cell a t]=>EP P s.H t (s.fr a) K
 |[.cell a t,.cell b u]=>EP P s.H t (s.fr a) fun x=>EP P s.H u (s.fr b) fun y=>K (.pG [x,y])
 |[.cell a t,.cell b u,.cell c v]=>EP P s.H t (s.fr a) fun x=>EP P s.H u (s.fr b) fun y=>EP P s.H v (s.fr c) fun z=>K (.pG [x,y,z])
 |[.cell a t,.tmp u]=>EP P s.H t (s.fr a) fun x=>K (.pG [x,s.fr u])
 |[.tmp u,.cell a t]=>EP P s.H t (s.fr a) fun x=>K (.pG [s.fr u,x])
 |[.cell a t,.tmp u,.tmp v]=>EP P s.H t (s.fr a) fun x=>K (.pG [x,s.fr u,s.fr v])
 |_=>False
theorem tA {P:Program} {cx:Cx} {s:St} {a:Act} {w:World} (m:dF cx s a w) {t:Nat} {ty:TypeId} {K:D->Prop} (h:EP P s.H ty (s.fr t) K):∃u d p,a.tmps[t]?.getD undef=.pointer (some p)/\(loadVar ty p).run P w=.ok u w/\D.is w s.H.others d u/\K d:=by
 obtain⟨u,d,h1,h2,h3⟩:=aED m.H h (m.fr t)
 have hp:∃p,a.tmps.getD t undef=.pointer (some p):=by
  have hf:=m.fr t
  unfold EP at h
  split at h
  ·split at h
   ·rename_i e;rw[e] at hf;simp only[D.is] at hf;obtain⟨b,o,hv,_⟩:=hf;exact⟨_,hv⟩
   ·rename_i e;rw[e] at hf;simp only[D.is] at hf;exact⟨_,hf⟩
   ·exact h.elim
  ·exact h.elim
 obtain⟨p,hp⟩:=hp
 refine⟨u,d,p,by rw[<-v8];exact hp,?_,h2,h3⟩
 rw[hp] at h1
 simpa only[Instr.loadAt,Instr.sureAddr,Sem.run_bind,Sem.run_pure,Result.andThen] using h1
theorem ED {cx:Cx} {fn:Func} {K:D->aC->Prop} {s:St} {e:Exit} (he:e=.normal\/e=.ret) (aT:s.df=[]) (h:BK cx.P s fn.results.toList fun d=>∃H',H'.le s.H/\K d H'):aEq cx fn K e s:=by
 have key:aAA cx fn s K:=by
  intro a w m
  have fin:∀(v:Value) (d:D),(results fn a.tmps).run cx.P w=.ok v w->D.is w s.H.others d v->(∃H',H'.le s.H/\K d H')->∃v d H',(results fn a.tmps).run cx.P w=.ok v w/\D.is w H'.others d v/\H'.le s.H/\K d H':=by
   rintro v d h1 h2 ⟨H',h3,h4⟩
   exact⟨v,d,H',h1,qD (rP h3 w) _ h2,h3,h4⟩
  have OZ:∀l,fn.results.toList=l->fn.results=⟨l⟩:=fun l e=>n9 (by simpa using e)
  unfold BK at h
  split at h
  ·rename_i t e
   exact fin _ _ (by simp [results,OZ _ e]) (m.fr t) h
  ·rename_i t u e
   exact fin (.tuple #[a.tmps.getD t undef,a.tmps.getD u undef]) _ (by simp [results,OZ _ e]) (by simp only[D.is,aW];exact⟨_,rfl,_,_,rfl,m.fr t,_,_,rfl,m.fr u,rfl⟩) h
  ·rename_i t u v e
   exact fin (.tuple #[a.tmps.getD t undef,a.tmps.getD u undef,a.tmps.getD v undef]) _ (by simp [results,OZ _ e]) (by simp only[D.is,aW];exact⟨_,rfl,_,_,rfl,m.fr t,_,_,rfl,m.fr u,_,_,rfl,m.fr v,rfl⟩) h
  ·rename_i e
   exact fin (.tuple #[]) _ (by simp [results,OZ _ e]) (by simp only[D.is,aW];exact⟨_,rfl,rfl⟩) h
  ·rename_i b t e
   obtain⟨x,dx,p,h0,h1,h2,h3⟩:=tA m h
   exact fin x dx (by simp [results,OZ _ e,h0,h1,Result.andThen,asAddr]) h2 h3
  ·rename_i b t c u e
   obtain⟨x,dx,p,h0,h1,h2,h3⟩:=tA m h
   obtain⟨y,dy,q,g0,h4,h5,h6⟩:=tA m h3
   exact fin (.tuple #[x,y]) _ (by simp [results,OZ _ e,h0,h1,g0,h4,Result.andThen,asAddr]) (by simp only[D.is,aW];exact⟨_,rfl,_,_,rfl,h2,_,_,rfl,h5,rfl⟩) h6
  ·rename_i b t c u d v e
   obtain⟨x,dx,p,h0,h1,h2,h3⟩:=tA m h
   obtain⟨y,dy,q,g0,h4,h5,h6⟩:=tA m h3
   obtain⟨z,dz,r,k0,h7,h8,h9⟩:=tA m h6
   exact fin (.tuple #[x,y,z]) _ (by simp [results,OZ _ e,h0,h1,g0,h4,k0,h7,Result.andThen,asAddr]) (by simp only[D.is,aW];exact⟨_,rfl,_,_,rfl,h2,_,_,rfl,h5,_,_,rfl,h8,rfl⟩) h9
  ·rename_i b t u e
   obtain⟨x,dx,p,h0,h1,h2,h3⟩:=tA m h
   exact fin (.tuple #[x,a.tmps.getD u undef]) _ (by simp [results,OZ _ e,h0,h1,Result.andThen,asAddr]) (by simp only[D.is,aW];exact⟨_,rfl,_,_,rfl,h2,_,_,rfl,m.fr u,rfl⟩) h3
  ·rename_i u b t e
   obtain⟨x,dx,p,h0,h1,h2,h3⟩:=tA m h
   exact fin (.tuple #[a.tmps.getD u undef,x]) _ (by simp [results,OZ _ e,h0,h1,Result.andThen,asAddr]) (by simp only[D.is,aW];exact⟨_,rfl,_,_,rfl,m.fr u,_,_,rfl,h2,rfl⟩) h3
  ·rename_i b t u v e
   obtain⟨x,dx,p,h0,h1,h2,h3⟩:=tA m h
   exact fin (.tuple #[x,a.tmps.getD u undef,a.tmps.getD v undef]) _ (by simp [results,OZ _ e,h0,h1,Result.andThen,asAddr]) (by simp only[D.is,aW];exact⟨_,rfl,_,_,rfl,h2,_,_,rfl,m.fr u,_,_,rfl,m.fr v,rfl⟩) h3
  ·exact h.elim
 rcases he with rfl|rfl <;> exact⟨aT,key⟩
theorem aQ {P:Program} {f:FuncId} {fn:Func} {c:Code} {ds:List D} {H:aC} {K:D->aC->Prop} (N:Nat) (rs:List ResultVar) (hf:P.funcs[f]?=some fn) (x5:(fn.name== "runtime.NumGoroutine")=false) (hb:fn.body=some c) (hN:fn.ntmps=N) (OZ:fn.results=rs.toArray) (hl:ds.length<=N)
  (h:∀w0 (g0:DW w0 H) (Q:Exit->St->Prop),(∀e s,e=.normal\/e=.ret->s.df=[]->BK P s rs (fun d=>∃H',H'.le s.H/\K d H')->Q e s)->W ⟨P,none,N,H,w0,g0⟩ c Q (St.init ds H)):bE P f ds H K:=
 aBn N hf x5 hb hN hl fun w0 g0=>h w0 g0 _ fun _ _ he aT hr=>ED he aT (by rw[OZ];simpa using hr)
theorem aGF:IntKind.i64.bits=64:=rfl
theorem aGI:IntKind.u64.bits=64:=rfl
theorem aGH:IntKind.u32.bits=32:=rfl
theorem aGG:IntKind.u16.bits=16:=rfl
theorem aJ9:IntKind.u8.bits=8:=rfl
theorem bF {x:Int} (h: -9223372036854775808<=x/\x<=9223372036854775807):IntKind.i64.wrap x=x:=by rw[IntKind.wrap_i64];omega
theorem nA (s:St) (t:Option Tmp) (d:D) (H:aC):(s.put t d).dY H=(s.dY H).put t d:=by cases t <;> rfl
theorem jN (s:St) (H H':aC):(s.dY H).dY H'=s.dY H':=rfl
theorem HU (ds:List D) (H H':aC):(St.init ds H).dY H'=St.init ds H':=rfl
theorem aC.aIv {H:aC} {b c:Nat} {x:fK}:(H.bH b x) c=Option.none↔c≠b/\H c=Option.none:=by
 by_cases h:c=b
 ·subst h;simp [aO]
 ·simp [aN h,h]
abbrev bY:=@aC.aIv
theorem aC.XD (H:aC) (b:Nat) (x:fK):(H.bH b x).del b=H.del b:=funext fun c=>by
 by_cases h:c=b
 ·subst h;rw[tG,tG]
 ·rw[bS h,bS h,aN h]
abbrev wC:=@aC.XD
theorem aC.aBl {H:aC} {b c:Nat} {x:fK} (h:b≠c):(H.bH c x).del b=(H.del b).bH c x:=funext fun k=>by
 by_cases h1:k=b
 ·subst h1;rw[tG,aN h,tG]
 ·rw[bS h1]
  by_cases h2:k=c
  ·subst h2;rw[aO,aO]
  ·rw[aN h2,aN h2,bS h1]
abbrev F8:=@aC.aBl
theorem aC.aGY {H:aC} {b:Nat} (h:H b=Option.none):H.del b=H:=funext fun k=>by
 by_cases h1:k=b
 ·subst h1;rw[tG,h]
 ·rw[bS h1]
abbrev tH:=@aC.aGY
theorem aC.oW (H:aC) (b:Nat) (x y:fK):(H.bH b x).bH b y=H.bH b y:=funext fun k=>by
 by_cases h1:k=b
 ·subst h1;rw[aO,aO]
 ·rw[aN h1,aN h1,aN h1]
abbrev F9:=@aC.oW
theorem aC.aCP {H H':aC} {b:Nat} (h:H.le H') (hb:H b=Option.none):H.le (H'.del b):=fun c y e=>by
 by_cases hc:c=b
 ·subst hc;rw[hb] at e;cases e
 ·rw[bS hc];exact h _ _ e
def DP (F:(D->Prop)->Prop):Prop:=∃(p:Prop) (d:D),∀K:D->Prop,F K↔(p/\K d)
theorem dM (d:D):DP fun K=>K d:=⟨True,d,fun K=>by simp⟩
theorem bJ:DP fun _=>False:=⟨False,default,fun K=>by simp⟩
theorem cM {p:Prop} {F:(D->Prop)->Prop} (h:p->DP F):DP fun K=>p/\F K:=by
 by_cases hp:p
 ·obtain⟨q,d,hq⟩:=h hp
  exact⟨q,d,fun K=>by simp only[hp,true_and];exact hq K⟩
 ·exact⟨False,default,fun K=>by simp [hp]⟩
theorem XK {c:Prop} [Decidable c] {F G:(D->Prop)->Prop} (h:c->DP F) (h':¬c->DP G):DP fun K=>if c then F K else G K:=by
 by_cases hc:c
 ·simpa only[aE hc] using h hc
 ·simpa only[aA hc] using h' hc
theorem aG2 (op:BinOp) (k:IntKind) (a b:Int):DP (AQ op k a b):=by
 unfold AQ
 cases op <;> first|exact dM _|exact cM fun _=>dM _|exact bJ
theorem aG3 (op:BinOp) (a b:ByteArray):DP (AR op a b):=by
 unfold AR
 cases op <;> first|exact dM _|exact cM fun _=>dM _|exact bJ
theorem E6 (op:BinOp) (b:Bool):DP (oL op b):=by
 unfold oL
 cases op <;> first|exact dM _|exact bJ
theorem aEj (P:Program) (op:BinOp) (t:TypeId) (x:D):DP (sF P op t x):=by
 unfold sF
 split
 ·exact E6 _ _
 ·exact bJ
theorem aEk (P:Program) (op:BinOp) (t:TypeId) (x:D):DP (qE P op t x):=by
 unfold qE
 split
 ·exact E6 _ _
 ·exact bJ
theorem aEi (P:Program) (op:BinOp) (t:TypeId) (x:D):DP (sE P op t x):=by
 unfold sE
 split
 ·exact E6 _ _
 ·exact bJ
theorem QR (P:Program) (op:BinOp) (t:TypeId) (x y:D):DP (yM P op t x y):=by
 unfold yM
 split
 ·split
  ·exact cM fun _=>dM _
  ·exact cM fun _=>dM _
  ·exact cM fun _=>aG2 _ _ _ _
 ·exact aG3 _ _ _
 ·refine cM fun _=>?_
  split
  ·exact dM _
  ·exact dM _
  ·exact bJ
 ·split
  ·exact cM fun _=>E6 _ _
  ·exact bJ
 ·exact aEj _ _ _ _
 ·exact aEk _ _ _ _
 ·exact aEi _ _ _ _
 ·exact bJ
theorem XP (op:UnOp) (x:D):DP (UK op x):=by
 unfold UK
 split
 ·exact dM _
 ·exact dM _
 ·exact dM _
 ·exact bJ
theorem aG4 (H:aC) (sz:Nat) (x:D) (F:List (List D)->(D->Prop)->Prop) (h:∀els,DP (F els)):DP fun K=>nH H sz x fun els=>F els K:=by
 unfold nH
 split
 ·exact cM fun _=>h _
 ·split
  ·exact cM fun _=>cM fun _=>cM fun _=>cM fun _=>h _
  ·exact bJ
 ·exact h _
 ·exact h _
 ·exact bJ
theorem XG (P:Program) (H:aC) (a b:TypeId) (x:D):DP (K3 P H a b x):=by
 unfold K3
 split
 ·split
  ·exact dM _
  ·exact dM _
  ·split
   ·refine aG4 H 1 _ (fun els K=>match bytesOf els with|some l=>K (.val (.string (lE l)))|none=>False) fun els=>?_
    split
    ·exact dM _
    ·exact bJ
   ·exact bJ
  ·exact bJ
 ·exact bJ
theorem U9 (P:Program) (t:TypeId) (cs:List D) (uD:Nat):DP (rE P t cs uD):=by
 unfold rE
 split
 ·refine XK (fun _=>dM _) fun _=>?_
  split
  ·exact dM _
  ·exact bJ
 ·exact bJ
theorem HJ (P:Program) (t:TypeId) (x:D) (f:Nat):DP (l3 P t x f):=by
 unfold l3
 split
 ·exact U9 _ _ _ _
 ·exact bJ
theorem XI (P:Program) (t:TypeId) (x:D) (f:Nat):DP (TW P t x f):=by
 unfold TW
 split
 ·split
  ·refine cM fun _=>?_
   split
   ·exact dM _
   ·exact dM _
   ·exact bJ
  ·exact bJ
 ·exact bJ
theorem XJ (P:Program) (H:aC) (t:TypeId) (x ix:D):DP (UA P H t x ix):=by
 unfold UA
 split
 ·split
  ·split
   ·split
    ·refine cM fun _=>cM fun _=>?_
     split
     ·exact dM _
     ·exact bJ
    ·exact cM fun _=>cM fun _=>cM fun _=>dM _
    ·exact bJ
   ·exact bJ
  ·split
   ·refine cM fun _=>cM fun _=>?_
    split
    ·exact dM _
    ·exact dM _
    ·exact bJ
   ·exact bJ
  ·exact bJ
 ·exact bJ
theorem XL (P:Program) (t:TypeId) (x ix:D):DP (UB P t x ix):=by
 unfold UB
 split
 ·split
  ·split
   ·exact cM fun _=>cM fun _=>U9 _ _ _ _
   ·exact bJ
  ·refine cM fun _=>?_
   split
   ·exact dM _
   ·exact bJ
  ·exact bJ
 ·exact bJ
theorem aDN (ag:Bool) (sz:Nat) (cs:List D):DP (UC ag sz cs):=by
 unfold UC
 refine XK (fun _=>XK (fun _=>dM _) fun _=>cM fun _=>dM _) fun _=>?_
 split
 ·exact dM _
 ·exact bJ
theorem XM (P:Program) (H:aC) (t:TypeId) (x:D):DP (EP P H t x):=by
 unfold EP
 split
 ·split
  ·exact aDN _ _ _
  ·split
   ·refine cM fun _=>cM fun _=>?_
    split
    ·exact aDN _ _ _
    ·exact bJ
   ·exact bJ
  ·exact bJ
 ·exact bJ
theorem XO (P:Program) (H:aC) (t:TypeId) (x:D) (lo hi mx:Option D):DP (UI P H t x lo hi mx):=by
 unfold UI
 split
 ·split
  ·split
   ·split
    ·exact cM fun _=>cM fun _=>cM fun _=>cM fun _=>dM _
    ·exact bJ
   ·split
    ·exact cM fun _=>cM fun _=>cM fun _=>cM fun _=>dM _
    ·exact bJ
   ·split
    ·exact cM fun _=>cM fun _=>dM _
    ·exact bJ
   ·split
    ·exact cM fun _=>cM fun _=>dM _
    ·exact bJ
   ·split
    ·exact cM fun _=>cM fun _=>cM fun _=>cM fun _=>dM _
    ·exact bJ
   ·exact bJ
  ·split
   ·split
    ·exact dM _
    ·exact dM _
    ·exact dM _
    ·exact dM _
    ·exact bJ
   ·exact bJ
  ·exact bJ
 ·split
  ·split
   ·exact cM fun _=>cM fun _=>cM fun _=>dM _
   ·exact bJ
  ·exact bJ
 ·split
  ·split
   ·split
    ·exact cM fun _=>cM fun _=>cM fun _=>cM fun _=>dM _
    ·exact cM fun _=>cM fun _=>cM fun _=>cM fun _=>dM _
   ·exact bJ
  ·exact bJ
 ·exact bJ
theorem XF (P:Program) (t:TypeId) (ds:List (Nat×D)):DP (TS P t ds):=by
 unfold TS
 split
 ·refine cM fun _=>cM fun _=>?_
  split
  ·exact dM _
  ·exact bJ
 ·exact bJ
theorem QS (P:Program) (H:aC) (t:TypeId) (x:D):DP (wP P H t x):=by
 unfold wP
 split
 ·split
  ·exact dM _
  ·exact dM _
  ·exact dM _
  ·exact dM _
  ·exact dM _
  ·exact dM _
  ·exact dM _
  ·split
   ·exact dM _
   ·exact bJ
  ·exact bJ
 ·exact bJ
theorem QU (xs:List D):DP (AE xs):=by
 unfold AE
 split
 ·exact dM _
 ·exact bJ
theorem QT (xs:List D):DP (AD xs):=by
 unfold AD
 split
 ·exact dM _
 ·exact bJ
theorem XN (x:D):DP (UD x):=by
 unfold UD
 split
 ·exact dM _
 ·exact dM _
 ·exact dM _
 ·exact bJ
theorem XH (x:D) (i:Nat):DP (TV x i):=by
 unfold TV
 split
 ·split
  ·exact dM _
  ·exact bJ
 ·exact bJ
theorem aKA {H H':aC} (aS:H.le H') {sz:Nat} {x:D} {K:List (List D)->Prop} (h:nH H sz x K):nH H' sz x K:=by
 unfold nH at h ⊢
 split at h
 ·exact h
 ·split at h
  ·rename_i hb
   rw[aS _ _ hb]
   exact h
  ·exact h.elim
 ·exact h
 ·exact h
 ·exact h.elim
theorem aOj {P:Program} {H H':aC} (aS:H.le H') {t:TypeId} {x:D} {K:D->Prop} (h:EP P H t x K):EP P H' t x K:=by
 unfold EP at h ⊢
 split at h
 ·rename_i hT
  split at h
  ·exact h
  ·split at h
   ·rename_i hb
    simp only[aS _ _ hb]
    exact h
   ·exact h.elim
  ·exact h.elim
 ·exact h.elim
theorem aLA {P:Program} {H H':aC} (aS:H.le H') {t:TypeId} {x:D} {K:D->Prop} (h:wP P H t x K):wP P H' t x K:=by
 unfold wP at h ⊢
 split at h
 ·split at h <;> first
   |exact h
   |exact h.elim
   |skip
  split at h
  ·rename_i hb
   simp only[aS _ _ hb]
   exact h
  ·exact h.elim
 ·exact h.elim
theorem aDO (P:Program) (H:aC) (t:TypeId) (x ix:D) (ok:Bool):DP (O6 P H t x ix ok):=by
 unfold O6
 split
 ·split
  ·refine cM fun _=>?_
   split
   ·exact dM _
   ·exact dM _
  ·exact bJ
 ·exact bJ
theorem aOn {P:Program} {H H':aC} (aS:H.le H') {t:TypeId} {x ix:D} {ok:Bool} {K:D->Prop} (h:O6 P H t x ix ok K):O6 P H' t x ix ok K:=by
 unfold O6 at h ⊢
 split at h
 ·split at h
  ·rename_i hb hz
   simp only[aS _ _ hb,hz]
   exact h
  ·exact h.elim
 ·exact h.elim
theorem aN7 {P:Program} {H H':aC} (aS:H.le H') {a b:TypeId} {x:D} {K:D->Prop} (h:K3 P H a b x K):K3 P H' a b x K:=by
 unfold K3 at h ⊢
 split at h
 ·split at h
  ·exact h
  ·exact h
  ·split at h
   ·exact aKA aS h
   ·exact h.elim
  ·exact h.elim
 ·exact h.elim
end Go.Proofs.YtfiipaodjpiooaaGreatDoor

