/- Lemmas and contracts of functions, several texts in one. -/
import Derived.Test.YtelbfbioomcmeaaGreatDoorQ05
set_option maxRecDepth 100000
set_option maxHeartbeats 4000000
set_option linter.all false
namespace Go.Proofs.YtelbfbioomcmeaaGreatDoor
open Go.RowKit
def aA.add (H A:aA):aA:=fun b=>match A b with
 |some x=>some x
 |Option.none=>H b
def n9 (A H:aA):Prop:=∀b x,A b=some x->H b=none
theorem aA.aAY (H:aA):H.add aA.none=H:=rfl
abbrev qY:=@aA.aAY
theorem aA.aDK (H:aA) (b:Nat) (x:gB):H.add (aA.none.bH b x)=H.bH b x:=funext fun c=>by
 by_cases h:c=b
 ·subst h;simp [aA.add,aQ]
 ·simp [aA.add,aP h,aA.none]
abbrev rN:=@aA.aDK
theorem n9.none (H:aA):n9 aA.none H:=fun b x h=>by cases h
abbrev rQ:=@n9.none
theorem uN {H:aA} {b:Nat} {x:gB} (h:H b=none):n9 (aA.none.bH b x) H:=fun c y e=>by
 by_cases hc:c=b
 ·subst hc;exact h
 ·rw[aP hc] at e;cases e
theorem rH {H:aA} {b:Nat} {x:gB}:n9 (aA.none.bH b x) H↔H b=none:=⟨fun h=>h b x (aQ _ _ _),uN⟩
theorem aA.aHY {H A:aA} (h:n9 A H):H.le (H.add A):=fun b x e=>by
 unfold aA.add
 cases ha:A b with
 |none=>exact e
 |some y=>rw[h b y ha] at e;cases e
abbrev AB:=@aA.aHY
theorem E9 {H A B:aA} (h:n9 B (H.add A)):n9 B H:=fun b x e=>by
 have:=h b x e
 unfold aA.add at this
 cases ha:A b with
 |none=>rw[ha] at this;exact this
 |some y=>rw[ha] at this;cases this
theorem K8 {H A B:aA} (hA:n9 A H) (h:n9 B (H.add A)):n9 A (H.add B):=fun b x e=>by
 have h1:=hA b x e
 unfold aA.add
 cases hb:B b with
 |none=>exact h1
 |some y=>
  have:=h b y hb
  unfold aA.add at this
  rw[e] at this
  cases this
theorem XU {H A B:aA} (h:n9 B (H.add A)):(H.add A).add B=(H.add B).add A:=funext fun c=>by
 unfold aA.add
 cases hb:B c with
 |none=>rfl
 |some y=>
  have:=h c y hb
  unfold aA.add at this
  cases ha:A c with
  |none=>rfl
  |some z=>rw[ha] at this;cases this
def dY (P:Program) (f:FuncId) (args:List D) (H:aA) (G:D->aA->Prop):Prop:=
 ∀eL,H.le eL->aT P f args eL fun d H'=>∃A,n9 A eL/\H'=eL.add A/\G d A
def fD (P:Program) (G:Option Tmp->List D->D->aA->Prop) (H:aA) (s:St) (o:Oper) (K:D->aA->Prop):Prop:=
 match o.op with
 | .move x| .assign x=>K (s.ev x) .none
 | .pick c x y=>(match s.ev c with
  | .val (.bool b)=>vU b (K (s.ev x) .none) (K (s.ev y) .none)
  |_=>False)
 | .box t x=>(match (s.ev x).cells with
  |some cs=>∀b,K (.ep b 0 cs.length 0 0) (aA.none.bH b (.row t 0 cs.length [cs]))
  |none=>False)
 | .build t ps=>PR P t (s.parts ps) fun d=>K d .none
 | .buildSlice t n ps=>(match aS P t with
  |some ⟨.slice e,_,_,_⟩=>(match aS P e with
   |some ⟨_,sz,_,some zs⟩=>zs.length=sz/\(s.parts ps).length=n/\n * sz<=16777216/\(match pC sz (s.parts ps) 0 with
    |some els=>K (if n=0 then .ND else .seq sz els) .none
    |none=>False)
   |_=>False)
  |_=>False)
 | .load t x=>BQ P H t (s.ev x) fun d=>K d .none
 | .nilCheck x=>RK (s.ev x) fun d=>K d .none
 | .binOp op t x y _=>wU P op t (s.ev x) (s.ev y) fun d=>K d .none
 | .unOp op _ x=>SN op (s.ev x) fun d=>K d .none
 | .convert a b x=>GN P H a b (s.ev x) fun d=>K d .none
 | .makeFunc (.func f) first dO=>first.toList=[]/\K (.fn f (s.xT dO)) .none
 | .slice t x lo hi mx=>SB P H t (s.ev x) (lo.map s.ev) (hi.map s.ev) (mx.map s.ev) fun d=>K d .none
 | .fieldAddr t x f=>P6 P t (s.ev x) f fun d=>K d .none
 | .field t x f=>lR P t (s.ev x) f fun d=>K d .none
 | .indexAddr t x i=>Q9 P H t (s.ev x) (s.ev i) fun d=>K d .none
 | .index t x i=>RA P t (s.ev x) (s.ev i) fun d=>K d .none
 | .extract x i=>P5 (s.ev x) i fun d=>K d .none
 | .call c=>(match c.callee with
  | .value f=>(match s.ev f with
   | .fn g dO=>dY P g (s.xT c.args++dO) H (G o.dst (s.xT c.args++dO))/\∀d A,G o.dst (s.xT c.args++dO) d A->K d A
   |_=>False)
  | .builtin .len=>(match c.argTypes.toList,s.xT c.args with
   |[t],[x]=>uZ P H t x fun d=>K d .none
   |_,_=>False)
  | .builtin .min=>x7 (s.xT c.args) fun d=>K d .none
  | .builtin .max=>x6 (s.xT c.args) fun d=>K d .none
  |_=>False)
 | .lookup t x i ok=>LL P H t (s.ev x) (s.ev i) ok fun d=>K d .none
 | .alloc t=>(match aS P t with
  |some ⟨_,_,_,some zs⟩=>zs.all Value.oneCell'=true/\∀b,K (.ep b 0 zs.length 0 0) (aA.none.bH b (.row t 0 zs.length [zs.map .val]))
  |_=>False)
 | .makeSlice t n c=>(match s.ev n,s.ev c,aS P t with
  | .val (.int _ l),.val (.int _ c),some ⟨.slice e,_,_,_⟩=>(match aS P e with
   |some ⟨_,sz,sY,some zs⟩=>zs.length=sz/\zs.all Value.oneCell'=true/\0<=l/\l<=c/\(sY:Int) * c<=281474976710656/\c<=9223372036854775807/\
    ∀b,K (.os b 0 sz 0 l.toNat) (aA.none.bH b (.row e 0 sz (List.replicate l.toNat (zs.map .val))))
   |_=>False)
  |_,_,_=>False)
 | .makeMap _ none=>∀b,K (.val (.map (some b))) (aA.none.bH b (.map []))
 |_=>False
def TB (F:(D->aA->Prop)->Prop):Prop:=∀K,F K->F fun d A=>∀K',F K'->K' d A
def BC (F:(D->aA->Prop)->Prop):Prop:=∀K K':D->aA->Prop,(∀d A,K d A->K' d A)->F K->F K'
theorem jD {G:(D->Prop)->Prop} (h:xF G):TB (fun K=>G fun d=>K d .none)/\BC (fun K=>G fun d=>K d .none):=by
 obtain⟨p,d,hd⟩:=h
 refine⟨fun K hK=>?_,fun K K' hk hK=>?_⟩
 ·exact(hd _).2 ⟨((hd _).1 hK).1,fun K' sG=>((hd _).1 sG).2⟩
 ·have:=(hd _).1 hK
  exact(hd _).2 ⟨this.1,hk _ _ this.2⟩
theorem EX (d:D) (A:aA):TB (fun K=>K d A)/\BC (fun K=>K d A):=⟨fun K hK K' sG=>sG,fun K K' hk hK=>hk _ _ hK⟩
theorem cA:TB (fun _=>False)/\BC (fun _=>False):=⟨fun K hK=>hK,fun K K' _ hK=>hK⟩
theorem cO {p:Prop} {F:(D->aA->Prop)->Prop} (h:p->TB F/\BC F):TB (fun K=>p/\F K)/\BC (fun K=>p/\F K):=
 ⟨fun K ⟨hp,hK⟩=>⟨hp,(h hp).2 _ _ (fun d A hh K' sG=>hh K' sG.2) ((h hp).1 K hK)⟩,fun K K' hk ⟨hp,hK⟩=>⟨hp,(h hp).2 _ _ hk hK⟩⟩
theorem CA (P:Program) (G:Option Tmp->List D->D->aA->Prop) (H:aA) (s:St) (o:Oper):TB (fD P G H s o)/\BC (fD P G H s o):=by
 unfold fD
 split
 ·exact EX _ _
 ·exact EX _ _
 ·split
  ·rename_i b _
   simp only[JF]
   cases b
   ·exact⟨fun K hK=>⟨fun h=>(by cases h),fun _ K' sG=>sG.2 rfl⟩,fun K K' hk hK=>⟨fun h=>(by cases h),fun _=>hk _ _ (hK.2 rfl)⟩⟩
   ·exact⟨fun K hK=>⟨fun _ K' sG=>sG.1 rfl,fun h=>(by cases h)⟩,fun K K' hk hK=>⟨fun _=>hk _ _ (hK.1 rfl),fun h=>(by cases h)⟩⟩
  ·exact cA
 ·split
  ·exact⟨fun K hK b K' sG=>sG b,fun K K' hk hK b=>hk _ _ (hK b)⟩
  ·exact cA
 ·exact jD (MW _ _ _)
 ·split
  ·split
   ·refine cO fun _=>cO fun _=>cO fun _=>?_
    split
    ·exact EX _ _
    ·exact cA
   ·exact cA
  ·exact cA
 ·exact jD (M7 _ _ _ _)
 ·exact jD (M8 _)
 ·exact jD (H9 _ _ _ _ _)
 ·exact jD (NA _ _)
 ·exact jD (MX _ _ _ _ _)
 ·exact cO fun _=>EX _ _
 ·exact jD (M9 _ _ _ _ _ _ _)
 ·exact jD (MZ _ _ _ _)
 ·exact jD (BI _ _ _ _)
 ·exact jD (M0 _ _ _ _ _)
 ·exact jD (M6 _ _ _ _)
 ·exact jD (MY _ _)
 ·split
  ·split
   ·exact⟨fun K hK=>⟨hK.1,fun d A h K' sG=>sG.2 d A h⟩,fun K K' hk hK=>⟨hK.1,fun d A h=>hk _ _ (hK.2 d A h)⟩⟩
   ·exact cA
  ·split
   ·exact jD (IA _ _ _ _)
   ·exact cA
  ·exact jD (IC _)
  ·exact jD (IB _)
  ·exact cA
 ·exact jD (VS _ _ _ _ _ _)
 ·split
  ·exact cO fun _=>⟨fun K hK b K' sG=>sG b,fun K K' hk hK b=>hk _ _ (hK b)⟩
  ·exact cA
 ·split
  ·split
   ·exact cO fun _=>cO fun _=>cO fun _=>cO fun _=>cO fun _=>cO fun _=>⟨fun K hK b K' sG=>sG b,fun K K' hk hK b=>hk _ _ (hK b)⟩
   ·exact cA
  ·exact cA
 ·exact⟨fun K hK b K' sG=>sG b,fun K K' hk hK b=>hk _ _ (hK b)⟩
 ·exact cA
def o8 (P:Program) (G:Option Tmp->List D->D->aA->Prop) (H:aA) (aV:Array Oper) (s:St) (o:Oper) (K:D->aA->Prop):Prop:=
 match o.guard with
 |none=>fD P G H s o K
 |some (j,eC)=>(match mF aV j with
  |some t=>(match s.fr t with
   | .val (.bool b)=>vU (b==eC) (fD P G H s o K) (K (.val undef) .none)
   | .val (.tuple ⟨[]⟩)=>K (.val undef) .none
   |_=>False)
  |none=>False)
theorem xV (P:Program) (G:Option Tmp->List D->D->aA->Prop) (H:aA) (aV:Array Oper) (s:St) (o:Oper):TB (o8 P G H aV s o)/\BC (o8 P G H aV s o):=by
 unfold o8
 split
 ·exact CA P G H s o
 ·split
  ·split
   ·rename_i eC _ _ _ _ _ b _
    simp only[sR]
    obtain⟨h1,h2⟩:=CA P G H s o
    by_cases e:b=eC
    ·have e2:¬b= !eC:=by cases b <;> cases eC <;> simp at e ⊢
     exact⟨fun K hK=>⟨fun _=>h2 _ _ (fun d A hh K' sG=>hh K' (sG.1 e)) (h1 K (hK.1 e)),fun h=>absurd h e2⟩,fun K K' hk hK=>⟨fun _=>h2 _ _ hk (hK.1 e),fun h=>absurd h e2⟩⟩
    ·have e2:b= !eC:=by cases b <;> cases eC <;> simp at e ⊢
     exact⟨fun K hK=>⟨fun h=>absurd h e,fun _ K' sG=>sG.2 e2⟩,fun K K' hk hK=>⟨fun h=>absurd h e,fun _=>hk _ _ (hK.2 e2)⟩⟩
   ·exact EX _ _
   ·exact cA
  ·exact cA
def St.out (s:St) (o:Oper) (d:D) (A:aA):St:=(s.dW (s.H.add A)).put o.dst d
def G4 (P:Program) (G:Option Tmp->List D->D->aA->Prop) (H:aA) (aV:Array Oper) (Q:St->Prop):List Oper->St->Prop
 |[],s=>Q s
 |o::dD,s=>o8 P G H aV s o fun d A=>n9 A s.H->G4 P G H aV Q dD (s.out o d A)
def SJ:Operand->List Tmp
 | .tmp t=>[t]
 |_=>[]
def Oper.reads (aV:Array Oper) (o:Oper):List Tmp:=o.op.operands.toList.flatMap SJ++(match o.guard with
 |some (j,_)=>(mF aV j).toList
 |none=>[])
def tC (aV:Array Oper) (p o:Oper):Prop:=
 (∀t,p.dst=some t->t∉Oper.reads aV o/\o.dst≠some t)/\(∀t,o.dst=some t->t∉Oper.reads aV p)
theorem aF1 {s s':St} {x:Operand} (h:∀t∈SJ x,s'.fr t=s.fr t):s'.ev x=s.ev x:=by
 cases x <;> first|rfl|exact h _ (by simp [SJ])
theorem aDS {P : Program} {G : Option Tmp -> List D -> D -> aA -> Prop} {H : aA} {s s' : St} {o : Oper} (h : ∀ t ∈ o.op.operands.toList.flatMap SJ, s'.fr t = s.fr t) : fD P G H s' o = fD P G H s o := by
  have e1 : ∀ x ∈ o.op.operands.toList, s'.ev x = s.ev x := fun x hx => aF1 fun t ht => h t (List.mem_flatMap.2 ⟨x, hx, ht⟩)
  funext K
  unfold fD
  have em : ∀ xs : Array Operand, (∀ x ∈ xs.toList, x ∈ o.op.operands.toList) -> s'.xT xs = s.xT xs := fun xs hx => by
    unfold St.xT
    exact DJ fun x hxs => e1 x (hx x hxs)
  have eo : ∀ x : Option Operand, (∀ y, x = some y -> y ∈ o.op.operands.toList) -> x.map s'.ev = x.map s.ev := fun x hx => by
    cases x with
    | none => rfl
    | some y => exact cV some (e1 y (hx y rfl))
  cases ho : o.op <;> rw [ho] at e1 em eo <;> simp only [Op.operands] at e1 em eo ⊢
  case build t ps =>
    have : s'.parts ps = s.parts ps := by
      unfold St.parts
      exact DJ fun p hp => by rw [e1 p.2 (mT.2 ⟨p, hp, rfl⟩)]
    rw [this]
  case buildSlice t n ps =>
    have : s'.parts ps = s.parts ps := by
      unfold St.parts
      exact DJ fun p hp => by rw [e1 p.2 (mT.2 ⟨p, hp, rfl⟩)]
    rw [this]
  case makeFunc fn first dO =>
    have ec := em dO (fun x hx => by simp; exact .inr (by simpa using hx))
    cases fn <;> simp only [ec]
  case slice t x lo hi mx =>
    rw [e1 x (by simp), eo lo (fun y e => by subst e; simp), eo hi (fun y e => by subst e; simp), eo mx (fun y e => by subst e; simp)]
  case call c =>
    have ea : s'.xT c.args = s.xT c.args := em _ fun x hx => by simp [Call.operands]; exact .inr (by simpa using hx)
    cases hc : c.callee with
    | value f =>
      have ef : s'.ev f = s.ev f := e1 f (by simp [Call.operands, hc])
      simp only [ea, ef]
    | builtin b =>
      simp only [ea]
      cases b <;> rfl
    | invoke r n => simp only [ea]
  case makeMap t n => cases n <;> rfl
  all_goals first
    | rfl
    | (simp only [List.mem_toArray, eG, List.not_mem_nil, or_false, forall_eq_or_imp, forall_eq] at e1
       first | rw [e1] | simp only [e1])
theorem F4 {P:Program} {G:Option Tmp->List D->D->aA->Prop} {H:aA} {aV:Array Oper} {s s':St} {o:Oper} (h:∀t∈Oper.reads aV o,s'.fr t=s.fr t):o8 P G H aV s' o=o8 P G H aV s o:=by
 have hc:fD P G H s' o=fD P G H s o:=aDS fun t ht=>h t (cS.2 (.inl ht))
 funext K
 unfold o8
 rw[hc]
 cases hg:o.guard with
 |none=>rfl
 |some g=>
  obtain⟨j,eC⟩:=g
  simp only
  cases hj:mF aV j with
  |none=>rfl
  |some t=>
   have:s'.fr t=s.fr t:=h t (cS.2 (.inr (by simp [hg,hj])))
   simp only[this]
theorem jM {s:St} {o:Oper} {d:D} {A:aA} {t:Nat} (h:o.dst≠some t):(s.out o d A).fr t=s.fr t:=by
 unfold St.out St.put
 cases ho:o.dst with
 |none=>rfl
 |some u=>
  rw[ho] at h
  simp only
  rw[aD (fun e=>h (by rw[e]))]
  rfl
theorem nB (s:St) (o:Oper) (d:D) (A:aA):(s.out o d A).H=s.H.add A:=by unfold St.out;rw[kN];rfl
theorem I3 {s:St} {o p:Oper} {d dp:D} {A Ap:aA} (fP:∀t,p.dst=some t->o.dst≠some t) (h:n9 Ap (s.H.add A)):(s.out o d A).out p dp Ap=(s.out p dp Ap).out o d A:=by
 have hH:((s.out o d A).out p dp Ap).H=((s.out p dp Ap).out o d A).H:=by rw[nB,nB,nB,nB,XU h]
 have SY:((s.out o d A).out p dp Ap).fr=((s.out p dp Ap).out o d A).fr:=funext fun t=>by
  by_cases hp:p.dst=some t
  ·have ho:=fP t hp
   rw[jM (o:=o) ho]
   unfold St.out St.put
   rw[hp]
   simp
  ·rw[jM (o:=p) hp]
   by_cases ho:o.dst=some t
   ·unfold St.out St.put
    rw[ho]
    simp
   ·rw[jM ho,jM ho,jM hp]
 have bG:((s.out o d A).out p dp Ap).df=((s.out p dp Ap).out o d A).df:=by
  unfold St.out
  simp only[yF,vD]
 cases h1:(s.out o d A).out p dp Ap
 cases h2:(s.out p dp Ap).out o d A
 rw[h1,h2] at hH SY bG
 simp only at hH SY bG
 subst hH SY bG
 rfl
theorem EZ {P:Program} {G:Option Tmp->List D->D->aA->Prop} {H:aA} {aV:Array Oper} {Q:St->Prop} {o:Oper} {d:D} {A:aA}:∀{pre post:List Oper} {s:St},(∀p∈pre,tC aV p o)->G4 P G H aV Q (pre++o::post) s->
  (∀K,o8 P G H aV s o K->K d A)->n9 A s.H->G4 P G H aV Q (pre++post) (s.out o d A)
 |[],post,s,_,h,qA,hA=>by
  simp only[fR,G4] at h ⊢
  exact qA _ h hA
 |p::pre,post,s,hi,h,qA,hA=>by
  simp only[eT,G4] at h ⊢
  obtain⟨hu,hm⟩:=xV P G H aV s p
  have F7:=hi p (by simp)
  have iP:o8 P G H aV (s.out o d A) p=o8 P G H aV s p:=F4 fun t ht=>jM fun e=>(F7.2 t e) ht
  rw[iP]
  refine hm _ _ (fun dp Ap EA V5=>?_) (hu _ h)
  have h1:=EA _ h
  rw[nB] at V5
  have h2:=h1 (E9 V5)
  rw[I3 (fun t ht=>(F7.1 t ht).2) V5]
  have BL:o8 P G H aV (s.out p dp Ap) o=o8 P G H aV s o:=F4 fun t ht=>jM fun e=>(F7.1 t e).1 ht
  refine EZ (fun q hq=>hi q (by simp [hq])) h2 (by rw[BL];exact qA) ?_
  rw[nB]
  exact K8 hA V5
theorem xF.mono {F:(D->Prop)->Prop} (h:xF F) {K K':D->Prop} (hk:∀d,K d->K' d) (hf:F K):F K':=by
 obtain⟨p,d,hd⟩:=h
 have:=(hd K).1 hf
 exact(hd K').2 ⟨this.1,hk d this.2⟩
theorem TK {cx:Cx} {G:Option Tmp->List D->D->aA->Prop} {H:aA} {s:St} {o:Oper} {K:D->aA->Prop} (aR:H.le s.H) (hd:BS cx.n o.dst) (h:fD cx.P G H s o K):
  WO cx o (fun s'=>∃d A,K d A/\n9 A s.H/\s'=s.out o d A) s:=by
 have nC:∀{d:D},K d .none->∃d' A,K d' A/\n9 A s.H/\s.put o.dst d=s.out o d' A:=fun {d} hk=>⟨d,.none,hk,rQ _,rfl⟩
 have J5:dM cx o s (fun s'=>∃d A,K d A/\n9 A s.H/\s'=s.out o d A)->WO cx o (fun s'=>∃d A,K d A/\n9 A s.H/\s'=s.out o d A) s:=nO hd
 unfold fD at h
 split at h
 case h_1 x e=>exact J5 (by unfold dM;rw[e];exact nC h)
 case h_2 x e=>exact J5 (by unfold dM;rw[e];exact nC h)
 case h_3 c x y e=>
  refine J5 ?_
  unfold dM
  rw[e]
  split at h
  ·rename_i b hb
   simp only[hb]
   rw[JF] at h ⊢
   exact⟨fun e=>nC (h.1 e),fun e=>nC (h.2 e)⟩
  ·exact h.elim
 case h_4 t x e=>
  refine J5 ?_
  unfold dM
  rw[e]
  simp only[TJ]
  split at h
  ·rename_i cs hc
   simp only[hc]
   exact fun b hb=>⟨_,_,h b,uN hb,by unfold St.out;rw[rN]⟩
  ·exact h.elim
 case h_5 t ps e=>exact J5 (by unfold dM;rw[e];exact(MW _ _ _).mono (fun d hk=>nC hk) h)
 case h_6 t n ps e=>
  split at h
  ·rename_i el _ _ _ hT
   split at h
   ·rename_i dE sz byE zs hE
    obtain⟨FJ,eB,mO,h⟩:=h
    split at h
    ·rename_i els AM
     refine r9 (by simp [e]) hd fun a w m=>?_
     have hb:O7 cx.P s.H t n (s.parts ps) (fun d H'=>∃b,s.H b=none/\d=.os b 0 sz 0 n/\H'=s.H.bH b (.row el 0 sz els)):=by
      unfold O7
      simp only[hT,hE,AM]
      exact⟨FJ,eB,mO,fun b hb=>⟨b,hb,rfl,rfl⟩⟩
     obtain⟨r,d',w',H',h1,h2,h3,h4,⟨b,sI,rfl,rfl⟩,A0,hr0⟩:=R8 m.H hb (m.I5 ps)
     have FE:els.length=n:=by
      have:=(BX AM (m.I5 ps)).1
      omega
     have uU:s.H.le (s.H.bH b (.row el 0 sz els)):=nH (aE _) sI
     by_cases WE:n=0
     ·rw[aH WE] at h
      refine⟨r,w',.ND,s.H,?_,?_,h3.less uU,h4.less uU,⟨_,.none,h,rQ _,rfl⟩⟩
      ·simp only[execOp,e,Sem.run_bind,h1,Result.andThen,Sem.run_pure]
      ·simp only[D.is]
       exact⟨A0,by rw[hr0,WE]⟩
     rw[aD WE] at h
     have aXk:kU (s.H.bH b (.row el 0 sz els)) sz (.os b 0 sz 0 n) (fun l=>l=els):=by
      simp only[kU,aQ]
      exact⟨trivial,trivial,trivial,by omega,by rw[iY,<-FE,kW]⟩
     obtain⟨l,A,c,rfl,rfl,QX,xY⟩:=uO h3 aXk h2
     refine⟨.slice A l.length c,w',.seq sz l,s.H,?_,?_,h3.less uU,h4.less uU,⟨_,.none,h,rQ _,rfl⟩⟩
     ·simp only[execOp,e,Sem.run_bind,h1,Result.andThen,Sem.run_pure]
     ·simp only[D.is]
      refine⟨A,c,rfl,QX,?_⟩
      rcases xY with xY|⟨b',o',rfl,D9,hr⟩
      ·exact .inl xY
      ·by_cases hn:l=[]
       ·exact .inl hn
       ·right
        refine⟨b',o',rfl,?_,D9,?_⟩
        ·simp only[D.is] at h2
         obtain⟨A2,c2,e2,_,hA2⟩:=h2
         injection e2 with e3 e4 e5
         have ZF:0<n:=by
          rcases l with _|⟨_,_⟩
          ·exact absurd rfl hn
          ·simp at FE;omega
         rcases hA2 with hA2|⟨hA2,_⟩
         ·omega
         ·rw[hA2] at e3
          injection e3 with e3
          injection e3 with e3
          subst e3
          exact sI
        ·exact eY fun i el' hi=>by
          obtain⟨g1,g2⟩:=eA hr i el' hi
          refine⟨g1,?_⟩
          obtain⟨vs,g3,g4⟩:=dR g2
          exact dV (bV (nI uU w') _ g3) g4
    ·exact h.elim
   ·exact h.elim
  ·exact h.elim
 case h_7 t x e=>exact J5 (by unfold dM;rw[e];exact(M7 _ _ _ _).mono (fun d hk=>nC hk) (aHX aR h))
 case h_8 x e=>exact J5 (by unfold dM;rw[e];exact(M8 _).mono (fun d hk=>nC hk) h)
 case h_9 op t x y _ e=>exact J5 (by unfold dM;rw[e];exact aGJ ((H9 _ _ _ _ _).mono (fun d hk=>nC hk) h))
 case h_10 op _ x e=>exact J5 (by unfold dM;rw[e];exact(NA _ _).mono (fun d hk=>nC hk) h)
 case h_11 a b x e=>exact J5 (by unfold dM;rw[e];exact aAj <| (MX _ _ _ _ _).mono (fun d hk=>nC hk) (aGZ aR h))
 case h_12 f first dO e=>exact J5 (by
  unfold dM
  rw[e]
  have h0:s.xT first=[]:=by have:first= #[]:=kY (by simpa using h.1);subst this;rfl
  simp only[h0]
  exact nC h.2)
 case h_13 t x lo hi mx e=>exact J5 (by unfold dM;rw[e];exact(M9 _ s.H _ _ _ _ _).mono (fun d hk=>nC hk) h)
 case h_14 t x f e=>exact J5 (by unfold dM;rw[e];exact(MZ _ _ _ _).mono (fun d hk=>nC hk) h)
 case h_15 t x f e=>exact J5 (by unfold dM;rw[e];exact(BI _ _ _ _).mono (fun d hk=>nC hk) h)
 case h_16 t x i e=>exact J5 (by unfold dM;rw[e];exact(M0 _ s.H _ _ _).mono (fun d hk=>nC hk) h)
 case h_17 t x i e=>exact J5 (by unfold dM;rw[e];exact(M6 _ _ _ _).mono (fun d hk=>nC hk) h)
 case h_18 x i e=>exact J5 (by unfold dM;rw[e];exact(MY _ _).mono (fun d hk=>nC hk) h)
 case h_19 c e=>
  refine J5 ?_
  unfold dM
  rw[e]
  simp only[TL]
  split at h
  ·rename_i f hc
   simp only[hc]
   split at h
   ·rename_i g dO hf
    simp only[hf]
    refine(h.1 s.H aR).mono ?_
    rintro d H' ⟨A,hA,rfl,hG⟩
    exact⟨d,A,h.2 d A hG,hA,rfl⟩
   ·exact h.elim
  ·rename_i hc
   simp only[hc,MM]
   split at h
   ·rename_i t x ht hx
    simp only[hx,ht]
    exact(IA _ _ _ _).mono (fun d hk=>nC hk) (aEU aR h)
   ·exact h.elim
  ·rename_i hc
   simp only[hc,MM]
   exact(IC _).mono (fun d hk=>nC hk) h
  ·rename_i hc
   simp only[hc,MM]
   exact(IB _).mono (fun d hk=>nC hk) h
  ·exact h.elim
 case h_20 t x i ok e=>exact J5 (by unfold dM;rw[e];exact(VS _ _ _ _ _ _).mono (fun d hk=>nC hk) (aH3 aR h))
 case h_21 t e=>
  refine J5 ?_
  unfold dM
  rw[e]
  simp only[TE]
  split at h
  ·rename_i hT
   simp only[hT]
   exact⟨h.1,fun b hb=>⟨_,_,h.2 b,uN hb,by unfold St.out;rw[rN]⟩⟩
  ·exact h.elim
 case h_22 t n c e=>
  refine J5 ?_
  unfold dM
  rw[e]
  simp only[UK]
  split at h
  ·rename_i hn hc hT
   simp only[hn,hc,hT]
   split at h
   ·rename_i hE
    simp only[hE]
    obtain⟨h1,h2,h3,h4,h5,h6,h7⟩:=h
    exact⟨h1,h2,h3,h4,h5,h6,fun b hb=>⟨_,_,h7 b,uN hb,by unfold St.out;rw[rN]⟩⟩
   ·exact h.elim
  ·exact h.elim
 case h_23 t e=>
  refine J5 ?_
  unfold dM
  rw[e]
  exact fun b hb=>⟨_,_,h b,uN hb,by unfold St.out;rw[rN]⟩
 case h_24=>exact h.elim
theorem tK {cx:Cx} {G:Option Tmp->List D->D->aA->Prop} {H:aA} {aV:List Oper} {s:St} {i:Nat} {o:Oper} {K:D->aA->Prop} (aR:H.le s.H) (eX:eP cx.n aV=true) (ho:aV[i]?=some o) (h:o8 cx.P G H aV.toArray s o K)
  {a:Act} {w:World} (m:cH cx s a w) {Q:Exit->Act->World->Prop}:
  wpOpIn (FR cx.ro) 9 cx.P aV.toArray Q i (fun a' w'=>∃d A,K d A/\n9 A s.H/\cH cx (s.out o d A) a' w') a w:=by
 have eW:∀o'∈aV,BS cx.n o'.dst:=fun o' J0=>by
  have:=(eD.1 eX) o' J0
  unfold BS
  cases hq:o'.dst with
  |none=>trivial
  |some t=>rw[hq] at this;simpa using this
 have hd:=eW o (jQ ho)
 have run:∀{K:D->aA->Prop},fD cx.P G H s o K->o.wpIn (FR cx.ro) 9 cx.P a w (fun a' w'=>∃d A,K d A/\n9 A s.H/\cH cx (s.out o d A) a' w') Q:=fun hc=>
  Oper.wpIn_mono (fun a' w' ⟨s',m',d,A,h1,h2,h3⟩=>⟨d,A,h1,h2,h3▸m'⟩) (zK (TK aR hd hc a w m))
 have skip:K (.val undef) .none->∃d A,K d A/\n9 A s.H/\cH cx (s.out o d A) (a.put o.dst undef) w:=fun hk=>
  ⟨_,.none,hk,rQ _,m.put (hU hd) (by simp only[D.is])⟩
 unfold wpOpIn
 have J0:aV.toArray[i]?=some o:=by simpa using ho
 rw[J0]
 simp only
 unfold o8 at h
 split at h
 ·rename_i hg
  have hw:Region.wanted o (yielded aV.toArray a.tmps)=true:=by simp [Region.wanted,hg]
  rw[aH hw]
  exact run h
 ·rename_i j eC hg
  have Q8:Region.wanted o (yielded aV.toArray a.tmps)=(yielded aV.toArray a.tmps j==some eC):=by unfold Region.wanted;rw[hg]
  split at h
  ·rename_i t ht
   have htn:t<cx.n:=by
    unfold mF at ht
    cases hj:aV.toArray[j]? with
    |none=>rw[hj] at ht;cases ht
    |some o'=>
     rw[hj] at ht
     have:=eW o' (by have:=zP hj;simpa using this)
     simp at ht
     rw[ht] at this
     exact this
   have hy:yielded aV.toArray a.tmps j=match a.tmps[t]? with|some (.bool b)=>some b|_=>none:=by
    unfold yielded
    unfold mF at ht
    rw[ht]
    rfl
   have J2:t<a.tmps.size:=by rw[m.n];exact htn
   have nY:a.tmps[t]?=some (a.tmps.getD t undef):=by simp [J2]
   have hf:=m.fr t
   split at h
   ·rename_i b hb
    rw[sR] at h
    rw[hb] at hf
    simp only[D.is] at hf
    rw[nY,hf] at hy
    simp only at hy
    rw[hy] at Q8
    by_cases e:b=eC
    ·rw[aH (by rw[Q8,e];simp)]
     exact run (h.1 e)
    ·have e2:b= !eC:=by cases b <;> cases eC <;> first|rfl|exact absurd rfl e
     rw[aD (by rw[Q8,e2];cases eC <;> simp)]
     exact⟨kI,skip (h.2 e2)⟩
   ·rename_i hb
    rw[hb] at hf
    simp only[D.is] at hf
    rw[nY,hf] at hy
    simp only at hy
    rw[hy] at Q8
    rw[aD (by rw[Q8];simp)]
    exact⟨kI,skip h⟩
   ·exact h.elim
  ·exact h.elim
theorem aAO {ro : Option Nat} {P : Program} {o : Oper} {a : Act} {w : World} {K : Act -> World -> Prop} (h : o.wpIn (FR ro) 9 P a w K NoQ) : ∃ a' w', K a' w' := by
  have room : ∀ n, (FR ro).room n := fun n d hd => by cases hd
  unfold Oper.wpIn at h
  have h2 := h.2
  generalize (o.semAt (FR ro).round a.eval).run P w = r at *
  cases r with
  | ok x w' =>
    cases x <;> simp only [Oper.uponIn] at h2 <;> first
      | exact ⟨_, _, h2⟩
      | exact h2.elim
      | (obtain ⟨e, w'', fr, hR, _⟩ := h2.2.2 [] (room _)
         cases e with
         | returned v => exact ⟨_, _, hR⟩
         | panicked c => exact hR.elim
         | outgrown => obtain ⟨_, _, hf⟩ := hR; exact hf.elim)
      | (obtain ⟨v, w'', hR, _⟩ := h2.2 default [] (room _)
         exact ⟨_, _, hR⟩)
      | (obtain ⟨e, w'', hR, _⟩ := h2.2.2 default [] (room _)
         cases e with
         | returned v => exact ⟨_, _, hR⟩
         | panicked c => exact hR.elim
         | outgrown => obtain ⟨_, _, hf⟩ := hR; exact hf.elim)
  | halt x w' => cases x <;> simp only [Oper.uponIn] at h2 <;> first | exact h2.elim
theorem qJ {ro:Option Nat} {P:Program} {aV:Array Oper} {i:Nat} {a:Act} {w:World} {K:Act->World->Prop} (h:wpOpIn (FR ro) 9 P aV NoQ i K a w):∃a' w',K a' w':=by
 unfold wpOpIn at h
 split at h
 ·exact⟨_,_,h⟩
 ·split at h
  ·exact aAO h
  ·exact⟨_,_,h.2⟩
theorem OY {cx:Cx} {G:Option Tmp->List D->D->aA->Prop} {H:aA} {aV:List Oper} {Q:St->Prop} {o:Oper} (eX:eP cx.n aV=true):∀{pre post:List Oper} {s:St} {a:Act} {w:World},(∀p∈pre,tC aV.toArray p o/\p∈aV)->G4 cx.P G H aV.toArray Q (pre++o::post) s->
  H.le s.H->cH cx s a w->o8 cx.P G H aV.toArray s o fun _ _=>True
 |[],post,s,a,w,_,h,_,_=>by
  simp only[fR,G4] at h
  exact(xV _ _ _ _ _ _).2 _ _ (fun _ _ _=>trivial) h
 |p::pre,post,s,a,w,hi,h,aR,m=>by
  simp only[eT,G4] at h
  obtain⟨i,hpi⟩:=uG (hi p (by simp)).2
  obtain⟨a',w',d,A,hk,hA,m'⟩:=qJ (tK (Q:=NoQ) aR eX hpi h m)
  have ih:=OY eX (fun q hq=>hi q (by simp [hq])) (hk hA) (by rw[nB];exact tR aR (AB hA)) m'
  have iP:o8 cx.P G H aV.toArray (s.out p d A) o=o8 cx.P G H aV.toArray s o:=F4 fun t ht=>jM fun e=>((hi p (by simp)).1.1 t e).1 ht
  rw[iP] at ih
  exact ih
def tJ (aV:List Oper):Bool:=
 aV.zipIdx.all fun (o,j)=>o.after.toList.all (fun e=> !Region.binds .any e||decide (e.on<j))&&
  (aV.take j).zipIdx.all fun (p,i)=>
   o.after.toList.any (fun e=>Region.binds .any e&&e.on==i)||
   ((match p.dst with
    |some t=> !(Oper.reads aV.toArray o).contains t&&o.dst != some t
    |none=>true)&&
   (match o.dst with
    |some t=> !(Oper.reads aV.toArray p).contains t
    |none=>true))
theorem lQ {aV:List Oper} (h:tJ aV=true) {j:Nat} {o:Oper} (ho:aV[j]?=some o):∀e∈o.after.toList,Region.binds .any e=true->e.on<j:=fun e he hb=>by
 have:=(eD.1 h) (o,j) (BZ.2 (by simpa using ho))
 simp only[eF] at this
 have:=(eD.1 this.1) e he
 rw[hb] at this
 simpa using this
theorem xQ {aV:List Oper} (h:tJ aV=true) {i j:Nat} {p o:Oper} (hij:i<j) (hp:aV[i]?=some p) (ho:aV[j]?=some o) (fP:∀e∈o.after.toList,Region.binds .any e=true->e.on≠i):tC aV.toArray p o:=by
 have:=(eD.1 h) (o,j) (BZ.2 (by simpa using ho))
 simp only[eF] at this
 have:=(eD.1 this.2) (p,i) (BZ.2 (by simp only[nU];rw[aH hij];exact hp))
 simp only[zW,eF] at this
 rcases this with h1|⟨h1,h2⟩
 ·exfalso
  obtain⟨e,he,h3⟩:=List.any_eq_true.1 h1
  simp only[eF,wL] at h3
  exact fP e he h3.1 h3.2
 ·refine⟨fun t ht=>?_,fun t ht=>?_⟩
  ·rw[ht] at h1
   simpa using h1
  ·rw[ht] at h2
   simpa using h2
theorem vQ {α:Type} {r:α->α->Prop} {pre post:List α} {x:α} (h:(pre++x::post).Pairwise r):(∀y∈pre,r y x)/\(∀y∈post,r x y)/\(pre++post).Pairwise r:=by
 rw[DH,yK] at h
 refine⟨fun y hy=>h.2.2 y hy x (by simp),h.2.1.1,?_⟩
 rw[DH]
 exact⟨h.1,h.2.1.2,fun a ha b hb=>h.2.2 a ha b (by simp [hb])⟩
theorem aBB {cx:Cx} {G:Option Tmp->List D->D->aA->Prop} {H:aA} {aV:List Oper} {Q:Exit->St->Prop} (eX:eP cx.n aV=true) (mX:tJ aV=true):∀(hQ:Nat) (R:List Nat) (listed:Array Bool) (s:St) (a:Act) (w:World),
  R.length<=hQ->R.Pairwise (·<·)->listed.size=aV.length->(∀i,i∈R↔i<aV.length/\listed.getD i true=false)->H.le s.H->cH cx s a w->G4 cx.P G H aV.toArray (Q .normal) (R.filterMap (aV[·]?)) s->
  wpAnyIn (FR cx.ro) 9 cx.P .any aV.toArray (QQ cx Q) hQ listed a w:=by
 have stuck:∀(R:List Nat) (listed:Array Bool),R.Pairwise (·<·)->(∀i,i∈R↔i<aV.length/\listed.getD i true=false)->listed.size=aV.length->Region.ready .any aV.toArray listed=[]->R=[]:=by
  intro R listed hp kM lE hr
  rcases R with _|⟨r,R⟩
  ·rfl
  ·exfalso
   have hr1:=(kM r).1 (by simp)
   obtain⟨o,ho⟩:∃o,aV[r]?=some o:=⟨aV[r],by simp [hr1.1]⟩
   have:r∈Region.ready .any aV.toArray listed:=by
    unfold Region.ready
    rw[tP]
    refine⟨by simp;exact hr1.1,?_⟩
    have J0:aV.toArray[r]?=some o:=by simpa using ho
    rw[hr1.2,J0]
    simp only[tQ,cT,jV,wB]
    rw[<-DN,eD]
    intro e he
    cases hb:Region.binds .any e with
    |false=>simp
    |true=>
     have gL:=lQ mX ho e he hb
     have:¬e.on∈r::R:=fun hm=>by
      rw[yK] at hp
      rcases eG.1 hm with h1|h1
      ·omega
      ·have:=hp.1 _ h1;omega
     have h2:listed.getD e.on true=true:=by
      cases hl:listed.getD e.on true with
      |true=>rfl
      |false=>exact absurd ((kM e.on).2 ⟨by omega,hl⟩) this
     have h3:listed.getD e.on false=true:=by
      have TY:e.on<listed.size:=by omega
      simp only[Array.getD,TY,rR] at h2 ⊢
      exact h2
     simp [h3]
   rw[hr] at this
   cases this
 intro hQ
 induction hQ with
 |zero=>
  intro R listed s a w eB hp lE kM aR m h
  obtain rfl:R=[]:=gP (by omega)
  have sL:Region.ready .any aV.toArray listed=[]:=by
   rw[O0]
   intro i hi
   unfold Region.ready at hi
   rw[tP] at hi
   have h2:=hi.2
   simp only[eF,wA] at h2
   exact absurd ((kM i).2 ⟨by simpa using hi.1,h2.1⟩) (by simp)
  exact⟨sL,s,m,by simpa [G4] using h⟩
 |succ hQ ih=>
  intro R listed s a w eB hp lE kM aR m h
  refine⟨fun hr=>?_,fun i hi=>?_⟩
  ·obtain rfl:=stuck R listed hp kM lE hr
   exact⟨s,m,by simpa [G4] using h⟩
  ·unfold Region.ready at hi
   rw[tP] at hi
   obtain⟨WD,DU⟩:=hi
   have aZ:i<aV.length:=by simpa using WD
   obtain⟨o,ho⟩:∃o,aV[i]?=some o:=⟨aV[i],by simp [aZ]⟩
   have J0:aV.toArray[i]?=some o:=by simpa using ho
   rw[J0] at DU
   simp only[eF,wA,jV,wB] at DU
   obtain⟨hl,IN⟩:=DU
   have hiR:i∈R:=(kM i).2 ⟨aZ,hl⟩
   obtain⟨pre,post,rfl⟩:=List.append_of_mem hiR
   obtain⟨oA,Q3,hpw⟩:=vQ hp
   have jX:∀p∈pre.filterMap (aV[·]?),tC aV.toArray p o/\p∈aV:=fun p BP=>by
    obtain⟨k,hk,hkp⟩:=List.mem_filterMap.1 BP
    refine⟨xQ mX (oA k hk) hkp ho fun e he hb hek=>?_,jQ hkp⟩
    rw[<-DN,eD] at IN
    have:=IN e he
    rw[hb] at this
    simp only[wF,wG] at this
    have iQ:=(kM k).1 (by simp [hk])
    rw[hek] at this
    have TY:k<listed.size:=by omega
    simp only[Array.getD,TY,rR] at this iQ
    rw[iQ.2] at this
    cases this
   have vM:(pre++i::post).filterMap (aV[·]?)=pre.filterMap (aV[·]?)++o::post.filterMap (aV[·]?):=by
    rw[yI,HC,ho]
   rw[vM] at h
   have Q4:=OY eX jX h aR m
   have EA:=(xV cx.P G H aV.toArray s o).1 _ Q4
   refine wpOpIn_mono ?_ (tK aR eX ho EA m)
   rintro a' w' ⟨d,A,qA,hA,m'⟩
   have h2:=EZ (fun p BP=>(jX p BP).1) h qA hA
   refine ih (pre++post) _ (s.out o d A) a' w' ?_ hpw (by simpa using lE) ?_ (by rw[nB];exact tR aR (AB hA)) m' (by rw[yI];exact h2)
   ·simp at eB ⊢;omega
   ·intro k
    have hk:=kM k
    rw[cS,eG] at hk
    rw[cS]
    have gL:i<listed.size:=by omega
    have BM:(listed.setIfInBounds i true).getD k true=if k=i then true else listed.getD k true:=uQ _ _ _ _ _ gL
    rw[BM]
    by_cases e:k=i
    ·subst e
     simp only[fU]
     constructor
     ·rintro(h3|h3)
      ·have:=oA _ h3;omega
      ·have:=Q3 _ h3;omega
     ·rintro⟨_,h3⟩;cases h3
    ·rw[aD e,<-hk]
     constructor
     ·rintro(h3|h3)
      ·exact .inl h3
      ·exact .inr (.inr h3)
     ·rintro(h3|h3|h3)
      ·exact .inl h3
      ·exact absurd h3 e
      ·exact .inr h3
theorem pR {α β:Type} {f:α->Option β} {g:α->β}:∀{l:List α},(∀x∈l,f x=some (g x))->l.filterMap f=l.map g
 |[],_=>rfl
 |x::l,h=>by rw[HC,h x (by simp),fT,pR fun y hy=>h y (by simp [hy])]
theorem MH {cx:Cx} {id:Nat} {aV:List Oper} {Q:Exit->St->Prop} {s:St} (G:Option Tmp->List D->D->aA->Prop) (hm:cx.P.follows .mixedOrders=true) (eX:eP cx.n aV=true) (mX:tJ aV=true)
  (h:G4 cx.P G s.H aV.toArray (Q .normal) aV s):W cx (.region id aV.toArray true) Q s:=fun a w m=>by
 refine wpIn_region_any hm ?_
 have m':cH cx s a w.drew:=m.go (pQ s.H w) m.H.drew
 have e:(List.range aV.length).filterMap (aV[·]?)=aV:=by
  rw[pR (g:=fun i=>aV.getD i default) fun i hi=>by
   have:i<aV.length:=by simpa using hi
   simp [List.getD,this]]
  apply uH
  intro i
  by_cases hi:i<aV.length
  ·simp [hi,List.getD]
  ·simp [hi]
 refine aBB eX mX _ (List.range aV.length) _ s a _ (by simp) O3 (by simp) (fun i=>?_) (aE _) m' (by rw[e];exact h)
 simp only[rM,HG]
 constructor
 ·intro hi
  refine⟨hi,?_⟩
  simp [Array.getD,hi]
 ·exact fun h=>h.1
def BJ (o:Oper):Bool:=match o.op with
 | .move _| .assign _| .pick _ _ _| .build _ _| .nilCheck _| .binOp _ _ _ _ _| .unOp _ _ _| .makeFunc (.func _) _ _| .fieldAddr _ _ _| .field _ _ _| .index _ _ _| .extract _ _=>true
 |_=>false
theorem X7 {P:Program} {G:Option Tmp->List D->D->aA->Prop} {H H':aA} {s:St} {o:Oper} (hf:BJ o=true):fD P G H s o=fD P G H' s o:=by
 unfold BJ at hf
 funext K
 unfold fD
 split at hf <;> first
  |(rename_i e;rw[e])
  |cases hf
theorem aBS {P:Program} {G:Option Tmp->List D->D->aA->Prop} {H H':aA} {aV:Array Oper} {s:St} {o:Oper} (hf:BJ o=true):o8 P G H aV s o=o8 P G H' aV s o:=by
 unfold o8
 rw[X7 hf]
theorem X8 {P:Program} {G:Option Tmp->List D->D->aA->Prop} {H:aA} {s:St} {o:Oper} {K:D->aA->Prop} (hf:BJ o=true) (h:fD P G H s o K):fD P G H s o fun d A=>A=.none/\K d A:=by
 unfold BJ at hf
 unfold fD at h ⊢
 split at hf <;> (try(cases hf;done)) <;> (rename_i e;rw[e] at h ⊢;simp only at h ⊢)
 ·exact⟨trivial,h⟩
 ·exact⟨trivial,h⟩
 ·split at h
  ·rename_i b hb
   rw[JF] at h ⊢
   exact⟨fun e=>⟨trivial,h.1 e⟩,fun e=>⟨trivial,h.2 e⟩⟩
  ·exact h.elim
 ·exact(MW _ _ _).mono (fun d hk=>⟨trivial,hk⟩) h
 ·exact(M8 _).mono (fun d hk=>⟨trivial,hk⟩) h
 ·exact(H9 _ _ _ _ _).mono (fun d hk=>⟨trivial,hk⟩) h
 ·exact(NA _ _).mono (fun d hk=>⟨trivial,hk⟩) h
 ·exact⟨h.1,trivial,h.2⟩
 ·exact(MZ _ _ _ _).mono (fun d hk=>⟨trivial,hk⟩) h
 ·exact(BI _ _ _ _).mono (fun d hk=>⟨trivial,hk⟩) h
 ·exact(M6 _ _ _ _).mono (fun d hk=>⟨trivial,hk⟩) h
 ·exact(MY _ _).mono (fun d hk=>⟨trivial,hk⟩) h
def iK (wc:Option Tmp->Bool) (o:Oper):Bool:=match o.op with
 | .store _ _ _=>true
 | .mapUpdate _ _ _ _=>true
 | .call c=>(match c.callee with
  | .builtin .append=>true
  | .builtin .copy=>true
  | .value _=>wc o.dst
  |_=>false)
 |_=>false
def TU (fl:Option Tmp->Bool) (o:Oper):Bool:=fl o.dst&&(match o.op with
 | .load _ _| .convert _ _ _| .slice _ _ _ _ _| .indexAddr _ _ _| .buildSlice _ _ _=>true
 | .call c=>(match c.callee with
  | .builtin .len| .builtin .min| .builtin .max=>true
  |_=>false)
 |_=>false)
def mG (fl:Option Tmp->Bool) (o:Oper):Bool:=BJ o||TU fl o
def wY (fl:Option Tmp->Bool) (H:aA) (o:Oper):aA:=if TU fl o=true then aA.none else H
theorem IK {fl:Option Tmp->Bool} {H H':aA} {o:Oper} (h:H.le H'):(wY fl H o).le H':=by
 unfold wY
 split
 ·exact wJ _
 ·exact h
theorem aAM {fl wc:Option Tmp->Bool} {o:Oper} (h:iK wc o=true):mG fl o=false:=by
 unfold iK at h
 unfold mG BJ TU
 split at h
 ·rename_i e;rw[e];simp
 ·rename_i e;rw[e];simp
 ·rename_i e
  rw[e]
  split at h <;> first
   |(rename_i e2;simp only[e2,kH,Bool.or_false];done)
   |(cases h;done)
 ·cases h
theorem aDT {P:Program} {fl:Option Tmp->Bool} {G:Option Tmp->List D->D->aA->Prop} {H:aA} {s:St} {o:Oper} {K:D->aA->Prop} (hf:TU fl o=true) (h:fD P G H s o K):fD P G H s o fun d A=>A=.none/\K d A:=by
 unfold TU at hf
 rw[eF] at hf
 replace hf:=hf.2
 unfold fD at h ⊢
 split at hf
 ·rename_i e;rw[e] at h ⊢;simp only at h ⊢
  exact(M7 _ _ _ _).mono (fun d hk=>⟨trivial,hk⟩) h
 ·rename_i e;rw[e] at h ⊢;simp only at h ⊢
  exact(MX _ _ _ _ _).mono (fun d hk=>⟨trivial,hk⟩) h
 ·rename_i e;rw[e] at h ⊢;simp only at h ⊢
  exact(M9 _ _ _ _ _ _ _).mono (fun d hk=>⟨trivial,hk⟩) h
 ·rename_i e;rw[e] at h ⊢;simp only at h ⊢
  exact(M0 _ _ _ _ _).mono (fun d hk=>⟨trivial,hk⟩) h
 ·rename_i e;rw[e] at h ⊢;simp only at h ⊢
  revert h
  split
  ·split
   ·rintro⟨a,b,c,h⟩
    refine⟨a,b,c,?_⟩
    revert h
    split
    ·exact fun h=>⟨trivial,h⟩
    ·exact id
   ·exact id
  ·exact id
 ·rename_i c e
  rw[e] at h ⊢
  simp only at h ⊢
  split at hf
  ·rename_i e2
   rw[e2] at h ⊢
   simp only at h ⊢
   split at h
   ·exact(IA _ _ _ _).mono (fun d hk=>⟨trivial,hk⟩) h
   ·exact h.elim
  ·rename_i e2
   rw[e2] at h ⊢
   simp only at h ⊢
   exact(IC _).mono (fun d hk=>⟨trivial,hk⟩) h
  ·rename_i e2
   rw[e2] at h ⊢
   simp only at h ⊢
   exact(IB _).mono (fun d hk=>⟨trivial,hk⟩) h
  ·cases hf
 ·cases hf
theorem HR {P:Program} {fl:Option Tmp->Bool} {G:Option Tmp->List D->D->aA->Prop} {H:aA} {s:St} {o:Oper} {K:D->aA->Prop} (hf:mG fl o=true) (h:fD P G H s o K):fD P G H s o fun d A=>A=.none/\K d A:=by
 unfold mG at hf
 rw[zW] at hf
 rcases hf with hf|hf
 ·exact X8 hf h
 ·exact aDT hf h
theorem D7 {P:Program} {fl:Option Tmp->Bool} {G:Option Tmp->List D->D->aA->Prop} {H:aA} {aV:Array Oper} {s:St} {o:Oper} {K:D->aA->Prop} (hf:mG fl o=true) (h:o8 P G (wY fl H o) aV s o K):o8 P G (wY fl H o) aV s o fun d A=>A=.none/\K d A:=by
 unfold o8 at h ⊢
 split at h
 ·exact HR hf h
 ·split at h
  ·split at h
   ·rw[sR] at h ⊢
    exact⟨fun e=>HR hf (h.1 e),fun e=>⟨rfl,h.2 e⟩⟩
   ·exact⟨rfl,h⟩
   ·exact h.elim
  ·exact h.elim
theorem D6 {P:Program} {fl:Option Tmp->Bool} {G:Option Tmp->List D->D->aA->Prop} {H H':aA} {aV:Array Oper} {s:St} {o:Oper} (hf:mG fl o=true):o8 P G (wY fl H o) aV s o=o8 P G (wY fl H' o) aV s o:=by
 unfold wY
 by_cases h:TU fl o=true
 ·rw[aH h,aH h]
 ·rw[aD h,aD h]
  refine aBS ?_
  unfold mG at hf
  rw[zW] at hf
  exact hf.resolve_right h
def nP (P:Program) (GW:Option Tmp->List D->aA->D->aA->Prop) (s:St) (o:Oper) (K:D->aA->Prop):Prop:=
 match o.op with
 | .store t x y=>PH P s.H t (s.ev x) (s.ev y) fun H'=>K (.val undef) H'
 | .mapUpdate t x i y=>OB P s.H t (s.ev x) (s.ev i) (s.ev y) fun H'=>K (.val undef) H'
 | .call c=>(match c.callee with
  | .builtin .append=>(match c.argTypes.toList,s.xT c.args with
   |[t,xt],[x,y]=>(match aS P xt with
    |some ⟨.int _,_,_,_⟩=>False
    |_=>VF P s.H t xt x y K)
   |_,_=>False)
  | .builtin .copy=>(match c.argTypes.toList,s.xT c.args with
   |[t,_],[x,y]=>wW P s.H t x y K
   |_,_=>False)
  | .value f=>(match s.ev f with
   | .fn g dO=>aT P g (s.xT c.args++dO) s.H (GW o.dst (s.xT c.args++dO) s.H)/\∀d H',GW o.dst (s.xT c.args++dO) s.H d H'->K d H'
   |_=>False)
  |_=>False)
 |_=>False
def gW (P:Program) (GW:Option Tmp->List D->aA->D->aA->Prop) (aV:Array Oper) (s:St) (o:Oper) (K:D->aA->Prop):Prop:=
 match o.guard with
 |none=>nP P GW s o K
 |some (j,eC)=>(match mF aV j with
  |some t=>(match s.fr t with
   | .val (.bool b)=>vU (b==eC) (nP P GW s o K) (K (.val undef) s.H)
   | .val (.tuple ⟨[]⟩)=>K (.val undef) s.H
   |_=>False)
  |none=>False)
theorem MA {H:aA} {sz:Nat} {x:D} {F:List (List D)->(D->aA->Prop)->Prop} (h:∀els,TB (F els)/\BC (F els)):TB (fun K=>jZ H sz x fun els=>F els K)/\BC (fun K=>jZ H sz x fun els=>F els K):=by
 unfold jZ
 split
 ·exact cO fun _=>h _
 ·unfold kU
  split
  ·exact cO fun _=>h _
  ·split
   ·exact cO fun _=>cO fun _=>cO fun _=>cO fun _=>h _
   ·exact cA
  ·exact h _
  ·exact h _
  ·exact cA
theorem VG (P:Program) (H:aA) (t xt:TypeId) (s x:D):TB (VF P H t xt s x)/\BC (VF P H t xt s x):=by
 unfold VF
 split
 ·refine cO fun _=>?_
  split
  ·refine cO fun _=>cO fun _=>?_
   refine MA fun els=>?_
   split
   ·refine cO fun _=>⟨fun K hK=>⟨fun e K' sG=>sG.1 e,fun e b hb K' sG=>sG.2 e b hb⟩,fun K K' hk hK=>⟨fun e=>hk _ _ (hK.1 e),fun e b hb=>hk _ _ (hK.2 e b hb)⟩⟩
   ·refine cO fun _=>⟨fun K hK=>⟨fun e K' sG=>sG.1 e,fun e b hb K' sG=>sG.2 e b hb⟩,fun K K' hk hK=>⟨fun e=>hk _ _ (hK.1 e),fun e b hb=>hk _ _ (hK.2 e b hb)⟩⟩
   ·refine cO fun _=>cO fun _=>?_
    split
    ·exact cO fun _=>cO fun _=>cO fun _=>cO fun _=>⟨fun K hK b o hb K' sG=>sG b o hb,fun K K' hk hK b o hb=>hk _ _ (hK b o hb)⟩
    ·exact cA
   ·refine cO fun _=>?_
    split
    ·exact cO fun _=>cO fun _=>cO fun _=>⟨fun K hK K' sG=>sG,fun K K' hk hK=>hk _ _ hK⟩
    ·exact cA
   ·exact cA
  ·exact cA
 ·exact cA
theorem XD (P:Program) (H:aA) (t:TypeId) (x y:D):TB (fun K=>PH P H t x y fun H'=>K (.val undef) H')/\BC (fun K=>PH P H t x y fun H'=>K (.val undef) H'):=by
 unfold PH
 split
 ·refine cO fun _=>?_
  split
  ·refine cO fun _=>cO fun _=>?_
   split
   ·exact cO fun _=>⟨fun K hK K' sG=>sG,fun K K' hk hK=>hk _ _ hK⟩
   ·exact cA
  ·exact cA
 ·exact cA
theorem WY (P:Program) (H:aA) (t:TypeId) (x i y:D):TB (fun K=>OB P H t x i y fun H'=>K (.val undef) H')/\BC (fun K=>OB P H t x i y fun H'=>K (.val undef) H'):=by
 unfold OB
 split
 ·split
  ·exact cO fun _=>⟨fun K hK K' sG=>sG,fun K K' hk hK=>hk _ _ hK⟩
  ·exact cA
 ·exact cA
theorem P3 (P:Program) (H:aA) (t:TypeId) (x y:D):TB (wW P H t x y)/\BC (wW P H t x y):=by
 unfold wW
 split
 ·split
  ·refine cO fun _=>cO fun _=>cO fun _=>cO fun _=>cO fun _=>?_
   refine MA fun els=>?_
   exact cO fun _=>⟨fun K hK K' sG=>sG,fun K K' hk hK=>hk _ _ hK⟩
  ·exact cA
 ·exact cA
theorem JR (P:Program) (GW:Option Tmp->List D->aA->D->aA->Prop) (s:St) (o:Oper):TB (nP P GW s o)/\BC (nP P GW s o):=by
 unfold nP
 split
 ·exact XD _ _ _ _ _
 ·exact WY _ _ _ _ _ _
 ·split
  ·split
   ·split
    ·exact cA
    ·exact VG _ _ _ _ _ _
   ·exact cA
  ·split
   ·exact P3 _ _ _ _ _
   ·exact cA
  ·split
   ·exact⟨fun K hK=>⟨hK.1,fun d A h K' sG=>sG.2 d A h⟩,fun K K' hk hK=>⟨hK.1,fun d A h=>hk _ _ (hK.2 d A h)⟩⟩
   ·exact cA
  ·exact cA
 ·exact cA
theorem TV (P:Program) (GW:Option Tmp->List D->aA->D->aA->Prop) (aV:Array Oper) (s:St) (o:Oper):TB (gW P GW aV s o)/\BC (gW P GW aV s o):=by
 unfold gW
 split
 ·exact JR P GW s o
 ·split
  ·split
   ·rename_i eC _ _ _ _ _ b _
    simp only[sR]
    obtain⟨h1,h2⟩:=JR P GW s o
    by_cases e:b=eC
    ·have e2:¬b= !eC:=by cases b <;> cases eC <;> simp at e ⊢
     exact⟨fun K hK=>⟨fun _=>h2 _ _ (fun d A hh K' sG=>hh K' (sG.1 e)) (h1 K (hK.1 e)),fun h=>absurd h e2⟩,fun K K' hk hK=>⟨fun _=>h2 _ _ hk (hK.1 e),fun h=>absurd h e2⟩⟩
    ·have e2:b= !eC:=by cases b <;> cases eC <;> simp at e ⊢
     exact⟨fun K hK=>⟨fun h=>absurd h e,fun _ K' sG=>sG.2 e2⟩,fun K K' hk hK=>⟨fun h=>absurd h e,fun _=>hk _ _ (hK.2 e2)⟩⟩
   ·exact EX _ _
   ·exact cA
  ·exact cA
def St.nA (s:St) (o:Oper) (d:D) (H':aA):St:=(s.dW H').put o.dst d
def BY (P:Program) (fl wc:Option Tmp->Bool) (G:Option Tmp->List D->D->aA->Prop) (GW:Option Tmp->List D->aA->D->aA->Prop) (aV:Array Oper) (Q:St->Prop):aA->List Oper->St->Prop
 |_,[],s=>Q s
 |H,o::dD,s=>if iK wc o=true then gW P GW aV s o fun d H'=>BY P fl wc G GW aV Q H' dD (s.nA o d H')
   else o8 P G (wY fl H o) aV s o fun d A=>n9 A s.H->BY P fl wc G GW aV Q H dD (s.out o d A)
theorem aFX {P:Program} {GW:Option Tmp->List D->aA->D->aA->Prop} {s s':St} {o:Oper} (hH:s'.H=s.H) (h:∀t∈o.op.operands.toList.flatMap SJ,s'.fr t=s.fr t):nP P GW s' o=nP P GW s o:=by
 have e1:∀x∈o.op.operands.toList,s'.ev x=s.ev x:=fun x hx=>aF1 fun t ht=>h t (List.mem_flatMap.2 ⟨x,hx,ht⟩)
 funext K
 unfold nP
 have em:∀xs:Array Operand,(∀x∈xs.toList,x∈o.op.operands.toList)->s'.xT xs=s.xT xs:=fun xs hx=>by
  unfold St.xT
  exact DJ fun x hxs=>e1 x (hx x hxs)
 cases ho:o.op <;> rw[ho] at e1 em <;> simp only[Op.operands] at e1 em ⊢
 case store t x y=>rw[e1 x (by simp),e1 y (by simp),hH]
 case mapUpdate t x i y=>rw[e1 x (by simp),e1 i (by simp),e1 y (by simp),hH]
 case call c=>
  have ea:s'.xT c.args=s.xT c.args:=em _ fun x hx=>by simp [Call.operands];exact .inr (by simpa using hx)
  cases hc:c.callee with
  |value f=>
   have ef:s'.ev f=s.ev f:=e1 f (by simp [Call.operands,hc])
   simp only[ea,ef,hH]
  |builtin b=>
   simp only[ea,hH]
   cases b <;> rfl
  |invoke r n=>rfl
theorem aBT {P:Program} {GW:Option Tmp->List D->aA->D->aA->Prop} {aV:Array Oper} {s s':St} {o:Oper} (hH:s'.H=s.H) (h:∀t∈Oper.reads aV o,s'.fr t=s.fr t):gW P GW aV s' o=gW P GW aV s o:=by
 have hc:nP P GW s' o=nP P GW s o:=aFX hH fun t ht=>h t (cS.2 (.inl ht))
 funext K
 unfold gW
 rw[hc,hH]
 cases hg:o.guard with
 |none=>rfl
 |some g=>
  obtain⟨j,eC⟩:=g
  simp only
  cases hj:mF aV j with
  |none=>rfl
  |some t=>
   have:s'.fr t=s.fr t:=h t (cS.2 (.inr (by simp [hg,hj])))
   simp only[this]
theorem C3 {s:St} {o:Oper} {d:D} {A:aA} {t:Nat} (h:o.dst≠some t):(s.nA o d A).fr t=s.fr t:=by
 unfold St.nA St.put
 cases ho:o.dst with
 |none=>rfl
 |some u=>
  rw[ho] at h
  simp only
  rw[aD (fun e=>h (by rw[e]))]
  rfl
theorem OG (s:St) (o:Oper) (d:D) (A:aA):(s.nA o d A).H=A:=by unfold St.nA;rw[kN];rfl
theorem LW {s:St} {o p:Oper} {d dp:D} {H':aA} (fP:∀t,p.dst=some t->o.dst≠some t):(s.out o d .none).nA p dp H'=(s.nA p dp H').out o d .none:=by
 have hH:((s.out o d .none).nA p dp H').H=((s.nA p dp H').out o d .none).H:=by rw[OG,nB,OG,qY]
 have SY:((s.out o d .none).nA p dp H').fr=((s.nA p dp H').out o d .none).fr:=funext fun t=>by
  by_cases hp:p.dst=some t
  ·have ho:=fP t hp
   rw[jM (o:=o) ho]
   unfold St.nA St.put
   rw[hp]
   simp
  ·rw[C3 (o:=p) hp]
   by_cases ho:o.dst=some t
   ·unfold St.out St.put
    rw[ho]
    simp
   ·rw[jM ho,jM ho,C3 hp]
 have bG:((s.out o d .none).nA p dp H').df=((s.nA p dp H').out o d .none).df:=by
  unfold St.out St.nA
  simp only[yF,vD]
 cases h1:(s.out o d .none).nA p dp H'
 cases h2:(s.nA p dp H').out o d .none
 rw[h1,h2] at hH SY bG
 simp only at hH SY bG
 subst hH SY bG
 rfl
section
variable {P:Program} {fl wc:Option Tmp->Bool} {G:Option Tmp->List D->D->aA->Prop} {GW:Option Tmp->List D->aA->D->aA->Prop} {aV:Array Oper} {Q:St->Prop}
theorem yS {o:Oper} (h:mG fl o=true):iK wc o=false:=by
 cases e:iK wc o with
 |false=>rfl
 |true=>rw[aAM e] at h;cases h
theorem JP {o:Oper} {d:D} (hf:mG fl o=true):∀{pre post:List Oper} {H:aA} {s:St},(∀p∈pre,tC aV p o)->BY P fl wc G GW aV Q H (pre++o::post) s->
  (∀K,o8 P G (wY fl H o) aV s o K->K d .none)->BY P fl wc G GW aV Q H (pre++post) (s.out o d .none)
 |[],post,H,s,_,h,qA=>by
  simp only[fR,BY,yS hf,jT,fE] at h ⊢
  exact qA _ h (rQ _)
 |p::pre,post,H,s,hi,h,qA=>by
  have F7:=hi p (by simp)
  simp only[eT,BY] at h ⊢
  split at h
  ·rename_i hw
   rw[aH hw]
   have iP:gW P GW aV (s.out o d .none) p=gW P GW aV s p:=aBT (by rw[nB,qY]) fun t ht=>jM fun e=>(F7.2 t e) ht
   rw[iP]
   refine(TV P GW aV s p).2 _ _ (fun dp H' hk=>?_) h
   rw[LW fun t ht=>(F7.1 t ht).2]
   refine JP hf (fun q hq=>hi q (by simp [hq])) hk fun K hK=>qA K ?_
   have BL:o8 P G (wY fl H' o) aV (s.nA p dp H') o=o8 P G (wY fl H' o) aV s o:=F4 fun t ht=>C3 fun e=>(F7.1 t e).1 ht
   rw[BL,D6 (H':=H) hf] at hK
   exact hK
  ·rename_i hw
   rw[aD hw]
   obtain⟨hu,hm⟩:=xV P G (wY fl H p) aV s p
   have iP:o8 P G (wY fl H p) aV (s.out o d .none) p=o8 P G (wY fl H p) aV s p:=F4 fun t ht=>jM fun e=>(F7.2 t e) ht
   rw[iP]
   refine hm _ _ (fun dp Ap hk V5=>?_) h
   rw[nB,qY] at V5
   have h2:=hk V5
   rw[I3 (fun t ht=>(F7.1 t ht).2) (by rw[qY];exact V5)]
   refine JP hf (fun q hq=>hi q (by simp [hq])) h2 fun K hK=>qA K ?_
   have BL:o8 P G (wY fl H o) aV (s.out p dp Ap) o=o8 P G (wY fl H o) aV s o:=F4 fun t ht=>jM fun e=>(F7.1 t e).1 ht
   rwa[BL] at hK
theorem SR {o:Oper} {d:D} {H1:aA} (hw:iK wc o=true):∀{pre post:List Oper} {H:aA} {s:St},(∀p∈pre,tC aV p o/\mG fl p=true)->BY P fl wc G GW aV Q H (pre++o::post) s->
  (∀K,gW P GW aV s o K->K d H1)->BY P fl wc G GW aV Q H1 (pre++post) (s.nA o d H1)
 |[],post,H,s,_,h,qA=>by
  simp only[fR,BY,aH hw] at h ⊢
  exact qA _ h
 |p::pre,post,H,s,hi,h,qA=>by
  obtain⟨F7,hpf⟩:=hi p (by simp)
  simp only[eT,BY,yS hpf,jT,fE] at h ⊢
  have iP:o8 P G (wY fl H1 p) aV (s.nA o d H1) p=o8 P G (wY fl H1 p) aV s p:=F4 fun t ht=>C3 fun e=>(F7.2 t e) ht
  rw[iP,D6 (H':=H) hpf]
  refine(xV P G (wY fl H p) aV s p).2 _ _ (fun dp Ap hk V5=>?_) (D7 hpf h)
  obtain⟨rfl,hk⟩:=hk
  have h2:=hk (rQ _)
  rw[<-LW fun t ht e=>(F7.1 t e).2 ht]
  refine SR hw (fun q hq=>hi q (by simp [hq])) h2 fun K hK=>qA K ?_
  have BL:gW P GW aV (s.out p dp .none) o=gW P GW aV s o:=aBT (by rw[nB,qY]) fun t ht=>jM fun e=>(F7.1 t e).1 ht
  rwa[BL] at hK
theorem SQ {o:Oper} {d:D} {A:aA} (hc:iK wc o=false):∀{pre post:List Oper} {H:aA} {s:St},(∀p∈pre,tC aV p o/\iK wc p=false)->BY P fl wc G GW aV Q H (pre++o::post) s->
  (∀K,o8 P G (wY fl H o) aV s o K->K d A)->n9 A s.H->BY P fl wc G GW aV Q H (pre++post) (s.out o d A)
 |[],post,H,s,_,h,qA,hA=>by
  simp only[fR,BY,hc,jT,fE] at h ⊢
  exact qA _ h hA
 |p::pre,post,H,s,hi,h,qA,hA=>by
  obtain⟨F7,hpc⟩:=hi p (by simp)
  simp only[eT,BY,hpc,jT,fE] at h ⊢
  obtain⟨hu,hm⟩:=xV P G (wY fl H p) aV s p
  have iP:o8 P G (wY fl H p) aV (s.out o d A) p=o8 P G (wY fl H p) aV s p:=F4 fun t ht=>jM fun e=>(F7.2 t e) ht
  rw[iP]
  refine hm _ _ (fun dp Ap EA V5=>?_) (hu _ h)
  have h1:=EA _ h
  rw[nB] at V5
  have h2:=h1 (E9 V5)
  rw[I3 (fun t ht=>(F7.1 t ht).2) V5]
  have BL:o8 P G (wY fl H o) aV (s.out p dp Ap) o=o8 P G (wY fl H o) aV s o:=F4 fun t ht=>jM fun e=>(F7.1 t e).1 ht
  refine SQ hc (fun q hq=>hi q (by simp [hq])) h2 (by rw[BL];exact qA) ?_
  rw[nB]
  exact K8 hA V5
end
end Go.Proofs.YtelbfbioomcmeaaGreatDoor

