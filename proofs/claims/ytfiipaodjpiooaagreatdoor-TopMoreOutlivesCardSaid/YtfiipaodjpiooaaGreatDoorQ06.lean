/- Lemmas and contracts of functions, several texts in one. -/
import Derived.Test.YtfiipaodjpiooaaGreatDoorQ05
set_option maxRecDepth 100000
set_option maxHeartbeats 4000000
set_option linter.all false
namespace Go.Proofs.YtfiipaodjpiooaaGreatDoor
open Go.RowKit
def aC.add (H A:aC):aC:=fun b=>match A b with
 |some x=>some x
 |Option.none=>H b
def sN (A H:aC):Prop:=∀b x,A b=some x->H b=none
theorem aC.aGA (H:aC):H.add aC.none=H:=rfl
abbrev sC:=@aC.aGA
theorem aC.aJ4 (H:aC) (b:Nat) (x:fK):H.add (aC.none.bH b x)=H.bH b x:=funext fun c=>by
 by_cases h:c=b
 ·subst h;simp [aC.add,aO]
 ·simp [aC.add,aN h,aC.none]
abbrev qC:=@aC.aJ4
theorem sN.none (H:aC):sN aC.none H:=fun b x h=>by cases h
abbrev u7:=@sN.none
theorem xQ {H:aC} {b:Nat} {x:fK} (h:H b=none):sN (aC.none.bH b x) H:=fun c y e=>by
 by_cases hc:c=b
 ·subst hc;exact h
 ·rw[aN hc] at e;cases e
theorem nP {H:aC} {b:Nat} {x:fK}:sN (aC.none.bH b x) H↔H b=none:=⟨fun h=>h b x (aO _ _ _),xQ⟩
theorem aC.aOk {H A:aC} (h:sN A H):H.le (H.add A):=fun b x e=>by
 unfold aC.add
 cases ha:A b with
 |none=>exact e
 |some y=>rw[h b y ha] at e;cases e
abbrev GA:=@aC.aOk
theorem MZ {H A B:aC} (h:sN B (H.add A)):sN B H:=fun b x e=>by
 have:=h b x e
 unfold aC.add at this
 cases ha:A b with
 |none=>rw[ha] at this;exact this
 |some y=>rw[ha] at this;cases this
theorem VA {H A B:aC} (hA:sN A H) (h:sN B (H.add A)):sN A (H.add B):=fun b x e=>by
 have h1:=hA b x e
 unfold aC.add
 cases hb:B b with
 |none=>exact h1
 |some y=>
  have:=h b y hb
  unfold aC.add at this
  rw[e] at this
  cases this
theorem aE5 {H A B:aC} (h:sN B (H.add A)):(H.add A).add B=(H.add B).add A:=funext fun c=>by
 unfold aC.add
 cases hb:B c with
 |none=>rfl
 |some y=>
  have:=h c y hb
  unfold aC.add at this
  cases ha:A c with
  |none=>rfl
  |some z=>rw[ha] at this;cases this
def eF (P:Program) (f:FuncId) (args:List D) (H:aC) (G:D->aC->Prop):Prop:=
 ∀gI,H.le gI->bE P f args gI fun d H'=>∃A,sN A gI/\H'=gI.add A/\G d A
def gN (P:Program) (G:Option Tmp->List D->D->aC->Prop) (H:aC) (s:St) (o:Oper) (K:D->aC->Prop):Prop:=
 match o.op with
 | .move x| .assign x=>K (s.ev x) .none
 | .pick c x y=>(match s.ev c with
  | .val (.bool b)=>CL b (K (s.ev x) .none) (K (s.ev y) .none)
  |_=>False)
 | .box t x=>(match (s.ev x).cells with
  |some cs=>∀b,K (.ep b 0 cs.length 0 0) (aC.none.bH b (.row t 0 cs.length [cs]))
  |none=>False)
 | .build t ps=>TS P t (s.parts ps) fun d=>K d .none
 | .buildSlice t n ps=>(match bQ P t with
  |some ⟨.slice e,_,_,_⟩=>(match bQ P e with
   |some ⟨_,sz,_,some zs⟩=>zs.length=sz/\(s.parts ps).length=n/\n * sz<=16777216/\(match qI sz (s.parts ps) 0 with
    |some els=>K (if n=0 then .TA else .seq sz els) .none
    |none=>False)
   |_=>False)
  |_=>False)
 | .load t x=>EP P H t (s.ev x) fun d=>K d .none
 | .nilCheck x=>UD (s.ev x) fun d=>K d .none
 | .binOp op t x y _=>yM P op t (s.ev x) (s.ev y) fun d=>K d .none
 | .unOp op _ x=>UK op (s.ev x) fun d=>K d .none
 | .convert a b x=>K3 P H a b (s.ev x) fun d=>K d .none
 | .makeFunc (.func f) first eL=>first.toList=[]/\K (.fn f (s.G3 eL)) .none
 | .slice t x lo hi mx=>UI P H t (s.ev x) (lo.map s.ev) (hi.map s.ev) (mx.map s.ev) fun d=>K d .none
 | .fieldAddr t x f=>TW P t (s.ev x) f fun d=>K d .none
 | .field t x f=>l3 P t (s.ev x) f fun d=>K d .none
 | .indexAddr t x i=>UA P H t (s.ev x) (s.ev i) fun d=>K d .none
 | .index t x i=>UB P t (s.ev x) (s.ev i) fun d=>K d .none
 | .extract x i=>TV (s.ev x) i fun d=>K d .none
 | .call c=>(match c.callee with
  | .value f=>(match s.ev f with
   | .fn g eL=>eF P g (s.G3 c.args++eL) H (G o.dst (s.G3 c.args++eL))/\∀d A,G o.dst (s.G3 c.args++eL) d A->K d A
   |_=>False)
  | .builtin .len=>(match c.argTypes.toList,s.G3 c.args with
   |[t],[x]=>wP P H t x fun d=>K d .none
   |_,_=>False)
  | .builtin .min=>AE (s.G3 c.args) fun d=>K d .none
  | .builtin .max=>AD (s.G3 c.args) fun d=>K d .none
  |_=>False)
 | .lookup t x i ok=>O6 P H t (s.ev x) (s.ev i) ok fun d=>K d .none
 | .alloc t=>(match bQ P t with
  |some ⟨_,_,_,some zs⟩=>zs.all Value.oneCell'=true/\∀b,K (.ep b 0 zs.length 0 0) (aC.none.bH b (.row t 0 zs.length [zs.map .val]))
  |_=>False)
 | .makeSlice t n c=>(match s.ev n,s.ev c,bQ P t with
  | .val (.int _ l),.val (.int _ c),some ⟨.slice e,_,_,_⟩=>(match bQ P e with
   |some ⟨_,sz,uW,some zs⟩=>zs.length=sz/\zs.all Value.oneCell'=true/\0<=l/\l<=c/\(uW:Int) * c<=281474976710656/\c<=9223372036854775807/\
    ∀b,K (.os b 0 sz 0 l.toNat) (aC.none.bH b (.row e 0 sz (List.replicate l.toNat (zs.map .val))))
   |_=>False)
  |_,_,_=>False)
 | .makeMap _ none=>∀b,K (.val (.map (some b))) (aC.none.bH b (.map []))
 |_=>False
def Uni (F:(D->aC->Prop)->Prop):Prop:=∀K,F K->F fun d A=>∀K',F K'->K' d A
def HD (F:(D->aC->Prop)->Prop):Prop:=∀K K':D->aC->Prop,(∀d A,K d A->K' d A)->F K->F K'
theorem mQ {G:(D->Prop)->Prop} (h:DP G):Uni (fun K=>G fun d=>K d .none)/\HD (fun K=>G fun d=>K d .none):=by
 obtain⟨p,d,hd⟩:=h
 refine⟨fun K hK=>?_,fun K K' hk hK=>?_⟩
 ·exact(hd _).2 ⟨((hd _).1 hK).1,fun K' xW=>((hd _).1 xW).2⟩
 ·have:=(hd _).1 hK
  exact(hd _).2 ⟨this.1,hk _ _ this.2⟩
theorem MM (d:D) (A:aC):Uni (fun K=>K d A)/\HD (fun K=>K d A):=⟨fun K hK K' xW=>xW,fun K K' hk hK=>hk _ _ hK⟩
theorem dC:Uni (fun _=>False)/\HD (fun _=>False):=⟨fun K hK=>hK,fun K K' _ hK=>hK⟩
theorem dR {p:Prop} {F:(D->aC->Prop)->Prop} (h:p->Uni F/\HD F):Uni (fun K=>p/\F K)/\HD (fun K=>p/\F K):=
 ⟨fun K ⟨hp,hK⟩=>⟨hp,(h hp).2 _ _ (fun d A hh K' xW=>hh K' xW.2) ((h hp).1 K hK)⟩,fun K K' hk ⟨hp,hK⟩=>⟨hp,(h hp).2 _ _ hk hK⟩⟩
theorem I5 (P:Program) (G:Option Tmp->List D->D->aC->Prop) (H:aC) (s:St) (o:Oper):Uni (gN P G H s o)/\HD (gN P G H s o):=by
 unfold gN
 split
 ·exact MM _ _
 ·exact MM _ _
 ·split
  ·rename_i b _
   simp only[SI]
   cases b
   ·exact⟨fun K hK=>⟨fun h=>(by cases h),fun _ K' xW=>xW.2 rfl⟩,fun K K' hk hK=>⟨fun h=>(by cases h),fun _=>hk _ _ (hK.2 rfl)⟩⟩
   ·exact⟨fun K hK=>⟨fun _ K' xW=>xW.1 rfl,fun h=>(by cases h)⟩,fun K K' hk hK=>⟨fun _=>hk _ _ (hK.1 rfl),fun h=>(by cases h)⟩⟩
  ·exact dC
 ·split
  ·exact⟨fun K hK b K' xW=>xW b,fun K K' hk hK b=>hk _ _ (hK b)⟩
  ·exact dC
 ·exact mQ (XF _ _ _)
 ·split
  ·split
   ·refine dR fun _=>dR fun _=>dR fun _=>?_
    split
    ·exact MM _ _
    ·exact dC
   ·exact dC
  ·exact dC
 ·exact mQ (XM _ _ _ _)
 ·exact mQ (XN _)
 ·exact mQ (QR _ _ _ _ _)
 ·exact mQ (XP _ _)
 ·exact mQ (XG _ _ _ _ _)
 ·exact dR fun _=>MM _ _
 ·exact mQ (XO _ _ _ _ _ _ _)
 ·exact mQ (XI _ _ _ _)
 ·exact mQ (HJ _ _ _ _)
 ·exact mQ (XJ _ _ _ _ _)
 ·exact mQ (XL _ _ _ _)
 ·exact mQ (XH _ _)
 ·split
  ·split
   ·exact⟨fun K hK=>⟨hK.1,fun d A h K' xW=>xW.2 d A h⟩,fun K K' hk hK=>⟨hK.1,fun d A h=>hk _ _ (hK.2 d A h)⟩⟩
   ·exact dC
  ·split
   ·exact mQ (QS _ _ _ _)
   ·exact dC
  ·exact mQ (QU _)
  ·exact mQ (QT _)
  ·exact dC
 ·exact mQ (aDO _ _ _ _ _ _)
 ·split
  ·exact dR fun _=>⟨fun K hK b K' xW=>xW b,fun K K' hk hK b=>hk _ _ (hK b)⟩
  ·exact dC
 ·split
  ·split
   ·exact dR fun _=>dR fun _=>dR fun _=>dR fun _=>dR fun _=>dR fun _=>⟨fun K hK b K' xW=>xW b,fun K K' hk hK b=>hk _ _ (hK b)⟩
   ·exact dC
  ·exact dC
 ·exact⟨fun K hK b K' xW=>xW b,fun K K' hk hK b=>hk _ _ (hK b)⟩
 ·exact dC
def tZ (P:Program) (G:Option Tmp->List D->D->aC->Prop) (H:aC) (aX:Array Oper) (s:St) (o:Oper) (K:D->aC->Prop):Prop:=
 match o.guard with
 |none=>gN P G H s o K
 |some (j,fL)=>(match qF aX j with
  |some t=>(match s.fr t with
   | .val (.bool b)=>CL (b==fL) (gN P G H s o K) (K (.val undef) .none)
   | .val (.tuple ⟨[]⟩)=>K (.val undef) .none
   |_=>False)
  |none=>False)
theorem EF (P:Program) (G:Option Tmp->List D->D->aC->Prop) (H:aC) (aX:Array Oper) (s:St) (o:Oper):Uni (tZ P G H aX s o)/\HD (tZ P G H aX s o):=by
 unfold tZ
 split
 ·exact I5 P G H s o
 ·split
  ·split
   ·rename_i fL _ _ _ _ _ b _
    simp only[yE]
    obtain⟨h1,h2⟩:=I5 P G H s o
    by_cases e:b=fL
    ·have e2:¬b= !fL:=by cases b <;> cases fL <;> simp at e ⊢
     exact⟨fun K hK=>⟨fun _=>h2 _ _ (fun d A hh K' xW=>hh K' (xW.1 e)) (h1 K (hK.1 e)),fun h=>absurd h e2⟩,fun K K' hk hK=>⟨fun _=>h2 _ _ hk (hK.1 e),fun h=>absurd h e2⟩⟩
    ·have e2:b= !fL:=by cases b <;> cases fL <;> simp at e ⊢
     exact⟨fun K hK=>⟨fun h=>absurd h e,fun _ K' xW=>xW.2 e2⟩,fun K K' hk hK=>⟨fun h=>absurd h e,fun _=>hk _ _ (hK.2 e2)⟩⟩
   ·exact MM _ _
   ·exact dC
  ·exact dC
def St.out (s:St) (o:Oper) (d:D) (A:aC):St:=(s.dY (s.H.add A)).put o.dst d
def PG (P:Program) (G:Option Tmp->List D->D->aC->Prop) (H:aC) (aX:Array Oper) (Q:St->Prop):List Oper->St->Prop
 |[],s=>Q s
 |o::eJ,s=>tZ P G H aX s o fun d A=>sN A s.H->PG P G H aX Q eJ (s.out o d A)
def aBX:Operand->List Tmp
 | .tmp t=>[t]
 |_=>[]
def Oper.reads (aX:Array Oper) (o:Oper):List Tmp:=o.op.operands.toList.flatMap aBX++(match o.guard with
 |some (j,_)=>(qF aX j).toList
 |none=>[])
def yU (aX:Array Oper) (p o:Oper):Prop:=
 (∀t,p.dst=some t->t∉Oper.reads aX o/\o.dst≠some t)/\(∀t,o.dst=some t->t∉Oper.reads aX p)
theorem aM3 {s s':St} {x:Operand} (h:∀t∈aBX x,s'.fr t=s.fr t):s'.ev x=s.ev x:=by
 cases x <;> first|rfl|exact h _ (by simp [aBX])
theorem aJe {P : Program} {G : Option Tmp -> List D -> D -> aC -> Prop} {H : aC} {s s' : St} {o : Oper} (h : ∀ t ∈ o.op.operands.toList.flatMap aBX, s'.fr t = s.fr t) : gN P G H s' o = gN P G H s o := by
  have e1 : ∀ x ∈ o.op.operands.toList, s'.ev x = s.ev x := fun x hx => aM3 fun t ht => h t (tF.2 ⟨x, hx, ht⟩)
  funext K
  unfold gN
  have em : ∀ xs : Array Operand, (∀ x ∈ xs.toList, x ∈ o.op.operands.toList) -> s'.G3 xs = s.G3 xs := fun xs hx => by
    unfold St.G3
    exact zO fun x RK => e1 x (hx x RK)
  have eo : ∀ x : Option Operand, (∀ y, x = some y -> y ∈ o.op.operands.toList) -> x.map s'.ev = x.map s.ev := fun x hx => by
    cases x with
    | none => rfl
    | some y => exact cS some (e1 y (hx y rfl))
  cases ho : o.op <;> rw [ho] at e1 em eo <;> simp only [Op.operands] at e1 em eo ⊢
  case build t ps =>
    have : s'.parts ps = s.parts ps := by
      unfold St.parts
      exact zO fun p hp => by rw [e1 p.2 (eW.2 ⟨p, hp, rfl⟩)]
    rw [this]
  case buildSlice t n ps =>
    have : s'.parts ps = s.parts ps := by
      unfold St.parts
      exact zO fun p hp => by rw [e1 p.2 (eW.2 ⟨p, hp, rfl⟩)]
    rw [this]
  case makeFunc fn first eL =>
    have ec := em eL (fun x hx => by simp; exact .inr (by simpa using hx))
    cases fn <;> simp only [ec]
  case slice t x lo hi mx =>
    rw [e1 x (by simp), eo lo (fun y e => by subst e; simp), eo hi (fun y e => by subst e; simp), eo mx (fun y e => by subst e; simp)]
  case call c =>
    have ea : s'.G3 c.args = s.G3 c.args := em _ fun x hx => by simp [Call.operands]; exact .inr (by simpa using hx)
    cases hc : c.callee with
    | value f =>
      have ef : s'.ev f = s.ev f := e1 f (by simp [Call.operands, hc])
      simp only [ea, ef]
    | builtin b =>
      simp only [ea]
      cases b <;> rfl
    | invoke r n => simp only [ea]
  case makeMap t n => cases n <;> rfl
  all_goals first
    | rfl
    | (simp only [List.mem_toArray, dJ, List.not_mem_nil, zV, forall_eq_or_imp, forall_eq] at e1
       first | rw [e1] | simp only [e1])
theorem NY {P:Program} {G:Option Tmp->List D->D->aC->Prop} {H:aC} {aX:Array Oper} {s s':St} {o:Oper} (h:∀t∈Oper.reads aX o,s'.fr t=s.fr t):tZ P G H aX s' o=tZ P G H aX s o:=by
 have hc:gN P G H s' o=gN P G H s o:=aJe fun t ht=>h t (bV.2 (.inl ht))
 funext K
 unfold tZ
 rw[hc]
 cases hg:o.guard with
 |none=>rfl
 |some g=>
  obtain⟨j,fL⟩:=g
  simp only
  cases hj:qF aX j with
  |none=>rfl
  |some t=>
   have:s'.fr t=s.fr t:=h t (bV.2 (.inr (by simp [hg,hj])))
   simp only[this]
theorem mZ {s:St} {o:Oper} {d:D} {A:aC} {t:Nat} (h:o.dst≠some t):(s.out o d A).fr t=s.fr t:=by
 unfold St.out St.put
 cases ho:o.dst with
 |none=>rfl
 |some u=>
  rw[ho] at h
  simp only
  rw[aA (fun e=>h (by rw[e]))]
  rfl
theorem rD (s:St) (o:Oper) (d:D) (A:aC):(s.out o d A).H=s.H.add A:=by unfold St.out;rw[s5];rfl
theorem RZ {s:St} {o p:Oper} {d dp:D} {A Ap:aC} (fM:∀t,p.dst=some t->o.dst≠some t) (h:sN Ap (s.H.add A)):(s.out o d A).out p dp Ap=(s.out p dp Ap).out o d A:=by
 have hH:((s.out o d A).out p dp Ap).H=((s.out p dp Ap).out o d A).H:=by rw[rD,rD,rD,rD,aE5 h]
 have Z5:((s.out o d A).out p dp Ap).fr=((s.out p dp Ap).out o d A).fr:=funext fun t=>by
  by_cases hp:p.dst=some t
  ·have ho:=fM t hp
   rw[mZ (o:=o) ho]
   unfold St.out St.put
   rw[hp]
   simp
  ·rw[mZ (o:=p) hp]
   by_cases ho:o.dst=some t
   ·unfold St.out St.put
    rw[ho]
    simp
   ·rw[mZ ho,mZ ho,mZ hp]
 have aT:((s.out o d A).out p dp Ap).df=((s.out p dp Ap).out o d A).df:=by
  unfold St.out
  simp only[IC,BQ]
 cases h1:(s.out o d A).out p dp Ap
 cases h2:(s.out p dp Ap).out o d A
 rw[h1,h2] at hH Z5 aT
 simp only at hH Z5 aT
 subst hH Z5 aT
 rfl
theorem MO {P:Program} {G:Option Tmp->List D->D->aC->Prop} {H:aC} {aX:Array Oper} {Q:St->Prop} {o:Oper} {d:D} {A:aC}:∀{pre post:List Oper} {s:St},(∀p∈pre,yU aX p o)->PG P G H aX Q (pre++o::post) s->
  (∀K,tZ P G H aX s o K->K d A)->sN A s.H->PG P G H aX Q (pre++post) (s.out o d A)
 |[],post,s,_,h,rU,hA=>by
  simp only[gZ,PG] at h ⊢
  exact rU _ h hA
 |p::pre,post,s,hi,h,rU,hA=>by
  simp only[gP,PG] at h ⊢
  obtain⟨hu,hm⟩:=EF P G H aX s p
  have OB:=hi p (by simp)
  have lO:tZ P G H aX (s.out o d A) p=tZ P G H aX s p:=NY fun t ht=>mZ fun e=>(OB.2 t e) ht
  rw[lO]
  refine hm _ _ (fun dp Ap LQ hAp=>?_) (hu _ h)
  have h1:=LQ _ h
  rw[rD] at hAp
  have h2:=h1 (MZ hAp)
  rw[RZ (fun t ht=>(OB.1 t ht).2) hAp]
  have HN:tZ P G H aX (s.out p dp Ap) o=tZ P G H aX s o:=NY fun t ht=>mZ fun e=>(OB.1 t e).1 ht
  refine MO (fun q hq=>hi q (by simp [hq])) h2 (by rw[HN];exact rU) ?_
  rw[rD]
  exact VA hA hAp
theorem DP.mono {F:(D->Prop)->Prop} (h:DP F) {K K':D->Prop} (hk:∀d,K d->K' d) (hf:F K):F K':=by
 obtain⟨p,d,hd⟩:=h
 have:=(hd K).1 hf
 exact(hd K').2 ⟨this.1,hk d this.2⟩
theorem aBj {cx:Cx} {G:Option Tmp->List D->D->aC->Prop} {H:aC} {s:St} {o:Oper} {K:D->aC->Prop} (aS:H.le s.H) (hd:DE cx.n o.dst) (h:gN cx.P G H s o K):
  WO cx o (fun s'=>∃d A,K d A/\sN A s.H/\s'=s.out o d A) s:=by
 have rF:∀{d:D},K d .none->∃d' A,K d' A/\sN A s.H/\s.put o.dst d=s.out o d' A:=fun {d} hk=>⟨d,.none,hk,u7 _,rfl⟩
 have TL:eG cx o s (fun s'=>∃d A,K d A/\sN A s.H/\s'=s.out o d A)->WO cx o (fun s'=>∃d A,K d A/\sN A s.H/\s'=s.out o d A) s:=rY hd
 unfold gN at h
 split at h
 case h_1 x e=>exact TL (by unfold eG;rw[e];exact rF h)
 case h_2 x e=>exact TL (by unfold eG;rw[e];exact rF h)
 case h_3 c x y e=>
  refine TL ?_
  unfold eG
  rw[e]
  split at h
  ·rename_i b hb
   simp only[hb]
   rw[SI] at h ⊢
   exact⟨fun e=>rF (h.1 e),fun e=>rF (h.2 e)⟩
  ·exact h.elim
 case h_4 t x e=>
  refine TL ?_
  unfold eG
  rw[e]
  simp only[W4]
  split at h
  ·rename_i cs hc
   simp only[hc]
   exact fun b hb=>⟨_,_,h b,xQ hb,by unfold St.out;rw[qC]⟩
  ·exact h.elim
 case h_5 t ps e=>exact TL (by unfold eG;rw[e];exact(XF _ _ _).mono (fun d hk=>rF hk) h)
 case h_6 t n ps e=>
  split at h
  ·rename_i el _ _ _ hT
   split at h
   ·rename_i dE sz byE zs hE
    obtain⟨NH,fJ,pC,h⟩:=h
    split at h
    ·rename_i els GI
     refine uF (by simp [e]) hd fun a w m=>?_
     have hb:S8 cx.P s.H t n (s.parts ps) (fun d H'=>∃b,s.H b=none/\d=.os b 0 sz 0 n/\H'=s.H.bH b (.row el 0 sz els)):=by
      unfold S8
      simp only[hT,hE,GI]
      exact⟨NH,fJ,pC,fun b hb=>⟨b,hb,rfl,rfl⟩⟩
     obtain⟨r,d',w',H',h1,h2,h3,h4,⟨b,DQ,rfl,rfl⟩,A0,JP⟩:=aBO m.H hb (m.R3 ps)
     have DB:els.length=n:=by
      have:=(ID GI (m.R3 ps)).1
      omega
     have qY:s.H.le (s.H.bH b (.row el 0 sz els)):=o8 (aG _) DQ
     by_cases YE:n=0
     ·rw[aE YE] at h
      refine⟨r,w',.TA,s.H,?_,?_,h3.less qY,h4.less qY,⟨_,.none,h,u7 _,rfl⟩⟩
      ·simp only[execOp,e,Sem.run_bind,h1,Result.andThen,Sem.run_pure]
      ·simp only[D.is]
       exact⟨A0,by rw[JP,YE]⟩
     rw[aA YE] at h
     have aZF:nH (s.H.bH b (.row el 0 sz els)) sz (.os b 0 sz 0 n) (fun l=>l=els):=by
      simp only[nH,aO]
      exact⟨trivial,trivial,trivial,by omega,by rw[jB,<-DB,nC]⟩
     obtain⟨l,A,c,rfl,rfl,hlc,CD⟩:=AV h3 aZF h2
     refine⟨.slice A l.length c,w',.seq sz l,s.H,?_,?_,h3.less qY,h4.less qY,⟨_,.none,h,u7 _,rfl⟩⟩
     ·simp only[execOp,e,Sem.run_bind,h1,Result.andThen,Sem.run_pure]
     ·simp only[D.is]
      refine⟨A,c,rfl,hlc,?_⟩
      rcases CD with CD|⟨b',o',rfl,B7,hr⟩
      ·exact .inl CD
      ·by_cases hn:l=[]
       ·exact .inl hn
       ·right
        refine⟨b',o',rfl,?_,B7,?_⟩
        ·simp only[D.is] at h2
         obtain⟨A2,c2,e2,_,hA2⟩:=h2
         injection e2 with e3 e4 e5
         have aK7:0<n:=by
          rcases l with _|⟨_,_⟩
          ·exact absurd rfl hn
          ·simp at DB;omega
         rcases hA2 with hA2|⟨hA2,_⟩
         ·omega
         ·rw[hA2] at e3
          injection e3 with e3
          injection e3 with e3
          subst e3
          exact DQ
        ·exact gO fun i el' hi=>by
          obtain⟨g1,g2⟩:=fH hr i el' hi
          refine⟨g1,?_⟩
          obtain⟨vs,g3,g4⟩:=fA g2
          exact fD (cK (rP qY w') _ g3) g4
    ·exact h.elim
   ·exact h.elim
  ·exact h.elim
 case h_7 t x e=>exact TL (by unfold eG;rw[e];exact(XM _ _ _ _).mono (fun d hk=>rF hk) (aOj aS h))
 case h_8 x e=>exact TL (by unfold eG;rw[e];exact(XN _).mono (fun d hk=>rF hk) h)
 case h_9 op t x y _ e=>exact TL (by unfold eG;rw[e];exact aNP ((QR _ _ _ _ _).mono (fun d hk=>rF hk) h))
 case h_10 op _ x e=>exact TL (by unfold eG;rw[e];exact(XP _ _).mono (fun d hk=>rF hk) h)
 case h_11 a b x e=>exact TL (by unfold eG;rw[e];exact aGW <| (XG _ _ _ _ _).mono (fun d hk=>rF hk) (aN7 aS h))
 case h_12 f first eL e=>exact TL (by unfold eG;rw[e];exact⟨h.1,rF h.2⟩)
 case h_13 t x lo hi mx e=>exact TL (by unfold eG;rw[e];exact(XO _ s.H _ _ _ _ _).mono (fun d hk=>rF hk) h)
 case h_14 t x f e=>exact TL (by unfold eG;rw[e];exact(XI _ _ _ _).mono (fun d hk=>rF hk) h)
 case h_15 t x f e=>exact TL (by unfold eG;rw[e];exact(HJ _ _ _ _).mono (fun d hk=>rF hk) h)
 case h_16 t x i e=>exact TL (by unfold eG;rw[e];exact(XJ _ s.H _ _ _).mono (fun d hk=>rF hk) h)
 case h_17 t x i e=>exact TL (by unfold eG;rw[e];exact(XL _ _ _ _).mono (fun d hk=>rF hk) h)
 case h_18 x i e=>exact TL (by unfold eG;rw[e];exact(XH _ _).mono (fun d hk=>rF hk) h)
 case h_19 c e=>
  refine TL ?_
  unfold eG
  rw[e]
  simp only[W8]
  split at h
  ·rename_i f hc
   simp only[hc]
   split at h
   ·rename_i g eL hf
    simp only[hf]
    refine(h.1 s.H aS).mono ?_
    rintro d H' ⟨A,hA,rfl,hG⟩
    exact⟨d,A,h.2 d A hG,hA,rfl⟩
   ·exact h.elim
  ·rename_i hc
   simp only[hc,QF]
   split at h
   ·rename_i t x ht hx
    simp only[hx,ht]
    exact(QS _ _ _ _).mono (fun d hk=>rF hk) (aLA aS h)
   ·exact h.elim
  ·rename_i hc
   simp only[hc,QF]
   exact(QU _).mono (fun d hk=>rF hk) h
  ·rename_i hc
   simp only[hc,QF]
   exact(QT _).mono (fun d hk=>rF hk) h
  ·exact h.elim
 case h_20 t x i ok e=>exact TL (by unfold eG;rw[e];exact(aDO _ _ _ _ _ _).mono (fun d hk=>rF hk) (aOn aS h))
 case h_21 t e=>
  refine TL ?_
  unfold eG
  rw[e]
  simp only[WW]
  split at h
  ·rename_i hT
   simp only[hT]
   exact⟨h.1,fun b hb=>⟨_,_,h.2 b,xQ hb,by unfold St.out;rw[qC]⟩⟩
  ·exact h.elim
 case h_22 t n c e=>
  refine TL ?_
  unfold eG
  rw[e]
  simp only[YS]
  split at h
  ·rename_i hn hc hT
   simp only[hn,hc,hT]
   split at h
   ·rename_i hE
    simp only[hE]
    obtain⟨h1,h2,h3,h4,h5,h6,h7⟩:=h
    exact⟨h1,h2,h3,h4,h5,h6,fun b hb=>⟨_,_,h7 b,xQ hb,by unfold St.out;rw[qC]⟩⟩
   ·exact h.elim
  ·exact h.elim
 case h_23 t e=>
  refine TL ?_
  unfold eG
  rw[e]
  exact fun b hb=>⟨_,_,h b,xQ hb,by unfold St.out;rw[qC]⟩
 case h_24=>exact h.elim
theorem yZ {cx:Cx} {G:Option Tmp->List D->D->aC->Prop} {H:aC} {aX:List Oper} {s:St} {i:Nat} {o:Oper} {K:D->aC->Prop} (aS:H.le s.H) (fI:gJ cx.n aX=true) (ho:aX[i]?=some o) (h:tZ cx.P G H aX.toArray s o K)
  {a:Act} {w:World} (m:dF cx s a w) {Q:Exit->Act->World->Prop}:
  wpOpIn (FR cx.ro) 9 cx.P aX.toArray Q i (fun a' w'=>∃d A,K d A/\sN A s.H/\dF cx (s.out o d A) a' w') a w:=by
 have fF:∀o'∈aX,DE cx.n o'.dst:=fun o' OX=>by
  have:=(eZ.1 fI) o' OX
  unfold DE
  cases hq:o'.dst with
  |none=>trivial
  |some t=>rw[hq] at this;simpa using this
 have hd:=fF o (iQ ho)
 have run:∀{K:D->aC->Prop},gN cx.P G H s o K->o.wpIn (FR cx.ro) 9 cx.P a w (fun a' w'=>∃d A,K d A/\sN A s.H/\dF cx (s.out o d A) a' w') Q:=fun hc=>
  Oper.wpIn_mono (fun a' w' ⟨s',m',d,A,h1,h2,h3⟩=>⟨d,A,h1,h2,h3▸m'⟩) (FU (aBj aS hd hc a w m))
 have skip:K (.val undef) .none->∃d A,K d A/\sN A s.H/\dF cx (s.out o d A) (a.put o.dst undef) w:=fun hk=>
  ⟨_,.none,hk,u7 _,m.put (j8 hd) (by simp only[D.is])⟩
 unfold wpOpIn
 have OX:aX.toArray[i]?=some o:=by simpa using ho
 rw[OX]
 simp only
 unfold tZ at h
 split at h
 ·rename_i hg
  have hw:Region.wanted o (yielded aX.toArray a.tmps)=true:=by simp [Region.wanted,hg]
  rw[aE hw]
  exact run h
 ·rename_i j fL hg
  have hwt:Region.wanted o (yielded aX.toArray a.tmps)=(yielded aX.toArray a.tmps j==some fL):=by unfold Region.wanted;rw[hg]
  split at h
  ·rename_i t ht
   have T6:t<cx.n:=by
    unfold qF at ht
    cases hj:aX.toArray[j]? with
    |none=>rw[hj] at ht;cases ht
    |some o'=>
     rw[hj] at ht
     have:=fF o' (by have:=F1 hj;simpa using this)
     simp at ht
     rw[ht] at this
     exact this
   have hy:yielded aX.toArray a.tmps j=match a.tmps[t]? with|some (.bool b)=>some b|_=>none:=by
    unfold yielded
    unfold qF at ht
    rw[ht]
    rfl
   have NF:t<a.tmps.size:=by rw[m.n];exact T6
   have rK:a.tmps[t]?=some (a.tmps.getD t undef):=by simp [NF]
   have hf:=m.fr t
   split at h
   ·rename_i b hb
    rw[yE] at h
    rw[hb] at hf
    simp only[D.is] at hf
    rw[rK,hf] at hy
    simp only at hy
    rw[hy] at hwt
    by_cases e:b=fL
    ·rw[aE (by rw[hwt,e];simp)]
     exact run (h.1 e)
    ·have e2:b= !fL:=by cases b <;> cases fL <;> first|rfl|exact absurd rfl e
     rw[aA (by rw[hwt,e2];cases fL <;> simp)]
     exact⟨oH,skip (h.2 e2)⟩
   ·rename_i hb
    rw[hb] at hf
    simp only[D.is] at hf
    rw[rK,hf] at hy
    simp only at hy
    rw[hy] at hwt
    rw[aA (by rw[hwt];simp)]
    exact⟨oH,skip h⟩
   ·exact h.elim
  ·exact h.elim
theorem aFf {ro : Option Nat} {P : Program} {o : Oper} {a : Act} {w : World} {K : Act -> World -> Prop} (h : o.wpIn (FR ro) 9 P a w K NoQ) : ∃ a' w', K a' w' := by
  have room : ∀ n, (FR ro).room n := fun n d hd => by cases hd
  unfold Oper.wpIn at h
  have h2 := h.2
  generalize (o.semAt (FR ro).round a.eval).run P w = r at *
  cases r with
  | ok x w' =>
    cases x <;> simp only [Oper.uponIn] at h2 <;> first
      | exact ⟨_, _, h2⟩
      | exact h2.elim
      | (obtain ⟨e, w'', fr, hR, _⟩ := h2.2.2 [] (room _)
         cases e with
         | returned v => exact ⟨_, _, hR⟩
         | panicked c => exact hR.elim
         | outgrown => obtain ⟨_, _, hf⟩ := hR; exact hf.elim)
      | (obtain ⟨v, w'', hR, _⟩ := h2.2 default [] (room _)
         exact ⟨_, _, hR⟩)
      | (obtain ⟨e, w'', hR, _⟩ := h2.2.2 default [] (room _)
         cases e with
         | returned v => exact ⟨_, _, hR⟩
         | panicked c => exact hR.elim
         | outgrown => obtain ⟨_, _, hf⟩ := hR; exact hf.elim)
  | halt x w' => cases x <;> simp only [Oper.uponIn] at h2 <;> first | exact h2.elim
theorem vM {ro:Option Nat} {P:Program} {aX:Array Oper} {i:Nat} {a:Act} {w:World} {K:Act->World->Prop} (h:wpOpIn (FR ro) 9 P aX NoQ i K a w):∃a' w',K a' w':=by
 unfold wpOpIn at h
 split at h
 ·exact⟨_,_,h⟩
 ·split at h
  ·exact aFf h
  ·exact⟨_,_,h.2⟩
theorem ZN {cx:Cx} {G:Option Tmp->List D->D->aC->Prop} {H:aC} {aX:List Oper} {Q:St->Prop} {o:Oper} (fI:gJ cx.n aX=true):∀{pre post:List Oper} {s:St} {a:Act} {w:World},(∀p∈pre,yU aX.toArray p o/\p∈aX)->PG cx.P G H aX.toArray Q (pre++o::post) s->
  H.le s.H->dF cx s a w->tZ cx.P G H aX.toArray s o fun _ _=>True
 |[],post,s,a,w,_,h,_,_=>by
  simp only[gZ,PG] at h
  exact(EF _ _ _ _ _ _).2 _ _ (fun _ _ _=>trivial) h
 |p::pre,post,s,a,w,hi,h,aS,m=>by
  simp only[gP,PG] at h
  obtain⟨i,hpi⟩:=AJ (hi p (by simp)).2
  obtain⟨a',w',d,A,hk,hA,m'⟩:=vM (yZ (Q:=NoQ) aS fI hpi h m)
  have ih:=ZN fI (fun q hq=>hi q (by simp [hq])) (hk hA) (by rw[rD];exact mH aS (GA hA)) m'
  have lO:tZ cx.P G H aX.toArray (s.out p d A) o=tZ cx.P G H aX.toArray s o:=NY fun t ht=>mZ fun e=>((hi p (by simp)).1.1 t e).1 ht
  rw[lO] at ih
  exact ih
def yX (aX:List Oper):Bool:=
 aX.zipIdx.all fun (o,j)=>o.after.toList.all (fun e=> !Region.binds .any e||decide (e.on<j))&&
  (aX.take j).zipIdx.all fun (p,i)=>
   o.after.toList.any (fun e=>Region.binds .any e&&e.on==i)||
   ((match p.dst with
    |some t=> !(Oper.reads aX.toArray o).contains t&&o.dst != some t
    |none=>true)&&
   (match o.dst with
    |some t=> !(Oper.reads aX.toArray p).contains t
    |none=>true))
theorem pN {aX:List Oper} (h:yX aX=true) {j:Nat} {o:Oper} (ho:aX[j]?=some o):∀e∈o.after.toList,Region.binds .any e=true->e.on<j:=fun e he hb=>by
 have:=(eZ.1 h) (o,j) (IJ.2 (by simpa using ho))
 simp only[eK] at this
 have:=(eZ.1 this.1) e he
 rw[hb] at this
 simpa using this
theorem EC {aX:List Oper} (h:yX aX=true) {i j:Nat} {p o:Oper} (hij:i<j) (hp:aX[i]?=some p) (ho:aX[j]?=some o) (fM:∀e∈o.after.toList,Region.binds .any e=true->e.on≠i):yU aX.toArray p o:=by
 have:=(eZ.1 h) (o,j) (IJ.2 (by simpa using ho))
 simp only[eK] at this
 have:=(eZ.1 this.2) (p,i) (IJ.2 (by simp only[uS];rw[aE hij];exact hp))
 simp only[CZ,eK] at this
 rcases this with h1|⟨h1,h2⟩
 ·exfalso
  obtain⟨e,he,h3⟩:=F6.1 h1
  simp only[eK,C8] at h3
  exact fM e he h3.1 h3.2
 ·refine⟨fun t ht=>?_,fun t ht=>?_⟩
  ·rw[ht] at h1
   simpa using h1
  ·rw[ht] at h2
   simpa using h2
theorem CG {α:Type} {r:α->α->Prop} {pre post:List α} {x:α} (h:(pre++x::post).Pairwise r):(∀y∈pre,r y x)/\(∀y∈post,r x y)/\(pre++post).Pairwise r:=by
 rw[F3,wW] at h
 refine⟨fun y hy=>h.2.2 y hy x (by simp),h.2.1.1,?_⟩
 rw[F3]
 exact⟨h.1,h.2.1.2,fun a ha b hb=>h.2.2 a ha b (by simp [hb])⟩
theorem aG6 {cx:Cx} {G:Option Tmp->List D->D->aC->Prop} {H:aC} {aX:List Oper} {Q:Exit->St->Prop} (fI:gJ cx.n aX=true) (qW:yX aX=true):∀(kT:Nat) (R:List Nat) (cB:Array Bool) (s:St) (a:Act) (w:World),
  R.length<=kT->R.Pairwise (·<·)->cB.size=aX.length->(∀i,i∈R↔i<aX.length/\cB.getD i true=false)->H.le s.H->dF cx s a w->PG cx.P G H aX.toArray (Q .normal) (R.filterMap (aX[·]?)) s->
  wpAnyIn (FR cx.ro) 9 cx.P .any aX.toArray (QQ cx Q) kT cB a w:=by
 have stuck:∀(R:List Nat) (cB:Array Bool),R.Pairwise (·<·)->(∀i,i∈R↔i<aX.length/\cB.getD i true=false)->cB.size=aX.length->Region.ready .any aX.toArray cB=[]->R=[]:=by
  intro R cB hp oQ lZ hr
  rcases R with _|⟨r,R⟩
  ·rfl
  ·exfalso
   have hr1:=(oQ r).1 (by simp)
   obtain⟨o,ho⟩:∃o,aX[r]?=some o:=⟨aX[r],by simp [hr1.1]⟩
   have:r∈Region.ready .any aX.toArray cB:=by
    unfold Region.ready
    rw[jX]
    refine⟨by simp;exact hr1.1,?_⟩
    have OX:aX.toArray[r]?=some o:=by simpa using ho
    rw[hr1.2,OX]
    simp only[uU,eI,mG,CY]
    rw[<-KW,eZ]
    intro e he
    cases hb:Region.binds .any e with
    |false=>simp
    |true=>
     have kL:=pN qW ho e he hb
     have:¬e.on∈r::R:=fun hm=>by
      rw[wW] at hp
      rcases dJ.1 hm with h1|h1
      ·omega
      ·have:=hp.1 _ h1;omega
     have h2:cB.getD e.on true=true:=by
      cases hl:cB.getD e.on true with
      |true=>rfl
      |false=>exact absurd ((oQ e.on).2 ⟨by omega,hl⟩) this
     have h3:cB.getD e.on false=true:=by
      have aCF:e.on<cB.size:=by omega
      simp only[Array.getD,aCF,dif_pos] at h2 ⊢
      exact h2
     simp [h3]
   rw[hr] at this
   cases this
 intro kT
 induction kT with
 |zero=>
  intro R cB s a w fJ hp lZ oQ aS m h
  obtain rfl:R=[]:=iX (by omega)
  have x6:Region.ready .any aX.toArray cB=[]:=by
   rw[ZQ]
   intro i hi
   unfold Region.ready at hi
   rw[jX] at hi
   have h2:=hi.2
   simp only[eK,wY] at h2
   exact absurd ((oQ i).2 ⟨by simpa using hi.1,h2.1⟩) (by simp)
  exact⟨x6,s,m,by simpa [PG] using h⟩
 |succ kT ih=>
  intro R cB s a w fJ hp lZ oQ aS m h
  refine⟨fun hr=>?_,fun i hi=>?_⟩
  ·obtain rfl:=stuck R cB hp oQ lZ hr
   exact⟨s,m,by simpa [PG] using h⟩
  ·unfold Region.ready at hi
   rw[jX] at hi
   obtain⟨B9,EM⟩:=hi
   have aV:i<aX.length:=by simpa using B9
   obtain⟨o,ho⟩:∃o,aX[i]?=some o:=⟨aX[i],by simp [aV]⟩
   have OX:aX.toArray[i]?=some o:=by simpa using ho
   rw[OX] at EM
   simp only[eK,wY,mG,CY] at EM
   obtain⟨hl,RB⟩:=EM
   have hiR:i∈R:=(oQ i).2 ⟨aV,hl⟩
   obtain⟨pre,post,rfl⟩:=PV hiR
   obtain⟨lP,aAh,hpw⟩:=CG hp
   have iI:∀p∈pre.filterMap (aX[·]?),yU aX.toArray p o/\p∈aX:=fun p HQ=>by
    obtain⟨k,hk,G6⟩:=List.mem_filterMap.1 HQ
    refine⟨EC qW (lP k hk) G6 ho fun e he hb hek=>?_,iQ G6⟩
    rw[<-KW,eZ] at RB
    have:=RB e he
    rw[hb] at this
    simp only[rN,C3] at this
    have jG:=(oQ k).1 (by simp [hk])
    rw[hek] at this
    have aCF:k<cB.size:=by omega
    simp only[Array.getD,aCF,dif_pos] at this jG
    rw[jG.2] at this
    cases this
   have HS:(pre++i::post).filterMap (aX[·]?)=pre.filterMap (aX[·]?)++o::post.filterMap (aX[·]?):=by
    rw[zM,PS,ho]
   rw[HS] at h
   have aAi:=ZN fI iI h aS m
   have LQ:=(EF cx.P G H aX.toArray s o).1 _ aAi
   refine wpOpIn_mono ?_ (yZ aS fI ho LQ m)
   rintro a' w' ⟨d,A,rU,hA,m'⟩
   have h2:=MO (fun p HQ=>(iI p HQ).1) h rU hA
   refine ih (pre++post) _ (s.out o d A) a' w' ?_ hpw (by simpa using lZ) ?_ (by rw[rD];exact mH aS (GA hA)) m' (by rw[zM];exact h2)
   ·simp at fJ ⊢;omega
   ·intro k
    have hk:=oQ k
    rw[bV,dJ] at hk
    rw[bV]
    have kL:i<cB.size:=by omega
    have LV:(cB.setIfInBounds i true).getD k true=if k=i then true else cB.getD k true:=AZ _ _ _ _ _ kL
    rw[LV]
    by_cases e:k=i
    ·subst e
     simp only[fO]
     constructor
     ·rintro(h3|h3)
      ·have:=lP _ h3;omega
      ·have:=aAh _ h3;omega
     ·rintro⟨_,h3⟩;cases h3
    ·rw[aA e,<-hk]
     constructor
     ·rintro(h3|h3)
      ·exact .inl h3
      ·exact .inr (.inr h3)
     ·rintro(h3|h3|h3)
      ·exact .inl h3
      ·exact absurd h3 e
      ·exact .inr h3
theorem uZ {α β:Type} {f:α->Option β} {g:α->β}:∀{l:List α},(∀x∈l,f x=some (g x))->l.filterMap f=l.map g
 |[],_=>rfl
 |x::l,h=>by rw[PS,h x (by simp),eU,uZ fun y hy=>h y (by simp [hy])]
theorem WT {cx:Cx} {id:Nat} {aX:List Oper} {Q:Exit->St->Prop} {s:St} (G:Option Tmp->List D->D->aC->Prop) (hm:cx.P.follows .mixedOrders=true) (fI:gJ cx.n aX=true) (qW:yX aX=true)
  (h:PG cx.P G s.H aX.toArray (Q .normal) aX s):W cx (.region id aX.toArray true) Q s:=fun a w m=>by
 refine wpIn_region_any hm ?_
 have m':dF cx s a w.drew:=m.go (sV s.H w) m.H.drew
 have e:(List.range aX.length).filterMap (aX[·]?)=aX:=by
  rw[uZ (g:=fun i=>aX.getD i default) fun i hi=>by
   have:i<aX.length:=by simpa using hi
   simp [List.getD,this]]
  apply u5
  intro i
  by_cases hi:i<aX.length
  ·simp [hi,List.getD]
  ·simp [hi]
 refine aG6 fI qW _ (List.range aX.length) _ s a _ (by simp) F0 (by simp) (fun i=>?_) (aG _) m' (by rw[e];exact h)
 simp only[oB,PX]
 constructor
 ·intro hi
  refine⟨hi,?_⟩
  simp [Array.getD,hi]
 ·exact fun h=>h.1
def HK (o:Oper):Bool:=match o.op with
 | .move _| .assign _| .pick _ _ _| .build _ _| .nilCheck _| .binOp _ _ _ _ _| .unOp _ _ _| .makeFunc (.func _) _ _| .fieldAddr _ _ _| .field _ _ _| .index _ _ _| .extract _ _=>true
 |_=>false
theorem aE8 {P:Program} {G:Option Tmp->List D->D->aC->Prop} {H H':aC} {s:St} {o:Oper} (hf:HK o=true):gN P G H s o=gN P G H' s o:=by
 unfold HK at hf
 funext K
 unfold gN
 split at hf <;> first
  |(rename_i e;rw[e])
  |cases hf
theorem aGm {P:Program} {G:Option Tmp->List D->D->aC->Prop} {H H':aC} {aX:Array Oper} {s:St} {o:Oper} (hf:HK o=true):tZ P G H aX s o=tZ P G H' aX s o:=by
 unfold tZ
 rw[aE8 hf]
theorem aE9 {P:Program} {G:Option Tmp->List D->D->aC->Prop} {H:aC} {s:St} {o:Oper} {K:D->aC->Prop} (hf:HK o=true) (h:gN P G H s o K):gN P G H s o fun d A=>A=.none/\K d A:=by
 unfold HK at hf
 unfold gN at h ⊢
 split at hf <;> (try(cases hf;done)) <;> (rename_i e;rw[e] at h ⊢;simp only at h ⊢)
 ·exact⟨trivial,h⟩
 ·exact⟨trivial,h⟩
 ·split at h
  ·rename_i b hb
   rw[SI] at h ⊢
   exact⟨fun e=>⟨trivial,h.1 e⟩,fun e=>⟨trivial,h.2 e⟩⟩
  ·exact h.elim
 ·exact(XF _ _ _).mono (fun d hk=>⟨trivial,hk⟩) h
 ·exact(XN _).mono (fun d hk=>⟨trivial,hk⟩) h
 ·exact(QR _ _ _ _ _).mono (fun d hk=>⟨trivial,hk⟩) h
 ·exact(XP _ _).mono (fun d hk=>⟨trivial,hk⟩) h
 ·exact⟨h.1,trivial,h.2⟩
 ·exact(XI _ _ _ _).mono (fun d hk=>⟨trivial,hk⟩) h
 ·exact(HJ _ _ _ _).mono (fun d hk=>⟨trivial,hk⟩) h
 ·exact(XL _ _ _ _).mono (fun d hk=>⟨trivial,hk⟩) h
 ·exact(XH _ _).mono (fun d hk=>⟨trivial,hk⟩) h
def jV (wc:Option Tmp->Bool) (o:Oper):Bool:=match o.op with
 | .store _ _ _=>true
 | .mapUpdate _ _ _ _=>true
 | .call c=>(match c.callee with
  | .builtin .append=>true
  | .builtin .copy=>true
  | .value _=>wc o.dst
  |_=>false)
 |_=>false
def TX (fl:Option Tmp->Bool) (o:Oper):Bool:=fl o.dst&&(match o.op with
 | .load _ _| .convert _ _ _| .slice _ _ _ _ _| .indexAddr _ _ _| .buildSlice _ _ _=>true
 | .call c=>(match c.callee with
  | .builtin .len| .builtin .min| .builtin .max=>true
  |_=>false)
 |_=>false)
def qG (fl:Option Tmp->Bool) (o:Oper):Bool:=HK o||TX fl o
def BS (fl:Option Tmp->Bool) (H:aC) (o:Oper):aC:=if TX fl o=true then aC.none else H
theorem Q8 {fl:Option Tmp->Bool} {H H':aC} {o:Oper} (h:H.le H'):(BS fl H o).le H':=by
 unfold BS
 split
 ·exact iY _
 ·exact h
theorem aFd {fl wc:Option Tmp->Bool} {o:Oper} (h:jV wc o=true):qG fl o=false:=by
 unfold jV at h
 unfold qG HK TX
 split at h
 ·rename_i e;rw[e];simp
 ·rename_i e;rw[e];simp
 ·rename_i e
  rw[e]
  split at h <;> first
   |(rename_i e2;simp only[e2,kI,Bool.or_false];done)
   |(cases h;done)
 ·cases h
theorem aJf {P:Program} {fl:Option Tmp->Bool} {G:Option Tmp->List D->D->aC->Prop} {H:aC} {s:St} {o:Oper} {K:D->aC->Prop} (hf:TX fl o=true) (h:gN P G H s o K):gN P G H s o fun d A=>A=.none/\K d A:=by
 unfold TX at hf
 rw[eK] at hf
 replace hf:=hf.2
 unfold gN at h ⊢
 split at hf
 ·rename_i e;rw[e] at h ⊢;simp only at h ⊢
  exact(XM _ _ _ _).mono (fun d hk=>⟨trivial,hk⟩) h
 ·rename_i e;rw[e] at h ⊢;simp only at h ⊢
  exact(XG _ _ _ _ _).mono (fun d hk=>⟨trivial,hk⟩) h
 ·rename_i e;rw[e] at h ⊢;simp only at h ⊢
  exact(XO _ _ _ _ _ _ _).mono (fun d hk=>⟨trivial,hk⟩) h
 ·rename_i e;rw[e] at h ⊢;simp only at h ⊢
  exact(XJ _ _ _ _ _).mono (fun d hk=>⟨trivial,hk⟩) h
 ·rename_i e;rw[e] at h ⊢;simp only at h ⊢
  revert h
  split
  ·split
   ·rintro⟨a,b,c,h⟩
    refine⟨a,b,c,?_⟩
    revert h
    split
    ·exact fun h=>⟨trivial,h⟩
    ·exact id
   ·exact id
  ·exact id
 ·rename_i c e
  rw[e] at h ⊢
  simp only at h ⊢
  split at hf
  ·rename_i e2
   rw[e2] at h ⊢
   simp only at h ⊢
   split at h
   ·exact(QS _ _ _ _).mono (fun d hk=>⟨trivial,hk⟩) h
   ·exact h.elim
  ·rename_i e2
   rw[e2] at h ⊢
   simp only at h ⊢
   exact(QU _).mono (fun d hk=>⟨trivial,hk⟩) h
  ·rename_i e2
   rw[e2] at h ⊢
   simp only at h ⊢
   exact(QT _).mono (fun d hk=>⟨trivial,hk⟩) h
  ·cases hf
 ·cases hf
theorem QH {P:Program} {fl:Option Tmp->Bool} {G:Option Tmp->List D->D->aC->Prop} {H:aC} {s:St} {o:Oper} {K:D->aC->Prop} (hf:qG fl o=true) (h:gN P G H s o K):gN P G H s o fun d A=>A=.none/\K d A:=by
 unfold qG at hf
 rw[CZ] at hf
 rcases hf with hf|hf
 ·exact aE9 hf h
 ·exact aJf hf h
theorem LP {P:Program} {fl:Option Tmp->Bool} {G:Option Tmp->List D->D->aC->Prop} {H:aC} {aX:Array Oper} {s:St} {o:Oper} {K:D->aC->Prop} (hf:qG fl o=true) (h:tZ P G (BS fl H o) aX s o K):tZ P G (BS fl H o) aX s o fun d A=>A=.none/\K d A:=by
 unfold tZ at h ⊢
 split at h
 ·exact QH hf h
 ·split at h
  ·split at h
   ·rw[yE] at h ⊢
    exact⟨fun e=>QH hf (h.1 e),fun e=>⟨rfl,h.2 e⟩⟩
   ·exact⟨rfl,h⟩
   ·exact h.elim
  ·exact h.elim
theorem LO {P:Program} {fl:Option Tmp->Bool} {G:Option Tmp->List D->D->aC->Prop} {H H':aC} {aX:Array Oper} {s:St} {o:Oper} (hf:qG fl o=true):tZ P G (BS fl H o) aX s o=tZ P G (BS fl H' o) aX s o:=by
 unfold BS
 by_cases h:TX fl o=true
 ·rw[aE h,aE h]
 ·rw[aA h,aA h]
  refine aGm ?_
  unfold qG at hf
  rw[CZ] at hf
  exact hf.resolve_right h
def oS (P:Program) (GW:Option Tmp->List D->aC->D->aC->Prop) (s:St) (o:Oper) (K:D->aC->Prop):Prop:=
 match o.op with
 | .store t x y=>TK P s.H t (s.ev x) (s.ev y) fun H'=>K (.val undef) H'
 | .mapUpdate t x i y=>RT P s.H t (s.ev x) (s.ev i) (s.ev y) fun H'=>K (.val undef) H'
 | .call c=>(match c.callee with
  | .builtin .append=>(match c.argTypes.toList,s.G3 c.args with
   |[t,xt],[x,y]=>(match bQ P xt with
    |some ⟨.int _,_,_,_⟩=>False
    |_=>WX P s.H t xt x y K)
   |_,_=>False)
  | .builtin .copy=>(match c.argTypes.toList,s.G3 c.args with
   |[t,_],[x,y]=>yN P s.H t x y K
   |_,_=>False)
  | .value f=>(match s.ev f with
   | .fn g eL=>bE P g (s.G3 c.args++eL) s.H (GW o.dst (s.G3 c.args++eL) s.H)/\∀d H',GW o.dst (s.G3 c.args++eL) s.H d H'->K d H'
   |_=>False)
  |_=>False)
 |_=>False
def gW (P:Program) (GW:Option Tmp->List D->aC->D->aC->Prop) (aX:Array Oper) (s:St) (o:Oper) (K:D->aC->Prop):Prop:=
 match o.guard with
 |none=>oS P GW s o K
 |some (j,fL)=>(match qF aX j with
  |some t=>(match s.fr t with
   | .val (.bool b)=>CL (b==fL) (oS P GW s o K) (K (.val undef) s.H)
   | .val (.tuple ⟨[]⟩)=>K (.val undef) s.H
   |_=>False)
  |none=>False)
theorem WG {H:aC} {sz:Nat} {x:D} {F:List (List D)->(D->aC->Prop)->Prop} (h:∀els,Uni (F els)/\HD (F els)):Uni (fun K=>mK H sz x fun els=>F els K)/\HD (fun K=>mK H sz x fun els=>F els K):=by
 unfold mK
 split
 ·exact dR fun _=>h _
 ·unfold nH
  split
  ·exact dR fun _=>h _
  ·split
   ·exact dR fun _=>dR fun _=>dR fun _=>dR fun _=>h _
   ·exact dC
  ·exact h _
  ·exact h _
  ·exact dC
theorem aCy (P:Program) (H:aC) (t xt:TypeId) (s x:D):Uni (WX P H t xt s x)/\HD (WX P H t xt s x):=by
 unfold WX
 split
 ·refine dR fun _=>?_
  split
  ·refine dR fun _=>dR fun _=>?_
   refine WG fun els=>?_
   split
   ·refine dR fun _=>⟨fun K hK=>⟨fun e K' xW=>xW.1 e,fun e b hb K' xW=>xW.2 e b hb⟩,fun K K' hk hK=>⟨fun e=>hk _ _ (hK.1 e),fun e b hb=>hk _ _ (hK.2 e b hb)⟩⟩
   ·refine dR fun _=>⟨fun K hK=>⟨fun e K' xW=>xW.1 e,fun e b hb K' xW=>xW.2 e b hb⟩,fun K K' hk hK=>⟨fun e=>hk _ _ (hK.1 e),fun e b hb=>hk _ _ (hK.2 e b hb)⟩⟩
   ·refine dR fun _=>dR fun _=>?_
    split
    ·exact dR fun _=>dR fun _=>dR fun _=>dR fun _=>⟨fun K hK b o hb K' xW=>xW b o hb,fun K K' hk hK b o hb=>hk _ _ (hK b o hb)⟩
    ·exact dC
   ·refine dR fun _=>?_
    split
    ·exact dR fun _=>dR fun _=>dR fun _=>⟨fun K hK K' xW=>xW,fun K K' hk hK=>hk _ _ hK⟩
    ·exact dC
   ·exact dC
  ·exact dC
 ·exact dC
theorem aEI (P:Program) (H:aC) (t:TypeId) (x y:D):Uni (fun K=>TK P H t x y fun H'=>K (.val undef) H')/\HD (fun K=>TK P H t x y fun H'=>K (.val undef) H'):=by
 unfold TK
 split
 ·refine dR fun _=>?_
  split
  ·refine dR fun _=>dR fun _=>?_
   split
   ·exact dR fun _=>⟨fun K hK K' xW=>xW,fun K K' hk hK=>hk _ _ hK⟩
   ·exact dC
  ·exact dC
 ·exact dC
theorem aDt (P:Program) (H:aC) (t:TypeId) (x i y:D):Uni (fun K=>RT P H t x i y fun H'=>K (.val undef) H')/\HD (fun K=>RT P H t x i y fun H'=>K (.val undef) H'):=by
 unfold RT
 split
 ·split
  ·exact dR fun _=>⟨fun K hK K' xW=>xW,fun K K' hk hK=>hk _ _ hK⟩
  ·exact dC
 ·exact dC
theorem aAQ (P:Program) (H:aC) (t:TypeId) (x y:D):Uni (yN P H t x y)/\HD (yN P H t x y):=by
 unfold yN
 split
 ·split
  ·refine dR fun _=>dR fun _=>dR fun _=>dR fun _=>dR fun _=>?_
   refine WG fun els=>?_
   exact dR fun _=>⟨fun K hK K' xW=>xW,fun K K' hk hK=>hk _ _ hK⟩
  ·exact dC
 ·exact dC
theorem SY (P:Program) (GW:Option Tmp->List D->aC->D->aC->Prop) (s:St) (o:Oper):Uni (oS P GW s o)/\HD (oS P GW s o):=by
 unfold oS
 split
 ·exact aEI _ _ _ _ _
 ·exact aDt _ _ _ _ _ _
 ·split
  ·split
   ·split
    ·exact dC
    ·exact aCy _ _ _ _ _ _
   ·exact dC
  ·split
   ·exact aAQ _ _ _ _ _
   ·exact dC
  ·split
   ·exact⟨fun K hK=>⟨hK.1,fun d A h K' xW=>xW.2 d A h⟩,fun K K' hk hK=>⟨hK.1,fun d A h=>hk _ _ (hK.2 d A h)⟩⟩
   ·exact dC
  ·exact dC
 ·exact dC
theorem aBp (P:Program) (GW:Option Tmp->List D->aC->D->aC->Prop) (aX:Array Oper) (s:St) (o:Oper):Uni (gW P GW aX s o)/\HD (gW P GW aX s o):=by
 unfold gW
 split
 ·exact SY P GW s o
 ·split
  ·split
   ·rename_i fL _ _ _ _ _ b _
    simp only[yE]
    obtain⟨h1,h2⟩:=SY P GW s o
    by_cases e:b=fL
    ·have e2:¬b= !fL:=by cases b <;> cases fL <;> simp at e ⊢
     exact⟨fun K hK=>⟨fun _=>h2 _ _ (fun d A hh K' xW=>hh K' (xW.1 e)) (h1 K (hK.1 e)),fun h=>absurd h e2⟩,fun K K' hk hK=>⟨fun _=>h2 _ _ hk (hK.1 e),fun h=>absurd h e2⟩⟩
    ·have e2:b= !fL:=by cases b <;> cases fL <;> simp at e ⊢
     exact⟨fun K hK=>⟨fun h=>absurd h e,fun _ K' xW=>xW.2 e2⟩,fun K K' hk hK=>⟨fun h=>absurd h e,fun _=>hk _ _ (hK.2 e2)⟩⟩
   ·exact MM _ _
   ·exact dC
  ·exact dC
def St.pT (s:St) (o:Oper) (d:D) (H':aC):St:=(s.dY H').put o.dst d
def II (P:Program) (fl wc:Option Tmp->Bool) (G:Option Tmp->List D->D->aC->Prop) (GW:Option Tmp->List D->aC->D->aC->Prop) (aX:Array Oper) (Q:St->Prop):aC->List Oper->St->Prop
 |_,[],s=>Q s
 |H,o::eJ,s=>if jV wc o=true then gW P GW aX s o fun d H'=>II P fl wc G GW aX Q H' eJ (s.pT o d H')
   else tZ P G (BS fl H o) aX s o fun d A=>sN A s.H->II P fl wc G GW aX Q H eJ (s.out o d A)
theorem aMW {P:Program} {GW:Option Tmp->List D->aC->D->aC->Prop} {s s':St} {o:Oper} (hH:s'.H=s.H) (h:∀t∈o.op.operands.toList.flatMap aBX,s'.fr t=s.fr t):oS P GW s' o=oS P GW s o:=by
 have e1:∀x∈o.op.operands.toList,s'.ev x=s.ev x:=fun x hx=>aM3 fun t ht=>h t (tF.2 ⟨x,hx,ht⟩)
 funext K
 unfold oS
 have em:∀xs:Array Operand,(∀x∈xs.toList,x∈o.op.operands.toList)->s'.G3 xs=s.G3 xs:=fun xs hx=>by
  unfold St.G3
  exact zO fun x RK=>e1 x (hx x RK)
 cases ho:o.op <;> rw[ho] at e1 em <;> simp only[Op.operands] at e1 em ⊢
 case store t x y=>rw[e1 x (by simp),e1 y (by simp),hH]
 case mapUpdate t x i y=>rw[e1 x (by simp),e1 i (by simp),e1 y (by simp),hH]
 case call c=>
  have ea:s'.G3 c.args=s.G3 c.args:=em _ fun x hx=>by simp [Call.operands];exact .inr (by simpa using hx)
  cases hc:c.callee with
  |value f=>
   have ef:s'.ev f=s.ev f:=e1 f (by simp [Call.operands,hc])
   simp only[ea,ef,hH]
  |builtin b=>
   simp only[ea,hH]
   cases b <;> rfl
  |invoke r n=>rfl
theorem aGn {P:Program} {GW:Option Tmp->List D->aC->D->aC->Prop} {aX:Array Oper} {s s':St} {o:Oper} (hH:s'.H=s.H) (h:∀t∈Oper.reads aX o,s'.fr t=s.fr t):gW P GW aX s' o=gW P GW aX s o:=by
 have hc:oS P GW s' o=oS P GW s o:=aMW hH fun t ht=>h t (bV.2 (.inl ht))
 funext K
 unfold gW
 rw[hc,hH]
 cases hg:o.guard with
 |none=>rfl
 |some g=>
  obtain⟨j,fL⟩:=g
  simp only
  cases hj:qF aX j with
  |none=>rfl
  |some t=>
   have:s'.fr t=s.fr t:=h t (bV.2 (.inr (by simp [hg,hj])))
   simp only[this]
theorem J4 {s:St} {o:Oper} {d:D} {A:aC} {t:Nat} (h:o.dst≠some t):(s.pT o d A).fr t=s.fr t:=by
 unfold St.pT St.put
 cases ho:o.dst with
 |none=>rfl
 |some u=>
  rw[ho] at h
  simp only
  rw[aA (fun e=>h (by rw[e]))]
  rfl
theorem Y1 (s:St) (o:Oper) (d:D) (A:aC):(s.pT o d A).H=A:=by unfold St.pT;rw[s5];rfl
theorem VV {s:St} {o p:Oper} {d dp:D} {H':aC} (fM:∀t,p.dst=some t->o.dst≠some t):(s.out o d .none).pT p dp H'=(s.pT p dp H').out o d .none:=by
 have hH:((s.out o d .none).pT p dp H').H=((s.pT p dp H').out o d .none).H:=by rw[Y1,rD,Y1,sC]
 have Z5:((s.out o d .none).pT p dp H').fr=((s.pT p dp H').out o d .none).fr:=funext fun t=>by
  by_cases hp:p.dst=some t
  ·have ho:=fM t hp
   rw[mZ (o:=o) ho]
   unfold St.pT St.put
   rw[hp]
   simp
  ·rw[J4 (o:=p) hp]
   by_cases ho:o.dst=some t
   ·unfold St.out St.put
    rw[ho]
    simp
   ·rw[mZ ho,mZ ho,J4 hp]
 have aT:((s.out o d .none).pT p dp H').df=((s.pT p dp H').out o d .none).df:=by
  unfold St.out St.pT
  simp only[IC,BQ]
 cases h1:(s.out o d .none).pT p dp H'
 cases h2:(s.pT p dp H').out o d .none
 rw[h1,h2] at hH Z5 aT
 simp only at hH Z5 aT
 subst hH Z5 aT
 rfl
section
variable {P:Program} {fl wc:Option Tmp->Bool} {G:Option Tmp->List D->D->aC->Prop} {GW:Option Tmp->List D->aC->D->aC->Prop} {aX:Array Oper} {Q:St->Prop}
theorem E7 {o:Oper} (h:qG fl o=true):jV wc o=false:=by
 cases e:jV wc o with
 |false=>rfl
 |true=>rw[aFd e] at h;cases h
theorem SX {o:Oper} {d:D} (hf:qG fl o=true):∀{pre post:List Oper} {H:aC} {s:St},(∀p∈pre,yU aX p o)->II P fl wc G GW aX Q H (pre++o::post) s->
  (∀K,tZ P G (BS fl H o) aX s o K->K d .none)->II P fl wc G GW aX Q H (pre++post) (s.out o d .none)
 |[],post,H,s,_,h,rU=>by
  simp only[gZ,II,E7 hf,mF,fW] at h ⊢
  exact rU _ h (u7 _)
 |p::pre,post,H,s,hi,h,rU=>by
  have OB:=hi p (by simp)
  simp only[gP,II] at h ⊢
  split at h
  ·rename_i hw
   rw[aE hw]
   have lO:gW P GW aX (s.out o d .none) p=gW P GW aX s p:=aGn (by rw[rD,sC]) fun t ht=>mZ fun e=>(OB.2 t e) ht
   rw[lO]
   refine(aBp P GW aX s p).2 _ _ (fun dp H' hk=>?_) h
   rw[VV fun t ht=>(OB.1 t ht).2]
   refine SX hf (fun q hq=>hi q (by simp [hq])) hk fun K hK=>rU K ?_
   have HN:tZ P G (BS fl H' o) aX (s.pT p dp H') o=tZ P G (BS fl H' o) aX s o:=NY fun t ht=>J4 fun e=>(OB.1 t e).1 ht
   rw[HN,LO (H':=H) hf] at hK
   exact hK
  ·rename_i hw
   rw[aA hw]
   obtain⟨hu,hm⟩:=EF P G (BS fl H p) aX s p
   have lO:tZ P G (BS fl H p) aX (s.out o d .none) p=tZ P G (BS fl H p) aX s p:=NY fun t ht=>mZ fun e=>(OB.2 t e) ht
   rw[lO]
   refine hm _ _ (fun dp Ap hk hAp=>?_) h
   rw[rD,sC] at hAp
   have h2:=hk hAp
   rw[RZ (fun t ht=>(OB.1 t ht).2) (by rw[sC];exact hAp)]
   refine SX hf (fun q hq=>hi q (by simp [hq])) h2 fun K hK=>rU K ?_
   have HN:tZ P G (BS fl H o) aX (s.out p dp Ap) o=tZ P G (BS fl H o) aX s o:=NY fun t ht=>mZ fun e=>(OB.1 t e).1 ht
   rwa[HN] at hK
theorem aB3 {o:Oper} {d:D} {H1:aC} (hw:jV wc o=true):∀{pre post:List Oper} {H:aC} {s:St},(∀p∈pre,yU aX p o/\qG fl p=true)->II P fl wc G GW aX Q H (pre++o::post) s->
  (∀K,gW P GW aX s o K->K d H1)->II P fl wc G GW aX Q H1 (pre++post) (s.pT o d H1)
 |[],post,H,s,_,h,rU=>by
  simp only[gZ,II,aE hw] at h ⊢
  exact rU _ h
 |p::pre,post,H,s,hi,h,rU=>by
  obtain⟨OB,hpf⟩:=hi p (by simp)
  simp only[gP,II,E7 hpf,mF,fW] at h ⊢
  have lO:tZ P G (BS fl H1 p) aX (s.pT o d H1) p=tZ P G (BS fl H1 p) aX s p:=NY fun t ht=>J4 fun e=>(OB.2 t e) ht
  rw[lO,LO (H':=H) hpf]
  refine(EF P G (BS fl H p) aX s p).2 _ _ (fun dp Ap hk hAp=>?_) (LP hpf h)
  obtain⟨rfl,hk⟩:=hk
  have h2:=hk (u7 _)
  rw[<-VV fun t ht e=>(OB.1 t e).2 ht]
  refine aB3 hw (fun q hq=>hi q (by simp [hq])) h2 fun K hK=>rU K ?_
  have HN:gW P GW aX (s.out p dp .none) o=gW P GW aX s o:=aGn (by rw[rD,sC]) fun t ht=>mZ fun e=>(OB.1 t e).1 ht
  rwa[HN] at hK
theorem aB2 {o:Oper} {d:D} {A:aC} (hc:jV wc o=false):∀{pre post:List Oper} {H:aC} {s:St},(∀p∈pre,yU aX p o/\jV wc p=false)->II P fl wc G GW aX Q H (pre++o::post) s->
  (∀K,tZ P G (BS fl H o) aX s o K->K d A)->sN A s.H->II P fl wc G GW aX Q H (pre++post) (s.out o d A)
 |[],post,H,s,_,h,rU,hA=>by
  simp only[gZ,II,hc,mF,fW] at h ⊢
  exact rU _ h hA
 |p::pre,post,H,s,hi,h,rU,hA=>by
  obtain⟨OB,hpc⟩:=hi p (by simp)
  simp only[gP,II,hpc,mF,fW] at h ⊢
  obtain⟨hu,hm⟩:=EF P G (BS fl H p) aX s p
  have lO:tZ P G (BS fl H p) aX (s.out o d A) p=tZ P G (BS fl H p) aX s p:=NY fun t ht=>mZ fun e=>(OB.2 t e) ht
  rw[lO]
  refine hm _ _ (fun dp Ap LQ hAp=>?_) (hu _ h)
  have h1:=LQ _ h
  rw[rD] at hAp
  have h2:=h1 (MZ hAp)
  rw[RZ (fun t ht=>(OB.1 t ht).2) hAp]
  have HN:tZ P G (BS fl H o) aX (s.out p dp Ap) o=tZ P G (BS fl H o) aX s o:=NY fun t ht=>mZ fun e=>(OB.1 t e).1 ht
  refine aB2 hc (fun q hq=>hi q (by simp [hq])) h2 (by rw[HN];exact rU) ?_
  rw[rD]
  exact VA hA hAp
end
end Go.Proofs.YtfiipaodjpiooaaGreatDoor

