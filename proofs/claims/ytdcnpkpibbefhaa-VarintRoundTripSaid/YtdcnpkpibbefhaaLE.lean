/- A program logic over descriptions of values. Part 14: a region whose order is open. -/
import Derived.Test.YtdcnpkpibbefhaaLD
namespace Go.Proofs.Ytdcnpkpibbefhaa
open Go.RowKit
set_option linter.unusedVariables false
set_option linter.unusedSimpArgs false

def Heap.add (H A : Heap) : Heap := fun b => match A b with
  | some x => some x
  | Option.none => H b
def Disj (A H : Heap) : Prop := ∀ b x, A b = some x → H b = none
theorem Heap.add_none (H : Heap) : H.add Heap.none = H := rfl
theorem Heap.add_upd (H : Heap) (b : Nat) (x : HObj) : H.add (Heap.none.upd b x) = H.upd b x := funext fun c => by
  by_cases h : c = b
  · subst h; simp [Heap.add, Heap.upd_same]
  · simp [Heap.add, Heap.upd_ne h, Heap.none]
theorem Disj.none (H : Heap) : Disj Heap.none H := fun b x h => by cases h
theorem disj_upd {H : Heap} {b : Nat} {x : HObj} (h : H b = none) : Disj (Heap.none.upd b x) H := fun c y e => by
  by_cases hc : c = b
  · subst hc; exact h
  · rw [Heap.upd_ne hc] at e; cases e
theorem disj_upd_iff {H : Heap} {b : Nat} {x : HObj} : Disj (Heap.none.upd b x) H ↔ H b = none := ⟨fun h => h b x (Heap.upd_same _ _ _), disj_upd⟩
theorem Heap.le_add {H A : Heap} (h : Disj A H) : H.le (H.add A) := fun b x e => by
  unfold Heap.add
  cases ha : A b with
  | none => exact e
  | some y => rw [h b y ha] at e; cases e
theorem disj_add {H A B : Heap} (h : Disj A (H.add B)) : Disj A H ∧ Disj B (H.add A) → Disj A H := fun h => h.1
theorem disj_of_add {H A B : Heap} (h : Disj B (H.add A)) : Disj B H := fun b x e => by
  have := h b x e
  unfold Heap.add at this
  cases ha : A b with
  | none => rw [ha] at this; exact this
  | some y => rw [ha] at this; cases this
theorem disj_swap {H A B : Heap} (hA : Disj A H) (h : Disj B (H.add A)) : Disj A (H.add B) := fun b x e => by
  have h1 := hA b x e
  unfold Heap.add
  cases hb : B b with
  | none => exact h1
  | some y =>
    have := h b y hb
    unfold Heap.add at this
    rw [e] at this
    cases this
theorem add_comm_ {H A B : Heap} (h : Disj B (H.add A)) : (H.add A).add B = (H.add B).add A := funext fun c => by
  unfold Heap.add
  cases hb : B c with
  | none => rfl
  | some y =>
    have := h c y hb
    unfold Heap.add at this
    cases ha : A c with
    | none => rfl
    | some z => rw [ha] at this; cases this
/-- A call at any heap that says at least as much; what it adds is new. -/
def CallOK (P : Program) (f : FuncId) (args : List D) (H : Heap) (G : D → Heap → Prop) : Prop :=
  ∀ H'', H.le H'' → Does P f args H'' fun d H' => ∃ A, Disj A H'' ∧ H' = H''.add A ∧ G d A
/-- One operation of such a region: what it needs, and what may come out of it: a value, and new blocks. -/
def calmOp (P : Program) (G : Option Tmp → List D → D → Heap → Prop) (H : Heap) (s : St) (o : Oper) (K : D → Heap → Prop) : Prop :=
  match o.op with
  | .move x | .assign x => K (s.ev x) .none
  | .pick c x y => (match s.ev c with
    | .val (.bool b) => selV b (K (s.ev x) .none) (K (s.ev y) .none)
    | _ => False)
  | .box t x => (match (s.ev x).cells with
    | some cs => ∀ b, K (.ep b 0 cs.length 0 0) (Heap.none.upd b (.row t 0 cs.length [cs]))
    | none => False)
  | .build t ps => bdV P t (s.parts ps) fun d => K d .none
  | .buildSlice t n ps => (match tyi P t with
    | some ⟨.slice e, _, _, _⟩ => (match tyi P e with
      | some ⟨_, sz, _, some zs⟩ => zs.length = sz ∧ (s.parts ps).length = n ∧ n * sz ≤ 16777216 ∧ (match rowsD sz (s.parts ps) 0 with
        | some els => K (.seq sz els) .none
        | none => False)
      | _ => False)
    | _ => False)
  | .load t x => ldV P H t (s.ev x) fun d => K d .none
  | .nilCheck x => ncV (s.ev x) fun d => K d .none
  | .binOp op t x y _ => binV P op t (s.ev x) (s.ev y) fun d => K d .none
  | .unOp op _ x => unV op (s.ev x) fun d => K d .none
  | .convert a b x => cvV P H a b (s.ev x) fun d => K d .none
  | .makeFunc (.func f) first caps => first.toList = [] ∧ K (.fn f (s.evs caps)) .none
  | .slice t x lo hi mx => slV P H t (s.ev x) (lo.map s.ev) (hi.map s.ev) (mx.map s.ev) fun d => K d .none
  | .fieldAddr t x f => faV P t (s.ev x) f fun d => K d .none
  | .field t x f => fieldV P t (s.ev x) f fun d => K d .none
  | .indexAddr t x i => iaV P H t (s.ev x) (s.ev i) fun d => K d .none
  | .index t x i => ixV P t (s.ev x) (s.ev i) fun d => K d .none
  | .extract x i => exV (s.ev x) i fun d => K d .none
  | .call c => (match c.callee with
    | .value f => (match s.ev f with
      | .fn g caps => CallOK P g (s.evs c.args ++ caps) H (G o.dst (s.evs c.args ++ caps)) ∧ ∀ d A, G o.dst (s.evs c.args ++ caps) d A → K d A
      | _ => False)
    | .builtin .len => (match c.argTypes.toList, s.evs c.args with
      | [t], [x] => lenV P H t x fun d => K d .none
      | _, _ => False)
    | .builtin .min => minV (s.evs c.args) fun d => K d .none
    | .builtin .max => maxV (s.evs c.args) fun d => K d .none
    | _ => False)
  | _ => False
def Uni (F : (D → Heap → Prop) → Prop) : Prop := ∀ K, F K → F fun d A => ∀ K', F K' → K' d A
def Mono (F : (D → Heap → Prop) → Prop) : Prop := ∀ K K' : D → Heap → Prop, (∀ d A, K d A → K' d A) → F K → F K'
theorem det_uni {G : (D → Prop) → Prop} (h : Det G) : Uni (fun K => G fun d => K d .none) ∧ Mono (fun K => G fun d => K d .none) := by
  obtain ⟨p, d, hd⟩ := h
  refine ⟨fun K hK => ?_, fun K K' hk hK => ?_⟩
  · exact (hd _).2 ⟨((hd _).1 hK).1, fun K' hK' => ((hd _).1 hK').2⟩
  · have := (hd _).1 hK
    exact (hd _).2 ⟨this.1, hk _ _ this.2⟩
theorem uni_id (d : D) (A : Heap) : Uni (fun K => K d A) ∧ Mono (fun K => K d A) := ⟨fun K hK K' hK' => hK', fun K K' hk hK => hk _ _ hK⟩
theorem uni_false : Uni (fun _ => False) ∧ Mono (fun _ => False) := ⟨fun K hK => hK, fun K K' _ hK => hK⟩
theorem uni_and {p : Prop} {F : (D → Heap → Prop) → Prop} (h : p → Uni F ∧ Mono F) : Uni (fun K => p ∧ F K) ∧ Mono (fun K => p ∧ F K) :=
  ⟨fun K ⟨hp, hK⟩ => ⟨hp, (h hp).2 _ _ (fun d A hh K' hK' => hh K' hK'.2) ((h hp).1 K hK)⟩, fun K K' hk ⟨hp, hK⟩ => ⟨hp, (h hp).2 _ _ hk hK⟩⟩
theorem calm_uni (P : Program) (G : Option Tmp → List D → D → Heap → Prop) (H : Heap) (s : St) (o : Oper) : Uni (calmOp P G H s o) ∧ Mono (calmOp P G H s o) := by
  unfold calmOp
  split
  · exact uni_id _ _
  · exact uni_id _ _
  · split
    · rename_i b _
      simp only [selV_iff]
      cases b
      · exact ⟨fun K hK => ⟨fun h => (by cases h), fun _ K' hK' => hK'.2 rfl⟩, fun K K' hk hK => ⟨fun h => (by cases h), fun _ => hk _ _ (hK.2 rfl)⟩⟩
      · exact ⟨fun K hK => ⟨fun _ K' hK' => hK'.1 rfl, fun h => (by cases h)⟩, fun K K' hk hK => ⟨fun _ => hk _ _ (hK.1 rfl), fun h => (by cases h)⟩⟩
    · exact uni_false
  · split
    · exact ⟨fun K hK b K' hK' => hK' b, fun K K' hk hK b => hk _ _ (hK b)⟩
    · exact uni_false
  · exact det_uni (det_bdV _ _ _)
  · split
    · split
      · refine uni_and fun _ => uni_and fun _ => uni_and fun _ => ?_
        split
        · exact uni_id _ _
        · exact uni_false
      · exact uni_false
    · exact uni_false
  · exact det_uni (det_ldV _ _ _ _)
  · exact det_uni (det_ncV _)
  · exact det_uni (det_binV _ _ _ _ _)
  · exact det_uni (det_unV _ _)
  · exact det_uni (det_cvV _ _ _ _ _)
  · exact uni_and fun _ => uni_id _ _
  · exact det_uni (det_slV _ _ _ _ _ _ _)
  · exact det_uni (det_faV _ _ _ _)
  · exact det_uni (det_fieldV _ _ _ _)
  · exact det_uni (det_iaV _ _ _ _ _)
  · exact det_uni (det_ixV _ _ _ _)
  · exact det_uni (det_exV _ _)
  · split
    · split
      · exact ⟨fun K hK => ⟨hK.1, fun d A h K' hK' => hK'.2 d A h⟩, fun K K' hk hK => ⟨hK.1, fun d A h => hk _ _ (hK.2 d A h)⟩⟩
      · exact uni_false
    · split
      · exact det_uni (det_lenV _ _ _ _)
      · exact uni_false
    · exact det_uni (det_minV _)
    · exact det_uni (det_maxV _)
    · exact uni_false
  · exact uni_false
/-- .. with its guard. -/
def gOp (P : Program) (G : Option Tmp → List D → D → Heap → Prop) (H : Heap) (ops : Array Oper) (s : St) (o : Oper) (K : D → Heap → Prop) : Prop :=
  match o.guard with
  | none => calmOp P G H s o K
  | some (j, want) => (match dstOf ops j with
    | some t => (match s.fr t with
      | .val (.bool b) => selV (b == want) (calmOp P G H s o K) (K (.val undef) .none)
      | .val (.tuple ⟨[]⟩) => K (.val undef) .none
      | _ => False)
    | none => False)
theorem g_uni (P : Program) (G : Option Tmp → List D → D → Heap → Prop) (H : Heap) (ops : Array Oper) (s : St) (o : Oper) : Uni (gOp P G H ops s o) ∧ Mono (gOp P G H ops s o) := by
  unfold gOp
  split
  · exact calm_uni P G H s o
  · split
    · split
      · rename_i want _ _ _ _ _ b _
        simp only [selW_iff]
        obtain ⟨h1, h2⟩ := calm_uni P G H s o
        by_cases e : b = want
        · have e2 : ¬ b = !want := by cases b <;> cases want <;> simp at e ⊢
          exact ⟨fun K hK => ⟨fun _ => h2 _ _ (fun d A hh K' hK' => hh K' (hK'.1 e)) (h1 K (hK.1 e)), fun h => absurd h e2⟩, fun K K' hk hK => ⟨fun _ => h2 _ _ hk (hK.1 e), fun h => absurd h e2⟩⟩
        · have e2 : b = !want := by cases b <;> cases want <;> simp at e ⊢
          exact ⟨fun K hK => ⟨fun h => absurd h e, fun _ K' hK' => hK'.2 e2⟩, fun K K' hk hK => ⟨fun h => absurd h e, fun _ => hk _ _ (hK.2 e2)⟩⟩
      · exact uni_id _ _
      · exact uni_false
    · exact uni_false
/-- The state behind an outcome. -/
def St.out (s : St) (o : Oper) (d : D) (A : Heap) : St := (s.withH (s.H.add A)).put o.dst d
/-- The verification condition: in the order of the text. -/
def vcD (P : Program) (G : Option Tmp → List D → D → Heap → Prop) (H : Heap) (ops : Array Oper) (Q : St → Prop) : List Oper → St → Prop
  | [], s => Q s
  | o :: rest, s => gOp P G H ops s o fun d A => Disj A s.H → vcD P G H ops Q rest (s.out o d A)
/-- The temporaries that an operation names. -/
def tmpOf : Operand → List Tmp
  | .tmp t => [t]
  | _ => []
def Oper.reads (ops : Array Oper) (o : Oper) : List Tmp := o.op.operands.toList.flatMap tmpOf ++ (match o.guard with
  | some (j, _) => (dstOf ops j).toList
  | none => [])
/-- Two operations that name no temporary in common that one of them writes. -/
def Indep (ops : Array Oper) (p o : Oper) : Prop :=
  (∀ t, p.dst = some t → t ∉ Oper.reads ops o ∧ o.dst ≠ some t) ∧ (∀ t, o.dst = some t → t ∉ Oper.reads ops p)
theorem ev_eq {s s' : St} {x : Operand} (h : ∀ t ∈ tmpOf x, s'.fr t = s.fr t) : s'.ev x = s.ev x := by
  cases x <;> first | rfl | exact h _ (by simp [tmpOf])
theorem calm_ev {P : Program} {G : Option Tmp → List D → D → Heap → Prop} {H : Heap} {s s' : St} {o : Oper} (h : ∀ t ∈ o.op.operands.toList.flatMap tmpOf, s'.fr t = s.fr t) : calmOp P G H s' o = calmOp P G H s o := by
  have e1 : ∀ x ∈ o.op.operands.toList, s'.ev x = s.ev x := fun x hx => ev_eq fun t ht => h t (List.mem_flatMap.2 ⟨x, hx, ht⟩)
  funext K
  unfold calmOp
  have em : ∀ xs : Array Operand, (∀ x ∈ xs.toList, x ∈ o.op.operands.toList) → s'.evs xs = s.evs xs := fun xs hx => by
    unfold St.evs
    exact List.map_congr_left fun x hxs => e1 x (hx x hxs)
  have eo : ∀ x : Option Operand, (∀ y, x = some y → y ∈ o.op.operands.toList) → x.map s'.ev = x.map s.ev := fun x hx => by
    cases x with
    | none => rfl
    | some y => exact congrArg some (e1 y (hx y rfl))
  cases ho : o.op <;> rw [ho] at e1 em eo <;> simp only [Op.operands] at e1 em eo ⊢
  case build t ps =>
    have : s'.parts ps = s.parts ps := by
      unfold St.parts
      exact List.map_congr_left fun p hp => by rw [e1 p.2 (List.mem_map.2 ⟨p, hp, rfl⟩)]
    rw [this]
  case buildSlice t n ps =>
    have : s'.parts ps = s.parts ps := by
      unfold St.parts
      exact List.map_congr_left fun p hp => by rw [e1 p.2 (List.mem_map.2 ⟨p, hp, rfl⟩)]
    rw [this]
  case makeFunc fn first caps =>
    have ec := em caps (fun x hx => by simp; exact .inr (by simpa using hx))
    cases fn <;> simp only [ec]
  case slice t x lo hi mx =>
    rw [e1 x (by simp), eo lo (fun y e => by subst e; simp), eo hi (fun y e => by subst e; simp), eo mx (fun y e => by subst e; simp)]
  case call c =>
    have ea : s'.evs c.args = s.evs c.args := em _ fun x hx => by simp [Call.operands]; exact .inr (by simpa using hx)
    cases hc : c.callee with
    | value f =>
      have ef : s'.ev f = s.ev f := e1 f (by simp [Call.operands, hc])
      simp only [ea, ef]
    | builtin b =>
      simp only [ea]
      cases b <;> rfl
    | invoke r n => simp only [ea]
  all_goals first
    | rfl
    | (simp only [List.mem_toArray, List.mem_cons, List.not_mem_nil, or_false, forall_eq_or_imp, forall_eq] at e1
       first | rw [e1] | simp only [e1])
theorem g_ev {P : Program} {G : Option Tmp → List D → D → Heap → Prop} {H : Heap} {ops : Array Oper} {s s' : St} {o : Oper} (h : ∀ t ∈ Oper.reads ops o, s'.fr t = s.fr t) : gOp P G H ops s' o = gOp P G H ops s o := by
  have hc : calmOp P G H s' o = calmOp P G H s o := calm_ev fun t ht => h t (List.mem_append.2 (.inl ht))
  funext K
  unfold gOp
  rw [hc]
  cases hg : o.guard with
  | none => rfl
  | some g =>
    obtain ⟨j, want⟩ := g
    simp only
    cases hj : dstOf ops j with
    | none => rfl
    | some t =>
      have : s'.fr t = s.fr t := h t (List.mem_append.2 (.inr (by simp [hg, hj])))
      simp only [this]
theorem out_fr {s : St} {o : Oper} {d : D} {A : Heap} {t : Nat} (h : o.dst ≠ some t) : (s.out o d A).fr t = s.fr t := by
  unfold St.out St.put
  cases ho : o.dst with
  | none => rfl
  | some u =>
    rw [ho] at h
    simp only
    rw [if_neg (fun e => h (by rw [e]))]
    rfl
theorem out_H (s : St) (o : Oper) (d : D) (A : Heap) : (s.out o d A).H = s.H.add A := by unfold St.out; rw [put_H]; rfl
theorem out_comm {s : St} {o p : Oper} {d dp : D} {A Ap : Heap} (hne : ∀ t, p.dst = some t → o.dst ≠ some t) (h : Disj Ap (s.H.add A)) : (s.out o d A).out p dp Ap = (s.out p dp Ap).out o d A := by
  have hH : ((s.out o d A).out p dp Ap).H = ((s.out p dp Ap).out o d A).H := by rw [out_H, out_H, out_H, out_H, add_comm_ h]
  have hfr : ((s.out o d A).out p dp Ap).fr = ((s.out p dp Ap).out o d A).fr := funext fun t => by
    by_cases hp : p.dst = some t
    · have ho := hne t hp
      rw [out_fr (o := o) ho]
      unfold St.out St.put
      rw [hp]
      simp
    · rw [out_fr (o := p) hp]
      by_cases ho : o.dst = some t
      · unfold St.out St.put
        rw [ho]
        simp
      · rw [out_fr ho, out_fr ho, out_fr hp]
  have hdf : ((s.out o d A).out p dp Ap).df = ((s.out p dp Ap).out o d A).df := by
    unfold St.out
    simp only [put_df, withH_df]
  cases h1 : (s.out o d A).out p dp Ap
  cases h2 : (s.out p dp Ap).out o d A
  rw [h1, h2] at hH hfr hdf
  simp only at hH hfr hdf
  subst hH hfr hdf
  rfl
/-- An operation that stands apart from those ahead of it may come first. -/
theorem vcD_first {P : Program} {G : Option Tmp → List D → D → Heap → Prop} {H : Heap} {ops : Array Oper} {Q : St → Prop} {o : Oper} {d : D} {A : Heap} : ∀ {pre post : List Oper} {s : St}, (∀ p ∈ pre, Indep ops p o) → vcD P G H ops Q (pre ++ o :: post) s →
    (∀ K, gOp P G H ops s o K → K d A) → Disj A s.H → vcD P G H ops Q (pre ++ post) (s.out o d A)
  | [], post, s, _, h, hout, hA => by
    simp only [List.nil_append, vcD] at h ⊢
    exact hout _ h hA
  | p :: pre, post, s, hi, h, hout, hA => by
    simp only [List.cons_append, vcD] at h ⊢
    obtain ⟨hu, hm⟩ := g_uni P G H ops s p
    have hip := hi p (by simp)
    have hev : gOp P G H ops (s.out o d A) p = gOp P G H ops s p := g_ev fun t ht => out_fr fun e => (hip.2 t e) ht
    rw [hev]
    refine hm _ _ (fun dp Ap hcan hAp => ?_) (hu _ h)
    have h1 := hcan _ h
    rw [out_H] at hAp
    have h2 := h1 (disj_of_add hAp)
    rw [out_comm (fun t ht => (hip.1 t ht).2) hAp]
    have hev2 : gOp P G H ops (s.out p dp Ap) o = gOp P G H ops s o := g_ev fun t ht => out_fr fun e => (hip.1 t e).1 ht
    refine vcD_first (fun q hq => hi q (by simp [hq])) h2 (by rw [hev2]; exact hout) ?_
    rw [out_H]
    exact disj_swap hA hAp
end Go.Proofs.Ytdcnpkpibbefhaa
