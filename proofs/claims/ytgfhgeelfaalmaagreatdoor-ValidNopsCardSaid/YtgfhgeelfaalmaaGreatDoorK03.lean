/- Lemmas and contracts of functions, several texts in one: LE LF LG LH LI LJ. -/
import Derived.Test.YtgfhgeelfaalmaaGreatDoorK02
namespace Go.Proofs.YtgfhgeelfaalmaaGreatDoor
open Go.RowKit
set_option linter.unusedVariables false
set_option linter.unusedSimpArgs false
def Heap.add (H A : Heap) : Heap := fun b => match A b with
  | some x => some x
  | Option.none => H b
def Disj (A H : Heap) : Prop := ∀ b x, A b = some x → H b = none
theorem Heap.add_none (H : Heap) : H.add Heap.none = H := rfl
theorem Heap.add_upd (H : Heap) (b : Nat) (x : HObj) : H.add (Heap.none.upd b x) = H.upd b x := funext fun c => by
  by_cases h : c = b
  · subst h; simp [Heap.add, Heap.upd_same]
  · simp [Heap.add, Heap.upd_ne h, Heap.none]
theorem Disj.none (H : Heap) : Disj Heap.none H := fun b x h => by cases h
theorem disj_upd {H : Heap} {b : Nat} {x : HObj} (h : H b = none) : Disj (Heap.none.upd b x) H := fun c y e => by
  by_cases hc : c = b
  · subst hc; exact h
  · rw [Heap.upd_ne hc] at e; cases e
theorem disj_upd_iff {H : Heap} {b : Nat} {x : HObj} : Disj (Heap.none.upd b x) H ↔ H b = none := ⟨fun h => h b x (Heap.upd_same _ _ _), disj_upd⟩
theorem Heap.le_add {H A : Heap} (h : Disj A H) : H.le (H.add A) := fun b x e => by
  unfold Heap.add
  cases ha : A b with
  | none => exact e
  | some y => rw [h b y ha] at e; cases e
theorem disj_of_add {H A B : Heap} (h : Disj B (H.add A)) : Disj B H := fun b x e => by
  have := h b x e
  unfold Heap.add at this
  cases ha : A b with
  | none => rw [ha] at this; exact this
  | some y => rw [ha] at this; cases this
theorem disj_swap {H A B : Heap} (hA : Disj A H) (h : Disj B (H.add A)) : Disj A (H.add B) := fun b x e => by
  have h1 := hA b x e
  unfold Heap.add
  cases hb : B b with
  | none => exact h1
  | some y =>
    have := h b y hb
    unfold Heap.add at this
    rw [e] at this
    cases this
theorem add_comm_ {H A B : Heap} (h : Disj B (H.add A)) : (H.add A).add B = (H.add B).add A := funext fun c => by
  unfold Heap.add
  cases hb : B c with
  | none => rfl
  | some y =>
    have := h c y hb
    unfold Heap.add at this
    cases ha : A c with
    | none => rfl
    | some z => rw [ha] at this; cases this
def CallOK (P : Program) (f : FuncId) (args : List D) (H : Heap) (G : D → Heap → Prop) : Prop :=
  ∀ H'', H.le H'' → Does P f args H'' fun d H' => ∃ A, Disj A H'' ∧ H' = H''.add A ∧ G d A
def calmOp (P : Program) (G : Option Tmp → List D → D → Heap → Prop) (H : Heap) (s : St) (o : Oper) (K : D → Heap → Prop) : Prop :=
  match o.op with
  | .move x | .assign x => K (s.ev x) .none
  | .pick c x y => (match s.ev c with
    | .val (.bool b) => selV b (K (s.ev x) .none) (K (s.ev y) .none)
    | _ => False)
  | .box t x => (match (s.ev x).cells with
    | some cs => ∀ b, K (.ep b 0 cs.length 0 0) (Heap.none.upd b (.row t 0 cs.length [cs]))
    | none => False)
  | .build t ps => bdV P t (s.parts ps) fun d => K d .none
  | .buildSlice t n ps => (match tyi P t with
    | some ⟨.slice e, _, _, _⟩ => (match tyi P e with
      | some ⟨_, sz, _, some zs⟩ => zs.length = sz ∧ (s.parts ps).length = n ∧ n * sz ≤ 16777216 ∧ (match rowsD sz (s.parts ps) 0 with
        | some els => K (.seq sz els) .none
        | none => False)
      | _ => False)
    | _ => False)
  | .load t x => ldV P H t (s.ev x) fun d => K d .none
  | .nilCheck x => ncV (s.ev x) fun d => K d .none
  | .binOp op t x y _ => binV P op t (s.ev x) (s.ev y) fun d => K d .none
  | .unOp op _ x => unV op (s.ev x) fun d => K d .none
  | .convert a b x => cvV P H a b (s.ev x) fun d => K d .none
  | .makeFunc (.func f) first caps => first.toList = [] ∧ K (.fn f (s.evs caps)) .none
  | .slice t x lo hi mx => slV P H t (s.ev x) (lo.map s.ev) (hi.map s.ev) (mx.map s.ev) fun d => K d .none
  | .fieldAddr t x f => faV P t (s.ev x) f fun d => K d .none
  | .field t x f => fieldV P t (s.ev x) f fun d => K d .none
  | .indexAddr t x i => iaV P H t (s.ev x) (s.ev i) fun d => K d .none
  | .index t x i => ixV P t (s.ev x) (s.ev i) fun d => K d .none
  | .extract x i => exV (s.ev x) i fun d => K d .none
  | .call c => (match c.callee with
    | .value f => (match s.ev f with
      | .fn g caps => CallOK P g (s.evs c.args ++ caps) H (G o.dst (s.evs c.args ++ caps)) ∧ ∀ d A, G o.dst (s.evs c.args ++ caps) d A → K d A
      | _ => False)
    | .builtin .len => (match c.argTypes.toList, s.evs c.args with
      | [t], [x] => lenV P H t x fun d => K d .none
      | _, _ => False)
    | .builtin .min => minV (s.evs c.args) fun d => K d .none
    | .builtin .max => maxV (s.evs c.args) fun d => K d .none
    | _ => False)
  | .lookup t x i ok => lkV P H t (s.ev x) (s.ev i) ok fun d => K d .none
  | .alloc t => (match tyi P t with
    | some ⟨_, _, _, some zs⟩ => zs.all Value.oneCell' = true ∧ ∀ b, K (.ep b 0 zs.length 0 0) (Heap.none.upd b (.row t 0 zs.length [zs.map .val]))
    | _ => False)
  | .makeSlice t n c => (match s.ev n, s.ev c, tyi P t with
    | .val (.int _ l), .val (.int _ c), some ⟨.slice e, _, _, _⟩ => (match tyi P e with
      | some ⟨_, sz, by_, some zs⟩ => zs.length = sz ∧ zs.all Value.oneCell' = true ∧ 0 ≤ l ∧ l ≤ c ∧ (by_ : Int) * c ≤ 281474976710656 ∧ c ≤ 9223372036854775807 ∧
        ∀ b, K (.os b 0 sz 0 l.toNat) (Heap.none.upd b (.row e 0 sz (List.replicate l.toNat (zs.map .val))))
      | _ => False)
    | _, _, _ => False)
  | _ => False
def Uni (F : (D → Heap → Prop) → Prop) : Prop := ∀ K, F K → F fun d A => ∀ K', F K' → K' d A
def Mono (F : (D → Heap → Prop) → Prop) : Prop := ∀ K K' : D → Heap → Prop, (∀ d A, K d A → K' d A) → F K → F K'
theorem det_uni {G : (D → Prop) → Prop} (h : Det G) : Uni (fun K => G fun d => K d .none) ∧ Mono (fun K => G fun d => K d .none) := by
  obtain ⟨p, d, hd⟩ := h
  refine ⟨fun K hK => ?_, fun K K' hk hK => ?_⟩
  · exact (hd _).2 ⟨((hd _).1 hK).1, fun K' hK' => ((hd _).1 hK').2⟩
  · have := (hd _).1 hK
    exact (hd _).2 ⟨this.1, hk _ _ this.2⟩
theorem uni_id (d : D) (A : Heap) : Uni (fun K => K d A) ∧ Mono (fun K => K d A) := ⟨fun K hK K' hK' => hK', fun K K' hk hK => hk _ _ hK⟩
theorem uni_false : Uni (fun _ => False) ∧ Mono (fun _ => False) := ⟨fun K hK => hK, fun K K' _ hK => hK⟩
theorem uni_and {p : Prop} {F : (D → Heap → Prop) → Prop} (h : p → Uni F ∧ Mono F) : Uni (fun K => p ∧ F K) ∧ Mono (fun K => p ∧ F K) :=
  ⟨fun K ⟨hp, hK⟩ => ⟨hp, (h hp).2 _ _ (fun d A hh K' hK' => hh K' hK'.2) ((h hp).1 K hK)⟩, fun K K' hk ⟨hp, hK⟩ => ⟨hp, (h hp).2 _ _ hk hK⟩⟩
theorem calm_uni (P : Program) (G : Option Tmp → List D → D → Heap → Prop) (H : Heap) (s : St) (o : Oper) : Uni (calmOp P G H s o) ∧ Mono (calmOp P G H s o) := by
  unfold calmOp
  split
  · exact uni_id _ _
  · exact uni_id _ _
  · split
    · rename_i b _
      simp only [selV_iff]
      cases b
      · exact ⟨fun K hK => ⟨fun h => (by cases h), fun _ K' hK' => hK'.2 rfl⟩, fun K K' hk hK => ⟨fun h => (by cases h), fun _ => hk _ _ (hK.2 rfl)⟩⟩
      · exact ⟨fun K hK => ⟨fun _ K' hK' => hK'.1 rfl, fun h => (by cases h)⟩, fun K K' hk hK => ⟨fun _ => hk _ _ (hK.1 rfl), fun h => (by cases h)⟩⟩
    · exact uni_false
  · split
    · exact ⟨fun K hK b K' hK' => hK' b, fun K K' hk hK b => hk _ _ (hK b)⟩
    · exact uni_false
  · exact det_uni (det_bdV _ _ _)
  · split
    · split
      · refine uni_and fun _ => uni_and fun _ => uni_and fun _ => ?_
        split
        · exact uni_id _ _
        · exact uni_false
      · exact uni_false
    · exact uni_false
  · exact det_uni (det_ldV _ _ _ _)
  · exact det_uni (det_ncV _)
  · exact det_uni (det_binV _ _ _ _ _)
  · exact det_uni (det_unV _ _)
  · exact det_uni (det_cvV _ _ _ _ _)
  · exact uni_and fun _ => uni_id _ _
  · exact det_uni (det_slV _ _ _ _ _ _ _)
  · exact det_uni (det_faV _ _ _ _)
  · exact det_uni (det_fieldV _ _ _ _)
  · exact det_uni (det_iaV _ _ _ _ _)
  · exact det_uni (det_ixV _ _ _ _)
  · exact det_uni (det_exV _ _)
  · split
    · split
      · exact ⟨fun K hK => ⟨hK.1, fun d A h K' hK' => hK'.2 d A h⟩, fun K K' hk hK => ⟨hK.1, fun d A h => hk _ _ (hK.2 d A h)⟩⟩
      · exact uni_false
    · split
      · exact det_uni (det_lenV _ _ _ _)
      · exact uni_false
    · exact det_uni (det_minV _)
    · exact det_uni (det_maxV _)
    · exact uni_false
  · exact det_uni (det_lkV _ _ _ _ _ _)
  · split
    · exact uni_and fun _ => ⟨fun K hK b K' hK' => hK' b, fun K K' hk hK b => hk _ _ (hK b)⟩
    · exact uni_false
  · split
    · split
      · exact uni_and fun _ => uni_and fun _ => uni_and fun _ => uni_and fun _ => uni_and fun _ => uni_and fun _ => ⟨fun K hK b K' hK' => hK' b, fun K K' hk hK b => hk _ _ (hK b)⟩
      · exact uni_false
    · exact uni_false
  · exact uni_false
def gOp (P : Program) (G : Option Tmp → List D → D → Heap → Prop) (H : Heap) (ops : Array Oper) (s : St) (o : Oper) (K : D → Heap → Prop) : Prop :=
  match o.guard with
  | none => calmOp P G H s o K
  | some (j, want) => (match dstOf ops j with
    | some t => (match s.fr t with
      | .val (.bool b) => selV (b == want) (calmOp P G H s o K) (K (.val undef) .none)
      | .val (.tuple ⟨[]⟩) => K (.val undef) .none
      | _ => False)
    | none => False)
theorem g_uni (P : Program) (G : Option Tmp → List D → D → Heap → Prop) (H : Heap) (ops : Array Oper) (s : St) (o : Oper) : Uni (gOp P G H ops s o) ∧ Mono (gOp P G H ops s o) := by
  unfold gOp
  split
  · exact calm_uni P G H s o
  · split
    · split
      · rename_i want _ _ _ _ _ b _
        simp only [selW_iff]
        obtain ⟨h1, h2⟩ := calm_uni P G H s o
        by_cases e : b = want
        · have e2 : ¬ b = !want := by cases b <;> cases want <;> simp at e ⊢
          exact ⟨fun K hK => ⟨fun _ => h2 _ _ (fun d A hh K' hK' => hh K' (hK'.1 e)) (h1 K (hK.1 e)), fun h => absurd h e2⟩, fun K K' hk hK => ⟨fun _ => h2 _ _ hk (hK.1 e), fun h => absurd h e2⟩⟩
        · have e2 : b = !want := by cases b <;> cases want <;> simp at e ⊢
          exact ⟨fun K hK => ⟨fun h => absurd h e, fun _ K' hK' => hK'.2 e2⟩, fun K K' hk hK => ⟨fun h => absurd h e, fun _ => hk _ _ (hK.2 e2)⟩⟩
      · exact uni_id _ _
      · exact uni_false
    · exact uni_false
def St.out (s : St) (o : Oper) (d : D) (A : Heap) : St := (s.withH (s.H.add A)).put o.dst d
def vcD (P : Program) (G : Option Tmp → List D → D → Heap → Prop) (H : Heap) (ops : Array Oper) (Q : St → Prop) : List Oper → St → Prop
  | [], s => Q s
  | o :: rest, s => gOp P G H ops s o fun d A => Disj A s.H → vcD P G H ops Q rest (s.out o d A)
def tmpOf : Operand → List Tmp
  | .tmp t => [t]
  | _ => []
def Oper.reads (ops : Array Oper) (o : Oper) : List Tmp := o.op.operands.toList.flatMap tmpOf ++ (match o.guard with
  | some (j, _) => (dstOf ops j).toList
  | none => [])
def Indep (ops : Array Oper) (p o : Oper) : Prop :=
  (∀ t, p.dst = some t → t ∉ Oper.reads ops o ∧ o.dst ≠ some t) ∧ (∀ t, o.dst = some t → t ∉ Oper.reads ops p)
theorem ev_eq {s s' : St} {x : Operand} (h : ∀ t ∈ tmpOf x, s'.fr t = s.fr t) : s'.ev x = s.ev x := by
  cases x <;> first | rfl | exact h _ (by simp [tmpOf])
theorem calm_ev {P : Program} {G : Option Tmp → List D → D → Heap → Prop} {H : Heap} {s s' : St} {o : Oper} (h : ∀ t ∈ o.op.operands.toList.flatMap tmpOf, s'.fr t = s.fr t) : calmOp P G H s' o = calmOp P G H s o := by
  have e1 : ∀ x ∈ o.op.operands.toList, s'.ev x = s.ev x := fun x hx => ev_eq fun t ht => h t (List.mem_flatMap.2 ⟨x, hx, ht⟩)
  funext K
  unfold calmOp
  have em : ∀ xs : Array Operand, (∀ x ∈ xs.toList, x ∈ o.op.operands.toList) → s'.evs xs = s.evs xs := fun xs hx => by
    unfold St.evs
    exact List.map_congr_left fun x hxs => e1 x (hx x hxs)
  have eo : ∀ x : Option Operand, (∀ y, x = some y → y ∈ o.op.operands.toList) → x.map s'.ev = x.map s.ev := fun x hx => by
    cases x with
    | none => rfl
    | some y => exact congrArg some (e1 y (hx y rfl))
  cases ho : o.op <;> rw [ho] at e1 em eo <;> simp only [Op.operands] at e1 em eo ⊢
  case build t ps =>
    have : s'.parts ps = s.parts ps := by
      unfold St.parts
      exact List.map_congr_left fun p hp => by rw [e1 p.2 (List.mem_map.2 ⟨p, hp, rfl⟩)]
    rw [this]
  case buildSlice t n ps =>
    have : s'.parts ps = s.parts ps := by
      unfold St.parts
      exact List.map_congr_left fun p hp => by rw [e1 p.2 (List.mem_map.2 ⟨p, hp, rfl⟩)]
    rw [this]
  case makeFunc fn first caps =>
    have ec := em caps (fun x hx => by simp; exact .inr (by simpa using hx))
    cases fn <;> simp only [ec]
  case slice t x lo hi mx =>
    rw [e1 x (by simp), eo lo (fun y e => by subst e; simp), eo hi (fun y e => by subst e; simp), eo mx (fun y e => by subst e; simp)]
  case call c =>
    have ea : s'.evs c.args = s.evs c.args := em _ fun x hx => by simp [Call.operands]; exact .inr (by simpa using hx)
    cases hc : c.callee with
    | value f =>
      have ef : s'.ev f = s.ev f := e1 f (by simp [Call.operands, hc])
      simp only [ea, ef]
    | builtin b =>
      simp only [ea]
      cases b <;> rfl
    | invoke r n => simp only [ea]
  all_goals first
    | rfl
    | (simp only [List.mem_toArray, List.mem_cons, List.not_mem_nil, or_false, forall_eq_or_imp, forall_eq] at e1
       first | rw [e1] | simp only [e1])
theorem g_ev {P : Program} {G : Option Tmp → List D → D → Heap → Prop} {H : Heap} {ops : Array Oper} {s s' : St} {o : Oper} (h : ∀ t ∈ Oper.reads ops o, s'.fr t = s.fr t) : gOp P G H ops s' o = gOp P G H ops s o := by
  have hc : calmOp P G H s' o = calmOp P G H s o := calm_ev fun t ht => h t (List.mem_append.2 (.inl ht))
  funext K
  unfold gOp
  rw [hc]
  cases hg : o.guard with
  | none => rfl
  | some g =>
    obtain ⟨j, want⟩ := g
    simp only
    cases hj : dstOf ops j with
    | none => rfl
    | some t =>
      have : s'.fr t = s.fr t := h t (List.mem_append.2 (.inr (by simp [hg, hj])))
      simp only [this]
theorem out_fr {s : St} {o : Oper} {d : D} {A : Heap} {t : Nat} (h : o.dst ≠ some t) : (s.out o d A).fr t = s.fr t := by
  unfold St.out St.put
  cases ho : o.dst with
  | none => rfl
  | some u =>
    rw [ho] at h
    simp only
    rw [if_neg (fun e => h (by rw [e]))]
    rfl
theorem out_H (s : St) (o : Oper) (d : D) (A : Heap) : (s.out o d A).H = s.H.add A := by unfold St.out; rw [put_H]; rfl
theorem out_comm {s : St} {o p : Oper} {d dp : D} {A Ap : Heap} (hne : ∀ t, p.dst = some t → o.dst ≠ some t) (h : Disj Ap (s.H.add A)) : (s.out o d A).out p dp Ap = (s.out p dp Ap).out o d A := by
  have hH : ((s.out o d A).out p dp Ap).H = ((s.out p dp Ap).out o d A).H := by rw [out_H, out_H, out_H, out_H, add_comm_ h]
  have hfr : ((s.out o d A).out p dp Ap).fr = ((s.out p dp Ap).out o d A).fr := funext fun t => by
    by_cases hp : p.dst = some t
    · have ho := hne t hp
      rw [out_fr (o := o) ho]
      unfold St.out St.put
      rw [hp]
      simp
    · rw [out_fr (o := p) hp]
      by_cases ho : o.dst = some t
      · unfold St.out St.put
        rw [ho]
        simp
      · rw [out_fr ho, out_fr ho, out_fr hp]
  have hdf : ((s.out o d A).out p dp Ap).df = ((s.out p dp Ap).out o d A).df := by
    unfold St.out
    simp only [put_df, withH_df]
  cases h1 : (s.out o d A).out p dp Ap
  cases h2 : (s.out p dp Ap).out o d A
  rw [h1, h2] at hH hfr hdf
  simp only at hH hfr hdf
  subst hH hfr hdf
  rfl
theorem vcD_first {P : Program} {G : Option Tmp → List D → D → Heap → Prop} {H : Heap} {ops : Array Oper} {Q : St → Prop} {o : Oper} {d : D} {A : Heap} : ∀ {pre post : List Oper} {s : St}, (∀ p ∈ pre, Indep ops p o) → vcD P G H ops Q (pre ++ o :: post) s →
    (∀ K, gOp P G H ops s o K → K d A) → Disj A s.H → vcD P G H ops Q (pre ++ post) (s.out o d A)
  | [], post, s, _, h, hout, hA => by
    simp only [List.nil_append, vcD] at h ⊢
    exact hout _ h hA
  | p :: pre, post, s, hi, h, hout, hA => by
    simp only [List.cons_append, vcD] at h ⊢
    obtain ⟨hu, hm⟩ := g_uni P G H ops s p
    have hip := hi p (by simp)
    have hev : gOp P G H ops (s.out o d A) p = gOp P G H ops s p := g_ev fun t ht => out_fr fun e => (hip.2 t e) ht
    rw [hev]
    refine hm _ _ (fun dp Ap hcan hAp => ?_) (hu _ h)
    have h1 := hcan _ h
    rw [out_H] at hAp
    have h2 := h1 (disj_of_add hAp)
    rw [out_comm (fun t ht => (hip.1 t ht).2) hAp]
    have hev2 : gOp P G H ops (s.out p dp Ap) o = gOp P G H ops s o := g_ev fun t ht => out_fr fun e => (hip.1 t e).1 ht
    refine vcD_first (fun q hq => hi q (by simp [hq])) h2 (by rw [hev2]; exact hout) ?_
    rw [out_H]
    exact disj_swap hA hAp
theorem Det.mono {F : (D → Prop) → Prop} (h : Det F) {K K' : D → Prop} (hk : ∀ d, K d → K' d) (hf : F K) : F K' := by
  obtain ⟨p, d, hd⟩ := h
  have := (hd K).1 hf
  exact (hd K').2 ⟨this.1, hk d this.2⟩
theorem calm_sound {cx : Cx} {G : Option Tmp → List D → D → Heap → Prop} {H : Heap} {s : St} {o : Oper} {K : D → Heap → Prop} (hle : H.le s.H) (hd : okd cx.n o.dst) (h : calmOp cx.P G H s o K) :
    WO cx o (fun s' => ∃ d A, K d A ∧ Disj A s.H ∧ s' = s.out o d A) s := by
  have pure_ : ∀ {d : D}, K d .none → ∃ d' A, K d' A ∧ Disj A s.H ∧ s.put o.dst d = s.out o d' A := fun {d} hk => ⟨d, .none, hk, Disj.none _, rfl⟩
  have stp : stepOp cx o s (fun s' => ∃ d A, K d A ∧ Disj A s.H ∧ s' = s.out o d A) → WO cx o (fun s' => ∃ d A, K d A ∧ Disj A s.H ∧ s' = s.out o d A) s := step_sound hd
  unfold calmOp at h
  split at h
  case h_1 x e => exact stp (by unfold stepOp; rw [e]; exact pure_ h)
  case h_2 x e => exact stp (by unfold stepOp; rw [e]; exact pure_ h)
  case h_3 c x y e =>
    refine stp ?_
    unfold stepOp
    rw [e]
    split at h
    · rename_i b hb
      simp only [hb]
      rw [selV_iff] at h ⊢
      exact ⟨fun e => pure_ (h.1 e), fun e => pure_ (h.2 e)⟩
    · exact h.elim
  case h_4 t x e =>
    refine stp ?_
    unfold stepOp
    rw [e]
    simp only [bxV]
    split at h
    · rename_i cs hc
      simp only [hc]
      exact fun b hb => ⟨_, _, h b, disj_upd hb, by unfold St.out; rw [Heap.add_upd]⟩
    · exact h.elim
  case h_5 t ps e => exact stp (by unfold stepOp; rw [e]; exact (det_bdV _ _ _).mono (fun d hk => pure_ hk) h)
  case h_6 t n ps e =>
    split at h
    · rename_i el _ _ _ hT
      split at h
      · rename_i dE sz byE zs hE
        obtain ⟨hzl, hlen, hle2, h⟩ := h
        split at h
        · rename_i els hels
          refine WO_val (by simp [e]) hd fun a w m => ?_
          have hb : bsV cx.P s.H t n (s.parts ps) (fun d H' => ∃ b, s.H b = none ∧ d = .os b 0 sz 0 n ∧ H' = s.H.upd b (.row el 0 sz els)) := by
            unfold bsV
            simp only [hT, hE, hels]
            exact ⟨hzl, hlen, hle2, fun b hb => ⟨b, hb, rfl, rfl⟩⟩
          obtain ⟨r, d', w', H', h1, h2, h3, h4, b, hb1, rfl, rfl⟩ := run_bsV m.H hb (m.parts_ ps)
          have hel : els.length = n := by
            have := (rowsD_spec hels (m.parts_ ps)).1
            omega
          have hle3 : s.H.le (s.H.upd b (.row el 0 sz els)) := Heap.le_new (Heap.le_refl _) hb1
          have hseq : elsP (s.H.upd b (.row el 0 sz els)) sz (.os b 0 sz 0 n) (fun l => l = els) := by
            simp only [elsP, Heap.upd_same]
            exact ⟨trivial, trivial, trivial, by omega, by rw [List.drop_zero, ← hel, List.take_length]⟩
          obtain ⟨l, A, c, rfl, rfl, hlc, hrow⟩ := elsP_spec h3 hseq h2
          refine ⟨.slice A l.length c, w', .seq sz l, s.H, ?_, ?_, h3.less hle3, h4.less hle3, ⟨_, .none, h, Disj.none _, rfl⟩⟩
          · simp only [execOp, e, Sem.run_bind, h1, Result.andThen, Sem.run_pure]
          · simp only [D.is]
            refine ⟨A, c, rfl, hlc, ?_⟩
            rcases hrow with hrow | ⟨b', o', rfl, hb', hr⟩
            · exact .inl hrow
            · by_cases hn : l = []
              · exact .inl hn
              · right
                refine ⟨b', o', rfl, ?_, hb', ?_⟩
                · simp only [D.is] at h2
                  obtain ⟨A2, c2, e2, _, hA2⟩ := h2
                  injection e2 with e3 e4 e5
                  have hpos : 0 < n := by
                    rcases l with _ | ⟨_, _⟩
                    · exact absurd rfl hn
                    · simp at hel; omega
                  rcases hA2 with hA2 | ⟨hA2, _⟩
                  · omega
                  · rw [hA2] at e3
                    injection e3 with e3
                    injection e3 with e3
                    subst e3
                    exact hb1
                · exact rowsAt_of fun i el' hi => by
                    obtain ⟨g1, g2⟩ := rowsAt_get hr i el' hi
                    refine ⟨g1, ?_⟩
                    obtain ⟨vs, g3, g4⟩ := cellsAt_vals g2
                    exact cellsAt_of (cellsAll_keep (Kept.less hle3 w') _ g3) g4
        · exact h.elim
      · exact h.elim
    · exact h.elim
  case h_7 t x e => exact stp (by unfold stepOp; rw [e]; exact (det_ldV _ _ _ _).mono (fun d hk => pure_ hk) (ldV_le hle h))
  case h_8 x e => exact stp (by unfold stepOp; rw [e]; exact (det_ncV _).mono (fun d hk => pure_ hk) h)
  case h_9 op t x y _ e => exact stp (by unfold stepOp; rw [e]; exact bnU_of ((det_binV _ _ _ _ _).mono (fun d hk => pure_ hk) h))
  case h_10 op _ x e => exact stp (by unfold stepOp; rw [e]; exact (det_unV _ _).mono (fun d hk => pure_ hk) h)
  case h_11 a b x e => exact stp (by unfold stepOp; rw [e]; exact cw_of_cv <| (det_cvV _ _ _ _ _).mono (fun d hk => pure_ hk) (cvV_le hle h))
  case h_12 f first caps e => exact stp (by unfold stepOp; rw [e]; exact ⟨h.1, pure_ h.2⟩)
  case h_13 t x lo hi mx e => exact stp (by unfold stepOp; rw [e]; exact (det_slV _ s.H _ _ _ _ _).mono (fun d hk => pure_ hk) h)
  case h_14 t x f e => exact stp (by unfold stepOp; rw [e]; exact (det_faV _ _ _ _).mono (fun d hk => pure_ hk) h)
  case h_15 t x f e => exact stp (by unfold stepOp; rw [e]; exact (det_fieldV _ _ _ _).mono (fun d hk => pure_ hk) h)
  case h_16 t x i e => exact stp (by unfold stepOp; rw [e]; exact (det_iaV _ s.H _ _ _).mono (fun d hk => pure_ hk) h)
  case h_17 t x i e => exact stp (by unfold stepOp; rw [e]; exact (det_ixV _ _ _ _).mono (fun d hk => pure_ hk) h)
  case h_18 x i e => exact stp (by unfold stepOp; rw [e]; exact (det_exV _ _).mono (fun d hk => pure_ hk) h)
  case h_19 c e =>
    refine stp ?_
    unfold stepOp
    rw [e]
    simp only [clV]
    split at h
    · rename_i f hc
      simp only [hc]
      split at h
      · rename_i g caps hf
        simp only [hf]
        refine (h.1 s.H hle).mono ?_
        rintro d H' ⟨A, hA, rfl, hG⟩
        exact ⟨d, A, h.2 d A hG, hA, rfl⟩
      · exact h.elim
    · rename_i hc
      simp only [hc, biV]
      split at h
      · rename_i t x ht hx
        simp only [hx, ht]
        exact (det_lenV _ _ _ _).mono (fun d hk => pure_ hk) (lenV_le hle h)
      · exact h.elim
    · rename_i hc
      simp only [hc, biV]
      exact (det_minV _).mono (fun d hk => pure_ hk) h
    · rename_i hc
      simp only [hc, biV]
      exact (det_maxV _).mono (fun d hk => pure_ hk) h
    · exact h.elim
  case h_20 t x i ok e => exact stp (by unfold stepOp; rw [e]; exact (det_lkV _ _ _ _ _ _).mono (fun d hk => pure_ hk) (lkV_le hle h))
  case h_21 t e =>
    refine stp ?_
    unfold stepOp
    rw [e]
    simp only [alV]
    split at h
    · rename_i hT
      simp only [hT]
      exact ⟨h.1, fun b hb => ⟨_, _, h.2 b, disj_upd hb, by unfold St.out; rw [Heap.add_upd]⟩⟩
    · exact h.elim
  case h_22 t n c e =>
    refine stp ?_
    unfold stepOp
    rw [e]
    simp only [mkV]
    split at h
    · rename_i hn hc hT
      simp only [hn, hc, hT]
      split at h
      · rename_i hE
        simp only [hE]
        obtain ⟨h1, h2, h3, h4, h5, h6, h7⟩ := h
        exact ⟨h1, h2, h3, h4, h5, h6, fun b hb => ⟨_, _, h7 b, disj_upd hb, by unfold St.out; rw [Heap.add_upd]⟩⟩
      · exact h.elim
    · exact h.elim
  case h_23 => exact h.elim
theorem g_sound {cx : Cx} {G : Option Tmp → List D → D → Heap → Prop} {H : Heap} {ops : List Oper} {s : St} {i : Nat} {o : Oper} {K : D → Heap → Prop} (hle : H.le s.H) (hok : okOps cx.n ops = true) (ho : ops[i]? = some o) (h : gOp cx.P G H ops.toArray s o K)
    {a : Act} {w : World} (m : Match cx s a w) {Q : Exit → Act → World → Prop} :
    wpOpIn (FR cx.ro) 9 cx.P ops.toArray Q i (fun a' w' => ∃ d A, K d A ∧ Disj A s.H ∧ Match cx (s.out o d A) a' w') a w := by
  have hall : ∀ o' ∈ ops, okd cx.n o'.dst := fun o' ho' => by
    have := (List.all_eq_true.1 hok) o' ho'
    unfold okd
    cases hq : o'.dst with
    | none => trivial
    | some t => rw [hq] at this; simpa using this
  have hd := hall o (List.mem_of_getElem? ho)
  have run : ∀ {K : D → Heap → Prop}, calmOp cx.P G H s o K → o.wpIn (FR cx.ro) 9 cx.P a w (fun a' w' => ∃ d A, K d A ∧ Disj A s.H ∧ Match cx (s.out o d A) a' w') Q := fun hc =>
    Oper.wpIn_mono (fun a' w' ⟨s', m', d, A, h1, h2, h3⟩ => ⟨d, A, h1, h2, h3 ▸ m'⟩) (wpIn_anyQ (calm_sound hle hd hc a w m))
  have skip : K (.val undef) .none → ∃ d A, K d A ∧ Disj A s.H ∧ Match cx (s.out o d A) (a.put o.dst undef) w := fun hk =>
    ⟨_, .none, hk, Disj.none _, m.put (okd_spec hd) (by simp only [D.is])⟩
  unfold wpOpIn
  have ho' : ops.toArray[i]? = some o := by simpa using ho
  rw [ho']
  simp only
  unfold gOp at h
  split at h
  · rename_i hg
    have hw : Region.wanted o (yielded ops.toArray a.tmps) = true := by simp [Region.wanted, hg]
    rw [if_pos hw]
    exact run h
  · rename_i j want hg
    have hwt : Region.wanted o (yielded ops.toArray a.tmps) = (yielded ops.toArray a.tmps j == some want) := by unfold Region.wanted; rw [hg]
    split at h
    · rename_i t ht
      have htn : t < cx.n := by
        unfold dstOf at ht
        cases hj : ops.toArray[j]? with
        | none => rw [hj] at ht; cases ht
        | some o' =>
          rw [hj] at ht
          have := hall o' (by have := Array.mem_of_getElem? hj; simpa using this)
          simp at ht
          rw [ht] at this
          exact this
      have hy : yielded ops.toArray a.tmps j = match a.tmps[t]? with | some (.bool b) => some b | _ => none := by
        unfold yielded
        unfold dstOf at ht
        rw [ht]
        rfl
      have hta : t < a.tmps.size := by rw [m.n]; exact htn
      have hgt : a.tmps[t]? = some (a.tmps.getD t undef) := by simp [hta]
      have hf := m.fr t
      split at h
      · rename_i b hb
        rw [selW_iff] at h
        rw [hb] at hf
        simp only [D.is] at hf
        rw [hgt, hf] at hy
        simp only at hy
        rw [hy] at hwt
        by_cases e : b = want
        · rw [if_pos (by rw [hwt, e]; simp)]
          exact run (h.1 e)
        · have e2 : b = !want := by cases b <;> cases want <;> first | rfl | exact absurd rfl e
          rw [if_neg (by rw [hwt, e2]; cases want <;> simp)]
          exact ⟨about_FR, skip (h.2 e2)⟩
      · rename_i hb
        rw [hb] at hf
        simp only [D.is] at hf
        rw [hgt, hf] at hy
        simp only at hy
        rw [hy] at hwt
        rw [if_neg (by rw [hwt]; simp)]
        exact ⟨about_FR, skip h⟩
      · exact h.elim
    · exact h.elim
theorem wpIn_some {ro : Option Nat} {P : Program} {o : Oper} {a : Act} {w : World} {K : Act → World → Prop} (h : o.wpIn (FR ro) 9 P a w K NoQ) : ∃ a' w', K a' w' := by
  have room : ∀ n, (FR ro).room n := fun n d hd => by cases hd
  unfold Oper.wpIn at h
  have h2 := h.2
  generalize (o.semAt (FR ro).round a.eval).run P w = r at *
  cases r with
  | ok x w' =>
    cases x <;> simp only [Oper.uponIn] at h2 <;> first
      | exact ⟨_, _, h2⟩
      | exact h2.elim
      | (obtain ⟨e, w'', fr, hR, _⟩ := h2.2.2 [] (room _)
         cases e with
         | returned v => exact ⟨_, _, hR⟩
         | panicked c => exact hR.elim
         | outgrown => obtain ⟨_, _, hf⟩ := hR; exact hf.elim)
      | (obtain ⟨v, w'', hR, _⟩ := h2.2 default [] (room _)
         exact ⟨_, _, hR⟩)
      | (obtain ⟨e, w'', hR, _⟩ := h2.2.2 default [] (room _)
         cases e with
         | returned v => exact ⟨_, _, hR⟩
         | panicked c => exact hR.elim
         | outgrown => obtain ⟨_, _, hf⟩ := hR; exact hf.elim)
  | halt x w' => cases x <;> simp only [Oper.uponIn] at h2 <;> first | exact h2.elim
theorem wpOpIn_some {ro : Option Nat} {P : Program} {ops : Array Oper} {i : Nat} {a : Act} {w : World} {K : Act → World → Prop} (h : wpOpIn (FR ro) 9 P ops NoQ i K a w) : ∃ a' w', K a' w' := by
  unfold wpOpIn at h
  split at h
  · exact ⟨_, _, h⟩
  · split at h
    · exact wpIn_some h
    · exact ⟨_, _, h.2⟩
theorem vcD_pre {cx : Cx} {G : Option Tmp → List D → D → Heap → Prop} {H : Heap} {ops : List Oper} {Q : St → Prop} {o : Oper} (hok : okOps cx.n ops = true) : ∀ {pre post : List Oper} {s : St} {a : Act} {w : World}, (∀ p ∈ pre, Indep ops.toArray p o ∧ p ∈ ops) → vcD cx.P G H ops.toArray Q (pre ++ o :: post) s →
    H.le s.H → Match cx s a w → gOp cx.P G H ops.toArray s o fun _ _ => True
  | [], post, s, a, w, _, h, _, _ => by
    simp only [List.nil_append, vcD] at h
    exact (g_uni _ _ _ _ _ _).2 _ _ (fun _ _ _ => trivial) h
  | p :: pre, post, s, a, w, hi, h, hle, m => by
    simp only [List.cons_append, vcD] at h
    obtain ⟨i, hpi⟩ := List.getElem?_of_mem (hi p (by simp)).2
    obtain ⟨a', w', d, A, hk, hA, m'⟩ := wpOpIn_some (g_sound (Q := NoQ) hle hok hpi h m)
    have ih := vcD_pre hok (fun q hq => hi q (by simp [hq])) (hk hA) (by rw [out_H]; exact Heap.le_trans hle (Heap.le_add hA)) m'
    have hev : gOp cx.P G H ops.toArray (s.out p d A) o = gOp cx.P G H ops.toArray s o := g_ev fun t ht => out_fr fun e => ((hi p (by simp)).1.1 t e).1 ht
    rw [hev] at ih
    exact ih
def depOK (ops : List Oper) : Bool :=
  ops.zipIdx.all fun (o, j) => o.after.toList.all (fun e => !Region.binds .any e || decide (e.on < j)) &&
    (ops.take j).zipIdx.all fun (p, i) =>
      o.after.toList.any (fun e => Region.binds .any e && e.on == i) ||
      ((match p.dst with
        | some t => !(Oper.reads ops.toArray o).contains t && o.dst != some t
        | none => true) &&
      (match o.dst with
        | some t => !(Oper.reads ops.toArray p).contains t
        | none => true))
theorem depOK_edge {ops : List Oper} (h : depOK ops = true) {j : Nat} {o : Oper} (ho : ops[j]? = some o) : ∀ e ∈ o.after.toList, Region.binds .any e = true → e.on < j := fun e he hb => by
  have := (List.all_eq_true.1 h) (o, j) (List.mem_zipIdx_iff_getElem?.2 (by simpa using ho))
  simp only [Bool.and_eq_true] at this
  have := (List.all_eq_true.1 this.1) e he
  rw [hb] at this
  simpa using this
theorem depOK_indep {ops : List Oper} (h : depOK ops = true) {i j : Nat} {p o : Oper} (hij : i < j) (hp : ops[i]? = some p) (ho : ops[j]? = some o) (hne : ∀ e ∈ o.after.toList, Region.binds .any e = true → e.on ≠ i) : Indep ops.toArray p o := by
  have := (List.all_eq_true.1 h) (o, j) (List.mem_zipIdx_iff_getElem?.2 (by simpa using ho))
  simp only [Bool.and_eq_true] at this
  have := (List.all_eq_true.1 this.2) (p, i) (List.mem_zipIdx_iff_getElem?.2 (by simp only [List.getElem?_take]; rw [if_pos hij]; exact hp))
  simp only [Bool.or_eq_true, Bool.and_eq_true] at this
  rcases this with h1 | ⟨h1, h2⟩
  · exfalso
    obtain ⟨e, he, h3⟩ := List.any_eq_true.1 h1
    simp only [Bool.and_eq_true, beq_iff_eq] at h3
    exact hne e he h3.1 h3.2
  · refine ⟨fun t ht => ?_, fun t ht => ?_⟩
    · rw [ht] at h1
      simpa using h1
    · rw [ht] at h2
      simpa using h2
theorem pairwise_mid {α : Type} {r : α → α → Prop} {pre post : List α} {x : α} (h : (pre ++ x :: post).Pairwise r) : (∀ y ∈ pre, r y x) ∧ (∀ y ∈ post, r x y) ∧ (pre ++ post).Pairwise r := by
  rw [List.pairwise_append, List.pairwise_cons] at h
  refine ⟨fun y hy => h.2.2 y hy x (by simp), h.2.1.1, ?_⟩
  rw [List.pairwise_append]
  exact ⟨h.1, h.2.1.2, fun a ha b hb => h.2.2 a ha b (by simp [hb])⟩
theorem draw_any {cx : Cx} {G : Option Tmp → List D → D → Heap → Prop} {H : Heap} {ops : List Oper} {Q : Exit → St → Prop} (hok : okOps cx.n ops = true) (hdep : depOK ops = true) : ∀ (fuel : Nat) (R : List Nat) (listed : Array Bool) (s : St) (a : Act) (w : World),
    R.length ≤ fuel → R.Pairwise (· < ·) → listed.size = ops.length → (∀ i, i ∈ R ↔ i < ops.length ∧ listed.getD i true = false) → H.le s.H → Match cx s a w → vcD cx.P G H ops.toArray (Q .normal) (R.filterMap (ops[·]?)) s →
    wpAnyIn (FR cx.ro) 9 cx.P .any ops.toArray (QQ cx Q) fuel listed a w := by
  have stuck : ∀ (R : List Nat) (listed : Array Bool), R.Pairwise (· < ·) → (∀ i, i ∈ R ↔ i < ops.length ∧ listed.getD i true = false) → listed.size = ops.length → Region.ready .any ops.toArray listed = [] → R = [] := by
    intro R listed hp hmem hsz hr
    rcases R with _ | ⟨r, R⟩
    · rfl
    · exfalso
      have hr1 := (hmem r).1 (by simp)
      obtain ⟨o, ho⟩ : ∃ o, ops[r]? = some o := ⟨ops[r], by simp [hr1.1]⟩
      have : r ∈ Region.ready .any ops.toArray listed := by
        unfold Region.ready
        rw [List.mem_filter]
        refine ⟨by simp; exact hr1.1, ?_⟩
        have ho' : ops.toArray[r]? = some o := by simpa using ho
        rw [hr1.2, ho']
        simp only [Bool.not_false, Bool.true_and, Option.map_some, Option.getD_some]
        rw [← Array.all_toList, List.all_eq_true]
        intro e he
        cases hb : Region.binds .any e with
        | false => simp
        | true =>
          have hlt := depOK_edge hdep ho e he hb
          have : ¬ e.on ∈ r :: R := fun hm => by
            rw [List.pairwise_cons] at hp
            rcases List.mem_cons.1 hm with h1 | h1
            · omega
            · have := hp.1 _ h1; omega
          have h2 : listed.getD e.on true = true := by
            cases hl : listed.getD e.on true with
            | true => rfl
            | false => exact absurd ((hmem e.on).2 ⟨by omega, hl⟩) this
          have h3 : listed.getD e.on false = true := by
            have hlt2 : e.on < listed.size := by omega
            simp only [Array.getD, hlt2, dif_pos] at h2 ⊢
            exact h2
          simp [h3]
      rw [hr] at this
      cases this
  intro fuel
  induction fuel with
  | zero =>
    intro R listed s a w hlen hp hsz hmem hle m h
    obtain rfl : R = [] := List.eq_nil_of_length_eq_zero (by omega)
    have hready : Region.ready .any ops.toArray listed = [] := by
      rw [List.eq_nil_iff_forall_not_mem]
      intro i hi
      unfold Region.ready at hi
      rw [List.mem_filter] at hi
      have h2 := hi.2
      simp only [Bool.and_eq_true, Bool.not_eq_true'] at h2
      exact absurd ((hmem i).2 ⟨by simpa using hi.1, h2.1⟩) (by simp)
    exact ⟨hready, s, m, by simpa [vcD] using h⟩
  | succ fuel ih =>
    intro R listed s a w hlen hp hsz hmem hle m h
    refine ⟨fun hr => ?_, fun i hi => ?_⟩
    · obtain rfl := stuck R listed hp hmem hsz hr
      exact ⟨s, m, by simpa [vcD] using h⟩
    · unfold Region.ready at hi
      rw [List.mem_filter] at hi
      obtain ⟨hi1, hi2⟩ := hi
      have hil : i < ops.length := by simpa using hi1
      obtain ⟨o, ho⟩ : ∃ o, ops[i]? = some o := ⟨ops[i], by simp [hil]⟩
      have ho' : ops.toArray[i]? = some o := by simpa using ho
      rw [ho'] at hi2
      simp only [Bool.and_eq_true, Bool.not_eq_true', Option.map_some, Option.getD_some] at hi2
      obtain ⟨hl, hedges⟩ := hi2
      have hiR : i ∈ R := (hmem i).2 ⟨hil, hl⟩
      obtain ⟨pre, post, rfl⟩ := List.append_of_mem hiR
      obtain ⟨hpre, hpost, hpw⟩ := pairwise_mid hp
      have hin : ∀ p ∈ pre.filterMap (ops[·]?), Indep ops.toArray p o ∧ p ∈ ops := fun p hpp => by
        obtain ⟨k, hk, hkp⟩ := List.mem_filterMap.1 hpp
        refine ⟨depOK_indep hdep (hpre k hk) hkp ho fun e he hb hek => ?_, List.mem_of_getElem? hkp⟩
        rw [← Array.all_toList, List.all_eq_true] at hedges
        have := hedges e he
        rw [hb] at this
        simp only [Bool.not_true, Bool.false_or] at this
        have hk2 := (hmem k).1 (by simp [hk])
        rw [hek] at this
        have hlt2 : k < listed.size := by omega
        simp only [Array.getD, hlt2, dif_pos] at this hk2
        rw [hk2.2] at this
        cases this
      have hsplit : (pre ++ i :: post).filterMap (ops[·]?) = pre.filterMap (ops[·]?) ++ o :: post.filterMap (ops[·]?) := by
        rw [List.filterMap_append, List.filterMap_cons, ho]
      rw [hsplit] at h
      have hpreo := vcD_pre hok hin h hle m
      have hcan := (g_uni cx.P G H ops.toArray s o).1 _ hpreo
      refine wpOpIn_mono ?_ (g_sound hle hok ho hcan m)
      rintro a' w' ⟨d, A, hout, hA, m'⟩
      have h2 := vcD_first (fun p hpp => (hin p hpp).1) h hout hA
      refine ih (pre ++ post) _ (s.out o d A) a' w' ?_ hpw (by simpa using hsz) ?_ (by rw [out_H]; exact Heap.le_trans hle (Heap.le_add hA)) m' (by rw [List.filterMap_append]; exact h2)
      · simp at hlen ⊢; omega
      · intro k
        have hk := hmem k
        rw [List.mem_append, List.mem_cons] at hk
        rw [List.mem_append]
        have hlt : i < listed.size := by omega
        have hget : (listed.setIfInBounds i true).getD k true = if k = i then true else listed.getD k true := getD_set _ _ _ _ _ hlt
        rw [hget]
        by_cases e : k = i
        · subst e
          simp only [if_true]
          constructor
          · rintro (h3 | h3)
            · have := hpre _ h3; omega
            · have := hpost _ h3; omega
          · rintro ⟨_, h3⟩; cases h3
        · rw [if_neg e, ← hk]
          constructor
          · rintro (h3 | h3)
            · exact .inl h3
            · exact .inr (.inr h3)
          · rintro (h3 | h3 | h3)
            · exact .inl h3
            · exact absurd h3 e
            · exact .inr h3
theorem filterMap_map {α β : Type} {f : α → Option β} {g : α → β} : ∀ {l : List α}, (∀ x ∈ l, f x = some (g x)) → l.filterMap f = l.map g
  | [], _ => rfl
  | x :: l, h => by rw [List.filterMap_cons, h x (by simp), List.map_cons, filterMap_map fun y hy => h y (by simp [hy])]
theorem W_draw {cx : Cx} {id : Nat} {ops : List Oper} {Q : Exit → St → Prop} {s : St} (G : Option Tmp → List D → D → Heap → Prop) (hm : cx.P.follows .mixedOrders = true) (hok : okOps cx.n ops = true) (hdep : depOK ops = true)
    (h : vcD cx.P G s.H ops.toArray (Q .normal) ops s) : W cx (.region id ops.toArray true) Q s := fun a w m => by
  refine wpIn_region_any hm ?_
  have m' : Match cx s a w.drew := m.go (ev_drew s.H w) m.H.drew
  have e : (List.range ops.length).filterMap (ops[·]?) = ops := by
    rw [filterMap_map (g := fun i => ops.getD i default) fun i hi => by
      have : i < ops.length := by simpa using hi
      simp [List.getD, this]]
    apply List.ext_getElem?
    intro i
    by_cases hi : i < ops.length
    · simp [hi, List.getD]
    · simp [hi]
  refine draw_any hok hdep _ (List.range ops.length) _ s a _ (by simp) List.pairwise_lt_range (by simp) (fun i => ?_) (Heap.le_refl _) m' (by rw [e]; exact h)
  simp only [List.mem_range, List.size_toArray]
  constructor
  · intro hi
    refine ⟨hi, ?_⟩
    simp [Array.getD, hi]
  · exact fun h => h.1
def Vw (H : Heap) (d d0 : D) : Prop := ∀ w v, HOk w H → D.is w H.others d v → D.is w Heap.none.others d0 v
theorem vw_refl (H : Heap) (d : D) : Vw H d d := fun w v _ h => D.is_keep (Kept.less (Heap.le_none H) w) d h
theorem vw_els {H : Heap} {sz : Nat} {d : D} {els : List (List D)} (h : elsP H sz d (· = els)) : Vw H d (.seq sz els) := fun w v hH hd => by
  obtain ⟨l, A, c, rfl, rfl, hlc, hrow⟩ := elsP_spec hH h hd
  simp only [D.is]
  refine ⟨A, c, rfl, hlc, ?_⟩
  rcases hrow with hrow | ⟨b, o, rfl, hb, hr⟩
  · exact .inl hrow
  · right
    refine ⟨b, o, rfl, rfl, hb, rowsAt_of fun i el hi => ?_⟩
    obtain ⟨g1, g2⟩ := rowsAt_get hr i el hi
    refine ⟨g1, ?_⟩
    obtain ⟨vs, g3, g4⟩ := cellsAt_vals g2
    exact cellsAt_of (cellsAll_keep (Kept.less (Heap.le_none H) w) _ g3) g4
def Vws (H : Heap) : List D → List D → Prop
  | [], [] => True
  | d :: ds, e :: es => Vw H d e ∧ Vws H ds es
  | _, _ => False
theorem vws1 {H : Heap} {d e : D} (h : Vw H d e) : Vws H [d] [e] := ⟨h, trivial⟩
theorem vws2 {H : Heap} {d e d2 e2 : D} (h : Vw H d e) (h2 : Vw H d2 e2) : Vws H [d, d2] [e, e2] := ⟨h, h2, trivial⟩
theorem vws3 {H : Heap} {d e d2 e2 d3 e3 : D} (h : Vw H d e) (h2 : Vw H d2 e2) (h3 : Vw H d3 e3) : Vws H [d, d2, d3] [e, e2, e3] := ⟨h, h2, h3, trivial⟩
theorem Vws.all {H : Heap} {w : World} (hH : HOk w H) : ∀ {ds es : List D} {vs : List Value}, Vws H ds es → valsAll w H.others ds vs → valsAll w Heap.none.others es vs
  | [], [], vs, _, h => by simp only [valsAll] at h ⊢; exact h
  | d :: ds, e :: es, vs, hv, h => by
    simp only [valsAll] at h ⊢
    obtain ⟨u, us, rfl, h1, h2⟩ := h
    exact ⟨u, us, rfl, hv.1 w u hH h1, Vws.all hH hv.2 h2⟩
  | [], _ :: _, _, hv, _ => hv.elim
  | _ :: _, [], _, hv, _ => hv.elim
def D.plain : D → Bool
  | .val _ => true
  | .tup ds => ds.all fun d => match d with
    | .val _ => true
    | _ => false
  | _ => false
theorem plain_vals {w w' : World} {S S' : Nat → Prop} : ∀ {ds : List D} {vs : List Value}, (ds.all fun d => match d with | .val _ => true | _ => false) = true → valsAll w S ds vs → valsAll w' S' ds vs
  | [], _, _, h => by simp only [valsAll] at h ⊢; exact h
  | d :: ds, vs, hp, h => by
    simp only [valsAll] at h ⊢
    obtain ⟨u, us, rfl, h1, h2⟩ := h
    simp only [List.all_cons, Bool.and_eq_true] at hp
    refine ⟨u, us, rfl, ?_, plain_vals hp.2 h2⟩
    cases d <;> first | (cases hp.1; done) | (simp only [D.is] at h1 ⊢; exact h1)
theorem plain_is {w w' : World} {S S' : Nat → Prop} {d : D} {v : Value} (hp : d.plain = true) (h : D.is w S d v) : D.is w' S' d v := by
  cases d with
  | val u => simp only [D.is] at h ⊢; exact h
  | tup ds =>
    simp only [D.is] at h ⊢
    obtain ⟨vs, rfl, h⟩ := h
    exact ⟨vs, rfl, plain_vals hp h⟩
  | _ => cases hp
theorem ev_all {H : Heap} {w w' : World} (h : Ev Heap.none w Heap.none w') : Ev H w H w' :=
  ⟨h.os, h.tape, h.output, h.size, fun b hb hn => ⟨(h.keep b hb rfl).1, hn⟩, h.shape⟩
theorem hok_all {H : Heap} {w w' : World} (hH : HOk w H) (h : Ev Heap.none w Heap.none w') : HOk w' H := fun b x hb => (ev_all h).objAt (h.keep b (hH.lt hb) rfl).1 (hH b x hb)
theorem pure_D {P : Program} {f : FuncId} {ds0 ds : List D} {H : Heap} {r : D} (h : Does P f ds0 .none fun d _ => d = r) (hr : r.plain = true) (hv : Vws H ds ds0) : Does P f ds H fun d H' => d = r ∧ H = H' :=
  And.intro h.1 fun w vs hvs hH hG => by
    refine (h.2 w vs (hv.all hH hvs) (fun b x hb => by cases hb) (hG.le (Heap.le_none _))).mono ?_
    rintro e w' ⟨v, d, H', rfl, h1, h2, h3, rfl⟩
    have h4 : Ev Heap.none w Heap.none w' := h3.less (Heap.le_none _)
    exact ⟨v, d, H, rfl, plain_is hr h1, hok_all hH h4, ev_all h4, rfl, rfl⟩
theorem Vws.le {H H' : Heap} (hle : H.le H') : ∀ {ds es : List D}, Vws H ds es → Vws H' ds es → True := fun _ _ => trivial
theorem elsP_of {H : Heap} {sz : Nat} {x : D} {els : List (List D)} {K : List (List D) → Prop} (h : elsP H sz x (· = els)) (hk : K els) : elsP H sz x K := by
  unfold elsP at h ⊢
  split at h
  · exact ⟨h.1, h.2 ▸ hk⟩
  · split at h
    · obtain ⟨h1, h2, h3, h4, h5⟩ := h
      exact ⟨h1, h2, h3, h4, h5 ▸ hk⟩
    · exact h.elim
  · exact h ▸ hk
  · exact h ▸ hk
  · exact h.elim
theorem frz_is {H : Heap} {w : World} {b o sz k n : Nat} {ty : TypeId} {els : List (List D)} {v : Value} (hH : HOk w H) (hb : H b = some (.row ty o sz els)) (hle : k + n ≤ els.length)
    (h0 : D.is w H.others (.os b o sz k n) v) : D.is w (H.del b).others (.seq sz ((els.drop k).take n)) v := by
  have he : elsP H sz (.os b o sz k n) (· = (els.drop k).take n) := by simp only [elsP, hb]; exact ⟨trivial, trivial, trivial, hle, trivial⟩
  obtain ⟨l, A, c', rfl, hv, hlc, hrow⟩ := elsP_spec hH he h0
  rw [hv]
  simp only [D.is]
  refine ⟨A, c', rfl, hlc, ?_⟩
  rcases hrow with hrow | ⟨b', o', rfl, hb', hr⟩
  · exact .inl hrow
  · by_cases hn : (els.drop k).take n = []
    · exact .inl hn
    · right
      refine ⟨b', o', rfl, ?_, hb', rowsAt_of fun i el hi => ?_⟩
      · simp only [D.is] at h0
        obtain ⟨A2, c2, e2, _, hA2⟩ := h0
        rw [hv] at e2
        injection e2 with e3 e4 e5
        have hpos : 0 < n := by
          rcases Nat.eq_zero_or_pos n with h1 | h1
          · subst h1; simp at hn
          · exact h1
        rcases hA2 with hA2 | ⟨hA2, _⟩
        · have : ((els.drop k).take n).length = n := by rw [List.length_take, List.length_drop]; omega
          omega
        · rw [hA2] at e3
          injection e3 with e3
          injection e3 with e3
          subst e3
          exact Heap.del_same _ _
      · obtain ⟨g1, g2⟩ := rowsAt_get hr i el hi
        refine ⟨g1, ?_⟩
        obtain ⟨vs, g3, g4⟩ := cellsAt_vals g2
        exact cellsAt_of (cellsAll_keep (Kept.less (Heap.del_le H b) w) _ g3) g4
def St.frz (s : St) (t : Nat) (b sz k n : Nat) (els : List (List D)) : St := (s.withH (s.H.del b)).put (some t) (.seq sz ((els.drop k).take n))
theorem Does.weak {P : Program} {f : FuncId} {ds ds0 : List D} {H H0 : Heap} {K : D → Heap → Prop} (h : Does P f ds0 H0 K) (hle : H0.le H) (hv : ∀ w vs, HOk w H → valsAll w H.others ds vs → valsAll w H0.others ds0 vs) : Does P f ds H K :=
  And.intro h.1 fun w vs hvs hH hG => (h.2 w vs (hv w vs hH hvs) (hH.less hle) (hG.le hle)).mono fun e w' ⟨v, d, H', he, hd, hH', hev, hk⟩ =>
    ⟨v, d, H', he, hd, hH', ⟨hev.os, hev.tape, hev.output, hev.size, fun b hb hn => hev.keep b hb (by
      cases hx : H0 b with
      | none => rfl
      | some x => have := hle b x hx; rw [hn] at this; cases this), hev.shape⟩, hk⟩
theorem walk_of {P : Program} {f : FuncId} {ds : List D} {vs : List Value} {w : World} (h : Does P f ds .none fun d _ => d = .val (.bool true)) (hv : valsAll w Heap.none.others ds vs) (hG : GOk w Heap.none := by first | exact gok0 _ _ | assumption) :
    Calls P f vs.toArray w fun e w' => e = .returned (.bool true) ∧ Below w.heap.size w w' :=
  (h.2 w vs hv (fun b x hb => by cases hb) hG).mono fun e w' ⟨v, d, H', he, hd, _, hev, hk⟩ => by
    subst hk
    rw [is_val hd] at he
    exact ⟨he, hev.os, hev.tape, hev.output, hev.size, fun k hk => (hev.keep k hk rfl).1⟩
def freeOp (o : Oper) : Bool := match o.op with
  | .move _ | .assign _ | .pick _ _ _ | .build _ _ | .nilCheck _ | .binOp _ _ _ _ _ | .unOp _ _ _ | .makeFunc (.func _) _ _ | .fieldAddr _ _ _ | .field _ _ _ | .index _ _ _ | .extract _ _ => true
  | _ => false
theorem calm_free {P : Program} {G : Option Tmp → List D → D → Heap → Prop} {H H' : Heap} {s : St} {o : Oper} (hf : freeOp o = true) : calmOp P G H s o = calmOp P G H' s o := by
  unfold freeOp at hf
  funext K
  unfold calmOp
  split at hf <;> first
    | (rename_i e; rw [e])
    | cases hf
theorem gOp_free {P : Program} {G : Option Tmp → List D → D → Heap → Prop} {H H' : Heap} {ops : Array Oper} {s : St} {o : Oper} (hf : freeOp o = true) : gOp P G H ops s o = gOp P G H' ops s o := by
  unfold gOp
  rw [calm_free hf]
theorem calm_none {P : Program} {G : Option Tmp → List D → D → Heap → Prop} {H : Heap} {s : St} {o : Oper} {K : D → Heap → Prop} (hf : freeOp o = true) (h : calmOp P G H s o K) : calmOp P G H s o fun d A => A = .none ∧ K d A := by
  unfold freeOp at hf
  unfold calmOp at h ⊢
  split at hf <;> (try (cases hf; done)) <;> (rename_i e; rw [e] at h ⊢; simp only at h ⊢)
  · exact ⟨trivial, h⟩
  · exact ⟨trivial, h⟩
  · split at h
    · rename_i b hb
      rw [selV_iff] at h ⊢
      exact ⟨fun e => ⟨trivial, h.1 e⟩, fun e => ⟨trivial, h.2 e⟩⟩
    · exact h.elim
  · exact (det_bdV _ _ _).mono (fun d hk => ⟨trivial, hk⟩) h
  · exact (det_ncV _).mono (fun d hk => ⟨trivial, hk⟩) h
  · exact (det_binV _ _ _ _ _).mono (fun d hk => ⟨trivial, hk⟩) h
  · exact (det_unV _ _).mono (fun d hk => ⟨trivial, hk⟩) h
  · exact ⟨h.1, trivial, h.2⟩
  · exact (det_faV _ _ _ _).mono (fun d hk => ⟨trivial, hk⟩) h
  · exact (det_fieldV _ _ _ _).mono (fun d hk => ⟨trivial, hk⟩) h
  · exact (det_ixV _ _ _ _).mono (fun d hk => ⟨trivial, hk⟩) h
  · exact (det_exV _ _).mono (fun d hk => ⟨trivial, hk⟩) h
def isWild (wc : Option Tmp → Bool) (o : Oper) : Bool := match o.op with
  | .store _ _ _ => true
  | .mapUpdate _ _ _ _ => true
  | .call c => (match c.callee with
    | .builtin .append => true
    | .builtin .copy => true
    | .value _ => wc o.dst
    | _ => false)
  | _ => false
def fzOp (fl : Option Tmp → Bool) (o : Oper) : Bool := fl o.dst && (match o.op with
  | .load _ _ | .convert _ _ _ | .slice _ _ _ _ _ | .indexAddr _ _ _ => true
  | .call c => (match c.callee with
    | .builtin .len | .builtin .min | .builtin .max => true
    | _ => false)
  | _ => false)
def freeF (fl : Option Tmp → Bool) (o : Oper) : Bool := freeOp o || fzOp fl o
def hOf (fl : Option Tmp → Bool) (H : Heap) (o : Oper) : Heap := if fzOp fl o = true then Heap.none else H
theorem hOf_le {fl : Option Tmp → Bool} {H H' : Heap} {o : Oper} (h : H.le H') : (hOf fl H o).le H' := by
  unfold hOf
  split
  · exact Heap.le_none _
  · exact h
theorem wild_free {fl wc : Option Tmp → Bool} {o : Oper} (h : isWild wc o = true) : freeF fl o = false := by
  unfold isWild at h
  unfold freeF freeOp fzOp
  split at h
  · rename_i e; rw [e]; simp
  · rename_i e; rw [e]; simp
  · rename_i e
    rw [e]
    split at h <;> first
      | (rename_i e2; simp only [e2, Bool.and_false, Bool.or_false]; done)
      | (cases h; done)
  · cases h
theorem calm_fz {P : Program} {fl : Option Tmp → Bool} {G : Option Tmp → List D → D → Heap → Prop} {H : Heap} {s : St} {o : Oper} {K : D → Heap → Prop} (hf : fzOp fl o = true) (h : calmOp P G H s o K) : calmOp P G H s o fun d A => A = .none ∧ K d A := by
  unfold fzOp at hf
  rw [Bool.and_eq_true] at hf
  replace hf := hf.2
  unfold calmOp at h ⊢
  split at hf
  · rename_i e; rw [e] at h ⊢; simp only at h ⊢
    exact (det_ldV _ _ _ _).mono (fun d hk => ⟨trivial, hk⟩) h
  · rename_i e; rw [e] at h ⊢; simp only at h ⊢
    exact (det_cvV _ _ _ _ _).mono (fun d hk => ⟨trivial, hk⟩) h
  · rename_i e; rw [e] at h ⊢; simp only at h ⊢
    exact (det_slV _ _ _ _ _ _ _).mono (fun d hk => ⟨trivial, hk⟩) h
  · rename_i e; rw [e] at h ⊢; simp only at h ⊢
    exact (det_iaV _ _ _ _ _).mono (fun d hk => ⟨trivial, hk⟩) h
  · rename_i c e
    rw [e] at h ⊢
    simp only at h ⊢
    split at hf
    · rename_i e2
      rw [e2] at h ⊢
      simp only at h ⊢
      split at h
      · exact (det_lenV _ _ _ _).mono (fun d hk => ⟨trivial, hk⟩) h
      · exact h.elim
    · rename_i e2
      rw [e2] at h ⊢
      simp only at h ⊢
      exact (det_minV _).mono (fun d hk => ⟨trivial, hk⟩) h
    · rename_i e2
      rw [e2] at h ⊢
      simp only at h ⊢
      exact (det_maxV _).mono (fun d hk => ⟨trivial, hk⟩) h
    · cases hf
  · cases hf
theorem calm_noneF {P : Program} {fl : Option Tmp → Bool} {G : Option Tmp → List D → D → Heap → Prop} {H : Heap} {s : St} {o : Oper} {K : D → Heap → Prop} (hf : freeF fl o = true) (h : calmOp P G H s o K) : calmOp P G H s o fun d A => A = .none ∧ K d A := by
  unfold freeF at hf
  rw [Bool.or_eq_true] at hf
  rcases hf with hf | hf
  · exact calm_none hf h
  · exact calm_fz hf h
theorem gOp_noneF {P : Program} {fl : Option Tmp → Bool} {G : Option Tmp → List D → D → Heap → Prop} {H : Heap} {ops : Array Oper} {s : St} {o : Oper} {K : D → Heap → Prop} (hf : freeF fl o = true) (h : gOp P G (hOf fl H o) ops s o K) : gOp P G (hOf fl H o) ops s o fun d A => A = .none ∧ K d A := by
  unfold gOp at h ⊢
  split at h
  · exact calm_noneF hf h
  · split at h
    · split at h
      · rw [selW_iff] at h ⊢
        exact ⟨fun e => calm_noneF hf (h.1 e), fun e => ⟨rfl, h.2 e⟩⟩
      · exact ⟨rfl, h⟩
      · exact h.elim
    · exact h.elim
theorem gOp_freeF {P : Program} {fl : Option Tmp → Bool} {G : Option Tmp → List D → D → Heap → Prop} {H H' : Heap} {ops : Array Oper} {s : St} {o : Oper} (hf : freeF fl o = true) : gOp P G (hOf fl H o) ops s o = gOp P G (hOf fl H' o) ops s o := by
  unfold hOf
  by_cases h : fzOp fl o = true
  · rw [if_pos h, if_pos h]
  · rw [if_neg h, if_neg h]
    refine gOp_free ?_
    unfold freeF at hf
    rw [Bool.or_eq_true] at hf
    exact hf.resolve_right h
def wildOp (P : Program) (GW : Option Tmp → List D → Heap → D → Heap → Prop) (s : St) (o : Oper) (K : D → Heap → Prop) : Prop :=
  match o.op with
  | .store t x y => stV P s.H t (s.ev x) (s.ev y) fun H' => K (.val undef) H'
  | .mapUpdate t x i y => muV P s.H t (s.ev x) (s.ev i) (s.ev y) fun H' => K (.val undef) H'
  | .call c => (match c.callee with
    | .builtin .append => (match c.argTypes.toList, s.evs c.args with
      | [t, xt], [x, y] => (match tyi P xt with
        | some ⟨.int _, _, _, _⟩ => False
        | _ => apV P s.H t xt x y K)
      | _, _ => False)
    | .builtin .copy => (match c.argTypes.toList, s.evs c.args with
      | [t, _], [x, y] => cpyV P s.H t x y K
      | _, _ => False)
    | .value f => (match s.ev f with
      | .fn g caps => Does P g (s.evs c.args ++ caps) s.H (GW o.dst (s.evs c.args ++ caps) s.H) ∧ ∀ d H', GW o.dst (s.evs c.args ++ caps) s.H d H' → K d H'
      | _ => False)
    | _ => False)
  | _ => False
def gW (P : Program) (GW : Option Tmp → List D → Heap → D → Heap → Prop) (ops : Array Oper) (s : St) (o : Oper) (K : D → Heap → Prop) : Prop :=
  match o.guard with
  | none => wildOp P GW s o K
  | some (j, want) => (match dstOf ops j with
    | some t => (match s.fr t with
      | .val (.bool b) => selV (b == want) (wildOp P GW s o K) (K (.val undef) s.H)
      | .val (.tuple ⟨[]⟩) => K (.val undef) s.H
      | _ => False)
    | none => False)
theorem uni_newsP {H : Heap} {sz : Nat} {x : D} {F : List (List D) → (D → Heap → Prop) → Prop} (h : ∀ els, Uni (F els) ∧ Mono (F els)) : Uni (fun K => newsP H sz x fun els => F els K) ∧ Mono (fun K => newsP H sz x fun els => F els K) := by
  unfold newsP
  split
  · exact uni_and fun _ => h _
  · unfold elsP
    split
    · exact uni_and fun _ => h _
    · split
      · exact uni_and fun _ => uni_and fun _ => uni_and fun _ => uni_and fun _ => h _
      · exact uni_false
    · exact h _
    · exact h _
    · exact uni_false
theorem apV_uni (P : Program) (H : Heap) (t xt : TypeId) (s x : D) : Uni (apV P H t xt s x) ∧ Mono (apV P H t xt s x) := by
  unfold apV
  split
  · refine uni_and fun _ => ?_
    split
    · refine uni_and fun _ => uni_and fun _ => ?_
      refine uni_newsP fun els => ?_
      split
      · refine uni_and fun _ => ⟨fun K hK => ⟨fun e K' hK' => hK'.1 e, fun e b hb K' hK' => hK'.2 e b hb⟩, fun K K' hk hK => ⟨fun e => hk _ _ (hK.1 e), fun e b hb => hk _ _ (hK.2 e b hb)⟩⟩
      · refine uni_and fun _ => ⟨fun K hK => ⟨fun e K' hK' => hK'.1 e, fun e b hb K' hK' => hK'.2 e b hb⟩, fun K K' hk hK => ⟨fun e => hk _ _ (hK.1 e), fun e b hb => hk _ _ (hK.2 e b hb)⟩⟩
      · refine uni_and fun _ => uni_and fun _ => ?_
        split
        · exact uni_and fun _ => uni_and fun _ => uni_and fun _ => uni_and fun _ => ⟨fun K hK b o hb K' hK' => hK' b o hb, fun K K' hk hK b o hb => hk _ _ (hK b o hb)⟩
        · exact uni_false
      · refine uni_and fun _ => ?_
        split
        · exact uni_and fun _ => uni_and fun _ => uni_and fun _ => ⟨fun K hK K' hK' => hK', fun K K' hk hK => hk _ _ hK⟩
        · exact uni_false
      · exact uni_false
    · exact uni_false
  · exact uni_false
theorem stV_uni (P : Program) (H : Heap) (t : TypeId) (x y : D) : Uni (fun K => stV P H t x y fun H' => K (.val undef) H') ∧ Mono (fun K => stV P H t x y fun H' => K (.val undef) H') := by
  unfold stV
  split
  · refine uni_and fun _ => ?_
    split
    · refine uni_and fun _ => uni_and fun _ => ?_
      split
      · exact uni_and fun _ => ⟨fun K hK K' hK' => hK', fun K K' hk hK => hk _ _ hK⟩
      · exact uni_false
    · exact uni_false
  · exact uni_false
theorem muV_uni (P : Program) (H : Heap) (t : TypeId) (x i y : D) : Uni (fun K => muV P H t x i y fun H' => K (.val undef) H') ∧ Mono (fun K => muV P H t x i y fun H' => K (.val undef) H') := by
  unfold muV
  split
  · split
    · exact uni_and fun _ => ⟨fun K hK K' hK' => hK', fun K K' hk hK => hk _ _ hK⟩
    · exact uni_false
  · exact uni_false
theorem cpyV_uni (P : Program) (H : Heap) (t : TypeId) (x y : D) : Uni (cpyV P H t x y) ∧ Mono (cpyV P H t x y) := by
  unfold cpyV
  split
  · split
    · refine uni_and fun _ => uni_and fun _ => uni_and fun _ => uni_and fun _ => uni_and fun _ => ?_
      refine uni_newsP fun els => ?_
      exact uni_and fun _ => ⟨fun K hK K' hK' => hK', fun K K' hk hK => hk _ _ hK⟩
    · exact uni_false
  · exact uni_false
theorem wild_uni (P : Program) (GW : Option Tmp → List D → Heap → D → Heap → Prop) (s : St) (o : Oper) : Uni (wildOp P GW s o) ∧ Mono (wildOp P GW s o) := by
  unfold wildOp
  split
  · exact stV_uni _ _ _ _ _
  · exact muV_uni _ _ _ _ _ _
  · split
    · split
      · split
        · exact uni_false
        · exact apV_uni _ _ _ _ _ _
      · exact uni_false
    · split
      · exact cpyV_uni _ _ _ _ _
      · exact uni_false
    · split
      · exact ⟨fun K hK => ⟨hK.1, fun d A h K' hK' => hK'.2 d A h⟩, fun K K' hk hK => ⟨hK.1, fun d A h => hk _ _ (hK.2 d A h)⟩⟩
      · exact uni_false
    · exact uni_false
  · exact uni_false
theorem gW_uni (P : Program) (GW : Option Tmp → List D → Heap → D → Heap → Prop) (ops : Array Oper) (s : St) (o : Oper) : Uni (gW P GW ops s o) ∧ Mono (gW P GW ops s o) := by
  unfold gW
  split
  · exact wild_uni P GW s o
  · split
    · split
      · rename_i want _ _ _ _ _ b _
        simp only [selW_iff]
        obtain ⟨h1, h2⟩ := wild_uni P GW s o
        by_cases e : b = want
        · have e2 : ¬ b = !want := by cases b <;> cases want <;> simp at e ⊢
          exact ⟨fun K hK => ⟨fun _ => h2 _ _ (fun d A hh K' hK' => hh K' (hK'.1 e)) (h1 K (hK.1 e)), fun h => absurd h e2⟩, fun K K' hk hK => ⟨fun _ => h2 _ _ hk (hK.1 e), fun h => absurd h e2⟩⟩
        · have e2 : b = !want := by cases b <;> cases want <;> simp at e ⊢
          exact ⟨fun K hK => ⟨fun h => absurd h e, fun _ K' hK' => hK'.2 e2⟩, fun K K' hk hK => ⟨fun h => absurd h e, fun _ => hk _ _ (hK.2 e2)⟩⟩
      · exact uni_id _ _
      · exact uni_false
    · exact uni_false
def St.outW (s : St) (o : Oper) (d : D) (H' : Heap) : St := (s.withH H').put o.dst d
def vcW (P : Program) (fl wc : Option Tmp → Bool) (G : Option Tmp → List D → D → Heap → Prop) (GW : Option Tmp → List D → Heap → D → Heap → Prop) (ops : Array Oper) (Q : St → Prop) : Heap → List Oper → St → Prop
  | _, [], s => Q s
  | H, o :: rest, s => if isWild wc o = true then gW P GW ops s o fun d H' => vcW P fl wc G GW ops Q H' rest (s.outW o d H')
      else gOp P G (hOf fl H o) ops s o fun d A => Disj A s.H → vcW P fl wc G GW ops Q H rest (s.out o d A)
theorem wild_ev {P : Program} {GW : Option Tmp → List D → Heap → D → Heap → Prop} {s s' : St} {o : Oper} (hH : s'.H = s.H) (h : ∀ t ∈ o.op.operands.toList.flatMap tmpOf, s'.fr t = s.fr t) : wildOp P GW s' o = wildOp P GW s o := by
  have e1 : ∀ x ∈ o.op.operands.toList, s'.ev x = s.ev x := fun x hx => ev_eq fun t ht => h t (List.mem_flatMap.2 ⟨x, hx, ht⟩)
  funext K
  unfold wildOp
  have em : ∀ xs : Array Operand, (∀ x ∈ xs.toList, x ∈ o.op.operands.toList) → s'.evs xs = s.evs xs := fun xs hx => by
    unfold St.evs
    exact List.map_congr_left fun x hxs => e1 x (hx x hxs)
  cases ho : o.op <;> rw [ho] at e1 em <;> simp only [Op.operands] at e1 em ⊢
  case store t x y => rw [e1 x (by simp), e1 y (by simp), hH]
  case mapUpdate t x i y => rw [e1 x (by simp), e1 i (by simp), e1 y (by simp), hH]
  case call c =>
    have ea : s'.evs c.args = s.evs c.args := em _ fun x hx => by simp [Call.operands]; exact .inr (by simpa using hx)
    cases hc : c.callee with
    | value f =>
      have ef : s'.ev f = s.ev f := e1 f (by simp [Call.operands, hc])
      simp only [ea, ef, hH]
    | builtin b =>
      simp only [ea, hH]
      cases b <;> rfl
    | invoke r n => rfl
theorem gW_ev {P : Program} {GW : Option Tmp → List D → Heap → D → Heap → Prop} {ops : Array Oper} {s s' : St} {o : Oper} (hH : s'.H = s.H) (h : ∀ t ∈ Oper.reads ops o, s'.fr t = s.fr t) : gW P GW ops s' o = gW P GW ops s o := by
  have hc : wildOp P GW s' o = wildOp P GW s o := wild_ev hH fun t ht => h t (List.mem_append.2 (.inl ht))
  funext K
  unfold gW
  rw [hc, hH]
  cases hg : o.guard with
  | none => rfl
  | some g =>
    obtain ⟨j, want⟩ := g
    simp only
    cases hj : dstOf ops j with
    | none => rfl
    | some t =>
      have : s'.fr t = s.fr t := h t (List.mem_append.2 (.inr (by simp [hg, hj])))
      simp only [this]
theorem outW_fr {s : St} {o : Oper} {d : D} {A : Heap} {t : Nat} (h : o.dst ≠ some t) : (s.outW o d A).fr t = s.fr t := by
  unfold St.outW St.put
  cases ho : o.dst with
  | none => rfl
  | some u =>
    rw [ho] at h
    simp only
    rw [if_neg (fun e => h (by rw [e]))]
    rfl
theorem outW_H (s : St) (o : Oper) (d : D) (A : Heap) : (s.outW o d A).H = A := by unfold St.outW; rw [put_H]; rfl
theorem outW_comm {s : St} {o p : Oper} {d dp : D} {H' : Heap} (hne : ∀ t, p.dst = some t → o.dst ≠ some t) : (s.out o d .none).outW p dp H' = (s.outW p dp H').out o d .none := by
  have hH : ((s.out o d .none).outW p dp H').H = ((s.outW p dp H').out o d .none).H := by rw [outW_H, out_H, outW_H, Heap.add_none]
  have hfr : ((s.out o d .none).outW p dp H').fr = ((s.outW p dp H').out o d .none).fr := funext fun t => by
    by_cases hp : p.dst = some t
    · have ho := hne t hp
      rw [out_fr (o := o) ho]
      unfold St.outW St.put
      rw [hp]
      simp
    · rw [outW_fr (o := p) hp]
      by_cases ho : o.dst = some t
      · unfold St.out St.put
        rw [ho]
        simp
      · rw [out_fr ho, out_fr ho, outW_fr hp]
  have hdf : ((s.out o d .none).outW p dp H').df = ((s.outW p dp H').out o d .none).df := by
    unfold St.out St.outW
    simp only [put_df, withH_df]
  cases h1 : (s.out o d .none).outW p dp H'
  cases h2 : (s.outW p dp H').out o d .none
  rw [h1, h2] at hH hfr hdf
  simp only at hH hfr hdf
  subst hH hfr hdf
  rfl
section
variable {P : Program} {fl wc : Option Tmp → Bool} {G : Option Tmp → List D → D → Heap → Prop} {GW : Option Tmp → List D → Heap → D → Heap → Prop} {ops : Array Oper} {Q : St → Prop}
theorem free_wild {o : Oper} (h : freeF fl o = true) : isWild wc o = false := by
  cases e : isWild wc o with
  | false => rfl
  | true => rw [wild_free e] at h; cases h
theorem vcW_free {o : Oper} {d : D} (hf : freeF fl o = true) : ∀ {pre post : List Oper} {H : Heap} {s : St}, (∀ p ∈ pre, Indep ops p o) → vcW P fl wc G GW ops Q H (pre ++ o :: post) s →
    (∀ K, gOp P G (hOf fl H o) ops s o K → K d .none) → vcW P fl wc G GW ops Q H (pre ++ post) (s.out o d .none)
  | [], post, H, s, _, h, hout => by
    simp only [List.nil_append, vcW, free_wild hf, Bool.false_eq_true, if_false] at h ⊢
    exact hout _ h (Disj.none _)
  | p :: pre, post, H, s, hi, h, hout => by
    have hip := hi p (by simp)
    simp only [List.cons_append, vcW] at h ⊢
    split at h
    · rename_i hw
      rw [if_pos hw]
      have hev : gW P GW ops (s.out o d .none) p = gW P GW ops s p := gW_ev (by rw [out_H, Heap.add_none]) fun t ht => out_fr fun e => (hip.2 t e) ht
      rw [hev]
      refine (gW_uni P GW ops s p).2 _ _ (fun dp H' hk => ?_) h
      rw [outW_comm fun t ht => (hip.1 t ht).2]
      refine vcW_free hf (fun q hq => hi q (by simp [hq])) hk fun K hK => hout K ?_
      have hev2 : gOp P G (hOf fl H' o) ops (s.outW p dp H') o = gOp P G (hOf fl H' o) ops s o := g_ev fun t ht => outW_fr fun e => (hip.1 t e).1 ht
      rw [hev2, gOp_freeF (H' := H) hf] at hK
      exact hK
    · rename_i hw
      rw [if_neg hw]
      obtain ⟨hu, hm⟩ := g_uni P G (hOf fl H p) ops s p
      have hev : gOp P G (hOf fl H p) ops (s.out o d .none) p = gOp P G (hOf fl H p) ops s p := g_ev fun t ht => out_fr fun e => (hip.2 t e) ht
      rw [hev]
      refine hm _ _ (fun dp Ap hk hAp => ?_) h
      rw [out_H, Heap.add_none] at hAp
      have h2 := hk hAp
      rw [out_comm (fun t ht => (hip.1 t ht).2) (by rw [Heap.add_none]; exact hAp)]
      refine vcW_free hf (fun q hq => hi q (by simp [hq])) h2 fun K hK => hout K ?_
      have hev2 : gOp P G (hOf fl H o) ops (s.out p dp Ap) o = gOp P G (hOf fl H o) ops s o := g_ev fun t ht => out_fr fun e => (hip.1 t e).1 ht
      rwa [hev2] at hK
theorem vcW_wild {o : Oper} {d : D} {H1 : Heap} (hw : isWild wc o = true) : ∀ {pre post : List Oper} {H : Heap} {s : St}, (∀ p ∈ pre, Indep ops p o ∧ freeF fl p = true) → vcW P fl wc G GW ops Q H (pre ++ o :: post) s →
    (∀ K, gW P GW ops s o K → K d H1) → vcW P fl wc G GW ops Q H1 (pre ++ post) (s.outW o d H1)
  | [], post, H, s, _, h, hout => by
    simp only [List.nil_append, vcW, if_pos hw] at h ⊢
    exact hout _ h
  | p :: pre, post, H, s, hi, h, hout => by
    obtain ⟨hip, hpf⟩ := hi p (by simp)
    simp only [List.cons_append, vcW, free_wild hpf, Bool.false_eq_true, if_false] at h ⊢
    have hev : gOp P G (hOf fl H1 p) ops (s.outW o d H1) p = gOp P G (hOf fl H1 p) ops s p := g_ev fun t ht => outW_fr fun e => (hip.2 t e) ht
    rw [hev, gOp_freeF (H' := H) hpf]
    refine (g_uni P G (hOf fl H p) ops s p).2 _ _ (fun dp Ap hk hAp => ?_) (gOp_noneF hpf h)
    obtain ⟨rfl, hk⟩ := hk
    have h2 := hk (Disj.none _)
    rw [← outW_comm fun t ht e => (hip.1 t e).2 ht]
    refine vcW_wild hw (fun q hq => hi q (by simp [hq])) h2 fun K hK => hout K ?_
    have hev2 : gW P GW ops (s.out p dp .none) o = gW P GW ops s o := gW_ev (by rw [out_H, Heap.add_none]) fun t ht => out_fr fun e => (hip.1 t e).1 ht
    rwa [hev2] at hK
theorem vcW_calm {o : Oper} {d : D} {A : Heap} (hc : isWild wc o = false) : ∀ {pre post : List Oper} {H : Heap} {s : St}, (∀ p ∈ pre, Indep ops p o ∧ isWild wc p = false) → vcW P fl wc G GW ops Q H (pre ++ o :: post) s →
    (∀ K, gOp P G (hOf fl H o) ops s o K → K d A) → Disj A s.H → vcW P fl wc G GW ops Q H (pre ++ post) (s.out o d A)
  | [], post, H, s, _, h, hout, hA => by
    simp only [List.nil_append, vcW, hc, Bool.false_eq_true, if_false] at h ⊢
    exact hout _ h hA
  | p :: pre, post, H, s, hi, h, hout, hA => by
    obtain ⟨hip, hpc⟩ := hi p (by simp)
    simp only [List.cons_append, vcW, hpc, Bool.false_eq_true, if_false] at h ⊢
    obtain ⟨hu, hm⟩ := g_uni P G (hOf fl H p) ops s p
    have hev : gOp P G (hOf fl H p) ops (s.out o d A) p = gOp P G (hOf fl H p) ops s p := g_ev fun t ht => out_fr fun e => (hip.2 t e) ht
    rw [hev]
    refine hm _ _ (fun dp Ap hcan hAp => ?_) (hu _ h)
    have h1 := hcan _ h
    rw [out_H] at hAp
    have h2 := h1 (disj_of_add hAp)
    rw [out_comm (fun t ht => (hip.1 t ht).2) hAp]
    have hev2 : gOp P G (hOf fl H o) ops (s.out p dp Ap) o = gOp P G (hOf fl H o) ops s o := g_ev fun t ht => out_fr fun e => (hip.1 t e).1 ht
    refine vcW_calm hc (fun q hq => hi q (by simp [hq])) h2 (by rw [hev2]; exact hout) ?_
    rw [out_H]
    exact disj_swap hA hAp
end
end Go.Proofs.YtgfhgeelfaalmaaGreatDoor
