/- A program logic over descriptions of values. Part 8: slices that are built, made, cut, appended to. -/
import Derived.Test.YtdcnpkpibbefhaaL7
namespace Go.Proofs.Ytdcnpkpibbefhaa
open Go.RowKit
set_option linter.unusedVariables false

/-- The cells of rows, one behind the other. -/
theorem rowsAt_vals {w : World} {S : Nat → Prop} {b sz : Nat} : ∀ {els : List (List D)} {o : Nat}, rowsAt w S b sz o els → ∃ vs, cellsAll w S els.flatten vs ∧ vs.length = els.length * sz ∧ ∀ (j : Nat) (v : Value), vs[j]? = some v → w.cell? ⟨b, o + j, none⟩ = some v
  | [], _, _ => ⟨[], by simp [cellsAll], by simp, fun j v h => by simp at h⟩
  | e :: els, o, h => by
    simp only [rowsAt] at h
    obtain ⟨h1, h2, h3⟩ := h
    obtain ⟨vs, h4, h5⟩ := cellsAt_vals h2
    obtain ⟨us, h6, h7, h8⟩ := rowsAt_vals h3
    have hl := cellsAll_length h4
    refine ⟨vs ++ us, by rw [List.flatten_cons]; exact cellsAll_append h4 h6, by simp [h7, Nat.add_mul]; omega, fun j v hj => ?_⟩
    rcases Nat.lt_or_ge j vs.length with hlt | hge
    · rw [List.getElem?_append_left hlt] at hj; exact h5 j v hj
    · rw [List.getElem?_append_right hge] at hj
      have := h8 _ v hj
      rwa [show o + sz + (j - vs.length) = o + j by omega] at this
theorem flat_get {sz : Nat} : ∀ {els : List (List D)} {i : Nat} {el : List D}, (∀ e ∈ els, e.length = sz) → els[i]? = some el → (els.flatten.drop (i * sz)).take sz = el
  | [], i, el, _, h => by simp at h
  | e :: els, 0, el, hs, h => by
    simp at h
    subst h
    have := hs e (by simp)
    simp [← this]
  | e :: els, i + 1, el, hs, h => by
    have h1 := hs e (by simp)
    have h2 := flat_get (fun x hx => hs x (by simp [hx])) (show els[i]? = some el by simpa using h)
    rw [List.flatten_cons, Nat.add_mul, Nat.one_mul, List.drop_append, List.drop_of_length_le (by omega), h1, List.nil_append]
    simpa [Nat.add_sub_cancel] using h2
theorem flat_length {sz : Nat} : ∀ {els : List (List D)}, (∀ e ∈ els, e.length = sz) → els.flatten.length = els.length * sz
  | [], _ => by simp
  | e :: els, hs => by
    have := flat_length (els := els) fun x hx => hs x (by simp [hx])
    rw [List.flatten_cons, List.length_append, this, hs e (by simp), List.length_cons, Nat.add_mul]
    omega
/-- Rows that lie in a known block from offset o on. -/
theorem rowsAt_block {w : World} {S : Nat → Prop} {b sz o : Nat} {els : List (List D)} {vs : List Value} (hs : ∀ e ∈ els, e.length = sz) (hv : cellsAll w S els.flatten vs) (hc : ∀ (j : Nat) (v : Value), vs[j]? = some v → w.cell? ⟨b, o + j, none⟩ = some v) : rowsAt w S b sz o els :=
  rowsAt_of fun i el hi => ⟨hs el (List.mem_of_getElem? hi), by
    have h1 := cellsAll_take sz (cellsAll_drop (i * sz) hv)
    rw [flat_get hs hi] at h1
    refine cellsAt_of h1 fun j v hj => ?_
    rw [List.getElem?_take] at hj
    split at hj
    · rw [List.getElem?_drop] at hj
      rw [Nat.add_assoc]
      exact hc _ v hj
    · cases hj⟩
theorem rowsAt_sized {w : World} {S : Nat → Prop} {b sz o : Nat} {els : List (List D)} (h : rowsAt w S b sz o els) : ∀ e ∈ els, e.length = sz := fun e he => by
  obtain ⟨i, hi⟩ := List.getElem?_of_mem he
  exact (rowsAt_get h i e hi).1

/-- A slice literal whose elements all stand there, in their order. -/
def rowsD (sz : Nat) : List (Nat × D) → Nat → Option (List (List D))
  | [], _ => some []
  | (i, d) :: ds, k => if i = k then (match d.cells, rowsD sz ds (k + 1) with
    | some c, some els => if c.length = sz then some (c :: els) else none
    | _, _ => none) else none
def bsV (P : Program) (H : Heap) (t : TypeId) (len : Nat) (ds : List (Nat × D)) (K : D → Heap → Prop) : Prop :=
  match tyi P t with
  | some ⟨.slice e, _, _, _⟩ => (match tyi P e with
    | some ⟨_, sz, _, some zs⟩ => zs.length = sz ∧ ds.length = len ∧ len * sz ≤ 16777216 ∧ (match rowsD sz ds 0 with
      | some els => ∀ b, H b = none → K (.os b 0 sz 0 len) (H.upd b (.row e 0 sz els))
      | none => False)
    | _ => False)
  | _ => False
theorem rowsD_spec {w : World} {S : Nat → Prop} {sz : Nat} : ∀ {ds : List (Nat × D)} {k : Nat} {els : List (List D)} {vs : List (Nat × Value)}, rowsD sz ds k = some els → partsIs w S ds vs →
    els.length = ds.length ∧ (∀ e ∈ els, e.length = sz) ∧ ∀ (us : Array Value), (k + ds.length) * sz ≤ us.size → ∃ us', Instr.fill (fun i => some (i * sz, sz)) us vs = some us' ∧ us'.size = us.size ∧ us'.toList.take (k * sz) = us.toList.take (k * sz) ∧ cellsAll w S els.flatten ((us'.toList.drop (k * sz)).take (ds.length * sz))
  | [], k, els, vs, h, hp => by
    simp only [rowsD] at h
    injection h with h
    subst h
    simp only [partsIs] at hp
    subst hp
    exact ⟨rfl, by simp, fun us _ => ⟨us, rfl, rfl, rfl, by simp [cellsAll]⟩⟩
  | (i, d) :: ds, k, els, vs, h, hp => by
    simp only [rowsD] at h
    split at h
    · rename_i hik
      subst hik
      split at h
      · rename_i c els' hc hr
        split at h
        · rename_i hcl
          injection h with h
          subst h
          simp only [partsIs] at hp
          obtain ⟨v, vs', rfl, h1, h2⟩ := hp
          obtain ⟨h3, h4, h5⟩ := rowsD_spec hr h2
          have hu := D.cells_is h1 hc
          have hl := cellsAll_length hu
          have e1 : v.cells.toList.length = v.cells.size := Array.length_toList
          refine ⟨by simp [h3], by simpa [hcl] using h4, fun us hus => ?_⟩
          have hexp : (i + (ds.length + 1)) * sz = i * sz + sz + ds.length * sz := by rw [Nat.add_mul, Nat.add_mul]; omega
          simp only [List.length_cons, hexp] at hus
          have hfl := fill_one (i * sz) v us (by omega)
          have hsz2 : (v.cells.zipIdx.foldl (fun cs (x : Value × Nat) => cs.setIfInBounds (i * sz + x.2) x.1) us).size = us.size := by
            rw [← Array.length_toList, hfl]
            simp
            omega
          obtain ⟨us', h6, h7, h8, h9⟩ := h5 (v.cells.zipIdx.foldl (fun cs (x : Value × Nat) => cs.setIfInBounds (i * sz + x.2) x.1) us) (by
            rw [hsz2, Nat.add_mul, Nat.add_mul]; omega)
          have hk1 : (i + 1) * sz = i * sz + sz := by rw [Nat.add_mul]; omega
          rw [hk1] at h8 h9
          refine ⟨us', ?_, by rw [h7, hsz2], ?_, ?_⟩
          · simp only [Instr.fill]
            have hn : ¬ (decide (v.cells.size ≠ sz) || decide (i * sz + v.cells.size > us.size)) = true := by simp; omega
            rw [if_neg hn]
            exact h6
          · have := congrArg (List.take (i * sz)) h8
            rw [List.take_take, List.take_take, hfl] at this
            rw [show min (i * sz) (i * sz + sz) = i * sz by omega] at this
            rw [this, List.append_assoc, List.take_append_of_le_length (by simp; omega), List.take_take, Nat.min_self]
          · have hmid : (us'.toList.drop (i * sz)).take sz = v.cells.toList := by
              have := congrArg (fun l => (l.drop (i * sz))) h8
              simp only [List.drop_take] at this
              rw [show i * sz + sz - i * sz = sz by omega, hfl] at this
              rw [this, List.append_assoc, List.drop_append, List.length_take, Array.length_toList]
              rw [List.drop_of_length_le (by simp; omega), show i * sz - min (i * sz) us.size = 0 by omega, List.nil_append, List.drop_zero, List.take_append_of_le_length (by omega), List.take_of_length_le (by omega)]
            have hsplit : (us'.toList.drop (i * sz)).take ((ds.length + 1) * sz) = v.cells.toList ++ (us'.toList.drop (i * sz + sz)).take (ds.length * sz) := by
              rw [← hmid, Nat.add_mul, Nat.one_mul, Nat.add_comm (ds.length * sz) sz, List.take_add, List.drop_drop]
            rw [List.length_cons, hsplit, List.flatten_cons]
            exact cellsAll_append hu h9
        · cases h
      · cases h
    · cases h
theorem run_bsV {P : Program} {H : Heap} {w : World} (hH : HOk w H) {t : TypeId} {len : Nat} {ds : List (Nat × D)} {vs : Array (Nat × Value)} {K : D → Heap → Prop} (h : bsV P H t len ds K) (hx : partsIs w H.others ds vs.toList) :
    ∃ r d' w' H', (Instr.buildSlice t len vs).run P w = .ok r w' ∧ D.is w' H'.others d' r ∧ HOk w' H' ∧ Ev H w H' w' ∧ K d' H' := by
  unfold bsV at h
  split at h
  · rename_i e _ _ _ hT
    split at h
    · rename_i dE sz byE zs hE
      obtain ⟨hzl, hlen, hle, h⟩ := h
      split at h
      · rename_i els hels
        obtain ⟨d, i, a1, a2, a3⟩ := tyi_spec hT
        injection a3 with a3
        cases d <;> simp [tdOf] at a3
        subst a3
        obtain ⟨z, hz, hzc⟩ := run_zero hE rfl w
        obtain ⟨h1, h2, h3⟩ := rowsD_spec hels hx
        obtain ⟨zero, hzero⟩ : ∃ zero : Array Value, zero = if len * sz = 0 then #[] else z.cells := ⟨_, rfl⟩
        obtain ⟨us', h4, h5, _, h6⟩ := h3 ((Array.range (len * sz)).map (zero[· % zero.size]!)) (by simp [hlen])
        rw [Nat.zero_mul, List.drop_zero, hlen] at h6
        have h7 : us'.toList.take (len * sz) = us'.toList := List.take_of_length_le (by rw [Array.length_toList, h5]; simp)
        rw [h7] at h6
        refine ⟨.slice (some ⟨w.heap.size, 0, none⟩) len len, _, w.alloc (Obj.cells us' e), _, ?_, ?_, ?_, ev_alloc _ _ hH, h w.heap.size (fresh_none hH)⟩
        · unfold Instr.buildSlice
          simp only [Sem.run_bind, run_under a1, Result.andThen, run_size hE]
          rw [if_neg (by omega)]
          by_cases h0 : len * sz = 0
          · rw [if_pos h0] at hzero ⊢
            subst hzero
            simp only [Sem.run_bind, Sem.run_pure, Result.andThen, h4, newRow, newObj, Sem.run]
            rfl
          · rw [if_neg h0] at hzero ⊢
            subst hzero
            simp only [Sem.run_bind, hz, Sem.run_pure, Result.andThen, h4, newRow, newObj, Sem.run]
            rfl
        · simp only [D.is]
          refine ⟨_, _, rfl, Nat.le_refl _, ?_⟩
          rcases Nat.eq_zero_or_pos len with h0 | h0
          · exact .inl h0
          · right
            refine ⟨by simp, us', e, (0, 0), heap_alloc_new w _, ?_⟩
            rw [h5]
            simp
        · have := row_alloc (vs := us'.toList) hH e sz els h6 h2 (by rw [h1, hlen, Array.length_toList, h5]; simp)
          simpa using this
      · exact h.elim
    · exact h.elim
  · exact h.elim
end Go.Proofs.Ytdcnpkpibbefhaa
