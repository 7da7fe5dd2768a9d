/- A program logic over descriptions of values. Part 13: each operation that computes has one outcome; more own blocks do no harm. -/
import Derived.Test.YtdcnpkpibbefhaaLC
namespace Go.Proofs.Ytdcnpkpibbefhaa
open Go.RowKit
set_option linter.unusedVariables false
set_option linter.unusedSimpArgs false

/-- Under a condition, one outcome. -/
def Det (F : (D → Prop) → Prop) : Prop := ∃ (p : Prop) (d : D), ∀ K : D → Prop, F K ↔ (p ∧ K d)
theorem det_id (d : D) : Det fun K => K d := ⟨True, d, fun K => by simp⟩
theorem det_false : Det fun _ => False := ⟨False, default, fun K => by simp⟩
theorem det_and {p : Prop} {F : (D → Prop) → Prop} (h : p → Det F) : Det fun K => p ∧ F K := by
  by_cases hp : p
  · obtain ⟨q, d, hq⟩ := h hp
    exact ⟨q, d, fun K => by simp only [hp, true_and]; exact hq K⟩
  · exact ⟨False, default, fun K => by simp [hp]⟩
theorem det_ite {c : Prop} [Decidable c] {F G : (D → Prop) → Prop} (h : c → Det F) (h' : ¬ c → Det G) : Det fun K => if c then F K else G K := by
  by_cases hc : c
  · simpa only [if_pos hc] using h hc
  · simpa only [if_neg hc] using h' hc
theorem det_bInt (op : BinOp) (k : IntKind) (a b : Int) : Det (bInt op k a b) := by
  unfold bInt
  cases op <;> first | exact det_id _ | exact det_and fun _ => det_id _ | exact det_false
theorem det_bStr (op : BinOp) (a b : ByteArray) : Det (bStr op a b) := by
  unfold bStr
  cases op <;> first | exact det_id _ | exact det_and fun _ => det_id _ | exact det_false
theorem det_nilOp (op : BinOp) (b : Bool) : Det (nilOp op b) := by
  unfold nilOp
  cases op <;> first | exact det_id _ | exact det_false
theorem det_bNilP (P : Program) (op : BinOp) (t : TypeId) (x : D) : Det (bNilP P op t x) := by
  unfold bNilP
  split
  · exact det_nilOp _ _
  · exact det_false
theorem det_bNilS (P : Program) (op : BinOp) (t : TypeId) (x : D) : Det (bNilS P op t x) := by
  unfold bNilS
  split
  · exact det_nilOp _ _
  · exact det_false
theorem det_bNilM (P : Program) (op : BinOp) (t : TypeId) (x : D) : Det (bNilM P op t x) := by
  unfold bNilM
  split
  · exact det_nilOp _ _
  · exact det_false
theorem det_binV (P : Program) (op : BinOp) (t : TypeId) (x y : D) : Det (binV P op t x y) := by
  unfold binV
  split
  · split
    · exact det_and fun _ => det_id _
    · exact det_and fun _ => det_id _
    · exact det_and fun _ => det_bInt _ _ _ _
  · exact det_bStr _ _ _
  · refine det_and fun _ => ?_
    split
    · exact det_id _
    · exact det_id _
    · exact det_false
  · exact det_bNilP _ _ _ _
  · exact det_bNilS _ _ _ _
  · exact det_bNilM _ _ _ _
  · exact det_false
theorem det_unV (op : UnOp) (x : D) : Det (unV op x) := by
  unfold unV
  split
  · exact det_id _
  · exact det_id _
  · exact det_id _
  · exact det_false
theorem det_elsP (H : Heap) (sz : Nat) (x : D) (F : List (List D) → (D → Prop) → Prop) (h : ∀ els, Det (F els)) : Det fun K => elsP H sz x fun els => F els K := by
  unfold elsP
  split
  · exact det_and fun _ => h _
  · split
    · exact det_and fun _ => det_and fun _ => det_and fun _ => det_and fun _ => h _
    · exact det_false
  · exact h _
  · exact h _
  · exact det_false
theorem det_cvV (P : Program) (H : Heap) (a b : TypeId) (x : D) : Det (cvV P H a b x) := by
  unfold cvV
  split
  · split
    · exact det_id _
    · exact det_id _
    · split
      · refine det_elsP H 1 _ (fun els K => match bytesOf els with | some l => K (.val (.string (bstr l))) | none => False) fun els => ?_
        split
        · exact det_id _
        · exact det_false
      · exact det_false
    · exact det_false
  · exact det_false
theorem det_partV (P : Program) (t : TypeId) (cs : List D) (off : Nat) : Det (partV P t cs off) := by
  unfold partV
  split
  · refine det_ite (fun _ => det_id _) fun _ => ?_
    split
    · exact det_id _
    · exact det_false
  · exact det_false
theorem det_fieldV (P : Program) (t : TypeId) (x : D) (f : Nat) : Det (fieldV P t x f) := by
  unfold fieldV
  split
  · exact det_partV _ _ _ _
  · exact det_false
theorem det_faV (P : Program) (t : TypeId) (x : D) (f : Nat) : Det (faV P t x f) := by
  unfold faV
  split
  · split
    · refine det_and fun _ => ?_
      split
      · exact det_id _
      · exact det_id _
      · exact det_false
    · exact det_false
  · exact det_false
theorem det_iaV (P : Program) (H : Heap) (t : TypeId) (x ix : D) : Det (iaV P H t x ix) := by
  unfold iaV
  split
  · split
    · split
      · split
        · refine det_and fun _ => det_and fun _ => ?_
          split
          · exact det_id _
          · exact det_false
        · exact det_and fun _ => det_and fun _ => det_and fun _ => det_id _
        · exact det_false
      · exact det_false
    · split
      · refine det_and fun _ => det_and fun _ => ?_
        split
        · exact det_id _
        · exact det_id _
        · exact det_false
      · exact det_false
    · exact det_false
  · exact det_false
theorem det_ixV (P : Program) (t : TypeId) (x ix : D) : Det (ixV P t x ix) := by
  unfold ixV
  split
  · split
    · split
      · exact det_and fun _ => det_and fun _ => det_partV _ _ _ _
      · exact det_false
    · refine det_and fun _ => ?_
      split
      · exact det_id _
      · exact det_false
    · exact det_false
  · exact det_false
theorem det_ldC (ag : Bool) (sz : Nat) (cs : List D) : Det (ldC ag sz cs) := by
  unfold ldC
  refine det_ite (fun _ => det_ite (fun _ => det_id _) fun _ => det_and fun _ => det_id _) fun _ => ?_
  split
  · exact det_id _
  · exact det_false
theorem det_ldV (P : Program) (H : Heap) (t : TypeId) (x : D) : Det (ldV P H t x) := by
  unfold ldV
  split
  · split
    · exact det_ldC _ _ _
    · split
      · refine det_and fun _ => det_and fun _ => ?_
        split
        · exact det_ldC _ _ _
        · exact det_false
      · exact det_false
    · exact det_false
  · exact det_false
theorem det_slV (P : Program) (H : Heap) (t : TypeId) (x : D) (lo hi mx : Option D) : Det (slV P H t x lo hi mx) := by
  unfold slV
  split
  · split
    · split
      · split
        · exact det_and fun _ => det_and fun _ => det_and fun _ => det_and fun _ => det_id _
        · exact det_false
      · split
        · exact det_and fun _ => det_and fun _ => det_and fun _ => det_and fun _ => det_id _
        · exact det_false
      · split
        · exact det_and fun _ => det_and fun _ => det_id _
        · exact det_false
      · split
        · exact det_and fun _ => det_and fun _ => det_id _
        · exact det_false
      · split
        · exact det_and fun _ => det_and fun _ => det_and fun _ => det_and fun _ => det_id _
        · exact det_false
      · exact det_false
    · split
      · split
        · exact det_id _
        · exact det_id _
        · exact det_id _
        · exact det_id _
        · exact det_false
      · exact det_false
    · exact det_false
  · split
    · split
      · exact det_and fun _ => det_and fun _ => det_and fun _ => det_id _
      · exact det_false
    · exact det_false
  · split
    · split
      · exact det_and fun _ => det_and fun _ => det_and fun _ => det_and fun _ => det_and fun _ => det_id _
      · exact det_false
    · exact det_false
  · exact det_false
theorem det_bdV (P : Program) (t : TypeId) (ds : List (Nat × D)) : Det (bdV P t ds) := by
  unfold bdV
  split
  · refine det_and fun _ => det_and fun _ => ?_
    split
    · exact det_id _
    · exact det_false
  · exact det_false
theorem det_lenV (P : Program) (H : Heap) (t : TypeId) (x : D) : Det (lenV P H t x) := by
  unfold lenV
  split
  · split
    · exact det_id _
    · exact det_id _
    · exact det_id _
    · exact det_id _
    · exact det_id _
    · exact det_id _
    · exact det_id _
    · split
      · exact det_id _
      · exact det_false
    · exact det_false
  · exact det_false
theorem det_minV (xs : List D) : Det (minV xs) := by
  unfold minV
  split
  · exact det_id _
  · exact det_false
theorem det_maxV (xs : List D) : Det (maxV xs) := by
  unfold maxV
  split
  · exact det_id _
  · exact det_false
theorem det_ncV (x : D) : Det (ncV x) := by
  unfold ncV
  split
  · exact det_id _
  · exact det_id _
  · exact det_id _
  · exact det_false
theorem det_exV (x : D) (i : Nat) : Det (exV x i) := by
  unfold exV
  split
  · split
    · exact det_id _
    · exact det_false
  · exact det_false

theorem elsP_le {H H' : Heap} (hle : H.le H') {sz : Nat} {x : D} {K : List (List D) → Prop} (h : elsP H sz x K) : elsP H' sz x K := by
  unfold elsP at h ⊢
  split at h
  · exact h
  · split at h
    · rename_i hb
      rw [hle _ _ hb]
      exact h
    · exact h.elim
  · exact h
  · exact h
  · exact h.elim
theorem ldV_le {P : Program} {H H' : Heap} (hle : H.le H') {t : TypeId} {x : D} {K : D → Prop} (h : ldV P H t x K) : ldV P H' t x K := by
  unfold ldV at h ⊢
  split at h
  · rename_i hT
    split at h
    · exact h
    · split at h
      · rename_i hb
        simp only [hle _ _ hb]
        exact h
      · exact h.elim
    · exact h.elim
  · exact h.elim
theorem lenV_le {P : Program} {H H' : Heap} (hle : H.le H') {t : TypeId} {x : D} {K : D → Prop} (h : lenV P H t x K) : lenV P H' t x K := by
  unfold lenV at h ⊢
  split at h
  · split at h <;> first
      | exact h
      | exact h.elim
      | skip
    split at h
    · rename_i hb
      simp only [hle _ _ hb]
      exact h
    · exact h.elim
  · exact h.elim
theorem cvV_le {P : Program} {H H' : Heap} (hle : H.le H') {a b : TypeId} {x : D} {K : D → Prop} (h : cvV P H a b x K) : cvV P H' a b x K := by
  unfold cvV at h ⊢
  split at h
  · split at h
    · exact h
    · exact h
    · split at h
      · exact elsP_le hle h
      · exact h.elim
    · exact h.elim
  · exact h.elim
end Go.Proofs.Ytdcnpkpibbefhaa
