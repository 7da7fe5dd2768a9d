/- Lemmas and contracts of functions, several texts in one: HE. -/
import Derived.Test.YtgfhgeelfaalmaaGreatDoorK06
import Derived.Test.YtgfhgeelfaalmaaGreatDoorK07
namespace Go.Proofs.YtgfhgeelfaalmaaGreatDoor
open Go.RowKit
set_option maxRecDepth 100000
set_option linter.unusedVariables false
set_option linter.unusedSimpArgs false
def EqI (l m : List Int) (i : Nat) (s : St) : Prop := s.df = [] ∧ s.fr 0 = .seq 1 (l.map iD) ∧ s.fr 1 = .seq 1 (m.map iD) ∧ s.fr 12 = i64 l.length ∧ s.fr 13 = i64 i ∧ s.H = Heap.none ∧ l.take i = m.take i
theorem equalI_N (l m : List Int) (hl : l.length ≤ 140737488351232) : Does Tryz.prog 124 [.seq 1 (l.map iD), .seq 1 (m.map iD)] .none fun d _ => d = .val (.bool (decide (l = m))) := by
  have hll : (List.map iD l).length = l.length := List.length_map _
  have hml : (List.map iD m).length = m.length := List.length_map _
  refine does_of _ _ Tryz.func124 rfl rfl Tryz.ntmps124 Tryz.results124 (by simp only [List.length_cons, List.length_nil]; omega) fun w0 g0 Q hret => ?_
  by_cases hlm : l.length = m.length
  case neg =>
    have q : ((l.length : Int) = (m.length : Int)) = False := eq_false (by omega)
    refine tq (cj4 @i64.eq_1 hll hml q) ?_; intro Nx hNx Gx hGx
    refine rt hret @i64.eq_1 ?_
    exact ⟨_, Heap.le_refl _, by rw [decide_eq_false fun e => hlm (by rw [e])]⟩
  have q : ((l.length : Int) = (m.length : Int)) = True := eq_true (by omega)
  have hmm : (m.length : Int) = (l.length : Int) := by omega
  refine tq (cj4 @i64.eq_1 hll hml q) ?_; intro Nx hNx Gx hGx
  refine W_loopN l.length (EqI l m) ⟨rfl, rfl, rfl, rfl, rfl, rfl, by simp⟩ ?_
  rintro i s hi ⟨hdf, f0, f1, f12, f13, hH, htk⟩
  have hx : (i : Int).toNat = i := Int.toNat_natCast _
  have h00 : (0 : Int) ≤ (i : Int) := Int.natCast_nonneg _
  by_cases hil : i < l.length
  case neg =>
    have q1 : ((i : Int) < (l.length : Int)) = False := eq_false (by omega)
    rw [List.take_of_length_le (by omega), List.take_of_length_le (by omega)] at htk
    refine tq (cj4 f12 f13 @i64.eq_1 q1) ?_; intro Nx hNx Gx hGx
    refine rt hret hdf ?_
    exact ⟨_, Heap.le_refl _, by rw [decide_eq_true htk]⟩
  have q1 : ((i : Int) < (l.length : Int)) = True := eq_true (by omega)
  have him : i < m.length := by omega
  have hgi := get_ints hil
  have hgm := get_ints him
  have w3 : IntKind.i64.wrap ((i : Int) + 1) = ((i + 1 : Nat) : Int) := by rw [wrap_i64_of (by omega)]; omega
  by_cases h2 : l[i] = m[i]
  · have q2 : (l[i] = m[i]) = True := eq_true h2
    refine tq (cj4 f12 f13 @i64.eq_1 q1) ?_; intro Nx hNx Gx hGx
    refine W_drawE (fun _ _ _ _ => False) (by kernel_rfl) (by kernel_rfl) (by kernel_rfl) fun Nx hNx => ?_; refine dst (cj12 f0 f1 @i64.eq_1 hll hml hgi hgm hx h00 hil him q2) ?_; intro Nx hNx Gx hGx
    refine tq (cj4 f13 @i64.eq_1 w3 q2) ?_; intro Nx hNx Gx hGx
    refine ⟨hil, hdf, f0, f1, f12, rfl, hH, ?_⟩
    rw [List.take_succ_eq_append_getElem hil, List.take_succ_eq_append_getElem him, htk, h2]
  · have q2 : (l[i] = m[i]) = False := eq_false h2
    refine tq (cj4 f12 f13 @i64.eq_1 q1) ?_; intro Nx hNx Gx hGx
    refine W_drawE (fun _ _ _ _ => False) (by kernel_rfl) (by kernel_rfl) (by kernel_rfl) fun Nx hNx => ?_; refine dst (cj12 f0 f1 @i64.eq_1 hll hml hgi hgm hx h00 hil him q2) ?_; intro Nx hNx Gx hGx
    refine tq (cj4 f13 @i64.eq_1 w3 q2) ?_; intro Nx hNx Gx hGx
    refine rt hret hdf ?_
    exact ⟨_, Heap.le_refl _, by rw [decide_eq_false]; rintro rfl; exact h2 rfl⟩
theorem equalI_at (H : Heap) (l m : List Int) (hl : l.length ≤ 140737488351232) : Does Tryz.prog 124 [.seq 1 (l.map iD), .seq 1 (m.map iD)] H fun d H' => d = .val (.bool (decide (l = m))) ∧ H = H' :=
  pure_D (equalI_N l m hl) rfl (vws2 (vw_refl _ _) (vw_refl _ _))
end Go.Proofs.YtgfhgeelfaalmaaGreatDoor
