/- Lemmas and contracts of functions, several texts in one: R2. -/
import Derived.Test.YtgfhgeelfaalmaaGreatDoorK11
namespace Go.Proofs.YtgfhgeelfaalmaaGreatDoor
open Go.RowKit
set_option maxRecDepth 100000
set_option linter.unusedVariables false
set_option linter.unusedSimpArgs false
def RkI (l : List (Int × Int)) (n : Int) (H : Heap) (i : Nat) (s : St) : Prop := s.df = [] ∧ s.fr 0 = .seq 2 (l.map pD) ∧ s.fr 1 = i64 n ∧ s.fr 5 = i64 i ∧ s.H = H ∧ chkF n none l = chkF n (prevR l i) (l.drop i)
set_option maxHeartbeats 1000000 in
theorem kcheck_N (l : List (Int × Int)) (n : Int) (H : Heap) (hl : l.length ≤ 140737488351232) : Does Tryz.prog 32 [.seq 2 (l.map pD), i64 n] H fun d H' => d = i64 (checkR l n) ∧ H = H' := by
  have hll : (List.map pD l).length = l.length := List.length_map _
  refine does_of _ _ Tryz.func32 rfl rfl Tryz.ntmps32 Tryz.results32 (by simp only [List.length_cons, List.length_nil]; omega) fun w0 g0 Q hret => ?_
  by_cases hb : 65535 < l.length
  · have q0 : ((65535 : Int) < (l.length : Int)) = True := eq_true (by omega)
    have hc : checkR l n = 15 := if_pos hb
    rw [hc] at hret
    refine tq (cj3 hll @i64.eq_1 q0) ?_; intro Nx hNx Gx hGx
    refine rt hret hll ?_
    exact ⟨_, Heap.le_refl _, rfl, rfl⟩
  have q0 : ((65535 : Int) < (l.length : Int)) = False := eq_false (by omega)
  have hc : checkR l n = chkF n none l := if_neg hb
  rw [hc] at hret
  refine tq (cj3 hll @i64.eq_1 q0) ?_; intro Nx hNx Gx hGx
  refine W_loopN l.length (RkI l n H) ⟨rfl, rfl, rfl, rfl, rfl, rfl⟩ ?_
  rintro i s hi ⟨hdf, f0, f1, f5, hH, hck⟩
  have hx : (i : Int).toNat = i := Int.toNat_natCast _
  have h00 : (0 : Int) ≤ (i : Int) := Int.natCast_nonneg _
  by_cases hil : i < l.length
  case neg =>
    have q1 : ((i : Int) < (l.length : Int)) = False := eq_false (by omega)
    rw [List.drop_eq_nil_of_le (show l.length ≤ i by omega)] at hck
    refine tq (cj6 f0 f1 f5 @i64.eq_1 q1 hll) ?_; intro Nx hNx Gx hGx
    refine rt hret hdf ?_
    exact ⟨_, Heap.le_refl _, by rw [hck]; rfl, hH.symm⟩
  have q1 : ((i : Int) < (l.length : Int)) = True := eq_true (by omega)
  have hgi := get_pairs hil
  have w3 : IntKind.i64.wrap ((i : Int) + 1) = ((i + 1 : Nat) : Int) := by rw [wrap_i64_of (by omega)]; omega
  rw [List.drop_eq_getElem_cons hil] at hck
  simp only [chkF] at hck
  have fin : ∀ (e : Nat), chkF n none l = e → ∃ H', H'.le s.H ∧ i64 e = i64 (chkF n none l) ∧ H = H' := fun e he => ⟨_, Heap.le_refl _, by rw [he], hH.symm⟩
  obtain ⟨a, ha⟩ : ∃ a, a = l[i].1 := ⟨_, rfl⟩
  obtain ⟨c, hc2⟩ : ∃ c, c = l[i].2 := ⟨_, rfl⟩
  rw [← ha, ← hc2] at hgi hck
  by_cases h1 : a < 0
  · rw [if_pos (by omega)] at hck
    have p1 : (a < 0) = True := eq_true h1
    refine tq (cj11 f0 f1 f5 @i64.eq_1 q1 hgi hx h00 hil hll p1) ?_; intro Nx hNx Gx hGx
    refine rt hret hdf ?_
    exact fin 3 hck
  have p1 : (a < 0) = False := eq_false h1
  by_cases h2 : n ≤ a
  · rw [if_pos (by omega)] at hck
    have p2 : (n ≤ a) = True := eq_true h2
    refine tq (cj12 f0 f1 f5 @i64.eq_1 q1 hgi hx h00 hil hll p1 p2) ?_; intro Nx hNx Gx hGx
    refine rt hret hdf ?_
    exact fin 3 hck
  have p2 : (n ≤ a) = False := eq_false h2
  by_cases h3 : c < 0
  · rw [if_pos (by omega)] at hck
    have p3 : (c < 0) = True := eq_true h3
    refine tq (cj13 f0 f1 f5 @i64.eq_1 q1 hgi hx h00 hil hll p1 p2 p3) ?_; intro Nx hNx Gx hGx
    refine rt hret hdf ?_
    exact fin 3 hck
  have p3 : (c < 0) = False := eq_false h3
  by_cases h4 : n ≤ c
  · rw [if_pos (by omega)] at hck
    have p4 : (n ≤ c) = True := eq_true h4
    refine tq (cj14 f0 f1 f5 @i64.eq_1 q1 hgi hx h00 hil hll p1 p2 p3 p4) ?_; intro Nx hNx Gx hGx
    refine rt hret hdf ?_
    exact fin 3 hck
  have p4 : (n ≤ c) = False := eq_false h4
  rw [if_neg (by omega)] at hck
  by_cases h5 : a = c
  · rw [if_pos h5] at hck
    have p5 : (a = c) = True := eq_true h5
    refine tq (cj15 f0 f1 f5 @i64.eq_1 q1 hgi hx h00 hil hll p1 p2 p3 p4 p5) ?_; intro Nx hNx Gx hGx
    refine rt hret hdf ?_
    exact fin 2 hck
  have p5 : (a = c) = False := eq_false h5
  rw [if_neg h5] at hck
  by_cases hi0 : i = 0
  · have p6 : ((0 : Int) < (i : Int)) = False := eq_false (by omega)
    have hpr : prevR l i = none := by rw [hi0]; rfl
    rw [hpr] at hck
    simp only [preOK, if_true] at hck
    refine tq (cj17 f0 f1 f5 @i64.eq_1 q1 hgi hx h00 hil hll p1 p2 p3 p4 p5 p6 w3) ?_; intro Nx hNx Gx hGx
    exact ⟨hil, hdf, f0, f1, rfl, hH, by rw [hck, prevR, List.getElem?_eq_getElem hil]⟩
  obtain ⟨j, hj⟩ : ∃ j, i = j + 1 := ⟨i - 1, by omega⟩
  have hjl : j < l.length := by omega
  have p6 : ((0 : Int) < (i : Int)) = True := eq_true (by omega)
  have hgp := get_pairs hjl
  have w4 : IntKind.i64.wrap ((i : Int) - 1) = (j : Int) := by rw [wrap_i64_of (by omega)]; omega
  have h0j : (0 : Int) ≤ (j : Int) := Int.natCast_nonneg _
  have hxj : (j : Int).toNat = j := Int.toNat_natCast _
  have hpr : prevR l i = some l[j] := by rw [hj, prevR, List.getElem?_eq_getElem hjl]
  rw [hpr] at hck
  simp only [preOK, decide_eq_true_eq, lexLt, ← ha, ← hc2] at hck
  by_cases h7 : a < l[j].1
  · rw [if_neg (by omega)] at hck
    have p7 : (a < l[j].1) = True := eq_true h7
    refine tq (cj22 f0 f1 f5 @i64.eq_1 q1 hgi hx h00 hil hll p1 p2 p3 p4 p5 p6 w4 hgp h0j hxj hjl p7) ?_; intro Nx hNx Gx hGx
    refine rt hret hdf ?_
    exact fin 21 hck
  have p7 : (a < l[j].1) = False := eq_false h7
  by_cases h8 : a = l[j].1
  · by_cases h9 : c ≤ l[j].2
    · rw [if_neg (by omega)] at hck
      have p8 : (a = l[j].1) = True := eq_true h8
      have p9 : (c ≤ l[j].2) = True := eq_true h9
      refine tq (cj24 f0 f1 f5 @i64.eq_1 q1 hgi hx h00 hil hll p1 p2 p3 p4 p5 p6 w4 hgp h0j hxj hjl p7 p8 p9) ?_; intro Nx hNx Gx hGx
      refine rt hret hdf ?_
      exact fin 21 hck
    · rw [if_pos (by omega)] at hck
      have p8 : (a = l[j].1) = True := eq_true h8
      have p9 : (c ≤ l[j].2) = False := eq_false h9
      refine tq (cj25 f0 f1 f5 @i64.eq_1 q1 hgi hx h00 hil hll p1 p2 p3 p4 p5 p6 w4 hgp h0j hxj hjl p7 p8 p9 w3) ?_; intro Nx hNx Gx hGx
      exact ⟨hil, hdf, f0, f1, rfl, hH, by rw [hck, prevR, List.getElem?_eq_getElem hil]⟩
  · rw [if_pos (by omega)] at hck
    have p8 : (a = l[j].1) = False := eq_false h8
    refine tq (cj24 f0 f1 f5 @i64.eq_1 q1 hgi hx h00 hil hll p1 p2 p3 p4 p5 p6 w4 hgp h0j hxj hjl p7 p8 w3) ?_; intro Nx hNx Gx hGx
    exact ⟨hil, hdf, f0, f1, rfl, hH, by rw [hck, prevR, List.getElem?_eq_getElem hil]⟩
end Go.Proofs.YtgfhgeelfaalmaaGreatDoor
