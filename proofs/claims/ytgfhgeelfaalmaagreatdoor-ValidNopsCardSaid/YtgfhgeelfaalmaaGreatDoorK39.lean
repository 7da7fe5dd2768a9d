/- Lemmas and contracts of functions, several texts in one: H2. -/
import Derived.Test.YtgfhgeelfaalmaaGreatDoorK38
namespace Go.Proofs.YtgfhgeelfaalmaaGreatDoor
open Go.RowKit
set_option maxRecDepth 100000
set_option linter.unusedVariables false
set_option linter.unusedSimpArgs false
def blaE (r : RvS) : Bool := decide (r.k = 0) && (decide (r.op = 0) && (decide (r.rg = 0) && (!r.mu && (zeroP r.pl && decide (r.ar.length = 0)))))
set_option maxHeartbeats 1000000 in
theorem kblank_N (r : RvS) (H : Heap) (hp : okRv r) : Does Tryz.prog 41 [.agg (rvD r)] H fun d H' => d = .val (.bool (blaE r)) ∧ H = H' := by
  refine Does.frz (K := fun d => d = .val (.bool (blaE r))) ?_
  have hle := Heap.le_refl H
  have hze := knone_N r.pl H hp.1
  have hml : (List.map opD r.ar).length = r.ar.length := List.length_map _
  obtain ⟨y, hy⟩ : ∃ y, y = blaE r := ⟨_, rfl⟩
  rw [← hy]
  unfold blaE at hy
  obtain ⟨Z, hZ⟩ : ∃ Z, Z = zeroP r.pl := ⟨_, rfl⟩
  rw [← hZ] at hze hy
  clear hZ
  obtain ⟨k, op, rg, mu, pl, ar⟩ := r
  simp only at hy hml
  simp only [plD] at hze
  simp only [rvD]
  refine does_of _ _ Tryz.func41 rfl rfl Tryz.ntmps41 Tryz.results41 (by simp only [List.length_cons, List.length_nil]; omega) fun w0 g0 Q hret => ?_
  refine tq @i64.eq_1 ?_; intro Nx hNx Gx hGx
  intro c1 hc1
  refine hNx _ ?_
  refine frz 1 hc1 ?_
  by_cases h0 : k = 0
  case neg =>
    have q0 : (k = 0) = False := eq_false h0
    have e : y = false := by rw [hy, decide_eq_false h0, Bool.false_and]
    exact oz hret (cj2 @i64.eq_1 q0) hle e
  have q0 : (k = 0) = True := eq_true h0
  rw [decide_eq_true h0, Bool.true_and] at hy
  by_cases h1 : op = 0
  case neg =>
    have q1 : (op = 0) = False := eq_false h1
    have e : y = false := by rw [hy, decide_eq_false h1, Bool.false_and]
    exact oz hret (cj3 @i64.eq_1 q0 q1) hle e
  have q1 : (op = 0) = True := eq_true h1
  rw [decide_eq_true h1, Bool.true_and] at hy
  by_cases h2 : rg = 0
  case neg =>
    have q2 : (rg = 0) = False := eq_false h2
    have e : y = false := by rw [hy, decide_eq_false h2, Bool.false_and]
    exact oz hret (cj4 @i64.eq_1 q0 q1 q2) hle e
  have q2 : (rg = 0) = True := eq_true h2
  rw [decide_eq_true h2, Bool.true_and] at hy
  cases mu
  case true =>
    have e : y = false := hy
    exact oz hret (cj4 @i64.eq_1 q0 q1 q2) hle e
  rw [Bool.not_false, Bool.true_and] at hy
  refine tq (cj4 @i64.eq_1 q0 q1 q2) ?_; intro Nx hNx Gx hGx
  refine hze.mono ?_
  rintro d _ ⟨rfl, rfl⟩
  cases Z
  · have e : y = false := hy
    exact oz hret (cj2 @i64.eq_1 q0) hle e
  rw [Bool.true_and] at hy
  by_cases h3 : ar.length = 0
  · have q3 : ((ar.length : Int) = 0) = True := eq_true (by omega)
    have e : y = true := by rw [hy, decide_eq_true h3]
    exact oz hret (cj3 @i64.eq_1 hml q3) hle e
  · have q3 : ((ar.length : Int) = 0) = False := eq_false (by omega)
    have e : y = false := by rw [hy, decide_eq_false h3]
    exact oz hret (cj3 @i64.eq_1 hml q3) hle e
def shpR (r : RvS) : Int := if r.k < 0 ∨ 4 < r.k then 14 else if shpE r = false then 2 else 0
set_option maxHeartbeats 1000000 in
theorem kshape_N (r : RvS) (H : Heap) (hp : okRv r) : Does Tryz.prog 68 [.agg (rvD r)] H fun d H' => d = i64 (shpR r) ∧ H = H' := by
  refine Does.frz (K := fun d => d = i64 (shpR r)) ?_
  have hle := Heap.le_refl H
  have hze := knone_N r.pl H hp.1
  have hml : (List.map opD r.ar).length = r.ar.length := List.length_map _
  obtain ⟨y, hy⟩ : ∃ y, y = shpR r := ⟨_, rfl⟩
  rw [← hy]
  unfold shpR at hy
  rw [shpE_eq] at hy
  unfold plnE at hy
  obtain ⟨Z, hZ⟩ : ∃ Z, Z = zeroP r.pl := ⟨_, rfl⟩
  rw [← hZ] at hze hy
  clear hZ
  have har := hp.2.1
  unfold big at har
  obtain ⟨k, op, rg, mu, pl, ar⟩ := r
  simp only at hy hml har
  simp only [plD] at hze
  simp only [rvD]
  refine does_of _ _ Tryz.func68 rfl rfl Tryz.ntmps68 Tryz.results68 (by simp only [List.length_cons, List.length_nil]; omega) fun w0 g0 Q hret => ?_
  refine tq @i64.eq_1 ?_; intro Nx hNx Gx hGx
  intro c1 hc1
  refine hNx _ ?_
  refine frz 1 hc1 ?_
  by_cases h1 : k < 0
  · have q1 : (k < 0) = True := eq_true h1
    have e : y = 14 := hy.trans (if_pos (.inl h1))
    exact oz hret (cj2 @i64.eq_1 q1) hle e
  have q1 : (k < 0) = False := eq_false h1
  by_cases h2 : 4 < k
  · have q2 : (4 < k) = True := eq_true h2
    have e : y = 14 := hy.trans (if_pos (.inr h2))
    exact oz hret (cj3 @i64.eq_1 q1 q2) hle e
  have q2 : (4 < k) = False := eq_false h2
  rw [if_neg (by omega)] at hy
  by_cases hk0 : k = 0
  · have k0 : (k = 0) = True := eq_true (by omega)
    have k1 : (k = 1) = False := eq_false (by omega)
    have k2 : (k = 2) = False := eq_false (by omega)
    have k3 : (k = 3) = False := eq_false (by omega)
    rw [if_neg (by omega : ¬ k = 1)] at hy
    rw [if_pos (by omega : k = 0)] at hy
    by_cases h3 : op = 0
    case neg =>
      have q3 : (op = 0) = False := eq_false h3
      have e : y = 2 := by rw [hy, decide_eq_false h3]; simp
      exact oz hret (cj8 @i64.eq_1 q1 q2 k0 k1 k2 k3 q3) hle e
    have q3 : (op = 0) = True := eq_true h3
    rw [decide_eq_true h3] at hy
    by_cases h5 : rg = 0
    case neg =>
      have q5 : (rg = 0) = False := eq_false h5
      have e : y = 2 := by rw [hy, decide_eq_false h5]; rfl
      exact oz hret (cj9 @i64.eq_1 q1 q2 k0 k1 k2 k3 q3 q5) hle e
    have q5 : (rg = 0) = True := eq_true h5
    rw [decide_eq_true h5] at hy
    cases mu
    case true =>
      have e : y = 2 := hy
      exact oz hret (cj9 @i64.eq_1 q1 q2 k0 k1 k2 k3 q3 q5) hle e
    refine tq (cj9 @i64.eq_1 q1 q2 k0 k1 k2 k3 q3 q5) ?_; intro Nx hNx Gx hGx
    refine hze.mono ?_
    rintro d _ ⟨rfl, rfl⟩
    cases Z
    · have e : y = 2 := hy
      exact oz hret (cj7 @i64.eq_1 q1 q2 k0 k1 k2 k3) hle e
    by_cases h4 : ar.length = 1
    · have q4 : ((ar.length : Int) = 1) = True := eq_true (by omega)
      have e : y = 0 := by rw [hy, decide_eq_true h4]; rfl
      exact oz hret (cj9 @i64.eq_1 q1 q2 k0 k1 k2 k3 q4 hml) hle e
    · have q4 : ((ar.length : Int) = 1) = False := eq_false (by omega)
      have e : y = 2 := by rw [hy, decide_eq_false h4]; simp
      exact oz hret (cj9 @i64.eq_1 q1 q2 k0 k1 k2 k3 q4 hml) hle e
  by_cases hk1 : k = 1
  · have k0 : (k = 0) = False := eq_false (by omega)
    have k1 : (k = 1) = True := eq_true (by omega)
    have k2 : (k = 2) = False := eq_false (by omega)
    have k3 : (k = 3) = False := eq_false (by omega)
    rw [if_pos hk1] at hy
    by_cases h3 : op = 0
    case neg =>
      have q3 : (op = 0) = False := eq_false h3
      have e : y = 2 := by rw [hy, decide_eq_false h3]; rfl
      exact oz hret (cj8 @i64.eq_1 q1 q2 k0 k1 k2 k3 q3) hle e
    have q3 : (op = 0) = True := eq_true h3
    rw [decide_eq_true h3, Bool.true_and] at hy
    by_cases h4 : ar.length = 0
    · have q4 : ((0 : Int) < (ar.length : Int)) = False := eq_false (by omega)
      have e : y = 0 := by rw [hy, decide_eq_true h4]; rfl
      exact oz hret (cj10 @i64.eq_1 q1 q2 k0 k1 k2 k3 q3 q4 hml) hle e
    · have q4 : ((0 : Int) < (ar.length : Int)) = True := eq_true (by omega)
      have e : y = 2 := by rw [hy, decide_eq_false h4]; rfl
      exact oz hret (cj10 @i64.eq_1 q1 q2 k0 k1 k2 k3 q3 q4 hml) hle e
  by_cases hk2 : k = 2
  · have k0 : (k = 0) = False := eq_false (by omega)
    have k1 : (k = 1) = False := eq_false (by omega)
    have k2 : (k = 2) = True := eq_true (by omega)
    have k3 : (k = 3) = False := eq_false (by omega)
    rw [if_neg (by omega : ¬ k = 1)] at hy
    rw [if_neg (by omega : ¬ k = 0)] at hy
    rw [if_pos (by omega : k = 2)] at hy
    by_cases h5 : rg = 0
    case neg =>
      have q5 : (rg = 0) = False := eq_false h5
      have e : y = 2 := by rw [hy, decide_eq_false h5]; rfl
      exact oz hret (cj8 @i64.eq_1 q1 q2 k0 k1 k2 k3 q5) hle e
    have q5 : (rg = 0) = True := eq_true h5
    rw [decide_eq_true h5] at hy
    cases mu
    case true =>
      have e : y = 2 := hy
      exact oz hret (cj8 @i64.eq_1 q1 q2 k0 k1 k2 k3 q5) hle e
    refine tq (cj8 @i64.eq_1 q1 q2 k0 k1 k2 k3 q5) ?_; intro Nx hNx Gx hGx
    refine hze.mono ?_
    rintro d _ ⟨rfl, rfl⟩
    cases Z
    · have e : y = 2 := hy
      exact oz hret (cj7 @i64.eq_1 q1 q2 k0 k1 k2 k3) hle e
    by_cases h4 : ar.length = 1
    · have q4 : ((ar.length : Int) = 1) = True := eq_true (by omega)
      have e : y = 0 := by rw [hy, decide_eq_true h4]; rfl
      exact oz hret (cj9 @i64.eq_1 q1 q2 k0 k1 k2 k3 q4 hml) hle e
    · have q4 : ((ar.length : Int) = 1) = False := eq_false (by omega)
      have e : y = 2 := by rw [hy, decide_eq_false h4]; simp
      exact oz hret (cj9 @i64.eq_1 q1 q2 k0 k1 k2 k3 q4 hml) hle e
  by_cases hk3 : k = 3
  · have k0 : (k = 0) = False := eq_false (by omega)
    have k1 : (k = 1) = False := eq_false (by omega)
    have k2 : (k = 2) = False := eq_false (by omega)
    have k3 : (k = 3) = True := eq_true (by omega)
    rw [if_neg (by omega : ¬ k = 1)] at hy
    rw [if_neg (by omega : ¬ k = 0)] at hy
    rw [if_neg (by omega : ¬ k = 2)] at hy
    rw [if_pos (by omega : k = 3)] at hy
    by_cases h5 : rg = 0
    case neg =>
      have q5 : (rg = 0) = False := eq_false h5
      have e : y = 2 := by rw [hy, decide_eq_false h5]; rfl
      exact oz hret (cj8 @i64.eq_1 q1 q2 k0 k1 k2 k3 q5) hle e
    have q5 : (rg = 0) = True := eq_true h5
    rw [decide_eq_true h5] at hy
    cases mu
    case true =>
      have e : y = 2 := hy
      exact oz hret (cj8 @i64.eq_1 q1 q2 k0 k1 k2 k3 q5) hle e
    refine tq (cj8 @i64.eq_1 q1 q2 k0 k1 k2 k3 q5) ?_; intro Nx hNx Gx hGx
    refine hze.mono ?_
    rintro d _ ⟨rfl, rfl⟩
    cases Z
    · have e : y = 2 := hy
      exact oz hret (cj7 @i64.eq_1 q1 q2 k0 k1 k2 k3) hle e
    by_cases h4 : ar.length = 2
    · have q4 : ((ar.length : Int) = 2) = True := eq_true (by omega)
      have e : y = 0 := by rw [hy, decide_eq_true h4]; rfl
      exact oz hret (cj9 @i64.eq_1 q1 q2 k0 k1 k2 k3 q4 hml) hle e
    · have q4 : ((ar.length : Int) = 2) = False := eq_false (by omega)
      have e : y = 2 := by rw [hy, decide_eq_false h4]; simp
      exact oz hret (cj9 @i64.eq_1 q1 q2 k0 k1 k2 k3 q4 hml) hle e
  have k0 : (k = 0) = False := eq_false (by omega)
  have k1 : (k = 1) = False := eq_false (by omega)
  have k2 : (k = 2) = False := eq_false (by omega)
  have k3 : (k = 3) = False := eq_false (by omega)
  rw [if_neg (by omega : ¬ k = 1)] at hy
  rw [if_neg (by omega : ¬ k = 0)] at hy
  rw [if_neg (by omega : ¬ k = 2)] at hy
  rw [if_neg (by omega : ¬ k = 3)] at hy
  by_cases h3 : op = 0
  case neg =>
    have q3 : (op = 0) = False := eq_false h3
    have e : y = 2 := by rw [hy, decide_eq_false h3]; simp
    exact oz hret (cj8 @i64.eq_1 q1 q2 k0 k1 k2 k3 q3) hle e
  have q3 : (op = 0) = True := eq_true h3
  rw [decide_eq_true h3] at hy
  by_cases h5 : rg = 0
  case neg =>
    have q5 : (rg = 0) = False := eq_false h5
    have e : y = 2 := by rw [hy, decide_eq_false h5]; rfl
    exact oz hret (cj9 @i64.eq_1 q1 q2 k0 k1 k2 k3 q3 q5) hle e
  have q5 : (rg = 0) = True := eq_true h5
  rw [decide_eq_true h5] at hy
  cases mu
  case true =>
    have e : y = 2 := hy
    exact oz hret (cj9 @i64.eq_1 q1 q2 k0 k1 k2 k3 q3 q5) hle e
  refine tq (cj9 @i64.eq_1 q1 q2 k0 k1 k2 k3 q3 q5) ?_; intro Nx hNx Gx hGx
  refine hze.mono ?_
  rintro d _ ⟨rfl, rfl⟩
  cases Z
  · have e : y = 2 := hy
    exact oz hret (cj7 @i64.eq_1 q1 q2 k0 k1 k2 k3) hle e
  have e : y = 0 := hy
  exact oz hret (cj7 @i64.eq_1 q1 q2 k0 k1 k2 k3) hle e
end Go.Proofs.YtgfhgeelfaalmaaGreatDoor
