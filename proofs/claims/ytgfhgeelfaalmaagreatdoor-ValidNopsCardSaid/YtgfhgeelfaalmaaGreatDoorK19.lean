/- Lemmas and contracts of functions, several texts in one: U5 U6. -/
import Derived.Test.YtgfhgeelfaalmaaGreatDoorK18
namespace Go.Proofs.YtgfhgeelfaalmaaGreatDoor
open Go.RowKit
set_option maxRecDepth 100000
set_option linter.unusedVariables false
set_option maxRecDepth 100000
set_option linter.unusedSimpArgs false
set_option maxHeartbeats 1000000 in
theorem add_N (ps : List TyS) (t : TyS) (n : Int) (b : Nat) (H0 H : Heap) (hck : CK H0 b n (depL ps) H) (hps : ps.length ≤ 65535) (hal : t.ar.length ≤ 140737488351232) :
    Does Tryz.prog 75 [.ep b 0 2 0 0, .agg (tyD t)] H fun d H' => d = i64 (chkA ps n t) ∧ H0.le H' ∧ (chkA ps n t = 0 → CK H0 b n (depL (ps ++ [t])) H') := by
  obtain ⟨d0, ob, hb, hg, hb0, hle, hne⟩ := hck
  have hdl : (depL ps).length = ps.length := depL_len ps
  have hsn := depL_snoc ps t
  have hkr : (t.k = 3 → t.ar = []) → kidM (depL ps) t = (parA t).foldl (kidF (depL ps)) 0 := fun h => kidM_par h fun x hx => by have := depL_bd ps x hx; omega
  obtain ⟨c, hc⟩ : ∃ c, c = chkA ps n t := ⟨_, rfl⟩
  have hc' := hc
  unfold chkA at hc'
  rw [← hc]
  have hpa : (parA t).length ≤ 140737488351232 := by unfold parA; split <;> first | exact hal | simp
  obtain ⟨pa, hpae⟩ : ∃ pa, pa = parA t := ⟨_, rfl⟩
  rw [← hpae] at hc' hkr hpa
  obtain ⟨ds, hds⟩ : ∃ ds, ds = depL ps := ⟨_, rfl⟩
  rw [← hds] at hg hdl hsn hkr hc'
  obtain ⟨km, hkm⟩ : ∃ km, km = kidM ds t := ⟨_, rfl⟩
  rw [← hkm] at hsn hkr hc'
  obtain ⟨uk, um, ur, ue, ua⟩ := t
  simp only [tyD] at hc' hkr hal ⊢
  unfold parA at hpae
  simp only at hpae
  have hla : (List.map iD ua).length = ua.length := List.length_map _
  refine does_of _ _ Tryz.func75 rfl rfl Tryz.ntmps75 Tryz.results75 (by simp only [List.length_cons, List.length_nil]; omega) fun w0 g0 Q hret => ?_
  refine tq @i64.eq_1 ?_; intro Nx hNx Gx hGx
  intro c3 hc3
  refine hNx _ ?_
  refine frz 3 hc3 ?_
  (have fs := @i64.eq_1; (iterate 5 (first | refine hGx _ ?_ | refine hNx _ ?_ | refine W_skip ?_ | refine W_exit ?_ | refine W_ret ?_ | refine W_label ?_ | refine W_scope ?_ | refine W_block ?_ | refine W_seq ?_ | ((first | refine tS fun Nx hNx => ?_ | refine WL_gE rfl rfl (by kernel_rfl) (by kernel_rfl) fun Gx hGx => ?_ | refine vcOpsS_sound (by kernel_rfl) ?_ | refine W_ifE fun A B hAx hBx => ?_); refine evT ?_; (first | refine hGx _ ?_ | refine hNx _ ?_ | refine hAx ?_ | refine hBx ?_ | skip)))); (try clear fs))
  refine W_toR (fun s1 => s1.df = [] ∧ s1.fr 0 = .ep b 0 2 0 0 ∧ s1.fr 3 = .rp [i64 uk, .val (.bool um), i64 ur, i64 ue, .seq 1 (ua.map iD)] ∧ s1.fr 5 = .seq 1 (pa.map iD) ∧ s1.H = H ∧ ¬ (uk < 0 ∨ 4 < uk) ∧ ¬ ((uk ≠ 3 ∧ (um = true ∨ ur ≠ 0 ∨ ue ≠ 0)) ∨ (uk ≠ 4 ∧ 0 < ua.length)) ∧ ¬ (uk = 3 ∧ (ur < 0 ∨ n ≤ ur))) ?_ ?_
  · by_cases h03 : uk = 0 ∨ uk = 1 ∨ uk = 2
    · have h3 : ¬ uk = 3 := by omega
      have h4 : ¬ uk = 4 := by omega
      rw [if_neg h3] at hpae
      have hpae2 := hpae.symm; subst hpae2
      rw [if_neg (show ¬ (uk < 0 ∨ 4 < uk) by omega)] at hc'
      by_cases h5 : um = true
      · rw [if_pos (.inl ⟨h3, .inl h5⟩)] at hc'
        subst h5
        rcases h03 with rfl | rfl | rfl <;> (refine tq @i64.eq_1 ?_; intro Nx hNx Gx hGx; refine ⟨by simp, ?_⟩; refine rt hret @i64.eq_1 ?_; exact ⟨_, Heap.le_refl _, by rw [hc']; rfl, hle, fun h => by rw [hc'] at h; cases h⟩)
      have h5' : um = false := by simpa using h5
      subst h5'
      by_cases h6 : ur = 0
      case neg =>
        have q6 : (ur = 0) = False := eq_false h6
        rw [if_pos (.inl ⟨h3, .inr (.inl h6)⟩)] at hc'
        rcases h03 with rfl | rfl | rfl <;> (refine tq (cj2 @i64.eq_1 q6) ?_; intro Nx hNx Gx hGx; refine ⟨by simp, ?_⟩; refine rt hret @i64.eq_1 ?_; exact ⟨_, Heap.le_refl _, by rw [hc']; rfl, hle, fun h => by rw [hc'] at h; cases h⟩)
      have q6 : (ur = 0) = True := eq_true h6
      by_cases h7 : ue = 0
      case neg =>
        have q7 : (ue = 0) = False := eq_false h7
        rw [if_pos (.inl ⟨h3, .inr (.inr h7)⟩)] at hc'
        rcases h03 with rfl | rfl | rfl <;> (refine tq (cj3 @i64.eq_1 q6 q7) ?_; intro Nx hNx Gx hGx; refine ⟨by simp, ?_⟩; refine rt hret @i64.eq_1 ?_; exact ⟨_, Heap.le_refl _, by rw [hc']; rfl, hle, fun h => by rw [hc'] at h; cases h⟩)
      have q7 : (ue = 0) = True := eq_true h7
      by_cases h8 : 0 < ua.length
      · have q8 : ((0 : Int) < (ua.length : Int)) = True := eq_true (by omega)
        rw [if_pos (.inr ⟨h4, h8⟩)] at hc'
        rcases h03 with rfl | rfl | rfl <;> (refine tq (cj5 @i64.eq_1 q6 q7 q8 hla) ?_; intro Nx hNx Gx hGx; refine ⟨by simp, ?_⟩; refine rt hret @i64.eq_1 ?_; exact ⟨_, Heap.le_refl _, by rw [hc']; rfl, hle, fun h => by rw [hc'] at h; cases h⟩)
      · have q8 : ((0 : Int) < (ua.length : Int)) = False := eq_false (by omega)
        have hx2 : ¬ ((uk ≠ 3 ∧ (false = true ∨ ur ≠ 0 ∨ ue ≠ 0)) ∨ (uk ≠ 4 ∧ 0 < ua.length)) := by rintro (⟨_, h | h | h⟩ | ⟨_, h⟩) <;> first | exact h h6 | exact h h7 | exact h8 h | cases h
        have hx3 : ¬ (uk = 3 ∧ (ur < 0 ∨ n ≤ ur)) := fun h => h3 h.1
        rcases h03 with rfl | rfl | rfl <;> (refine tq (cj5 @i64.eq_1 q6 q7 q8 hla) ?_; intro Nx hNx Gx hGx; exact ⟨rfl, rfl, rfl, rfl, rfl, by decide, hx2, hx3⟩)
    by_cases h3 : uk = 3
    · subst h3
      rw [if_pos rfl] at hpae
      have hpae2 := hpae.symm; subst hpae2
      rw [if_neg (by decide)] at hc'
      by_cases h8 : 0 < ua.length
      · have q8 : ((0 : Int) < (ua.length : Int)) = True := eq_true (by omega)
        rw [if_pos (.inr ⟨by decide, h8⟩)] at hc'
        refine tq (cj3 @i64.eq_1 q8 hla) ?_; intro Nx hNx Gx hGx
        refine ⟨by simp, ?_⟩; refine rt hret @i64.eq_1 ?_; exact ⟨_, Heap.le_refl _, by rw [hc']; rfl, hle, fun h => by rw [hc'] at h; cases h⟩
      have q8 : ((0 : Int) < (ua.length : Int)) = False := eq_false (by omega)
      have hx2 : ¬ (((3 : Int) ≠ 3 ∧ (um = true ∨ ur ≠ 0 ∨ ue ≠ 0)) ∨ ((3 : Int) ≠ 4 ∧ 0 < ua.length)) := by rintro (⟨h, _⟩ | ⟨_, h⟩) <;> first | exact h rfl | exact h8 h
      rw [if_neg hx2] at hc'
      by_cases h9 : ur < 0
      · have q9 : (ur < 0) = True := eq_true h9
        rw [if_pos ⟨rfl, .inl h9⟩] at hc'
        refine tq (cj3 @i64.eq_1 q8 hla) ?_; intro Nx hNx Gx hGx
        refine W_drawE (fun _ _ _ _ => False) (by kernel_rfl) (by kernel_rfl) (by kernel_rfl) fun Nx hNx => ?_; refine dst (cj3 @i64.eq_1 q9 hb) ?_; intro Nx hNx Gx hGx
        refine tq @i64.eq_1 ?_; intro Nx hNx Gx hGx
        refine ⟨by simp, ?_⟩; refine rt hret @i64.eq_1 ?_; exact ⟨_, Heap.le_refl _, by rw [hc']; rfl, hle, fun h => by rw [hc'] at h; cases h⟩
      have q9 : (ur < 0) = False := eq_false h9
      by_cases h10 : n ≤ ur
      · have q10 : (n ≤ ur) = True := eq_true h10
        rw [if_pos ⟨rfl, .inr h10⟩] at hc'
        refine tq (cj3 @i64.eq_1 q8 hla) ?_; intro Nx hNx Gx hGx
        refine W_drawE (fun _ _ _ _ => False) (by kernel_rfl) (by kernel_rfl) (by kernel_rfl) fun Nx hNx => ?_; refine dst (cj4 @i64.eq_1 q9 q10 hb) ?_; intro Nx hNx Gx hGx
        refine tq @i64.eq_1 ?_; intro Nx hNx Gx hGx
        refine ⟨by simp, ?_⟩; refine rt hret @i64.eq_1 ?_; exact ⟨_, Heap.le_refl _, by rw [hc']; rfl, hle, fun h => by rw [hc'] at h; cases h⟩
      have q10 : (n ≤ ur) = False := eq_false h10
      refine tq (cj3 @i64.eq_1 q8 hla) ?_; intro Nx hNx Gx hGx
      refine W_drawE (fun _ _ _ _ => False) (by kernel_rfl) (by kernel_rfl) (by kernel_rfl) fun Nx hNx => ?_; refine dst (cj4 @i64.eq_1 q9 q10 hb) ?_; intro Nx hNx Gx hGx
      refine tq @i64.eq_1 ?_; intro Nx hNx Gx hGx
      exact ⟨rfl, rfl, rfl, rfl, rfl, by decide, hx2, by omega⟩
    rw [if_neg h3] at hpae
    have hpae2 := hpae.symm; subst hpae2
    by_cases h4 : uk = 4
    · subst h4
      rw [if_neg (by decide)] at hc'
      by_cases h5 : um = true
      · rw [if_pos (.inl ⟨h3, .inl h5⟩)] at hc'
        subst h5
        refine tq @i64.eq_1 ?_; intro Nx hNx Gx hGx
        refine ⟨by simp, ?_⟩; refine rt hret @i64.eq_1 ?_; exact ⟨_, Heap.le_refl _, by rw [hc']; rfl, hle, fun h => by rw [hc'] at h; cases h⟩
      have h5' : um = false := by simpa using h5
      subst h5'
      by_cases h6 : ur = 0
      case neg =>
        have q6 : (ur = 0) = False := eq_false h6
        rw [if_pos (.inl ⟨h3, .inr (.inl h6)⟩)] at hc'
        refine tq (cj2 @i64.eq_1 q6) ?_; intro Nx hNx Gx hGx
        refine ⟨by simp, ?_⟩; refine rt hret @i64.eq_1 ?_; exact ⟨_, Heap.le_refl _, by rw [hc']; rfl, hle, fun h => by rw [hc'] at h; cases h⟩
      have q6 : (ur = 0) = True := eq_true h6
      by_cases h7 : ue = 0
      case neg =>
        have q7 : (ue = 0) = False := eq_false h7
        rw [if_pos (.inl ⟨h3, .inr (.inr h7)⟩)] at hc'
        refine tq (cj3 @i64.eq_1 q6 q7) ?_; intro Nx hNx Gx hGx
        refine ⟨by simp, ?_⟩; refine rt hret @i64.eq_1 ?_; exact ⟨_, Heap.le_refl _, by rw [hc']; rfl, hle, fun h => by rw [hc'] at h; cases h⟩
      have q7 : (ue = 0) = True := eq_true h7
      refine tq (cj3 @i64.eq_1 q6 q7) ?_; intro Nx hNx Gx hGx
      exact ⟨rfl, rfl, rfl, rfl, rfl, by decide, (by rintro (⟨_, h | h | h⟩ | ⟨h, _⟩) <;> first | exact h h6 | exact h h7 | exact h rfl | cases h), fun h => h3 h.1⟩
    · have q0 : (uk = 0) = False := eq_false (by omega)
      have q1 : (uk = 1) = False := eq_false (by omega)
      have q2 : (uk = 2) = False := eq_false (by omega)
      have q3 : (uk = 3) = False := eq_false (by omega)
      have q4 : (uk = 4) = False := eq_false (by omega)
      rw [if_pos (show uk < 0 ∨ 4 < uk by omega)] at hc'
      refine tq (cj6 @i64.eq_1 q0 q1 q2 q3 q4) ?_; intro Nx hNx Gx hGx
      refine ⟨by simp, ?_⟩; refine rt hret @i64.eq_1 ?_; exact ⟨_, Heap.le_refl _, by rw [hc']; rfl, hle, fun h => by rw [hc'] at h; cases h⟩
  rintro s1 ⟨hdf1, g0, g3, g5, hH1, hp1, hp2, hp3⟩
  rw [if_neg hp1, if_neg hp2, if_neg hp3] at hc'
  have hle1 : H0.le s1.H := by rw [hH1]; exact hle
  obtain ⟨H1, hH1e⟩ : ∃ H1, H1 = s1.H := ⟨_, rfl⟩
  refine tq (cj3 g0 g5 @i64.eq_1) ?_; intro Nx hNx Gx hGx
  refine (depth_N n ds pa b ob d0 H0 s1.H (by rw [hH1]; exact hb) (by rw [hH1]; exact hg) hpa (by omega)).mono ?_
  rintro d _ ⟨rfl, rfl⟩
  by_cases hall : ∀ f ∈ pa, 0 ≤ f ∧ f < ds.length
  case neg =>
    rw [if_neg hall]
    rw [if_pos (by rw [← hdl]; exact hall)] at hc'
    refine tq @i64.eq_1 ?_; intro Nx hNx Gx hGx
    refine rt hret hdf1 ?_; exact ⟨_, Heap.le_refl _, by rw [hc']; rfl, hle1, fun h => by rw [hc'] at h; cases h⟩
  rw [if_pos hall]
  rw [if_neg (show ¬¬ _ from fun h => h (by rw [← hdl]; exact hall))] at hc'
  have hkm2 : List.foldl (kidF ds) 0 pa = km := (hkr fun h3 => by
    have h8 : ¬ (uk ≠ 4 ∧ 0 < ua.length) := fun h => hp2 (.inr h)
    exact List.eq_nil_of_length_eq_zero (by omega)).symm
  rw [hkm2]
  have hgv := depL_bd ps
  have hkb := kidM_le (d := ds) (b := ps.length) (fun x hx => (hgv x (hds ▸ hx)).2) (by omega) ⟨uk, um, ur, ue, ua⟩
  have hkg := kidM_ge (d := ds) (fun x hx => by have := hgv x (hds ▸ hx); omega) ⟨uk, um, ur, ue, ua⟩
  rw [← hkm] at hkb hkg
  have w5 : IntKind.i64.wrap (km + 1) = km + 1 := wrap_i64_of (by omega)
  (have fs := @i64.eq_1; (iterate 2 (first | refine hGx _ ?_ | refine hNx _ ?_ | refine W_skip ?_ | refine W_exit ?_ | refine W_ret ?_ | refine W_label ?_ | refine W_scope ?_ | refine W_block ?_ | refine W_seq ?_ | ((first | refine tS fun Nx hNx => ?_ | refine WL_gE rfl rfl (by kernel_rfl) (by kernel_rfl) fun Gx hGx => ?_ | refine vcOpsS_sound (by kernel_rfl) ?_ | refine W_ifE fun A B hAx hBx => ?_); refine evT ?_; (first | refine hGx _ ?_ | refine hNx _ ?_ | refine hAx ?_ | refine hBx ?_ | skip)))); (try clear fs))
  refine W_toR (fun s2 => s2.df = [] ∧ s2.fr 0 = .ep b 0 2 0 0 ∧ s2.fr 6 = i64 km ∧ s2.H = s1.H ∧ ¬ (uk = 4 ∧ (ua.length = 0 ∨ 65535 < ua.length)) ∧ ¬ 32 ≤ km) ?_ ?_
  · by_cases h7 : 32 ≤ km
    · have q9 : (32 ≤ km) = True := eq_true h7
      by_cases h4 : uk = 4
      · have q4 : (uk = 4) = True := eq_true h4
        by_cases h6 : ua.length = 0
        · have q6 : ((ua.length : Int) = 0) = True := eq_true (by omega)
          rw [if_pos ⟨h4, .inl h6⟩] at hc'
          refine tq (cj5 g3 @i64.eq_1 q4 q6 hla) ?_; intro Nx hNx Gx hGx
          refine ⟨by simp, ?_⟩
          refine rt hret hdf1 ?_; exact ⟨_, Heap.le_refl _, by rw [hc']; rfl, hle1, fun h => by rw [hc'] at h; cases h⟩
        have q6 : ((ua.length : Int) = 0) = False := eq_false (by omega)
        by_cases h8 : 65535 < ua.length
        · have q7 : ((65535 : Int) < (ua.length : Int)) = True := eq_true (by omega)
          rw [if_pos ⟨h4, .inr h8⟩] at hc'
          refine tq (cj6 g3 @i64.eq_1 q4 q6 q7 hla) ?_; intro Nx hNx Gx hGx
          refine ⟨by simp, ?_⟩
          refine rt hret hdf1 ?_; exact ⟨_, Heap.le_refl _, by rw [hc']; rfl, hle1, fun h => by rw [hc'] at h; cases h⟩
        have q7 : ((65535 : Int) < (ua.length : Int)) = False := eq_false (by omega)
        rw [if_neg (show ¬ (uk = 4 ∧ (ua.length = 0 ∨ 65535 < ua.length)) by omega), if_pos h7] at hc'
        refine tq (cj7 g3 @i64.eq_1 q4 q6 q7 q9 hla) ?_; intro Nx hNx Gx hGx
        refine ⟨by simp, ?_⟩
        refine rt hret hdf1 ?_; exact ⟨_, Heap.le_refl _, by rw [hc']; rfl, hle1, fun h => by rw [hc'] at h; cases h⟩
      · have q4 : (uk = 4) = False := eq_false h4
        rw [if_neg (show ¬ (uk = 4 ∧ (ua.length = 0 ∨ 65535 < ua.length)) by omega), if_pos h7] at hc'
        refine tq (cj5 g3 @i64.eq_1 q4 q9 hla) ?_; intro Nx hNx Gx hGx
        refine ⟨by simp, ?_⟩
        refine rt hret hdf1 ?_; exact ⟨_, Heap.le_refl _, by rw [hc']; rfl, hle1, fun h => by rw [hc'] at h; cases h⟩
    · have q9 : (32 ≤ km) = False := eq_false h7
      by_cases h4 : uk = 4
      · have q4 : (uk = 4) = True := eq_true h4
        by_cases h6 : ua.length = 0
        · have q6 : ((ua.length : Int) = 0) = True := eq_true (by omega)
          rw [if_pos ⟨h4, .inl h6⟩] at hc'
          refine tq (cj5 g3 @i64.eq_1 q4 q6 hla) ?_; intro Nx hNx Gx hGx
          refine ⟨by simp, ?_⟩
          refine rt hret hdf1 ?_; exact ⟨_, Heap.le_refl _, by rw [hc']; rfl, hle1, fun h => by rw [hc'] at h; cases h⟩
        have q6 : ((ua.length : Int) = 0) = False := eq_false (by omega)
        by_cases h8 : 65535 < ua.length
        · have q7 : ((65535 : Int) < (ua.length : Int)) = True := eq_true (by omega)
          rw [if_pos ⟨h4, .inr h8⟩] at hc'
          refine tq (cj6 g3 @i64.eq_1 q4 q6 q7 hla) ?_; intro Nx hNx Gx hGx
          refine ⟨by simp, ?_⟩
          refine rt hret hdf1 ?_; exact ⟨_, Heap.le_refl _, by rw [hc']; rfl, hle1, fun h => by rw [hc'] at h; cases h⟩
        have q7 : ((65535 : Int) < (ua.length : Int)) = False := eq_false (by omega)
        refine tq (cj7 g3 @i64.eq_1 q4 q6 q7 q9 hla) ?_; intro Nx hNx Gx hGx
        exact ⟨hdf1, g0, rfl, rfl, by omega, h7⟩
      · have q4 : (uk = 4) = False := eq_false h4
        refine tq (cj5 g3 @i64.eq_1 q4 q9 hla) ?_; intro Nx hNx Gx hGx
        exact ⟨hdf1, g0, rfl, rfl, by omega, h7⟩
  rintro s2 ⟨hdf2, k0, k6, hH2, hp4, hp5⟩
  rw [if_neg hp4, if_neg hp5] at hc'
  rw [hH1] at hH2
  have hb2 : s2.H b = some (.row 118 0 2 [[i64 n, d0]]) := by rw [hH2]; exact hb
  have hg2 : Gl H0 3 1 (ds.map iD) d0 s2.H ob := by rw [hH2]; exact hg
  have hle2 : H0.le s2.H := by rw [hH2]; exact hle
  have hdm : (List.map iD ds).length = ds.length := List.length_map _
  have hcl : D.cells d0 = some [d0] := hg.cells
  refine tq (cj6 k0 k6 @i64.eq_1 w5 hb2 hcl) ?_; intro Nx hNx Gx hGx
  refine apV_grow (e := 3) ty48 rfl ty48 rfl ty3 rfl (by decide) (hle2) (hg2) (new := [iD (km + 1)]) (by exact ⟨rfl, rfl⟩) (by rw [hdm]; show (_ + 1) * _ ≤ _; omega) fun d3 H3 ob3 hg3 hle3 hp => ?_
  obtain ⟨hb3, hne3⟩ := hp b _ hb2 hne
  have hg4 : Gl H0 3 1 ((ds ++ [km + 1]).map iD) d3 H3 ob3 := by rw [List.map_append]; exact hg3
  obtain ⟨c4, o4, hd3, hc4, hHc4⟩ := Gl.os hg4 (by simp)
  have hd3' := hd3
  subst hd3
  (have fs := And.intro k0 (And.intro @i64.eq_1 hb3); refine evT ?_; try clear fs); (first | refine hGx _ ?_ | refine hNx _ ?_ | skip)
  refine tq @i64.eq_1 ?_; intro Nx hNx Gx hGx
  refine rt hret hdf2 ?_
  refine ⟨_, Heap.le_refl _, by rw [hc']; rfl, fun x z hz => ?_, fun _ => ⟨_, ob3, Heap.upd_same _ _ _, ?_, hb0, fun x z hz => ?_, hne3⟩⟩
  · have e : x ≠ b := fun e => by rw [e, hb0] at hz; cases hz
    show (H3.upd b _) x = _
    rw [Heap.upd_ne e]; exact hle3 _ _ hz
  · rw [hsn]
    exact hg4.keep fun x hx => Heap.upd_ne fun e => hne3 (by rw [hx, e])
  · have e : x ≠ b := fun e => by rw [e, hb0] at hz; cases hz
    show (H3.upd b _) x = _
    rw [Heap.upd_ne e]; exact hle3 _ _ hz
theorem CK.start {H0 : Heap} {b : Nat} (n : Int) (h : H0 b = none) : CK H0 b n (depL []) (H0.upd b (.row 118 0 2 [[i64 n, .val (.slice none 0 0)]])) :=
  ⟨_, none, Heap.upd_same _ _ _, Gl.nil _ _ _ _, h, fun x z hz => by rw [Heap.upd_ne (fun e => by rw [e, h] at hz; cases hz)]; exact hz, by simp⟩
theorem CK.le {H0 H : Heap} {b : Nat} {n : Int} {ds : List Int} (h : CK H0 b n ds H) : H0.le H := by obtain ⟨_, _, _, _, _, h, _⟩ := h; exact h
set_option maxHeartbeats 1000000 in
theorem check_N (ts : List TyS) (n : Int) (H : Heap) (htl : ts.length ≤ 140737488351232) (har : ∀ u ∈ ts, u.ar.length ≤ 140737488351232) :
    Does Tryz.prog 53 [.seq 5 (ts.map tyD), i64 n] H fun d H' => d = i64 (chkT ts n) ∧ H = H' := by
  refine Does.frz (K := fun d => d = i64 (chkT ts n)) ?_
  have hle := Heap.le_refl H
  have htyl : (List.map tyD ts).length = ts.length := List.length_map _
  have hct : chkT ts n = if 65535 < ts.length then 15 else chkS n [] ts := rfl
  refine does_of _ _ Tryz.func53 rfl rfl Tryz.ntmps53 Tryz.results53 (by simp only [List.length_cons, List.length_nil]; omega) fun w0 g0 Q hret => ?_
  by_cases h1 : 65535 < ts.length
  · have q1 : ((65535 : Int) < (ts.length : Int)) = True := eq_true (by omega)
    rw [if_pos h1] at hct
    refine tq (cj3 @i64.eq_1 htyl q1) ?_; intro Nx hNx Gx hGx
    refine rt hret @i64.eq_1 ?_
    exact ⟨_, Heap.le_refl _, hle, _, frz_refl hle, by rw [hct]; rfl⟩
  have q1 : ((65535 : Int) < (ts.length : Int)) = False := eq_false (by omega)
  rw [if_neg h1] at hct
  refine tq (cj3 @i64.eq_1 htyl q1) ?_; intro Nx hNx Gx hGx
  intro b hb
  refine hNx _ ?_
  refine tq (cj2 @i64.eq_1 htyl) ?_; intro Nx hNx Gx hGx
  refine W_loopN ts.length (fun i s => s.df = [] ∧ s.fr 0 = .seq 5 (ts.map tyD) ∧ s.fr 5 = .ep b 0 2 0 0 ∧ s.fr 17 = .seq 5 (ts.map tyD) ∧ s.fr 18 = i64 ts.length ∧ s.fr 19 = i64 i ∧ CK H b n (depL (ts.take i)) s.H ∧ chkS n [] (ts.take i) = 0) ⟨rfl, rfl, rfl, rfl, rfl, rfl, CK.start n hb, rfl⟩ ?_
  rintro i s hi ⟨hdf, f0, f5, f17, f18, f19, hck, hok⟩
  have hleS : H.le s.H := hck.le
  by_cases hil : i < ts.length
  case neg =>
    have q2 : ((i : Int) < (ts.length : Int)) = False := eq_false (by omega)
    rw [List.take_of_length_le (by omega)] at hok
    refine tq (cj4 f18 f19 @i64.eq_1 q2) ?_; intro Nx hNx Gx hGx
    refine rt hret hdf ?_
    exact ⟨_, Heap.le_refl _, hleS, _, frz_refl hleS, by rw [hct, hok]; rfl⟩
  have q2 : ((i : Int) < (ts.length : Int)) = True := eq_true (by omega)
  have hx : (i : Int).toNat = i := Int.toNat_natCast _
  have h00 : (0 : Int) ≤ (i : Int) := Int.natCast_nonneg _
  have w3 : IntKind.i64.wrap ((i : Int) + 1) = ((i + 1 : Nat) : Int) := by rw [wrap_i64_of (by omega)]; omega
  have hsn := chkS_snoc (t := ts[i]) hok
  rw [← List.take_succ_eq_append_getElem hil, List.nil_append] at hsn
  have happ : chk1 (ts.take i) n ts[i] ≠ 0 → chkS n [] ts = chk1 (ts.take i) n ts[i] := fun h => by
    have happ := chkS_app (us := ts.drop (i + 1)) (by rw [hsn]; exact h)
    rw [List.take_append_drop] at happ
    rw [happ, hsn]
  have hA := chk1_A (ps := ts.take i) (n := n) (t := ts[i])
  have hgi : (ts.map tyD)[i]? = some (tyD ts[i]) := by rw [List.getElem?_map, List.getElem?_eq_getElem hil]; rfl
  have hui := har ts[i] (List.getElem_mem hil)
  have hti : ts.take (i + 1) = ts.take i ++ [ts[i]] := List.take_succ_eq_append_getElem hil
  obtain ⟨u, hu⟩ : ∃ u, u = ts[i] := ⟨_, rfl⟩
  rw [← hu] at hgi hui hsn happ hA hti
  have hps : (ts.take i).length = i := by rw [List.length_take]; omega
  have hadd := fun H' (h : CK H b n (depL (ts.take i)) H') => add_N (ts.take i) u n b H H' h (by omega) hui
  have hfind := fun H'' => find_N (ts.take i) u H'' (by omega) (fun v hv => har v (List.mem_of_mem_take hv))
  obtain ⟨uk, um, ur, ue, ua⟩ := u
  simp only [tyD] at hgi hadd hfind
  refine tq (cj10 f17 f18 f19 @i64.eq_1 htyl q2 hgi hx h00 hil) ?_; intro Nx hNx Gx hGx
  intro c7 hc7
  refine hNx _ ?_
  refine frz 7 hc7 ?_
  refine tq (cj2 f5 @i64.eq_1) ?_; intro Nx hNx Gx hGx
  refine (hadd s.H hck).mono ?_
  rintro d H1 ⟨rfl, hle1, hck1⟩
  by_cases hca : chkA (ts.take i) n ⟨uk, um, ur, ue, ua⟩ = 0
  case neg =>
    have q3 : ((chkA (ts.take i) n ⟨uk, um, ur, ue, ua⟩ : Int) = 0) = False := eq_false (by omega)
    rw [if_neg hca] at hA
    have := happ (by rw [hA]; exact hca)
    refine tq (cj2 @i64.eq_1 q3) ?_; intro Nx hNx Gx hGx
    refine rt hret hdf ?_
    exact ⟨_, Heap.le_refl _, hle1, _, frz_refl hle1, by rw [hct, this, hA]; rfl⟩
  rw [hca]
  rw [if_pos hca] at hA
  have hck1 := hck1 hca
  rw [← hti] at hck1
  refine tq @i64.eq_1 ?_; intro Nx hNx Gx hGx
  have hcall : CallOK Tryz.prog 76 [.seq 5 ((ts.take i).map tyD), .agg [i64 uk, .val (.bool um), i64 ur, i64 ue, .seq 1 (ua.map iD)]] H1 fun d A => A = Heap.none ∧ d = .tup [i64 (max (fndI ⟨uk, um, ur, ue, ua⟩ (ts.take i) 0) 0), .val (.bool (decide ((⟨uk, um, ur, ue, ua⟩ : TyS) ∈ ts.take i)))] := callOK_eq fun H'' hle'' => hfind H''
  obtain ⟨r, hr⟩ : ∃ r, r = max (fndI ⟨uk, um, ur, ue, ua⟩ (ts.take i) 0) 0 := ⟨_, rfl⟩
  rw [← hr] at hcall
  rw [List.map_take] at hcall
  have hil' : i ≤ ts.length := by omega
  have hil2 : ((i : Int) ≤ (ts.length : Int)) = True := eq_true (by omega)
  simp only [i64] at hcall
  by_cases hm : (⟨uk, um, ur, ue, ua⟩ : TyS) ∈ ts.take i
  · rw [decide_eq_true hm] at hcall
    rw [if_pos hm] at hA
    have := happ (by rw [hA]; decide)
    refine W_drawE (fun _ _ d A => A = .none ∧ d = .tup [.val (.int .i64 r), .val (.bool true)]) (by kernel_rfl) (by kernel_rfl) (by kernel_rfl) fun Nx hNx => ?_; refine dst (cj7 f0 @i64.eq_1 htyl hx h00 hil' hil2) ?_; intro Nx hNx Gx hGx
    refine ⟨hcall, ?_⟩
    (first | refine hGx _ ?_ | refine hNx _ ?_ | skip)
    refine dst @i64.eq_1 ?_; intro Nx hNx Gx hGx
    refine tq @i64.eq_1 ?_; intro Nx hNx Gx hGx
    refine rt hret hdf ?_
    exact ⟨_, Heap.le_refl _, hle1, _, frz_refl hle1, by rw [hct, this, hA]; rfl⟩
  · rw [decide_eq_false hm] at hcall
    rw [if_neg hm] at hA
    refine W_drawE (fun _ _ d A => A = .none ∧ d = .tup [.val (.int .i64 r), .val (.bool false)]) (by kernel_rfl) (by kernel_rfl) (by kernel_rfl) fun Nx hNx => ?_; refine dst (cj7 f0 @i64.eq_1 htyl hx h00 hil' hil2) ?_; intro Nx hNx Gx hGx
    refine ⟨hcall, ?_⟩
    (first | refine hGx _ ?_ | refine hNx _ ?_ | skip)
    refine dst @i64.eq_1 ?_; intro Nx hNx Gx hGx
    refine tq (cj3 f19 @i64.eq_1 w3) ?_; intro Nx hNx Gx hGx
    exact ⟨hil, hdf, f0, f5, f17, f18, rfl, hck1, hsn.trans hA⟩
end Go.Proofs.YtgfhgeelfaalmaaGreatDoor
