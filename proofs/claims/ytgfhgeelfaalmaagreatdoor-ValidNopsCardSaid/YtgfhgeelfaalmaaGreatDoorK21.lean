/- Lemmas and contracts of functions, several texts in one: Y4. -/
import Derived.Test.YtgfhgeelfaalmaaGreatDoorK20
namespace Go.Proofs.YtgfhgeelfaalmaaGreatDoor
open Go.RowKit
set_option maxRecDepth 100000
set_option linter.unusedVariables false
set_option maxRecDepth 100000
set_option linter.unusedSimpArgs false
theorem W_toR {cx : Cx} {x : Code} {N : St → Prop} {Q : Exit → St → Prop} {s : St} (M : St → Prop) (h1 : W cx x (thenQ M (fun e s' => e ≠ .normal ∧ Q e s')) s) (h2 : ∀ s, M s → N s) : W cx x (thenQ N Q) s :=
  W_mono h1 fun e s' q => by cases e <;> first | exact h2 s' q | exact q.2
set_option maxHeartbeats 1000000 in
theorem kchk1_N (ts : List TyS) (i : Nat) (n : Int) (H : Heap) (hi : i < ts.length) (htl : ts.length ≤ 1000000) (har : ∀ u ∈ ts, u.ar.length ≤ 140737488351232) (hw : wfT (ts.take i)) :
    Does Tryz.prog 47 [.seq 5 (ts.map tyD), .seq 1 ((depL (ts.take i)).map iD), i64 i, i64 n] H fun d H' => d = i64 (chk1 (ts.take i) n ts[i]) ∧ H = H' := by
  refine Does.frz (K := fun d => d = i64 (chk1 (ts.take i) n ts[i])) ?_
  have hle := Heap.le_refl H
  have htyl : (List.map tyD ts).length = ts.length := List.length_map _
  have hx : (i : Int).toNat = i := Int.toNat_natCast _
  have h00 : (0 : Int) ≤ (i : Int) := Int.natCast_nonneg _
  have hgi : (ts.map tyD)[i]? = some (tyD ts[i]) := by rw [List.getElem?_map, List.getElem?_eq_getElem hi]; rfl
  have hui := har ts[i] (List.getElem_mem hi)
  obtain ⟨u, hu⟩ : ∃ u, u = ts[i] := ⟨_, rfl⟩
  rw [← hu] at hgi hui ⊢
  obtain ⟨c, hc⟩ : ∃ c, c = chk1 (ts.take i) n u := ⟨_, rfl⟩
  have hc' := hc
  unfold chk1 at hc'
  rw [← hc]
  have hps : (ts.take i).length = i := by rw [List.length_take]; omega
  rw [hps] at hc'
  obtain ⟨uk, um, ur, ue, ua⟩ := u
  simp only at hc' hui
  simp only [tyD] at hgi
  have hla : (List.map iD ua).length = ua.length := List.length_map _
  refine does_of _ _ Tryz.func47 rfl rfl Tryz.ntmps47 Tryz.results47 (by simp only [List.length_cons, List.length_nil]; omega) fun w0 g0 Q hret => ?_
  refine tq (cj6 @i64.eq_1 hgi hx h00 hi htyl) ?_; intro Nx hNx Gx hGx
  intro c9 hc9
  refine hNx _ ?_
  refine frz 9 hc9 ?_
  by_cases h1 : uk < 0
  · have q1 : (uk < 0) = True := eq_true h1
    rw [if_pos (.inl h1)] at hc'
    refine tq (cj2 @i64.eq_1 q1) ?_; intro Nx hNx Gx hGx
    refine rt hret @i64.eq_1 ?_
    exact ⟨_, Heap.le_refl _, hle, _, frz_refl hle, by rw [hc']; rfl⟩
  have q1 : (uk < 0) = False := eq_false h1
  by_cases h2 : 4 < uk
  · have q2 : (4 < uk) = True := eq_true h2
    rw [if_pos (.inr h2)] at hc'
    refine tq (cj3 @i64.eq_1 q1 q2) ?_; intro Nx hNx Gx hGx
    refine rt hret @i64.eq_1 ?_
    exact ⟨_, Heap.le_refl _, hle, _, frz_refl hle, by rw [hc']; rfl⟩
  have q2 : (4 < uk) = False := eq_false h2
  rw [if_neg (by omega)] at hc'
  (have fs := And.intro @i64.eq_1 (And.intro q1 q2); (iterate 10 (first | refine hGx _ ?_ | refine hNx _ ?_ | refine W_skip ?_ | refine W_exit ?_ | refine W_ret ?_ | refine W_label ?_ | refine W_scope ?_ | refine W_block ?_ | refine W_seq ?_ | ((first | refine tS fun Nx hNx => ?_ | refine WL_gE rfl rfl (by kernel_rfl) (by kernel_rfl) fun Gx hGx => ?_ | refine vcOpsS_sound (by kernel_rfl) ?_ | refine W_ifE fun A B hAx hBx => ?_); refine evT ?_; (first | refine hGx _ ?_ | refine hNx _ ?_ | refine hAx ?_ | refine hBx ?_ | skip)))); (try clear fs))
  obtain ⟨dd, hdd⟩ : ∃ dd, dd = depL (ts.take i) := ⟨_, rfl⟩
  rw [← hdd] at hc' ⊢
  refine W_toR (fun s1 => s1.df = [] ∧ s1.fr 0 = .seq 5 (ts.map tyD) ∧ s1.fr 1 = .seq 1 (dd.map iD) ∧ s1.fr 2 = i64 i ∧ s1.fr 3 = i64 n ∧ s1.fr 9 = .rp [i64 uk, .val (.bool um), i64 ur, i64 ue, .seq 1 (ua.map iD)] ∧ s1.H = H ∧ ¬ ((uk ≠ 3 ∧ (um = true ∨ ur ≠ 0 ∨ ue ≠ 0)) ∨ (uk ≠ 4 ∧ 0 < ua.length))) ?_ ?_
  · by_cases h3 : uk = 3
    · have q3 : (uk = 3) = True := eq_true h3
      have h4 : ¬ uk = 4 := by omega
      have q4 : (uk = 4) = False := eq_false h4
      by_cases h5 : 0 < ua.length
      · have q5 : ((0 : Int) < (ua.length : Int)) = True := eq_true (by omega)
        rw [if_pos (.inr ⟨h4, h5⟩)] at hc'
        refine tq (cj5 @i64.eq_1 q3 q4 q5 hla) ?_; intro Nx hNx Gx hGx
        refine ⟨by simp, ?_⟩; refine rt hret @i64.eq_1 ?_; exact ⟨_, Heap.le_refl _, hle, _, frz_refl hle, by rw [hc']; rfl⟩
      · have q5 : ((0 : Int) < (ua.length : Int)) = False := eq_false (by omega)
        refine tq (cj5 @i64.eq_1 q3 q4 q5 hla) ?_; intro Nx hNx Gx hGx
        exact ⟨rfl, rfl, rfl, rfl, rfl, rfl, rfl, by omega⟩
    have q3 : (uk = 3) = False := eq_false h3
    by_cases h5 : um = true
    · rw [if_pos (.inl ⟨h3, .inl h5⟩)] at hc'
      subst h5
      refine tq (cj2 @i64.eq_1 q3) ?_; intro Nx hNx Gx hGx
      refine ⟨by simp, ?_⟩; refine rt hret @i64.eq_1 ?_; exact ⟨_, Heap.le_refl _, hle, _, frz_refl hle, by rw [hc']; rfl⟩
    have h5' : um = false := by simpa using h5
    subst h5'
    by_cases h6 : ur = 0
    case neg =>
      have q6 : (ur = 0) = False := eq_false h6
      rw [if_pos (.inl ⟨h3, .inr (.inl h6)⟩)] at hc'
      refine tq (cj3 @i64.eq_1 q3 q6) ?_; intro Nx hNx Gx hGx
      refine ⟨by simp, ?_⟩; refine rt hret @i64.eq_1 ?_; exact ⟨_, Heap.le_refl _, hle, _, frz_refl hle, by rw [hc']; rfl⟩
    have q6 : (ur = 0) = True := eq_true h6
    by_cases h7 : ue = 0
    case neg =>
      have q7 : (ue = 0) = False := eq_false h7
      rw [if_pos (.inl ⟨h3, .inr (.inr h7)⟩)] at hc'
      refine tq (cj4 @i64.eq_1 q3 q6 q7) ?_; intro Nx hNx Gx hGx
      refine ⟨by simp, ?_⟩; refine rt hret @i64.eq_1 ?_; exact ⟨_, Heap.le_refl _, hle, _, frz_refl hle, by rw [hc']; rfl⟩
    have q7 : (ue = 0) = True := eq_true h7
    by_cases h4 : uk = 4
    · have q4 : (uk = 4) = True := eq_true h4
      refine tq (cj5 @i64.eq_1 q3 q4 q6 q7) ?_; intro Nx hNx Gx hGx
      exact ⟨rfl, rfl, rfl, rfl, rfl, rfl, rfl, by rintro (⟨_, h | h | h⟩ | ⟨h, _⟩) <;> first | exact h h6 | exact h h7 | exact h h4 | cases h⟩
    have q4 : (uk = 4) = False := eq_false h4
    by_cases h5 : 0 < ua.length
    · have q5 : ((0 : Int) < (ua.length : Int)) = True := eq_true (by omega)
      rw [if_pos (.inr ⟨h4, h5⟩)] at hc'
      refine tq (cj7 @i64.eq_1 q3 q4 q5 q6 q7 hla) ?_; intro Nx hNx Gx hGx
      refine ⟨by simp, ?_⟩; refine rt hret @i64.eq_1 ?_; exact ⟨_, Heap.le_refl _, hle, _, frz_refl hle, by rw [hc']; rfl⟩
    · have q5 : ((0 : Int) < (ua.length : Int)) = False := eq_false (by omega)
      refine tq (cj7 @i64.eq_1 q3 q4 q5 q6 q7 hla) ?_; intro Nx hNx Gx hGx
      exact ⟨rfl, rfl, rfl, rfl, rfl, rfl, rfl, by rintro (⟨_, h | h | h⟩ | ⟨_, h⟩) <;> first | exact h h6 | exact h h7 | exact h5 h | cases h⟩
  rintro s1 ⟨hdf1, g0, g1, g2, g3, g9, hH1, hp1⟩
  rw [if_neg hp1] at hc'
  have hle1 : H.le s1.H := by rw [hH1]; exact hle
  (have fs := @i64.eq_1; (iterate 3 (first | refine hGx _ ?_ | refine hNx _ ?_ | refine W_skip ?_ | refine W_exit ?_ | refine W_ret ?_ | refine W_label ?_ | refine W_scope ?_ | refine W_block ?_ | refine W_seq ?_ | ((first | refine tS fun Nx hNx => ?_ | refine WL_gE rfl rfl (by kernel_rfl) (by kernel_rfl) fun Gx hGx => ?_ | refine vcOpsS_sound (by kernel_rfl) ?_ | refine W_ifE fun A B hAx hBx => ?_); refine evT ?_; (first | refine hGx _ ?_ | refine hNx _ ?_ | refine hAx ?_ | refine hBx ?_ | skip)))); (try clear fs))
  have hdl : dd.length = i := by rw [hdd, depL_len, hps]
  refine W_toR (fun s2 => s2.df = [] ∧ s2.fr 0 = .seq 5 (ts.map tyD) ∧ s2.fr 1 = .seq 1 (dd.map iD) ∧ s2.fr 2 = i64 i ∧ s2.fr 3 = i64 n ∧ s2.fr 9 = .rp [i64 uk, .val (.bool um), i64 ur, i64 ue, .seq 1 (ua.map iD)] ∧ s2.H = H ∧ s2.fr 10 = i64 (if uk = 3 then dd.getD ue.toNat 0 else 0) ∧ ¬ (uk = 3 ∧ (ur < 0 ∨ n ≤ ur ∨ ue < 0 ∨ (i : Int) ≤ ue))) ?_ ?_
  · by_cases h3 : uk = 3
    case neg =>
      have q3 : (uk = 3) = False := eq_false h3
      rw [if_neg h3]
      refine tq (cj3 g9 @i64.eq_1 q3) ?_; intro Nx hNx Gx hGx
      exact ⟨hdf1, g0, g1, g2, g3, g9, hH1, rfl, fun h => h3 h.1⟩
    have q3 : (uk = 3) = True := eq_true h3
    rw [if_pos h3]
    by_cases h4 : ur < 0
    · have q4 : (ur < 0) = True := eq_true h4
      rw [if_pos ⟨h3, .inl h4⟩] at hc'
      refine tq (cj4 g9 @i64.eq_1 q3 q4) ?_; intro Nx hNx Gx hGx
      refine ⟨by simp, ?_⟩; refine rt hret hdf1 ?_; exact ⟨_, Heap.le_refl _, hle1, _, frz_refl hle1, by rw [hc']; rfl⟩
    have q4 : (ur < 0) = False := eq_false h4
    by_cases h5 : n ≤ ur
    · have q5 : (n ≤ ur) = True := eq_true h5
      rw [if_pos ⟨h3, .inr (.inl h5)⟩] at hc'
      refine tq (cj6 g3 g9 @i64.eq_1 q3 q4 q5) ?_; intro Nx hNx Gx hGx
      refine ⟨by simp, ?_⟩; refine rt hret hdf1 ?_; exact ⟨_, Heap.le_refl _, hle1, _, frz_refl hle1, by rw [hc']; rfl⟩
    have q5 : (n ≤ ur) = False := eq_false h5
    by_cases h6 : ue < 0
    · have q6 : (ue < 0) = True := eq_true h6
      rw [if_pos ⟨h3, .inr (.inr (.inl h6))⟩] at hc'
      refine tq (cj7 g3 g9 @i64.eq_1 q3 q4 q5 q6) ?_; intro Nx hNx Gx hGx
      refine ⟨by simp, ?_⟩; refine rt hret hdf1 ?_; exact ⟨_, Heap.le_refl _, hle1, _, frz_refl hle1, by rw [hc']; rfl⟩
    have q6 : (ue < 0) = False := eq_false h6
    by_cases h7 : (i : Int) ≤ ue
    · have q7 : ((i : Int) ≤ ue) = True := eq_true h7
      rw [if_pos ⟨h3, .inr (.inr (.inr h7))⟩] at hc'
      refine tq (cj9 g2 g3 g9 @i64.eq_1 q3 q4 q5 q6 q7) ?_; intro Nx hNx Gx hGx
      refine ⟨by simp, ?_⟩; refine rt hret hdf1 ?_; exact ⟨_, Heap.le_refl _, hle1, _, frz_refl hle1, by rw [hc']; rfl⟩
    have q7 : ((i : Int) ≤ ue) = False := eq_false h7
    have hgv := getD_ints (d := dd) (i := ue.toNat) (by omega)
    have h0u : 0 ≤ ue := by omega
    have hdm : (List.map iD dd).length = dd.length := List.length_map _
    have hul : ue.toNat < dd.length := by omega
    have hul' : ue < (dd.length : Int) := by omega
    refine tq (cj15 g1 g2 g3 g9 @i64.eq_1 q3 q4 q5 q6 q7 hgv h0u hdm hul hul') ?_; intro Nx hNx Gx hGx
    exact ⟨hdf1, g0, g1, g2, g3, g9, hH1, rfl, by omega⟩
  rintro s2 ⟨hdf2, f0, f1, f2, f3, f9, hH2, f10, hp2⟩
  rw [if_neg hp2] at hc'
  have hkm : kidM dd ⟨uk, um, ur, ue, ua⟩ = ua.foldl (kidF dd) (if uk = 3 then dd.getD ue.toNat 0 else 0) := rfl
  have hbd := depL_bd (ts.take i)
  rw [hps, ← hdd] at hbd
  have hk1 := kidM_le (b := i) (fun x hx => (hbd x hx).2) (by omega) ⟨uk, um, ur, ue, ua⟩
  have hk2 := kidM_ge (fun x hx => by have := hbd x hx; omega) ⟨uk, um, ur, ue, ua⟩
  obtain ⟨km, hkme⟩ : ∃ km, km = kidM dd ⟨uk, um, ur, ue, ua⟩ := ⟨_, rfl⟩
  rw [← hkme] at hk1 hk2 hkm hc'
  refine tq @i64.eq_1 ?_; intro Nx hNx Gx hGx
  refine W_loopN ua.length (fun j s => s.df = [] ∧ s.fr 0 = .seq 5 (ts.map tyD) ∧ s.fr 1 = .seq 1 (dd.map iD) ∧ s.fr 2 = i64 i ∧ s.fr 9 = .rp [i64 uk, .val (.bool um), i64 ur, i64 ue, .seq 1 (ua.map iD)] ∧ s.H = H ∧ s.fr 11 = i64 j ∧ s.fr 10 = i64 ((ua.take j).foldl (kidF dd) (if uk = 3 then dd.getD ue.toNat 0 else 0)) ∧ ∀ m (h : m < ua.length), m < j → ¬ (ua[m] < 0 ∨ (i : Int) ≤ ua[m])) ⟨hdf2, f0, f1, f2, f9, hH2, rfl, f10, fun m h hm => by omega⟩ ?_
  rintro j s3 hj ⟨hdf3, k0, k1, k2, k9, hH3, k11, k10, hall⟩
  have hle3 : H.le s3.H := by rw [hH3]; exact hle
  have hjx : (j : Int).toNat = j := Int.toNat_natCast _
  have h0j : (0 : Int) ≤ (j : Int) := Int.natCast_nonneg _
  by_cases hjl : j < ua.length
  case pos =>
    have p1 : ((j : Int) < (ua.length : Int)) = True := eq_true (by omega)
    have hgj := get_ints hjl
    have w4 : IntKind.i64.wrap ((j : Int) + 1) = ((j + 1 : Nat) : Int) := by rw [wrap_i64_of (by omega)]; omega
    have hstep : (ua.take (j + 1)).foldl (kidF dd) (if uk = 3 then dd.getD ue.toNat 0 else 0) = max ((ua.take j).foldl (kidF dd) (if uk = 3 then dd.getD ue.toNat 0 else 0)) (dd.getD ua[j].toNat 0) := by
      rw [List.take_succ_eq_append_getElem hjl, List.foldl_append]; rfl
    have hfm : ua[j] ∈ ua := List.getElem_mem hjl
    obtain ⟨f, hfe⟩ : ∃ f, f = ua[j] := ⟨_, rfl⟩
    rw [← hfe] at hgj hstep hfm
    by_cases h4 : f < 0
    · have q4 : (f < 0) = True := eq_true h4
      rw [if_pos ⟨f, hfm, .inl h4⟩] at hc'
      refine tq (cj10 k9 k11 @i64.eq_1 p1 hgj hjx h0j hjl hla q4) ?_; intro Nx hNx Gx hGx
      refine rt hret hdf3 ?_
      exact ⟨_, Heap.le_refl _, hle3, _, frz_refl hle3, by rw [hc']; rfl⟩
    have q4 : (f < 0) = False := eq_false h4
    by_cases h5 : (i : Int) ≤ f
    · have q5 : ((i : Int) ≤ f) = True := eq_true h5
      rw [if_pos ⟨f, hfm, .inr h5⟩] at hc'
      refine tq (cj12 k2 k9 k11 @i64.eq_1 p1 hgj hjx h0j hjl hla q4 q5) ?_; intro Nx hNx Gx hGx
      refine rt hret hdf3 ?_
      exact ⟨_, Heap.le_refl _, hle3, _, frz_refl hle3, by rw [hc']; rfl⟩
    have q5 : ((i : Int) ≤ f) = False := eq_false h5
    have hgv := getD_ints (d := dd) (i := f.toNat) (by omega)
    have h0u : 0 ≤ f := by omega
    have hdm : (List.map iD dd).length = dd.length := List.length_map _
    have hul : f.toNat < dd.length := by omega
    have hul' : f < (dd.length : Int) := by omega
    refine tq (cj20 k1 k2 k9 k10 k11 @i64.eq_1 p1 hgj hjx h0j hjl hla q4 q5 hgv h0u hdm hul hul' w4) ?_; intro Nx hNx Gx hGx
    refine ⟨hjl, hdf3, k0, k1, k2, k9, hH3, rfl, by rw [hstep]; rfl, fun m hm hmj => ?_⟩
    by_cases hme : m = j
    · subst hme; rw [← hfe]; omega
    · exact hall m hm (by omega)
  have p1 : ((j : Int) < (ua.length : Int)) = False := eq_false (by omega)
  rw [List.take_of_length_le (by omega), ← hkm] at k10
  have hp3 : ¬ ∃ f ∈ ua, f < 0 ∨ (i : Int) ≤ f := by
    rintro ⟨f, hf, hb⟩
    obtain ⟨m, hm, rfl⟩ := List.getElem_of_mem hf
    exact hall m hm (by omega) hb
  rw [if_neg hp3] at hc'
  have w5 : IntKind.i64.wrap (km + 1) = km + 1 := wrap_i64_of (by omega)
  (have fs := And.intro k9 (And.intro k10 (And.intro k11 (And.intro @i64.eq_1 (And.intro p1 (And.intro hla w5))))); (iterate 6 (first | refine hGx _ ?_ | refine hNx _ ?_ | refine W_skip ?_ | refine W_exit ?_ | refine W_ret ?_ | refine W_label ?_ | refine W_scope ?_ | refine W_block ?_ | refine W_seq ?_ | ((first | refine tS fun Nx hNx => ?_ | refine WL_gE rfl rfl (by kernel_rfl) (by kernel_rfl) fun Gx hGx => ?_ | refine vcOpsS_sound (by kernel_rfl) ?_ | refine W_ifE fun A B hAx hBx => ?_); refine evT ?_; (first | refine hGx _ ?_ | refine hNx _ ?_ | refine hAx ?_ | refine hBx ?_ | skip)))); (try clear fs))
  refine W_toR (fun s4 => s4.df = [] ∧ s4.fr 0 = .seq 5 (ts.map tyD) ∧ s4.fr 2 = i64 i ∧ s4.fr 9 = .rp [i64 uk, .val (.bool um), i64 ur, i64 ue, .seq 1 (ua.map iD)] ∧ s4.H = H ∧ s4.fr 10 = i64 km ∧ ¬ (uk = 4 ∧ (ua.length = 0 ∨ 65535 < ua.length))) ?_ ?_
  · by_cases h4 : uk = 4
    case neg =>
      have q4 : (uk = 4) = False := eq_false h4
      refine tq (cj3 k9 @i64.eq_1 q4) ?_; intro Nx hNx Gx hGx
      exact ⟨hdf3, k0, k2, k9, hH3, k10, fun h => h4 h.1⟩
    have q4 : (uk = 4) = True := eq_true h4
    by_cases h5 : ua.length = 0
    · have q5 : ((ua.length : Int) = 0) = True := eq_true (by omega)
      rw [if_pos ⟨h4, .inl h5⟩] at hc'
      refine tq (cj5 k9 @i64.eq_1 q4 q5 hla) ?_; intro Nx hNx Gx hGx
      refine ⟨by simp, ?_⟩; refine rt hret hdf3 ?_; exact ⟨_, Heap.le_refl _, hle3, _, frz_refl hle3, by rw [hc']; rfl⟩
    have q5 : ((ua.length : Int) = 0) = False := eq_false (by omega)
    by_cases h6 : 65535 < ua.length
    · have q6 : ((65535 : Int) < (ua.length : Int)) = True := eq_true (by omega)
      rw [if_pos ⟨h4, .inr h6⟩] at hc'
      refine tq (cj6 k9 @i64.eq_1 q4 q5 q6 hla) ?_; intro Nx hNx Gx hGx
      refine ⟨by simp, ?_⟩; refine rt hret hdf3 ?_; exact ⟨_, Heap.le_refl _, hle3, _, frz_refl hle3, by rw [hc']; rfl⟩
    have q6 : ((65535 : Int) < (ua.length : Int)) = False := eq_false (by omega)
    refine tq (cj6 k9 @i64.eq_1 q4 q5 q6 hla) ?_; intro Nx hNx Gx hGx
    exact ⟨hdf3, k0, k2, k9, hH3, k10, by omega⟩
  rintro s4 ⟨hdf4, m0, m2, m9, hH4, m10, hp4⟩
  rw [if_neg hp4] at hc'
  have hle4 : H.le s4.H := by rw [hH4]; exact hle
  by_cases h6 : 32 < km + 1
  · have q6 : (32 < km + 1) = True := eq_true h6
    rw [if_pos h6] at hc'
    refine tq (cj4 m10 @i64.eq_1 w5 q6) ?_; intro Nx hNx Gx hGx
    refine rt hret hdf4 ?_
    exact ⟨_, Heap.le_refl _, hle4, _, frz_refl hle4, by rw [hc']; rfl⟩
  have q6 : (32 < km + 1) = False := eq_false h6
  rw [if_neg h6] at hc'
  refine tq (cj4 m10 @i64.eq_1 w5 q6) ?_; intro Nx hNx Gx hGx
  have hfl := fndI_iff (t := ⟨uk, um, ur, ue, ua⟩) (l := ts.take i)
  have hcall : CallOK Tryz.prog 71 [.seq 5 ((ts.take i).map tyD), .agg [i64 uk, .val (.bool um), i64 ur, i64 ue, .seq 1 (ua.map iD)]] s4.H fun d A => A = Heap.none ∧ d = i64 (fndI ⟨uk, um, ur, ue, ua⟩ (ts.take i) 0) := callOK_eq fun H'' hle'' => kfind_N (ts.take i) ⟨uk, um, ur, ue, ua⟩ H'' (by rw [hps]; omega) (fun u hu => har u (List.mem_of_mem_take hu))
  obtain ⟨r, hr⟩ : ∃ r, r = fndI ⟨uk, um, ur, ue, ua⟩ (ts.take i) 0 := ⟨_, rfl⟩
  rw [← hr] at hcall hfl
  rw [List.map_take] at hcall
  have hil' : i ≤ ts.length := by omega
  have hil2 : ((i : Int) ≤ (ts.length : Int)) = True := eq_true (by omega)
  simp only [i64] at hcall
  refine W_drawE (fun _ _ d A => A = .none ∧ d = .val (.int .i64 r)) (by kernel_rfl) (by kernel_rfl) (by kernel_rfl) fun Nx hNx => ?_; refine dst (cj9 m0 m2 m9 @i64.eq_1 htyl hx h00 hil' hil2) ?_; intro Nx hNx Gx hGx
  refine ⟨hcall, ?_⟩
  (first | refine hGx _ ?_ | refine hNx _ ?_ | skip)
  by_cases hm : (⟨uk, um, ur, ue, ua⟩ : TyS) ∈ ts.take i
  · have q7 : (0 ≤ r) = True := eq_true (hfl.2 hm)
    rw [if_pos hm] at hc'
    refine tq (cj2 @i64.eq_1 q7) ?_; intro Nx hNx Gx hGx
    refine rt hret hdf4 ?_
    exact ⟨_, Heap.le_refl _, hle4, _, frz_refl hle4, by rw [hc']; rfl⟩
  · have q7 : (0 ≤ r) = False := eq_false fun h => hm (hfl.1 h)
    rw [if_neg hm] at hc'
    refine tq (cj2 @i64.eq_1 q7) ?_; intro Nx hNx Gx hGx
    refine rt hret hdf4 ?_
    exact ⟨_, Heap.le_refl _, hle4, _, frz_refl hle4, by rw [hc']; rfl⟩
set_option maxHeartbeats 1000000 in
theorem kchk_N (ts : List TyS) (n : Int) (H : Heap) (htl : ts.length ≤ 140737488351232) (har : ∀ u ∈ ts, u.ar.length ≤ 140737488351232) :
    Does Tryz.prog 23 [.seq 5 (ts.map tyD), i64 n] H fun d H' => d = i64 (chkT ts n) ∧ H = H' := by
  refine Does.frz (K := fun d => d = i64 (chkT ts n)) ?_
  have hle := Heap.le_refl H
  have htyl : (List.map tyD ts).length = ts.length := List.length_map _
  have hct : chkT ts n = if 65535 < ts.length then 15 else chkS n [] ts := rfl
  refine does_of _ _ Tryz.func23 rfl rfl Tryz.ntmps23 Tryz.results23 (by simp only [List.length_cons, List.length_nil]; omega) fun w0 g0 Q hret => ?_
  by_cases h1 : 65535 < ts.length
  · have q1 : ((65535 : Int) < (ts.length : Int)) = True := eq_true (by omega)
    rw [if_pos h1] at hct
    refine tq (cj3 @i64.eq_1 htyl q1) ?_; intro Nx hNx Gx hGx
    refine rt hret @i64.eq_1 ?_
    exact ⟨_, Heap.le_refl _, hle, _, frz_refl hle, by rw [hct]; rfl⟩
  have q1 : ((65535 : Int) < (ts.length : Int)) = False := eq_false (by omega)
  rw [if_neg h1] at hct
  refine tq (cj3 @i64.eq_1 htyl q1) ?_; intro Nx hNx Gx hGx
  refine W_as 5 (.seq 1 []) (fun w v hv => imp_nil _ _ _ hv) ?_
  refine W_loopN ts.length (fun i s => s.df = [] ∧ s.fr 0 = .seq 5 (ts.map tyD) ∧ s.fr 1 = i64 n ∧ s.fr 5 = .seq 1 ((depL (ts.take i)).map iD) ∧ s.fr 6 = i64 i ∧ s.H = H ∧ chkS n [] (ts.take i) = 0) ⟨rfl, rfl, rfl, rfl, rfl, rfl, rfl⟩ ?_
  rintro i s hi ⟨hdf, f0, f1, f5, f6, hH, hok⟩
  have hleS : H.le s.H := by rw [hH]; exact hle
  by_cases hil : i < ts.length
  case neg =>
    have q2 : ((i : Int) < (ts.length : Int)) = False := eq_false (by omega)
    rw [List.take_of_length_le (by omega)] at hok
    refine tq (cj5 f0 f6 @i64.eq_1 htyl q2) ?_; intro Nx hNx Gx hGx
    refine rt hret hdf ?_
    exact ⟨_, Heap.le_refl _, hleS, _, frz_refl hleS, by rw [hct, hok]; rfl⟩
  have q2 : ((i : Int) < (ts.length : Int)) = True := eq_true (by omega)
  have w3 : IntKind.i64.wrap ((i : Int) + 1) = ((i + 1 : Nat) : Int) := by rw [wrap_i64_of (by omega)]; omega
  have hwf : wfT (ts.take i) := wf_of_ok (n := n) fun m hm => by simpa using chkS_ok.1 hok m hm
  have hsn := chkS_snoc (t := ts[i]) hok
  rw [← List.take_succ_eq_append_getElem hil, List.nil_append] at hsn
  refine tq (cj7 f0 f1 f5 f6 @i64.eq_1 htyl q2) ?_; intro Nx hNx Gx hGx
  refine (kchk1_N ts i n _ hil (by omega) har hwf).mono ?_
  rintro d _ ⟨rfl, rfl⟩
  by_cases hc : chk1 (ts.take i) n ts[i] = 0
  case neg =>
    have q3 : ((chk1 (ts.take i) n ts[i] : Int) = 0) = False := eq_false (by omega)
    have happ := chkS_app (us := ts.drop (i + 1)) (by rw [hsn]; exact hc)
    rw [List.take_append_drop] at happ
    refine tq (cj2 @i64.eq_1 q3) ?_; intro Nx hNx Gx hGx
    refine rt hret hdf ?_
    exact ⟨_, Heap.le_refl _, hleS, _, frz_refl hleS, by rw [hct, happ, hsn]; rfl⟩
  have hwf2 : wfT (ts.take (i + 1)) := wf_of_ok (n := n) fun m hm => by simpa using chkS_ok.1 (hsn.trans hc) m hm
  rw [hc]
  refine tq (cj4 f0 f6 @i64.eq_1 w3) ?_; intro Nx hNx Gx hGx
  refine (kdeps_N ts (i + 1) _ (by omega) (by omega) har hwf2).mono ?_
  rintro d _ ⟨rfl, rfl⟩
  refine tq (cj3 f6 @i64.eq_1 w3) ?_; intro Nx hNx Gx hGx
  exact ⟨hil, hdf, f0, f1, rfl, rfl, hH, hsn.trans hc⟩
end Go.Proofs.YtgfhgeelfaalmaaGreatDoor
