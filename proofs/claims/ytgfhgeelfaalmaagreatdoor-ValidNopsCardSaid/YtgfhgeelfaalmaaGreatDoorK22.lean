/- Lemmas and contracts of functions, several texts in one: Y5 BHa E2. -/
import Derived.Test.YtgfhgeelfaalmaaGreatDoorK20
import Derived.Test.YtgfhgeelfaalmaaGreatDoorK08
namespace Go.Proofs.YtgfhgeelfaalmaaGreatDoor
open Go.RowKit
set_option maxRecDepth 100000
set_option linter.unusedVariables false
set_option maxRecDepth 100000
set_option linter.unusedSimpArgs false
def tot6 (ts : List TyS) : Nat := (ts.map fun t => 1 + min t.ar.length 500).sum
theorem tot_take_le (ts : List TyS) (i : Nat) : tot6 (ts.take i) ≤ tot6 ts := by
  have h : tot6 (ts.take i ++ ts.drop i) = tot6 (ts.take i) + tot6 (ts.drop i) := by unfold tot6; rw [List.map_append, List.sum_append]
  rw [List.take_append_drop] at h; omega
theorem tot_len (ts : List TyS) : ts.length ≤ tot6 ts := by
  induction ts with
  | nil => simp
  | cons t ts ih => unfold tot6 at ih ⊢; rw [List.map_cons, List.sum_cons, List.length_cons]; omega
theorem tot_step {ts : List TyS} {i : Nat} (h : i < ts.length) : tot6 (ts.take (i + 1)) = tot6 (ts.take i) + (1 + min ts[i].ar.length 500) := by
  unfold tot6; rw [List.take_succ_eq_append_getElem h, List.map_append, List.sum_append]; simp
theorem min_nat (a b : Nat) : min (a : Int) (b : Int) = ((min a b : Nat) : Int) := by omega
set_option maxHeartbeats 1000000 in
theorem large6_N (ts : List TyS) (H : Heap) (htl : ts.length ≤ 140737488351232) (har : ∀ u ∈ ts, u.ar.length ≤ 140737488351232) : Does Tryz.prog 45 [.seq 5 (ts.map tyD)] H fun d H' => d = i64 (if 200 < tot6 ts then 1 else 0) ∧ H = H' := by
  refine Does.frz (K := fun d => d = i64 (if 200 < tot6 ts then 1 else 0)) ?_
  have htyl : (List.map tyD ts).length = ts.length := List.length_map _
  refine does_of _ _ Tryz.func45 rfl rfl Tryz.ntmps45 Tryz.results45 (by simp only [List.length_cons, List.length_nil]; omega) fun w0 g0 Q hret => ?_
  refine tq (cj2 @i64.eq_1 htyl) ?_; intro Nx hNx Gx hGx
  refine W_loopN ts.length (fun i s => s.df = [] ∧ s.fr 6 = .seq 5 (ts.map tyD) ∧ s.fr 7 = i64 ts.length ∧ s.fr 8 = i64 i ∧ s.fr 3 = i64 (tot6 (ts.take i) : Nat) ∧ tot6 (ts.take i) ≤ 200 ∧ s.H = H) ⟨rfl, rfl, rfl, rfl, rfl, by simp [tot6], rfl⟩ ?_
  rintro i s hi ⟨hdf, f6, f7, f8, f3, hb, hH⟩
  have hleS : H.le s.H := by rw [hH]; exact Heap.le_refl _
  have hx : (i : Int).toNat = i := Int.toNat_natCast _
  have h00 : (0 : Int) ≤ (i : Int) := Int.natCast_nonneg _
  by_cases hil : i < ts.length
  case neg =>
    have q1 : ((i : Int) < (ts.length : Int)) = False := eq_false (by omega)
    rw [List.take_of_length_le (by omega)] at hb
    refine tq (cj4 f7 f8 @i64.eq_1 q1) ?_; intro Nx hNx Gx hGx
    refine rt hret hdf ?_
    exact ⟨_, Heap.le_refl _, hleS, _, frz_refl hleS, by rw [if_neg (by omega)]; rfl⟩
  have q1 : ((i : Int) < (ts.length : Int)) = True := eq_true (by omega)
  have hgi : (ts.map tyD)[i]? = some (tyD ts[i]) := by rw [List.getElem?_map, List.getElem?_eq_getElem hil]; rfl
  have hst := tot_step hil
  have hui := har ts[i] (List.getElem_mem hil)
  have w3 : IntKind.i64.wrap ((i : Int) + 1) = ((i + 1 : Nat) : Int) := by rw [wrap_i64_of (by omega)]; omega
  obtain ⟨u, hu⟩ : ∃ u, u = ts[i] := ⟨_, rfl⟩
  rw [← hu] at hgi hst hui
  obtain ⟨uk, um, ur, ue, ua⟩ := u
  simp only [tyD] at hgi
  simp only at hst hui
  have hla : (List.map iD ua).length = ua.length := List.length_map _
  have hmn : min (ua.length : Int) 500 = ((min ua.length 500 : Nat) : Int) := min_nat _ 500
  have w4 : IntKind.i64.wrap (1 + ((min ua.length 500 : Nat) : Int)) = ((1 + min ua.length 500 : Nat) : Int) := by rw [wrap_i64_of (by omega)]; omega
  have w5 : IntKind.i64.wrap ((tot6 (ts.take i) : Int) + ((1 + min ua.length 500 : Nat) : Int)) = (tot6 (ts.take (i + 1)) : Int) := by rw [wrap_i64_of (by omega)]; omega
  refine tq (cj10 f6 f7 f8 @i64.eq_1 q1 hgi hx h00 hil htyl) ?_; intro Nx hNx Gx hGx
  intro c5 hc5
  refine hNx _ ?_
  refine frz 5 hc5 ?_
  by_cases hbig : 200 < tot6 (ts.take (i + 1))
  · have q2 : ((200 : Int) < (tot6 (ts.take (i + 1)) : Int)) = True := eq_true (by omega)
    have hle2 := tot_take_le ts (i + 1)
    refine tq (cj7 f3 @i64.eq_1 hla hmn w4 w5 q2) ?_; intro Nx hNx Gx hGx
    refine rt hret hdf ?_
    exact ⟨_, Heap.le_refl _, hleS, _, frz_refl hleS, by rw [if_pos (by omega)]; rfl⟩
  · have q2 : ((200 : Int) < (tot6 (ts.take (i + 1)) : Int)) = False := eq_false (by omega)
    refine tq (cj9 f3 f8 @i64.eq_1 hla hmn w4 w5 q2 w3) ?_; intro Nx hNx Gx hGx
    exact ⟨hil, hdf, f6, f7, rfl, rfl, by omega, hH⟩
set_option maxHeartbeats 2000000 in
theorem wide6_N (ts : List TyS) (H : Heap) (htl : ts.length ≤ 1000000) (har : ∀ u ∈ ts, u.ar.length ≤ 140737488351232) : Does Tryz.prog 46 [.seq 5 (ts.map tyD)] H fun d H' => (∃ b : Bool, d = .val (.bool b)) ∧ H = H' := by
  refine Does.frz (K := fun d => ∃ b : Bool, d = .val (.bool b)) ?_
  have htyl : (List.map tyD ts).length = ts.length := List.length_map _
  refine does_of _ _ Tryz.func46 rfl rfl Tryz.ntmps46 Tryz.results46 (by simp only [List.length_cons, List.length_nil]; omega) fun w0 g0 Q hret => ?_
  refine tq (cj2 @i64.eq_1 htyl) ?_; intro Nx hNx Gx hGx
  refine W_loopN ts.length (fun i s => s.df = [] ∧ s.fr 9 = .seq 5 (ts.map tyD) ∧ s.fr 10 = i64 ts.length ∧ s.fr 11 = i64 i ∧ H.le s.H ∧ ∃ p ob, p.length = i ∧ Gl H 3 1 (p.map iD) (s.fr 3) s.H ob) ⟨rfl, rfl, rfl, rfl, Heap.le_refl _, [], none, rfl, Gl.nil _ _ _ _⟩ ?_
  rintro i s hi ⟨hdf, f9, f10, f11, hle, p, ob, hpl, hg⟩
  have hx : (i : Int).toNat = i := Int.toNat_natCast _
  have h00 : (0 : Int) ≤ (i : Int) := Int.natCast_nonneg _
  by_cases hil : i < ts.length
  case neg =>
    have q1 : ((i : Int) < (ts.length : Int)) = False := eq_false (by omega)
    refine tq (cj4 f10 f11 @i64.eq_1 q1) ?_; intro Nx hNx Gx hGx
    refine rt hret hdf ?_
    exact ⟨_, Heap.le_refl _, hle, _, frz_refl hle, _, rfl⟩
  have q1 : ((i : Int) < (ts.length : Int)) = True := eq_true (by omega)
  have hgi : (ts.map tyD)[i]? = some (tyD ts[i]) := by rw [List.getElem?_map, List.getElem?_eq_getElem hil]; rfl
  have hui := har ts[i] (List.getElem_mem hil)
  have w3 : IntKind.i64.wrap ((i : Int) + 1) = ((i + 1 : Nat) : Int) := by rw [wrap_i64_of (by omega)]; omega
  obtain ⟨u, hu⟩ : ∃ u, u = ts[i] := ⟨_, rfl⟩
  rw [← hu] at hgi hui
  obtain ⟨uk, um, ur, ue, ua⟩ := u
  simp only [tyD] at hgi
  simp only at hui
  have hla : (List.map iD ua).length = ua.length := List.length_map _
  have hp3 : (p = [] ∧ s.fr 3 = .val (.slice none 0 0)) ∨ ∃ c o, s.fr 3 = .os c o 1 0 p.length ∧ s.H c = some (.row 3 o 1 (p.map iD)) := by
    rcases hg with ⟨_, h1, h2⟩ | ⟨c, o, _, h1, h2, h3⟩
    · exact .inl ⟨by simpa using h2, h1⟩
    · exact .inr ⟨c, o, by rw [h1, List.length_map], h3⟩
  obtain ⟨d3, hd3⟩ : ∃ d3, d3 = s.fr 3 := ⟨_, rfl⟩
  rw [← hd3] at hg hp3
  refine tq (cj10 f9 f10 f11 @i64.eq_1 q1 hgi hx h00 hil htyl) ?_; intro Nx hNx Gx hGx
  intro c5 hc5
  refine hNx _ ?_
  refine frz 5 hc5 ?_
  (have fs := @i64.eq_1; (iterate 3 (first | refine hGx _ ?_ | refine hNx _ ?_ | refine W_skip ?_ | refine W_exit ?_ | refine W_ret ?_ | refine W_label ?_ | refine W_scope ?_ | refine W_block ?_ | refine W_seq ?_ | ((first | refine tS fun Nx hNx => ?_ | refine WL_gE rfl rfl (by kernel_rfl) (by kernel_rfl) fun Gx hGx => ?_ | refine vcOpsS_sound (by kernel_rfl) ?_ | refine W_ifE fun A B hAx hBx => ?_); refine evT ?_; (first | refine hGx _ ?_ | refine hNx _ ?_ | refine hAx ?_ | refine hBx ?_ | skip)))); (try clear fs))
  have hsel : ∀ (e : Int) (q : 0 ≤ e ∧ e < p.length), ∃ c o v, d3 = .os c o 1 0 p.length ∧ s.H c = some (.row 3 o 1 (p.map iD)) ∧ (p.map iD)[e.toNat]? = some [.val (.int .i64 v)] := fun e q => by
    rcases hp3 with ⟨h, _⟩ | ⟨c, o, h1, h2⟩
    · rw [h] at q; simp at q; omega
    · exact ⟨c, o, _, h1, h2, getD_ints (by omega)⟩
  refine W_to (fun s1 => s1.df = [] ∧ s1.fr 9 = .seq 5 (ts.map tyD) ∧ s1.fr 10 = i64 ts.length ∧ s1.fr 11 = i64 i ∧ s1.fr 5 = .rp [i64 uk, .val (.bool um), i64 ur, i64 ue, .seq 1 (ua.map iD)] ∧ s1.H = s.H ∧ s1.fr 3 = d3 ∧ ∃ v, s1.fr 6 = i64 v) ?_ ?_
  · by_cases h3 : uk = 3
    case neg =>
      have q3 : (uk = 3) = False := eq_false h3
      refine tq (cj2 @i64.eq_1 q3) ?_; intro Nx hNx Gx hGx
      exact ⟨hdf, f9, f10, f11, rfl, rfl, hd3.symm, _, rfl⟩
    have q3 : (uk = 3) = True := eq_true h3
    by_cases h4 : 0 ≤ ue
    case neg =>
      have q4 : (0 ≤ ue) = False := eq_false h4
      refine tq (cj3 @i64.eq_1 q3 q4) ?_; intro Nx hNx Gx hGx
      exact ⟨hdf, f9, f10, f11, rfl, rfl, hd3.symm, _, rfl⟩
    have q4 : (0 ≤ ue) = True := eq_true h4
    by_cases h5 : ue < p.length
    · obtain ⟨c, o, v, h6, h7, h8⟩ := hsel ue ⟨h4, h5⟩
      have q5 : (ue < (p.length : Int)) = True := eq_true h5
      have g3 : s.fr 3 = .os c o 1 0 p.length := hd3.symm.trans h6
      refine tq (cj7 g3 @i64.eq_1 q3 q4 q5 h7 h8) ?_; intro Nx hNx Gx hGx
      exact ⟨hdf, f9, f10, f11, rfl, rfl, hd3.symm, _, rfl⟩
    · have q5 : (ue < (p.length : Int)) = False := eq_false h5
      rcases hp3 with ⟨h6, h7⟩ | ⟨c, o, h6, h7⟩
      · have g3 : s.fr 3 = .val (.slice none 0 0) := hd3.symm.trans h7
        rw [h6] at q5
        simp only [List.length_nil, Int.natCast_zero] at q5
        refine tq (cj5 g3 @i64.eq_1 q3 q4 q5) ?_; intro Nx hNx Gx hGx
        exact ⟨hdf, f9, f10, f11, rfl, rfl, hd3.symm, _, rfl⟩
      · have g3 : s.fr 3 = .os c o 1 0 p.length := hd3.symm.trans h6
        refine tq (cj5 g3 @i64.eq_1 q3 q4 q5) ?_; intro Nx hNx Gx hGx
        exact ⟨hdf, f9, f10, f11, rfl, rfl, hd3.symm, _, rfl⟩
  rintro s1 ⟨hdf1, g9, g10, g11, g5, hH1, g3, v, g6⟩
  refine tq (cj3 g5 @i64.eq_1 hla) ?_; intro Nx hNx Gx hGx
  refine W_loopN ua.length (fun j s' => s'.df = [] ∧ s'.fr 9 = .seq 5 (ts.map tyD) ∧ s'.fr 10 = i64 ts.length ∧ s'.fr 11 = i64 i ∧ s'.fr 38 = .seq 1 (ua.map iD) ∧ s'.fr 39 = i64 ua.length ∧ s'.fr 40 = i64 j ∧ s'.H = s.H ∧ s'.fr 3 = d3 ∧ ∃ v, s'.fr 6 = i64 v) ⟨hdf1, g9, g10, g11, rfl, rfl, rfl, hH1, g3, v, g6⟩ ?_
  rintro j s2 hj ⟨hdf2, k9, k10, k11, k38, k39, k40, hH2, k3, v2, k6⟩
  have hjx : (j : Int).toNat = j := Int.toNat_natCast _
  have h0j : (0 : Int) ≤ (j : Int) := Int.natCast_nonneg _
  have hle2 : H.le s2.H := by rw [hH2]; exact hle
  by_cases hjl : j < ua.length
  case neg =>
    have q2 : ((j : Int) < (ua.length : Int)) = False := eq_false (by omega)
    have hg2 : Gl H 3 1 (p.map iD) (s2.fr 3) s2.H ob := by rw [k3, hH2]; exact hg
    refine tq (cj5 k39 k40 k6 @i64.eq_1 q2) ?_; intro Nx hNx Gx hGx
    refine apV_grow (e := 3) ty48 rfl ty48 rfl ty3 rfl (by decide) hle2 hg2 (new := [iD v2]) (by exact ⟨rfl, rfl⟩) (by rw [List.length_map]; show (_ + 1) * 8 ≤ _; omega) fun d H6 ob6 hg6 hle6 _ => ?_
    rw [show [iD v2] = [v2].map iD from rfl, ← List.map_append] at hg6
    refine tq (cj3 k11 @i64.eq_1 w3) ?_; intro Nx hNx Gx hGx
    exact ⟨hil, hdf2, k9, k10, rfl, hle6, _, ob6, by rw [List.length_append]; simp [hpl], hg6⟩
  have q2 : ((j : Int) < (ua.length : Int)) = True := eq_true (by omega)
  have hgj := get_ints hjl
  have w4 : IntKind.i64.wrap ((j : Int) + 1) = ((j + 1 : Nat) : Int) := by rw [wrap_i64_of (by omega)]; omega
  obtain ⟨f, hfe⟩ : ∃ f, f = ua[j] := ⟨_, rfl⟩
  rw [← hfe] at hgj
  (have fs := And.intro k38 (And.intro k39 (And.intro k40 (And.intro @i64.eq_1 (And.intro q2 (And.intro hgj (And.intro hjx (And.intro h0j (And.intro hjl hla)))))))); (iterate 10 (first | refine hGx _ ?_ | refine hNx _ ?_ | refine W_skip ?_ | refine W_exit ?_ | refine W_ret ?_ | refine W_label ?_ | refine W_scope ?_ | refine W_block ?_ | refine W_seq ?_ | ((first | refine tS fun Nx hNx => ?_ | refine WL_gE rfl rfl (by kernel_rfl) (by kernel_rfl) fun Gx hGx => ?_ | refine vcOpsS_sound (by kernel_rfl) ?_ | refine W_ifE fun A B hAx hBx => ?_); refine evT ?_; (first | refine hGx _ ?_ | refine hNx _ ?_ | refine hAx ?_ | refine hBx ?_ | skip)))); (try clear fs))
  refine W_to (fun s3 => s3.df = [] ∧ s3.fr 9 = .seq 5 (ts.map tyD) ∧ s3.fr 10 = i64 ts.length ∧ s3.fr 11 = i64 i ∧ s3.fr 38 = .seq 1 (ua.map iD) ∧ s3.fr 39 = i64 ua.length ∧ s3.fr 40 = i64 j ∧ s3.H = s.H ∧ s3.fr 3 = d3 ∧ ∃ v, s3.fr 6 = i64 v) ?_ ?_
  · by_cases h4 : 0 ≤ f
    case neg =>
      have q4 : (0 ≤ f) = False := eq_false h4
      refine tq (cj2 @i64.eq_1 q4) ?_; intro Nx hNx Gx hGx
      exact ⟨hdf2, k9, k10, k11, k38, k39, k40, hH2, k3, v2, k6⟩
    have q4 : (0 ≤ f) = True := eq_true h4
    by_cases h5 : f < p.length
    · obtain ⟨c, o, v, h6, h7, h8⟩ := hsel f ⟨h4, h5⟩
      have q5 : (f < (p.length : Int)) = True := eq_true h5
      have m3 : s2.fr 3 = .os c o 1 0 p.length := k3.trans h6
      rw [← hH2] at h7
      refine tq (cj7 m3 k6 @i64.eq_1 q4 q5 h7 h8) ?_; intro Nx hNx Gx hGx
      exact ⟨hdf2, k9, k10, k11, k38, k39, k40, hH2, k3, _, rfl⟩
    · have q5 : (f < (p.length : Int)) = False := eq_false h5
      rcases hp3 with ⟨h6, h7⟩ | ⟨c, o, h6, h7⟩
      · have m3 : s2.fr 3 = .val (.slice none 0 0) := k3.trans h7
        rw [h6] at q5
        simp only [List.length_nil, Int.natCast_zero] at q5
        refine tq (cj4 m3 @i64.eq_1 q4 q5) ?_; intro Nx hNx Gx hGx
        exact ⟨hdf2, k9, k10, k11, k38, k39, k40, hH2, k3, v2, k6⟩
      · have m3 : s2.fr 3 = .os c o 1 0 p.length := k3.trans h6
        refine tq (cj4 m3 @i64.eq_1 q4 q5) ?_; intro Nx hNx Gx hGx
        exact ⟨hdf2, k9, k10, k11, k38, k39, k40, hH2, k3, v2, k6⟩
  rintro s3 ⟨hdf3, m9, m10, m11, m38, m39, m40, hH3, m3, v3, m6⟩
  have hle3 : H.le s3.H := by rw [hH3]; exact hle
  by_cases hbig : 2000 < v3
  · have q5 : (2000 < v3) = True := eq_true hbig
    refine tq (cj3 m6 @i64.eq_1 q5) ?_; intro Nx hNx Gx hGx
    refine rt hret hdf3 ?_
    exact ⟨_, Heap.le_refl _, hle3, _, frz_refl hle3, _, rfl⟩
  · have q5 : (2000 < v3) = False := eq_false hbig
    refine tq (cj5 m6 m40 @i64.eq_1 q5 w4) ?_; intro Nx hNx Gx hGx
    exact ⟨hjl, hdf3, m9, m10, m11, m38, m39, rfl, hH3, m3, v3, m6⟩
theorem skip6_N (ts : List TyS) (H : Heap) (htl : ts.length ≤ 140737488351232) (har : ∀ u ∈ ts, u.ar.length ≤ 140737488351232) : Does Tryz.prog 22 [.seq 5 (ts.map tyD)] H fun d H' => (d = i64 1 ∨ (d = i64 0 ∧ tot6 ts ≤ 200)) ∧ H = H' := by
  refine Does.frz (K := fun d => d = i64 1 ∨ (d = i64 0 ∧ tot6 ts ≤ 200)) ?_
  have hle := Heap.le_refl H
  refine does_of _ _ Tryz.func22 rfl rfl Tryz.ntmps22 Tryz.results22 (by simp only [List.length_cons, List.length_nil]; omega) fun w0 g0 Q hret => ?_
  refine tq @i64.eq_1 ?_; intro Nx hNx Gx hGx
  refine (large6_N ts _ htl har).mono ?_
  rintro d _ ⟨rfl, rfl⟩
  by_cases hb : 200 < tot6 ts
  · rw [if_pos hb]
    refine tq @i64.eq_1 ?_; intro Nx hNx Gx hGx
    refine rt hret @i64.eq_1 ?_
    exact ⟨_, Heap.le_refl _, hle, _, frz_refl hle, .inl rfl⟩
  rw [if_neg hb]
  refine tq @i64.eq_1 ?_; intro Nx hNx Gx hGx
  have := tot_len ts
  refine (wide6_N ts _ (by omega) har).mono ?_
  rintro d _ ⟨⟨b, rfl⟩, rfl⟩
  cases b with
  | true =>
    refine tq @i64.eq_1 ?_; intro Nx hNx Gx hGx
    refine rt hret @i64.eq_1 ?_
    exact ⟨_, Heap.le_refl _, hle, _, frz_refl hle, .inl rfl⟩
  | false =>
    refine tq @i64.eq_1 ?_; intro Nx hNx Gx hGx
    refine rt hret @i64.eq_1 ?_
    exact ⟨_, Heap.le_refl _, hle, _, frz_refl hle, .inr ⟨rfl, by omega⟩⟩
def sm {α : Type} (f : α → Nat) : List α → Nat
  | [] => 0
  | x :: l => f x + sm f l
theorem sm_append {α : Type} (f : α → Nat) : ∀ (l m : List α), sm f (l ++ m) = sm f l + sm f m
  | [], m => by simp [sm]
  | x :: l, m => by simp only [List.cons_append, sm]; rw [sm_append f l m]; omega
theorem sm_take {α : Type} {f : α → Nat} {l : List α} {i : Nat} (h : i < l.length) : sm f (l.take (i + 1)) = sm f (l.take i) + f l[i] := by
  rw [List.take_succ_eq_append_getElem h, sm_append]; simp [sm]
theorem sm_le {α : Type} (f : α → Nat) (l : List α) (i : Nat) : sm f (l.take i) ≤ sm f l := by
  have := sm_append f (l.take i) (l.drop i)
  rw [List.take_append_drop] at this
  omega
theorem sm_mem {α : Type} {f : α → Nat} {x : α} : ∀ {l : List α}, x ∈ l → f x ≤ sm f l
  | y :: l, h => by
    simp only [sm]
    rcases List.mem_cons.1 h with rfl | h
    · omega
    · have := @sm_mem α f x l h; omega
theorem sm_mono {α : Type} {f g : α → Nat} : ∀ {l : List α}, (∀ x ∈ l, f x ≤ g x) → sm f l ≤ sm g l
  | [], _ => Nat.le_refl _
  | x :: l, h => by
    simp only [sm]
    have h1 := h x (by simp)
    have h2 := @sm_mono α f g l fun y hy => h y (by simp [hy])
    omega
theorem sm_len {α : Type} (l : List α) : sm (fun _ => 1) l = l.length := by
  induction l with
  | nil => rfl
  | cons x l ih => simp only [sm, List.length_cons]; omega
theorem sm_mul {α : Type} (f : α → Nat) (k : Nat) (l : List α) : sm (fun x => k * f x) l = k * sm f l := by
  induction l with
  | nil => simp [sm]
  | cons x l ih => simp only [sm]; rw [ih, Nat.mul_add]
theorem sm_add {α : Type} (f g : α → Nat) (l : List α) : sm (fun x => f x + g x) l = sm f l + sm g l := by
  induction l with
  | nil => simp [sm]
  | cons x l ih => simp only [sm]; rw [ih]; omega
def nOps (l : List OpS) : Nat := sm (fun o => 2 + o.pl.pr.length) l
def nSt (s : StS) : Nat := 4 + s.pl.pr.length + s.rv.pl.pr.length + nOps s.rv.ar
def nTm (t : TmS) : Nat := 2 + t.tg.length + nOps t.ar + t.pl.pr.length
def nBk (x : BkS) : Nat := sm nSt x.st + nTm x.tm
def nodesT (b : BdS) : Nat := 1 + b.rg.length + b.ol.length + b.lc.length + b.ty.length + b.bl.length + sm (fun t => t.ar.length) b.ty + sm nBk b.bl
def smP (p : PlS) : Prop := p.pr.length ≤ 1000000
def smO (l : List OpS) : Prop := l.length ≤ 1000000 ∧ ∀ o ∈ l, smP o.pl
def smL (b : BdS) : Prop := b.rg.length ≤ 1000000 ∧ b.lc.length ≤ 1000000 ∧ b.bl.length ≤ 1000000
def smBk (x : BkS) : Prop := x.st.length ≤ 1000000 ∧ (∀ s ∈ x.st, smP s.pl ∧ smP s.rv.pl ∧ smO s.rv.ar) ∧ x.tm.tg.length ≤ 1000000 ∧ smO x.tm.ar ∧ smP x.tm.pl ∧ nBk x ≤ 1000000
def Ab (T n : Nat) : Prop := n ≤ T ∧ min T 9000 ≤ n
theorem Ab.add {T n X v : Nat} (h : Ab T n) (h2 : Ab X v) : Ab (T + X) (n + v) := by unfold Ab at *; omega
theorem Ab.same (X : Nat) : Ab X X := by unfold Ab; omega
theorem Ab.cut (X : Nat) : Ab X (min X 9000) := by unfold Ab; omega
def opz (l : List OpS) : Nat := l.length + sm (fun o => o.pl.pr.length) l
def upTo {α : Type} (f : α → Nat) : List α → Nat → Nat
  | [], n => n
  | x :: l, n => if 9000 < n + f x then n + f x else upTo f l (n + f x)
theorem upTo_ab {α : Type} (f : α → Nat) (hf : ∀ x, f x ≤ 9000) : ∀ (l : List α) (n : Nat), n ≤ 9000 → upTo f l n ≤ n + sm f l ∧ min (n + sm f l) 9000 ≤ upTo f l n ∧ upTo f l n ≤ 18000
  | [], n, h => by simp only [upTo, sm]; omega
  | x :: l, n, h => by
    have hx := hf x
    simp only [upTo, sm]
    by_cases hb : 9000 < n + f x
    · rw [if_pos hb]; omega
    · rw [if_neg hb]
      have := upTo_ab f hf l (n + f x) (by omega)
      omega
def opV (l : List OpS) : Nat := upTo (fun o : OpS => min o.pl.pr.length 9000) (l.take (min l.length 9000)) (min l.length 9000)
theorem opV_ab (l : List OpS) : Ab (opz l) (opV l) ∧ opV l ≤ 18000 := by
  have h0 := upTo_ab (fun o : OpS => min o.pl.pr.length 9000) (fun x => Nat.min_le_right _ _) (l.take (min l.length 9000)) (min l.length 9000) (Nat.min_le_right _ _)
  have e1 : ∀ m : List OpS, Ab (sm (fun o : OpS => o.pl.pr.length) m) (sm (fun o : OpS => min o.pl.pr.length 9000) m) := fun m => by
    induction m with
    | nil => exact Ab.same 0
    | cons x m ih => exact (Ab.cut _).add ih
  have h1 := (Ab.cut l.length).add (e1 (l.take (min l.length 9000)))
  have h3 : sm (fun o : OpS => o.pl.pr.length) (l.take (min l.length 9000)) ≤ sm (fun o : OpS => o.pl.pr.length) l := sm_le _ _ _
  refine ⟨?_, h0.2.2⟩
  by_cases h : l.length ≤ 9000
  · have e : l.take (min l.length 9000) = l := List.take_of_length_le (by omega)
    unfold opV
    rw [e] at h1 h0 ⊢
    unfold Ab opz at *
    omega
  · unfold opV
    unfold Ab opz at *
    omega
set_option maxHeartbeats 1000000 in
theorem lops_N (l : List OpS) (H : Heap) (hl : l.length ≤ 140737488351232) (hlx : ∀ o ∈ l, o.pl.pr.length ≤ 140737488351232) : Does Tryz.prog 38 [.seq 4 (l.map opD)] H fun d H' => d = i64 (opV l) ∧ H = H' := by
  have hll : (List.map opD l).length = l.length := List.length_map _
  obtain ⟨a, ha⟩ : ∃ a, a = min l.length 9000 := ⟨_, rfl⟩
  have hm : min (l.length : Int) 9000 = (a : Int) := by omega
  obtain ⟨l', hl'⟩ : ∃ l', l' = l.take a := ⟨_, rfl⟩
  have hla : l'.length = a := by rw [hl', List.length_take]; omega
  have hln : (List.map opD l').length = a := by rw [List.length_map, hla]
  have ht : List.take a (List.map opD l) = List.map opD l' := by rw [hl', List.map_take]
  have g1 : ((0 : Int) ≤ (a : Int)) = True := eq_true (by omega)
  have g2 : ((a : Int) ≤ (l.length : Int)) = True := eq_true (by omega)
  have hlx' : ∀ o ∈ l', o.pl.pr.length ≤ 140737488351232 := fun o ho => hlx o (by rw [hl'] at ho; exact List.mem_of_mem_take ho)
  refine does_of _ _ Tryz.func38 rfl rfl Tryz.ntmps38 Tryz.results38 (by simp only [List.length_cons, List.length_nil]; omega) fun w0 g0 Q hret => ?_
  refine tq (cj7 @i64.eq_1 hll hm ht g1 g2 hln) ?_; intro Nx hNx Gx hGx
  refine W_loopN a (fun i s => s.df = [] ∧ s.fr 11 = .seq 4 (l'.map opD) ∧ s.fr 12 = i64 a ∧ s.fr 13 = i64 i ∧ s.fr 3 = i64 ((a + sm (fun o : OpS => min o.pl.pr.length 9000) (l'.take i) : Nat) : Int) ∧ a + sm (fun o : OpS => min o.pl.pr.length 9000) (l'.take i) ≤ 9000 ∧ opV l = upTo (fun o : OpS => min o.pl.pr.length 9000) (l'.drop i) (a + sm (fun o : OpS => min o.pl.pr.length 9000) (l'.take i)) ∧ s.H = H) ⟨rfl, rfl, rfl, rfl, rfl, by simp only [List.take_zero, sm]; omega, by simp only [List.take_zero, sm, List.drop_zero, Nat.add_zero]; unfold opV; rw [← ha, ← hl'], rfl⟩ ?_
  rintro i s hi ⟨hdf, f11, f12, f13, f3, hb, hV, hH⟩
  have hx : (i : Int).toNat = i := Int.toNat_natCast _
  have h00 : (0 : Int) ≤ (i : Int) := Int.natCast_nonneg _
  by_cases hil : i < a
  case neg =>
    have p1 : ((i : Int) < (a : Int)) = False := eq_false (by omega)
    rw [List.take_of_length_le (by omega)] at f3 hb hV
    rw [List.drop_eq_nil_of_le (by omega)] at hV
    simp only [upTo] at hV
    rw [← hV] at f3
    refine tq (cj6 f3 f11 f12 f13 @i64.eq_1 p1) ?_; intro Nx hNx Gx hGx
    refine rt hret hdf ?_
    exact ⟨_, Heap.le_refl _, rfl, hH.symm⟩
  have p1 : ((i : Int) < (a : Int)) = True := eq_true (by omega)
  have hil' : i < l'.length := by omega
  have hgi := map_get (f := opD) hil'
  have htk : sm (fun o : OpS => min o.pl.pr.length 9000) (l'.take (i + 1)) = sm (fun o : OpS => min o.pl.pr.length 9000) (l'.take i) + min l'[i].pl.pr.length 9000 := sm_take hil'
  rw [List.drop_eq_getElem_cons hil'] at hV
  have hxp := hlx' l'[i] (List.getElem_mem hil')
  obtain ⟨x, hxe⟩ : ∃ x, x = l'[i] := ⟨_, rfl⟩
  rw [← hxe] at hgi htk hxp hV
  simp only [opD] at hgi
  have hlp : (List.map pD x.pl.pr).length = x.pl.pr.length := List.length_map _
  have hm2 : min (x.pl.pr.length : Int) 9000 = ((min x.pl.pr.length 9000 : Nat) : Int) := by omega
  obtain ⟨n, hn⟩ : ∃ n, n = a + sm (fun o : OpS => min o.pl.pr.length 9000) (l'.take (i + 1)) := ⟨_, rfl⟩
  have w3 : IntKind.i64.wrap ((i : Int) + 1) = ((i + 1 : Nat) : Int) := by rw [wrap_i64_of (by omega)]; omega
  have w4 : IntKind.i64.wrap (((a + sm (fun o : OpS => min o.pl.pr.length 9000) (l'.take i) : Nat) : Int) + ((min x.pl.pr.length 9000 : Nat) : Int)) = (n : Int) := by rw [wrap_i64_of (by omega)]; omega
  refine tq (cj11 f3 f11 f12 f13 @i64.eq_1 p1 hgi hx h00 hil hln) ?_; intro Nx hNx Gx hGx
  intro c5 hc5
  refine hNx _ ?_
  refine frz 5 hc5 ?_
  simp only [upTo] at hV
  have hnn : a + sm (fun o : OpS => min o.pl.pr.length 9000) (l'.take i) + min x.pl.pr.length 9000 = n := by omega
  rw [hnn] at hV
  by_cases hbig : 9000 < n
  · have p2 : ((9000 : Int) < (n : Int)) = True := eq_true (by omega)
    refine tq (cj7 f3 f13 @i64.eq_1 hlp hm2 w4 p2) ?_; intro Nx hNx Gx hGx
    refine rt hret hdf ?_
    rw [if_pos hbig] at hV
    exact ⟨_, Heap.le_refl _, by rw [hV]; rfl, hH.symm⟩
  · have p2 : ((9000 : Int) < (n : Int)) = False := eq_false (by omega)
    refine tq (cj8 f3 f13 @i64.eq_1 hlp hm2 w3 w4 p2) ?_; intro Nx hNx Gx hGx
    rw [if_neg hbig] at hV
    exact ⟨hil, hdf, f11, f12, rfl, by rw [← hn]; rfl, by omega, by rw [← hn]; exact hV, hH⟩
def szS (s : StS) : Nat := s.pl.pr.length + s.rv.pl.pr.length + opz s.rv.ar
def szB (x : BkS) : Nat := 1 + x.st.length + x.tm.tg.length + x.tm.pl.pr.length + x.tm.nm.size + sm szS x.st + opz x.tm.ar
def t1 (b : BdS) (i : Nat) : Nat := b.nm.size + b.ol.length + sm (fun s : ByteArray => 1 + s.size) (b.rg.take i)
def t2 (b : BdS) (i : Nat) : Nat := t1 b b.rg.length + sm (fun t : TyS => 1 + t.ar.length) (b.ty.take i)
def t3 (b : BdS) (i : Nat) : Nat := t2 b b.ty.length + sm (fun l : LcS => 1 + l.nm.size) (b.lc.take i)
def t4 (b : BdS) (i : Nat) : Nat := t3 b b.lc.length + sm szB (b.bl.take i)
def tot (b : BdS) : Nat := t4 b b.bl.length
def lg (b : BdS) : Int := if 3000 < tot b then 1 else 0
theorem t4_le (b : BdS) (i : Nat) : t4 b i ≤ tot b := by
  have := sm_le szB b.bl i
  unfold tot t4; rw [List.take_length]; omega
theorem t4_succ {b : BdS} {i : Nat} (h : i < b.bl.length) : t4 b (i + 1) = t4 b i + szB b.bl[i] := by
  have := sm_take (f := szB) h
  unfold t4; omega
set_option maxHeartbeats 2000000 in
theorem large_N (b : BdS) (H : Heap) (ok : okBd b) : Does Tryz.prog 16 [.agg (bdD b)] H fun d H' => d = i64 (lg b) ∧ H = H' := by
  refine Does.frz (K := fun d => d = i64 (lg b)) ?_
  obtain ⟨hrg, hol, ⟨hty, htx⟩, hlc, hbl, hbx⟩ := ok
  unfold big at hrg hol hty hlc hbl
  have lrg : (List.map sD b.rg).length = b.rg.length := List.length_map _
  have lol : (List.map pD b.ol).length = b.ol.length := List.length_map _
  have llc : (List.map lcD b.lc).length = b.lc.length := List.length_map _
  have lty : (List.map tyD b.ty).length = b.ty.length := List.length_map _
  have lbl : (List.map bkD b.bl).length = b.bl.length := List.length_map _
  have mq : min (b.nm.size : Int) 9000 = ((min b.nm.size 9000 : Nat) : Int) := by omega
  have wq : IntKind.i64.wrap (((min b.nm.size 9000 : Nat) : Int) + (b.ol.length : Int)) = ((min b.nm.size 9000 + b.ol.length : Nat) : Int) := by rw [wrap_i64_of (by omega)]; omega
  have a0 : Ab (t1 b 0) (min b.nm.size 9000 + b.ol.length) := by have := (Ab.cut b.nm.size).add (Ab.same b.ol.length); exact this
  refine does_of _ _ Tryz.func16 rfl rfl Tryz.ntmps16 Tryz.results16 (by simp only [List.length_cons, List.length_nil]; omega) fun w0 g0 Q hret => ?_
  refine tq (cj3 @i64.eq_1 @bdD.eq_1 @strD.eq_1) ?_; intro Nx hNx Gx hGx
  intro c1 hc1
  refine hNx _ ?_
  refine frz 1 hc1 ?_
  refine tq (cj8 @i64.eq_1 lrg lol llc lty lbl mq wq) ?_; intro Nx hNx Gx hGx
  refine W_loopN b.rg.length (fun i s => s.df = [] ∧ s.fr 1 = .rp (bdD b) ∧ s.fr 23 = .seq 1 (b.rg.map sD) ∧ s.fr 24 = i64 b.rg.length ∧ s.fr 25 = i64 i ∧ (∃ n, s.fr 3 = i64 (n : Nat) ∧ Ab (t1 b i) n ∧ n ≤ (9000 + 140737488351232) + 9001 * i) ∧ H.le s.H) ⟨rfl, rfl, rfl, rfl, rfl, ⟨_, rfl, a0, by omega⟩, Heap.le_refl _⟩ ?_
  rintro i s hi ⟨hdf, f1, f23, f24, f25, ⟨n, f3, hA, hn⟩, hle⟩
  have hx : (i : Int).toNat = i := Int.toNat_natCast _
  have h00 : (0 : Int) ≤ (i : Int) := Int.natCast_nonneg _
  have w3 : IntKind.i64.wrap ((i : Int) + 1) = ((i + 1 : Nat) : Int) := by rw [wrap_i64_of (by omega)]; omega
  by_cases hil : i < b.rg.length
  case pos =>
    have p1 : ((i : Int) < (b.rg.length : Int)) = True := eq_true (by omega)
    have hgi := map_get (f := sD) hil
    have hsu : t1 b (i + 1) = t1 b i + (1 + b.rg[i].size) := by have := sm_take (f := fun x => 1 + x.size) hil; unfold t1; omega
    obtain ⟨x, hxe⟩ : ∃ x, x = b.rg[i] := ⟨_, rfl⟩
    rw [← hxe] at hgi hsu
    simp only [sD, strD] at hgi
    have m1 : min (x.size : Int) 9000 = ((min (x.size) 9000 : Nat) : Int) := by omega
    have w4 : IntKind.i64.wrap (1 + ((min (x.size) 9000 : Nat) : Int)) = ((1 + min (x.size) 9000 : Nat) : Int) := by rw [wrap_i64_of (by omega)]; omega
    have w5 : IntKind.i64.wrap ((n : Int) + ((1 + min (x.size) 9000 : Nat) : Int)) = ((n + (1 + min (x.size) 9000) : Nat) : Int) := by rw [wrap_i64_of (by omega)]; omega
    refine tq (cj15 f3 f23 f24 f25 @i64.eq_1 p1 hgi hx h00 hil lrg m1 w3 w4 w5) ?_; intro Nx hNx Gx hGx
    exact ⟨hil, hdf, f1, f23, f24, rfl, ⟨_, rfl, by rw [hsu]; exact hA.add ((Ab.same 1).add (Ab.cut _)), by omega⟩, hle⟩
  have p1 : ((i : Int) < (b.rg.length : Int)) = False := eq_false (by omega)
  have ei : i = b.rg.length := by omega
  subst ei
  have f1' := f1
  simp only [bdD] at f1
  have a1 : Ab (t2 b 0) n := hA
  clear hx h00 w3 hi hil
  refine tq (cj8 f1 f3 f23 f24 f25 @i64.eq_1 p1 lty) ?_; intro Nx hNx Gx hGx
  refine W_loopN b.ty.length (fun i s => s.df = [] ∧ s.fr 1 = .rp (bdD b) ∧ s.fr 37 = .seq 5 (b.ty.map tyD) ∧ s.fr 38 = i64 b.ty.length ∧ s.fr 39 = i64 i ∧ (∃ n, s.fr 3 = i64 (n : Nat) ∧ Ab (t2 b i) n ∧ n ≤ (9000 + 9002 * 140737488351232) + 9001 * i) ∧ H.le s.H) ⟨hdf, f1', rfl, rfl, rfl, ⟨_, f3, a1, by omega⟩, hle⟩ ?_
  clear hdf f1 f1' f23 f24 f25 f3 hA a1 hn hle p1
  rintro i s hi ⟨hdf, f1, f37, f38, f39, ⟨n, f3, hA, hn⟩, hle⟩
  have hx : (i : Int).toNat = i := Int.toNat_natCast _
  have h00 : (0 : Int) ≤ (i : Int) := Int.natCast_nonneg _
  have w3 : IntKind.i64.wrap ((i : Int) + 1) = ((i + 1 : Nat) : Int) := by rw [wrap_i64_of (by omega)]; omega
  by_cases hil : i < b.ty.length
  case pos =>
    have p1 : ((i : Int) < (b.ty.length : Int)) = True := eq_true (by omega)
    have hgi := map_get (f := tyD) hil
    have hsu : t2 b (i + 1) = t2 b i + (1 + b.ty[i].ar.length) := by have := sm_take (f := fun x => 1 + x.ar.length) hil; unfold t2; omega
    obtain ⟨x, hxe⟩ : ∃ x, x = b.ty[i] := ⟨_, rfl⟩
    rw [← hxe] at hgi hsu
    simp only [tyD, strD] at hgi
    have m1 : min (x.ar.length : Int) 9000 = ((min (x.ar.length) 9000 : Nat) : Int) := by omega
    have w4 : IntKind.i64.wrap (1 + ((min (x.ar.length) 9000 : Nat) : Int)) = ((1 + min (x.ar.length) 9000 : Nat) : Int) := by rw [wrap_i64_of (by omega)]; omega
    have w5 : IntKind.i64.wrap ((n : Int) + ((1 + min (x.ar.length) 9000 : Nat) : Int)) = ((n + (1 + min (x.ar.length) 9000) : Nat) : Int) := by rw [wrap_i64_of (by omega)]; omega
    have hlx : (List.map iD x.ar).length = x.ar.length := List.length_map _
    refine tq (cj11 f3 f37 f38 f39 @i64.eq_1 p1 hgi hx h00 hil lty) ?_; intro Nx hNx Gx hGx
    intro c5 hc5
    refine hNx _ ?_
    refine frz 7 hc5 ?_
    refine tq (cj8 f3 f39 @i64.eq_1 m1 w3 w4 w5 hlx) ?_; intro Nx hNx Gx hGx
    exact ⟨hil, hdf, f1, f37, f38, rfl, ⟨_, rfl, by rw [hsu]; exact hA.add ((Ab.same 1).add (Ab.cut _)), by omega⟩, hle⟩
  have p1 : ((i : Int) < (b.ty.length : Int)) = False := eq_false (by omega)
  have ei : i = b.ty.length := by omega
  subst ei
  have f1' := f1
  simp only [bdD] at f1
  have a1 : Ab (t3 b 0) n := hA
  clear hx h00 w3 hi hil
  refine tq (cj8 f1 f3 f37 f38 f39 @i64.eq_1 p1 llc) ?_; intro Nx hNx Gx hGx
  refine W_loopN b.lc.length (fun i s => s.df = [] ∧ s.fr 1 = .rp (bdD b) ∧ s.fr 52 = .seq 2 (b.lc.map lcD) ∧ s.fr 53 = i64 b.lc.length ∧ s.fr 54 = i64 i ∧ (∃ n, s.fr 3 = i64 (n : Nat) ∧ Ab (t3 b i) n ∧ n ≤ (9000 + 18003 * 140737488351232) + 9001 * i) ∧ H.le s.H) ⟨hdf, f1', rfl, rfl, rfl, ⟨_, f3, a1, by omega⟩, hle⟩ ?_
  clear hdf f1 f1' f37 f38 f39 f3 hA a1 hn hle p1
  rintro i s hi ⟨hdf, f1, f52, f53, f54, ⟨n, f3, hA, hn⟩, hle⟩
  have hx : (i : Int).toNat = i := Int.toNat_natCast _
  have h00 : (0 : Int) ≤ (i : Int) := Int.natCast_nonneg _
  have w3 : IntKind.i64.wrap ((i : Int) + 1) = ((i + 1 : Nat) : Int) := by rw [wrap_i64_of (by omega)]; omega
  by_cases hil : i < b.lc.length
  case pos =>
    have p1 : ((i : Int) < (b.lc.length : Int)) = True := eq_true (by omega)
    have hgi := map_get (f := lcD) hil
    have hsu : t3 b (i + 1) = t3 b i + (1 + b.lc[i].nm.size) := by have := sm_take (f := fun x => 1 + x.nm.size) hil; unfold t3; omega
    obtain ⟨x, hxe⟩ : ∃ x, x = b.lc[i] := ⟨_, rfl⟩
    rw [← hxe] at hgi hsu
    simp only [lcD, strD] at hgi
    have m1 : min (x.nm.size : Int) 9000 = ((min (x.nm.size) 9000 : Nat) : Int) := by omega
    have w4 : IntKind.i64.wrap (1 + ((min (x.nm.size) 9000 : Nat) : Int)) = ((1 + min (x.nm.size) 9000 : Nat) : Int) := by rw [wrap_i64_of (by omega)]; omega
    have w5 : IntKind.i64.wrap ((n : Int) + ((1 + min (x.nm.size) 9000 : Nat) : Int)) = ((n + (1 + min (x.nm.size) 9000) : Nat) : Int) := by rw [wrap_i64_of (by omega)]; omega
    refine tq (cj11 f3 f52 f53 f54 @i64.eq_1 p1 hgi hx h00 hil llc) ?_; intro Nx hNx Gx hGx
    intro c5 hc5
    refine hNx _ ?_
    refine frz 9 hc5 ?_
    refine tq (cj7 f3 f54 @i64.eq_1 m1 w3 w4 w5) ?_; intro Nx hNx Gx hGx
    exact ⟨hil, hdf, f1, f52, f53, rfl, ⟨_, rfl, by rw [hsu]; exact hA.add ((Ab.same 1).add (Ab.cut _)), by omega⟩, hle⟩
  have p1 : ((i : Int) < (b.lc.length : Int)) = False := eq_false (by omega)
  have ei : i = b.lc.length := by omega
  subst ei
  have f1' := f1
  simp only [bdD] at f1
  have a1 : Ab (t4 b 0) n := hA
  clear hx h00 w3 hi hil
  by_cases hbig : 3000 < n
  · have p2 : ((3000 : Int) < (n : Int)) = True := eq_true (by omega)
    have e : lg b = 1 := by
      have := t4_le b 0
      unfold lg; rw [if_pos (by unfold Ab at a1; omega)]
    rw [e] at hret
    refine tq (cj8 f1 f3 f52 f53 f54 @i64.eq_1 p1 p2) ?_; intro Nx hNx Gx hGx
    refine rt hret hdf ?_
    exact ⟨_, Heap.le_refl _, hle, _, frz_refl hle, rfl⟩
  have p2 : ((3000 : Int) < (n : Int)) = False := eq_false (by omega)
  refine tq (cj9 f1 f3 f52 f53 f54 @i64.eq_1 p1 p2 lbl) ?_; intro Nx hNx Gx hGx
  refine W_loopN b.bl.length (fun i s => s.df = [] ∧ s.fr 69 = .seq 7 (b.bl.map bkD) ∧ s.fr 70 = i64 b.bl.length ∧ s.fr 71 = i64 i ∧ (∃ n, s.fr 3 = i64 (n : Nat) ∧ Ab (t4 b i) n ∧ n ≤ 23000) ∧ H.le s.H) ⟨hdf, rfl, rfl, rfl, ⟨_, f3, a1, by omega⟩, hle⟩ ?_
  clear hdf f1 f1' f52 f53 f54 f3 hA a1 hn hle p1 p2 hbig
  rintro i s hi ⟨hdf, f69, f70, f71, ⟨n, f3, hA, hn⟩, hle⟩
  have hx : (i : Int).toNat = i := Int.toNat_natCast _
  have h00 : (0 : Int) ≤ (i : Int) := Int.natCast_nonneg _
  have w3 : IntKind.i64.wrap ((i : Int) + 1) = ((i + 1 : Nat) : Int) := by rw [wrap_i64_of (by omega)]; omega
  have one : 3000 < tot b → lg b = 1 := fun h => if_pos h
  by_cases hil : i < b.bl.length
  case neg =>
    have p1 : ((i : Int) < (b.bl.length : Int)) = False := eq_false (by omega)
    have ei : i = b.bl.length := by omega
    subst ei
    by_cases hbig : 3000 < n
    · have p2 : ((3000 : Int) < (n : Int)) = True := eq_true (by omega)
      have e : lg b = 1 := one (by unfold tot; unfold Ab at hA; omega)
      rw [e] at hret
      refine tq (cj7 f3 f69 f70 f71 @i64.eq_1 p1 p2) ?_; intro Nx hNx Gx hGx
      refine rt hret hdf ?_
      exact ⟨_, Heap.le_refl _, hle, _, frz_refl hle, rfl⟩
    · have p2 : ((3000 : Int) < (n : Int)) = False := eq_false (by omega)
      have e : lg b = 0 := if_neg (by unfold tot; unfold Ab at hA; omega)
      rw [e] at hret
      refine tq (cj7 f3 f69 f70 f71 @i64.eq_1 p1 p2) ?_; intro Nx hNx Gx hGx
      refine rt hret hdf ?_
      exact ⟨_, Heap.le_refl _, hle, _, frz_refl hle, rfl⟩
  have p1 : ((i : Int) < (b.bl.length : Int)) = True := eq_true (by omega)
  have hgi := map_get (f := bkD) hil
  have hsu := t4_succ hil
  have hsl := t4_le b (i + 1)
  obtain ⟨⟨hst, hsx⟩, htg, ⟨har, harx⟩, hpl⟩ := hbx b.bl[i] (List.getElem_mem hil)
  unfold okPl at hpl
  unfold big at hst htg har hpl
  obtain ⟨x, hxe⟩ : ∃ x, x = b.bl[i] := ⟨_, rfl⟩
  rw [← hxe] at hgi hsu hst hsx htg har harx hpl
  simp only [bkD, strD] at hgi
  have ls : (List.map stD x.st).length = x.st.length := List.length_map _
  have lt : (List.map iD x.tm.tg).length = x.tm.tg.length := List.length_map _
  have lp : (List.map pD x.tm.pl.pr).length = x.tm.pl.pr.length := List.length_map _
  have mx : min (x.tm.nm.size : Int) 9000 = ((min x.tm.nm.size 9000 : Nat) : Int) := by omega
  have v1 : IntKind.i64.wrap (1 + (x.st.length : Int)) = ((1 + x.st.length : Nat) : Int) := by rw [wrap_i64_of (by omega)]; omega
  have v2 : IntKind.i64.wrap (((1 + x.st.length : Nat) : Int) + (x.tm.tg.length : Int)) = ((1 + x.st.length + x.tm.tg.length : Nat) : Int) := by rw [wrap_i64_of (by omega)]; omega
  have v3 : IntKind.i64.wrap (((1 + x.st.length + x.tm.tg.length : Nat) : Int) + (x.tm.pl.pr.length : Int)) = ((1 + x.st.length + x.tm.tg.length + x.tm.pl.pr.length : Nat) : Int) := by rw [wrap_i64_of (by omega)]; omega
  have v4 : IntKind.i64.wrap (((1 + x.st.length + x.tm.tg.length + x.tm.pl.pr.length : Nat) : Int) + ((min x.tm.nm.size 9000 : Nat) : Int)) = ((1 + x.st.length + x.tm.tg.length + x.tm.pl.pr.length + min x.tm.nm.size 9000 : Nat) : Int) := by rw [wrap_i64_of (by omega)]; omega
  obtain ⟨m, hm⟩ : ∃ m, m = n + (1 + x.st.length + x.tm.tg.length + x.tm.pl.pr.length + min x.tm.nm.size 9000) := ⟨_, rfl⟩
  have v5 : IntKind.i64.wrap ((n : Int) + ((1 + x.st.length + x.tm.tg.length + x.tm.pl.pr.length + min x.tm.nm.size 9000 : Nat) : Int)) = (m : Int) := by rw [wrap_i64_of (by omega)]; omega
  obtain ⟨T5, hT5⟩ : ∃ T5, T5 = t4 b i + (1 + x.st.length + x.tm.tg.length + x.tm.pl.pr.length + x.tm.nm.size) := ⟨_, rfl⟩
  have hAm : Ab T5 m := by rw [hT5, hm]; exact hA.add ((Ab.same _).add (Ab.cut _))
  have hT : T5 + sm szS x.st + opz x.tm.ar ≤ tot b := by unfold szB at hsu; omega
  have hTe : T5 + sm szS x.st + opz x.tm.ar = t4 b (i + 1) := by unfold szB at hsu; omega
  refine tq (cj11 f3 f69 f70 f71 @i64.eq_1 p1 hgi hx h00 hil lbl) ?_; intro Nx hNx Gx hGx
  intro c11 hc11
  refine hNx _ ?_
  refine frz 11 hc11 ?_
  by_cases hbig : 3000 < m
  · have p2 : ((3000 : Int) < (m : Int)) = True := eq_true (by omega)
    have e : lg b = 1 := one (by unfold Ab at hAm; omega)
    rw [e] at hret
    refine tq (cj12 f3 @i64.eq_1 ls lt lp mx v1 v2 v3 v4 v5 p2) ?_; intro Nx hNx Gx hGx
    refine rt hret hdf ?_
    exact ⟨_, Heap.le_refl _, hle, _, frz_refl hle, rfl⟩
  have p2 : ((3000 : Int) < (m : Int)) = False := eq_false (by omega)
  refine tq (cj12 f3 @i64.eq_1 ls lt lp mx v1 v2 v3 v4 v5 p2) ?_; intro Nx hNx Gx hGx
  refine W_loopN x.st.length (fun j s => s.df = [] ∧ s.fr 69 = .seq 7 (b.bl.map bkD) ∧ s.fr 70 = i64 b.bl.length ∧ s.fr 71 = i64 i ∧ s.fr 11 = .rp (bkD x) ∧ s.fr 101 = .seq 11 (x.st.map stD) ∧ s.fr 102 = i64 x.st.length ∧ s.fr 103 = i64 j ∧ (∃ n, s.fr 3 = i64 (n : Nat) ∧ Ab (T5 + sm szS (x.st.take j)) n ∧ n ≤ 3000) ∧ H.le s.H) ⟨hdf, f69, f70, f71, rfl, rfl, rfl, rfl, ⟨_, rfl, hAm, by omega⟩, hle⟩ ?_
  clear hdf f69 f70 f71 f3 hA hAm hn hle hm v5 hbig p2
  rintro j s hj ⟨hdf, f69, f70, f71, f11, f101, f102, f103, ⟨n, f3, hA, hn⟩, hle⟩
  have hx2 : (j : Int).toNat = j := Int.toNat_natCast _
  have h002 : (0 : Int) ≤ (j : Int) := Int.natCast_nonneg _
  have v6 : IntKind.i64.wrap ((j : Int) + 1) = ((j + 1 : Nat) : Int) := by rw [wrap_i64_of (by omega)]; omega
  by_cases hjl : j < x.st.length
  case neg =>
    have p2 : ((j : Int) < (x.st.length : Int)) = False := eq_false (by omega)
    rw [List.take_of_length_le (by omega)] at hA
    obtain ⟨hoA, hob⟩ := opV_ab x.tm.ar
    have u1 : IntKind.i64.wrap ((n : Int) + (opV x.tm.ar : Int)) = ((n + opV x.tm.ar : Nat) : Int) := by rw [wrap_i64_of (by omega)]; omega
    simp only [bkD] at f11
    refine tq (cj7 f3 f11 f101 f102 f103 @i64.eq_1 p2) ?_; intro Nx hNx Gx hGx
    refine (lops_N x.tm.ar _ har harx).mono ?_
    rintro d _ ⟨rfl, rfl⟩
    refine tq (cj4 f71 @i64.eq_1 u1 w3) ?_; intro Nx hNx Gx hGx
    exact ⟨hil, hdf, f69, f70, rfl, ⟨_, rfl, by rw [← hTe]; exact hA.add hoA, by omega⟩, hle⟩
  have p2 : ((j : Int) < (x.st.length : Int)) = True := eq_true (by omega)
  have hgj := map_get (f := stD) hjl
  have htk : sm szS (x.st.take (j + 1)) = sm szS (x.st.take j) + szS x.st[j] := sm_take hjl
  have htl := sm_le szS x.st (j + 1)
  obtain ⟨hyp, hyq, hya, hyax⟩ := hsx x.st[j] (List.getElem_mem hjl)
  unfold okPl at hyp hyq
  unfold big at hyp hyq hya
  obtain ⟨y, hye⟩ : ∃ y, y = x.st[j] := ⟨_, rfl⟩
  rw [← hye] at hgj htk hyp hyq hya hyax
  simp only [stD] at hgj
  have lq : (List.map pD y.pl.pr).length = y.pl.pr.length := List.length_map _
  have lr : (List.map pD y.rv.pl.pr).length = y.rv.pl.pr.length := List.length_map _
  obtain ⟨hoA, hob⟩ := opV_ab y.rv.ar
  have u1 : IntKind.i64.wrap ((y.pl.pr.length : Int) + (y.rv.pl.pr.length : Int)) = ((y.pl.pr.length + y.rv.pl.pr.length : Nat) : Int) := by rw [wrap_i64_of (by omega)]; omega
  have u2 : IntKind.i64.wrap (((y.pl.pr.length + y.rv.pl.pr.length : Nat) : Int) + (opV y.rv.ar : Int)) = ((y.pl.pr.length + y.rv.pl.pr.length + opV y.rv.ar : Nat) : Int) := by rw [wrap_i64_of (by omega)]; omega
  obtain ⟨k, hk⟩ : ∃ k, k = n + (y.pl.pr.length + y.rv.pl.pr.length + opV y.rv.ar) := ⟨_, rfl⟩
  have u3 : IntKind.i64.wrap ((n : Int) + ((y.pl.pr.length + y.rv.pl.pr.length + opV y.rv.ar : Nat) : Int)) = (k : Int) := by rw [wrap_i64_of (by omega)]; omega
  have hAk : Ab (T5 + sm szS (x.st.take (j + 1))) k := by
    have h := hA.add ((Ab.same (y.pl.pr.length + y.rv.pl.pr.length)).add hoA)
    rw [htk, hk]
    unfold szS
    rw [← Nat.add_assoc]
    exact h
  refine tq (cj11 f3 f101 f102 f103 @i64.eq_1 p2 hgj hx2 h002 hjl ls) ?_; intro Nx hNx Gx hGx
  intro c13 hc13
  refine hNx _ ?_
  refine frz 13 hc13 ?_
  refine tq @i64.eq_1 ?_; intro Nx hNx Gx hGx
  refine W_drawE (fun t _ d A => A = .none ∧ d = (if t = some 121 then i64 (opV y.rv.ar) else d)) (by kernel_rfl) (by kernel_rfl) (by kernel_rfl) fun Nx hNx => ?_; refine dst (cj7 f3 @i64.eq_1 lq lr u1 u2 u3) ?_; intro Nx hNx Gx hGx
  refine ⟨callOK_eq fun H'' hle'' => (lops_N y.rv.ar _ hya hyax).mono fun d H' h => h, ?_⟩
  (first | refine hGx _ ?_ | refine hNx _ ?_ | skip)
  by_cases hbig : 3000 < k
  · have p3 : ((3000 : Int) < (k : Int)) = True := eq_true (by omega)
    have e : lg b = 1 := one (by unfold Ab at hAk; omega)
    rw [e] at hret
    refine tq (cj4 f103 @i64.eq_1 p3 v6) ?_; intro Nx hNx Gx hGx
    refine rt hret hdf ?_
    exact ⟨_, Heap.le_refl _, hle, _, frz_refl hle, rfl⟩
  have p3 : ((3000 : Int) < (k : Int)) = False := eq_false (by omega)
  refine tq (cj4 f103 @i64.eq_1 p3 v6) ?_; intro Nx hNx Gx hGx
  exact ⟨hjl, hdf, f69, f70, f71, f11, f101, f102, rfl, ⟨_, rfl, hAk, by omega⟩, hle⟩
end Go.Proofs.YtgfhgeelfaalmaaGreatDoor
