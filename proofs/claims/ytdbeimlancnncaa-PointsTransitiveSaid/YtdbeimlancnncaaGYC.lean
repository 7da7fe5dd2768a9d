/- Lemmas and contracts of functions, several texts in one: YB. -/
import Derived.Test.YtdbeimlancnncaaGY
import Derived.Test.YtdbeimlancnncaaGI
/- slices.Compact of an own row of numbers. -/
namespace Go.Proofs.Ytdbeimlancnncaa
open Go.RowKit
set_option linter.unusedVariables false
set_option maxRecDepth 100000
set_option linter.unusedSimpArgs false
def cmpF (acc : List Int) (x : Int) : List Int := if acc.getLast? = some x then acc else acc ++ [x]
/-- Runs of equal numbers, once each. -/
def cmpI (l : List Int) : List Int := l.foldl cmpF []
theorem cmpI_snoc (l : List Int) (x : Int) : cmpI (l ++ [x]) = cmpF (cmpI l) x := by unfold cmpI; rw [List.foldl_append]; rfl
theorem cmpF_last (acc : List Int) (x : Int) : (cmpF acc x).getLast? = some x := by
  unfold cmpF
  split
  · assumption
  · simp
theorem cmpI_last {l : List Int} {i : Nat} (h : i < l.length) : (cmpI (l.take (i + 1))).getLast? = some l[i] := by
  rw [List.take_succ_eq_append_getElem h, cmpI_snoc, cmpF_last]
theorem cmpI_take {l : List Int} {i : Nat} (h : i + 1 < l.length) : cmpI (l.take (i + 1 + 1)) = if l[i] = l[i + 1] then cmpI (l.take (i + 1)) else cmpI (l.take (i + 1)) ++ [l[i + 1]] := by
  rw [List.take_succ_eq_append_getElem h, cmpI_snoc]
  have h1 := cmpI_last (l := l) (i := i) (by omega)
  unfold cmpF
  rw [h1]
  simp only [Option.some.injEq]
theorem cmpI_mem {l : List Int} {x : Int} : x ∈ cmpI l ↔ x ∈ l := by
  induction l using snoc_ind with
  | h0 => exact Iff.rfl
  | h1 l a ih =>
    rw [cmpI_snoc, List.mem_append, List.mem_singleton, ← ih]
    unfold cmpF
    split
    · rename_i h
      exact ⟨.inl, fun h' => h'.elim id fun e => e ▸ List.mem_of_getLast? h⟩
    · rw [List.mem_append, List.mem_singleton]
theorem cmpI_len (l : List Int) : (cmpI l).length ≤ l.length := by
  induction l using snoc_ind with
  | h0 => exact Nat.le_refl _
  | h1 l a ih =>
    rw [cmpI_snoc, List.length_append]
    unfold cmpF
    split
    · simp; omega
    · rw [List.length_append]; simp; omega
theorem cmpI_strict {l : List Int} (h : l.Pairwise (· ≤ ·)) : (cmpI l).Pairwise (· < ·) := by
  induction l using snoc_ind with
  | h0 => exact List.Pairwise.nil
  | h1 l a ih =>
    rw [List.pairwise_append] at h
    have h1 := ih h.1
    rw [cmpI_snoc]
    unfold cmpF
    split
    · exact h1
    · rename_i hne
      rw [List.pairwise_append]
      refine ⟨h1, by simp, fun x hx y hy => ?_⟩
      rw [List.mem_singleton] at hy
      subst hy
      have hle := h.2.2 x (cmpI_mem.1 hx) y (by simp)
      rcases Int.lt_or_eq_of_le hle with h3 | h3
      · exact h3
      · subst h3
        exfalso
        apply hne
        obtain ⟨q, hq⟩ : ∃ q, (cmpI l).getLast? = some q := by
          cases e : (cmpI l).getLast? with
          | none => rw [List.getLast?_eq_none_iff] at e; rw [e] at hx; cases hx
          | some q => exact ⟨q, rfl⟩
        have hqm := List.mem_of_getLast? hq
        have hql := h.2.2 q (cmpI_mem.1 hqm) x (by simp)
        obtain ⟨ys, hys⟩ := List.getLast?_eq_some_iff.1 hq
        rw [hys, List.mem_append, List.mem_singleton] at hx
        rcases hx with hx | hx
        · rw [hys, List.pairwise_append] at h1
          have := h1.2.2 x hx q (by simp)
          omega
        · rw [hq, hx]
theorem upd_upd' (H : Heap) (b : Nat) (x y : HObj) : (H.upd b x).upd b y = H.upd b y := by
  funext c
  by_cases e : c = b
  · rw [e, Heap.upd_same, Heap.upd_same]
  · rw [Heap.upd_ne e, Heap.upd_ne e, Heap.upd_ne e]
theorem upd_idem {H : Heap} {b : Nat} {x : HObj} (h : H b = some x) : H.upd b x = H := by
  funext c
  by_cases e : c = b
  · rw [e, Heap.upd_same, h]
  · rw [Heap.upd_ne e]
set_option maxHeartbeats 1000000 in
theorem compact_nil (H : Heap) : Does Try.prog 32 [.val (.slice none 0 0)] H fun d H' => d = .val (.slice none 0 0) ∧ H = H' := by
  refine does_of _ _ Try.func32 rfl rfl Try.ntmps32 Try.results32 (by simp only [List.length_cons, List.length_nil]; omega) fun w0 Q hret => ?_
  (have fs := @i64.eq_1; (repeat (first | refine hGx _ ?_ | refine hNx _ ?_ | refine W_skip ?_ | refine W_exit ?_ | refine W_ret ?_ | refine W_label ?_ | refine W_scope ?_ | refine W_block ?_ | refine W_seq ?_ | ((first | refine tS fun N hNx => ?_ | refine WL_gE rfl rfl (by kernel_rfl) (by kernel_rfl) fun G hGx => ?_ | refine vcOpsS_sound (by kernel_rfl) ?_ | refine W_ifE fun A B hAx hBx => ?_); refine evT ?_; (first | refine hGx _ ?_ | refine hNx _ ?_ | refine hAx ?_ | refine hBx ?_ | skip)))); (try clear fs))
  (first | (show Q .ret _) | (show Q .normal _) | skip); refine hret _ _ (by first | exact .inr rfl | exact .inl rfl) (by first | rfl | assumption | (simp only [put_df, withH_df]; assumption)) ?_; have fs := @i64.eq_1; refine evT ?_; clear fs
  exact ⟨_, Heap.le_refl _, by first | rfl | exact ⟨rfl, rfl⟩⟩
set_option maxHeartbeats 1000000 in
theorem compact_own {H : Heap} {b o : Nat} {T : TypeId} {l : List Int} (hb : H b = some (.row T o 1 (l.map iD))) (hl : l.length ≤ 140737488351232) :
    Does Try.prog 32 [.os b o 1 0 l.length] H fun d H' => d = .os b o 1 0 (cmpI l).length ∧ ∃ cur : List Int, H' = H.upd b (.row T o 1 (cur.map iD)) ∧ cur.take (cmpI l).length = cmpI l := by
  have hll : (List.map iD l).length = l.length := List.length_map _
  refine does_of _ _ Try.func32 rfl rfl Try.ntmps32 Try.results32 (by simp only [List.length_cons, List.length_nil]; omega) fun w0 Q hret => ?_
  by_cases h2 : l.length < 2
  · have q1 : ((l.length : Int) < 2) = True := eq_true (by omega)
    have hcl : cmpI l = l := by
      match l, h2 with
      | [], _ => rfl
      | [a], _ => rfl
    (have fs := And.intro @i64.eq_1 (And.intro hll q1); (repeat (first | refine hGx _ ?_ | refine hNx _ ?_ | refine W_skip ?_ | refine W_exit ?_ | refine W_ret ?_ | refine W_label ?_ | refine W_scope ?_ | refine W_block ?_ | refine W_seq ?_ | ((first | refine tS fun N hNx => ?_ | refine WL_gE rfl rfl (by kernel_rfl) (by kernel_rfl) fun G hGx => ?_ | refine vcOpsS_sound (by kernel_rfl) ?_ | refine W_ifE fun A B hAx hBx => ?_); refine evT ?_; (first | refine hGx _ ?_ | refine hNx _ ?_ | refine hAx ?_ | refine hBx ?_ | skip)))); (try clear fs))
    (first | (show Q .ret _) | (show Q .normal _) | skip); refine hret _ _ (by first | exact .inr rfl | exact .inl rfl) (by first | rfl | assumption | (simp only [put_df, withH_df]; assumption)) ?_; have fs := @i64.eq_1; refine evT ?_; clear fs
    exact ⟨_, Heap.le_refl _, by rw [hcl], l, (upd_idem hb).symm, by rw [hcl, List.take_length]⟩
  have q1 : ((l.length : Int) < 2) = False := eq_false (by omega)
  (have fs := And.intro @i64.eq_1 (And.intro hll q1); (repeat (first | refine hGx _ ?_ | refine hNx _ ?_ | refine W_skip ?_ | refine W_exit ?_ | refine W_ret ?_ | refine W_label ?_ | refine W_scope ?_ | refine W_block ?_ | refine W_seq ?_ | ((first | refine tS fun N hNx => ?_ | refine WL_gE rfl rfl (by kernel_rfl) (by kernel_rfl) fun G hGx => ?_ | refine vcOpsS_sound (by kernel_rfl) ?_ | refine W_ifE fun A B hAx hBx => ?_); refine evT ?_; (first | refine hGx _ ?_ | refine hNx _ ?_ | refine hAx ?_ | refine hBx ?_ | skip)))); (try clear fs))
  refine W_loopN (l.length - 1) (fun i s => s.df = [] ∧ s.fr 0 = .os b o 1 0 l.length ∧ s.fr 3 = i64 ((i + 1 : Nat) : Int) ∧ s.H = H ∧ i + 1 ≤ l.length ∧ cmpI (l.take (i + 1)) = l.take (i + 1)) ⟨rfl, rfl, rfl, rfl, by omega, by rw [List.take_succ_eq_append_getElem (show 0 < l.length by omega)]; rfl⟩ ?_
  rintro i s hi ⟨hdf, f0, f3, hH, hil, hcm⟩
  have hHb : s.H b = some (.row T o 1 (l.map iD)) := by rw [hH]; exact hb
  by_cases hik : i + 1 < l.length
  case neg =>
    have q2 : (((i + 1 : Nat) : Int) < (l.length : Int)) = False := eq_false (by omega)
    rw [List.take_of_length_le (by omega)] at hcm
    (have fs := And.intro f0 (And.intro f3 (And.intro @i64.eq_1 q2)); (repeat (first | refine hGx _ ?_ | refine hNx _ ?_ | refine W_skip ?_ | refine W_exit ?_ | refine W_ret ?_ | refine W_label ?_ | refine W_scope ?_ | refine W_block ?_ | refine W_seq ?_ | ((first | refine tS fun N hNx => ?_ | refine WL_gE rfl rfl (by kernel_rfl) (by kernel_rfl) fun G hGx => ?_ | refine vcOpsS_sound (by kernel_rfl) ?_ | refine W_ifE fun A B hAx hBx => ?_); refine evT ?_; (first | refine hGx _ ?_ | refine hNx _ ?_ | refine hAx ?_ | refine hBx ?_ | skip)))); (try clear fs))
    (first | (show Q .ret _) | (show Q .normal _) | skip); refine hret _ _ (by first | exact .inr rfl | exact .inl rfl) (by first | rfl | assumption | (simp only [put_df, withH_df]; assumption)) ?_; have fs := hdf; refine evT ?_; clear fs
    exact ⟨_, Heap.le_refl _, by rw [hcm], l, by rw [hH]; exact (upd_idem hb).symm, by rw [hcm, List.take_length]⟩
  have q2 : (((i + 1 : Nat) : Int) < (l.length : Int)) = True := eq_true (by omega)
  have hx : ((i + 1 : Nat) : Int).toNat = i + 1 := Int.toNat_natCast _
  have hx0 : (i : Int).toNat = i := Int.toNat_natCast _
  have h00 : (0 : Int) ≤ ((i + 1 : Nat) : Int) := Int.natCast_nonneg _
  have h000 : (0 : Int) ≤ (i : Int) := Int.natCast_nonneg _
  have hg1 := get_ints hik
  have hg0 := get_ints (show i < l.length by omega)
  have hil0 : i < l.length := by omega
  have q3 : ((i : Int) < (l.length : Int)) = True := eq_true (by omega)
  have w1 : IntKind.i64.wrap (((i + 1 : Nat) : Int) - 1) = (i : Int) := by rw [wrap_i64_of (by omega)]; omega
  have w2 : IntKind.i64.wrap (((i + 1 : Nat) : Int) + 1) = ((i + 1 + 1 : Nat) : Int) := by rw [wrap_i64_of (by omega)]; omega
  have hct := cmpI_take hik
  by_cases he : l[i] = l[i + 1]
  case neg =>
    have q4 : (l[i + 1] = l[i]) = False := eq_false fun e => he e.symm
    rw [if_neg he] at hct
    (have fs := And.intro f0 (And.intro f3 (And.intro @i64.eq_1 q2)); (repeat (first | refine hGx _ ?_ | refine hNx _ ?_ | refine W_skip ?_ | refine W_exit ?_ | refine W_ret ?_ | refine W_label ?_ | refine W_scope ?_ | refine W_block ?_ | refine W_seq ?_ | ((first | refine tS fun N hNx => ?_ | refine WL_gE rfl rfl (by kernel_rfl) (by kernel_rfl) fun G hGx => ?_ | refine vcOpsS_sound (by kernel_rfl) ?_ | refine W_ifE fun A B hAx hBx => ?_); refine evT ?_; (first | refine hGx _ ?_ | refine hNx _ ?_ | refine hAx ?_ | refine hBx ?_ | skip)))); (try clear fs))
    refine W_drawE (fun _ _ _ _ => False) (by kernel_rfl) (by kernel_rfl) (by kernel_rfl) fun N hNx => ?_; (have fs := And.intro f0 (And.intro f3 (And.intro @i64.eq_1 (And.intro hHb (And.intro hg1 (And.intro hg0 (And.intro hx (And.intro hx0 (And.intro h00 (And.intro h000 (And.intro hik (And.intro hil0 (And.intro hll (And.intro q2 (And.intro q3 (And.intro q4 w1))))))))))))))); (repeat ((first | refine vcD_g rfl rfl fun G hGx => ?_ | refine vcDS_to ?_); refine evD ?_; (first | refine hGx _ ?_ | refine hNx _ ?_ | skip))); (try clear fs))
    (have fs := And.intro f3 (And.intro @i64.eq_1 w2); (repeat (first | refine hGx _ ?_ | refine hNx _ ?_ | refine W_skip ?_ | refine W_exit ?_ | refine W_ret ?_ | refine W_label ?_ | refine W_scope ?_ | refine W_block ?_ | refine W_seq ?_ | ((first | refine tS fun N hNx => ?_ | refine WL_gE rfl rfl (by kernel_rfl) (by kernel_rfl) fun G hGx => ?_ | refine vcOpsS_sound (by kernel_rfl) ?_ | refine W_ifE fun A B hAx hBx => ?_); refine evT ?_; (first | refine hGx _ ?_ | refine hNx _ ?_ | refine hAx ?_ | refine hBx ?_ | skip)))); (try clear fs))
    exact ⟨by show i < l.length - 1; omega, hdf, f0, rfl, hH, by omega, by rw [hct, hcm, ← List.take_succ_eq_append_getElem hik]⟩
  have q4 : (l[i + 1] = l[i]) = True := eq_true he.symm
  rw [if_pos he] at hct
  (have fs := And.intro f0 (And.intro f3 (And.intro @i64.eq_1 q2)); (repeat (first | refine hGx _ ?_ | refine hNx _ ?_ | refine W_skip ?_ | refine W_exit ?_ | refine W_ret ?_ | refine W_label ?_ | refine W_scope ?_ | refine W_block ?_ | refine W_seq ?_ | ((first | refine tS fun N hNx => ?_ | refine WL_gE rfl rfl (by kernel_rfl) (by kernel_rfl) fun G hGx => ?_ | refine vcOpsS_sound (by kernel_rfl) ?_ | refine W_ifE fun A B hAx hBx => ?_); refine evT ?_; (first | refine hGx _ ?_ | refine hNx _ ?_ | refine hAx ?_ | refine hBx ?_ | skip)))); (try clear fs))
  refine W_drawE (fun _ _ _ _ => False) (by kernel_rfl) (by kernel_rfl) (by kernel_rfl) fun N hNx => ?_; (have fs := And.intro f0 (And.intro f3 (And.intro @i64.eq_1 (And.intro hHb (And.intro hg1 (And.intro hg0 (And.intro hx (And.intro hx0 (And.intro h00 (And.intro h000 (And.intro hik (And.intro hil0 (And.intro hll (And.intro q2 (And.intro q3 (And.intro q4 w1))))))))))))))); (repeat ((first | refine vcD_g rfl rfl fun G hGx => ?_ | refine vcDS_to ?_); refine evD ?_; (first | refine hGx _ ?_ | refine hNx _ ?_ | skip))); (try clear fs))
  have q5 : (((i + 1 : Nat) : Int) ≤ (l.length : Int)) = True := eq_true (by omega)
  (have fs := And.intro f0 (And.intro f3 (And.intro @i64.eq_1 (And.intro q2 (And.intro hx (And.intro h00 (And.intro hll q5)))))); (repeat (first | refine hGx _ ?_ | refine hNx _ ?_ | refine W_skip ?_ | refine W_exit ?_ | refine W_ret ?_ | refine W_label ?_ | refine W_scope ?_ | refine W_block ?_ | refine W_seq ?_ | ((first | refine tS fun N hNx => ?_ | refine WL_gE rfl rfl (by kernel_rfl) (by kernel_rfl) fun G hGx => ?_ | refine vcOpsS_sound (by kernel_rfl) ?_ | refine W_ifE fun A B hAx hBx => ?_); refine evT ?_; (first | refine hGx _ ?_ | refine hNx _ ?_ | refine hAx ?_ | refine hBx ?_ | skip)))); (try clear fs))
  obtain ⟨n2, hn2⟩ : ∃ n2, n2 = l.length - (i + 1) := ⟨_, rfl⟩
  rw [← hn2]
  refine W_loopN (n2 - 1) (fun j s => s.df = [] ∧ s.fr 0 = .os b o 1 0 l.length ∧ s.fr 4 = .os b o 1 (i + 1) n2 ∧ s.fr 5 = i64 ((j + 1 : Nat) : Int) ∧ j + 1 ≤ n2 ∧ ∃ (cur : List Int) (k : Nat), s.H = H.upd b (.row T o 1 (cur.map iD)) ∧ cur.length = l.length ∧ s.fr 3 = i64 k ∧ cur.take k = cmpI (l.take (i + 1 + j + 1)) ∧ (∀ m (h : m < l.length) (h' : m < cur.length), i + 1 + j ≤ m → cur[m] = l[m]) ∧ k ≤ i + 1 + j) ⟨hdf, f0, rfl, rfl, by omega, l, i + 1, by show s.H = _; rw [hH]; exact (upd_idem hb).symm, rfl, f3, by show _ = cmpI (l.take (i + 1 + 1)); rw [hct, hcm], fun _ _ _ _ => rfl, by omega⟩ ?_
  rintro j s2 hj ⟨hdf2, g0, g4, g5, hjn, cur, k, hH2, hcl, g3, htk, hrest, hki⟩
  have hHb2 : s2.H b = some (.row T o 1 (cur.map iD)) := by rw [hH2]; exact Heap.upd_same _ _ _
  have hcml : (List.map iD cur).length = cur.length := List.length_map _
  by_cases hjl : j + 1 < n2
  case neg =>
    have q6 : (((j + 1 : Nat) : Int) < (n2 : Int)) = False := eq_false (by omega)
    have hfull : i + 1 + j + 1 = l.length := by omega
    rw [hfull, List.take_length] at htk
    have hkl : k = (cmpI l).length := by rw [← htk, List.length_take]; omega
    have q7 : ((k : Int) ≤ (l.length : Int)) = True := eq_true (by omega)
    have hxk : (k : Int).toNat = k := Int.toNat_natCast _
    have h0k : (0 : Int) ≤ (k : Int) := Int.natCast_nonneg _
    have hkc : k ≤ cur.length := by omega
    (have fs := And.intro g0 (And.intro g3 (And.intro g4 (And.intro g5 (And.intro @i64.eq_1 (And.intro q6 (And.intro q7 (And.intro hxk (And.intro h0k (And.intro hHb2 (And.intro hcml (And.intro hkc @Nat.sub_zero))))))))))); (repeat (first | refine hGx _ ?_ | refine hNx _ ?_ | refine W_skip ?_ | refine W_exit ?_ | refine W_ret ?_ | refine W_label ?_ | refine W_scope ?_ | refine W_block ?_ | refine W_seq ?_ | ((first | refine tS fun N hNx => ?_ | refine WL_gE rfl rfl (by kernel_rfl) (by kernel_rfl) fun G hGx => ?_ | refine vcOpsS_sound (by kernel_rfl) ?_ | refine W_ifE fun A B hAx hBx => ?_); refine evT ?_; (first | refine hGx _ ?_ | refine hNx _ ?_ | refine hAx ?_ | refine hBx ?_ | skip)))); (try clear fs))
    (first | (show Q .ret _) | (show Q .normal _) | skip); refine hret _ _ (by first | exact .inr rfl | exact .inl rfl) (by first | rfl | assumption | (simp only [put_df, withH_df]; assumption)) ?_; have fs := hdf2; refine evT ?_; clear fs
    have hcl2 : (cmpI l).length ≤ cur.length := by have := cmpI_len l; omega
    exact ⟨_, Heap.le_refl _, by rw [hkl], cmpI l, by rw [hH2, upd_upd', ← List.map_take, htk], List.take_length⟩
  have q6 : (((j + 1 : Nat) : Int) < (n2 : Int)) = True := eq_true (by omega)
  have hm1 : i + 1 + j + 1 < l.length := by omega
  have hg1 : (cur.map iD)[i + 1 + (j + 1)]? = some [.val (.int .i64 cur[i + 1 + j + 1])] := get_ints (show i + 1 + j + 1 < cur.length by omega)
  have hg0 := get_ints (show i + 1 + j < cur.length by omega)
  rw [hrest _ hm1 (by omega) (by omega)] at hg1
  rw [hrest _ (show i + 1 + j < l.length by omega) (by omega) (by omega)] at hg0
  have hxj : ((j + 1 : Nat) : Int).toNat = j + 1 := Int.toNat_natCast _
  have hxj0 : (j : Int).toNat = j := Int.toNat_natCast _
  have h0j : (0 : Int) ≤ ((j + 1 : Nat) : Int) := Int.natCast_nonneg _
  have h0j0 : (0 : Int) ≤ (j : Int) := Int.natCast_nonneg _
  have q7 : ((j : Int) < (n2 : Int)) = True := eq_true (by omega)
  have hj2 : j < n2 := by omega
  have w3 : IntKind.i64.wrap (((j + 1 : Nat) : Int) - 1) = (j : Int) := by rw [wrap_i64_of (by omega)]; omega
  have w4 : IntKind.i64.wrap (((j + 1 : Nat) : Int) + 1) = ((j + 1 + 1 : Nat) : Int) := by rw [wrap_i64_of (by omega)]; omega
  have w5 : IntKind.i64.wrap ((k : Int) + 1) = ((k + 1 : Nat) : Int) := by rw [wrap_i64_of (by omega)]; omega
  have hct2 := cmpI_take (l := l) (i := i + 1 + j) hm1
  obtain ⟨x, hxe⟩ : ∃ x, x = l[i + 1 + j] := ⟨_, rfl⟩
  obtain ⟨y, hye⟩ : ∃ y, y = l[i + 1 + j + 1] := ⟨_, rfl⟩
  rw [← hye] at hg1
  rw [← hxe] at hg0
  rw [← hxe, ← hye] at hct2
  by_cases he2 : x = y
  · have q8 : (y = x) = True := eq_true he2.symm
    rw [if_pos he2] at hct2
    (have fs := And.intro g0 (And.intro g3 (And.intro g4 (And.intro g5 (And.intro @i64.eq_1 q6)))); (repeat (first | refine hGx _ ?_ | refine hNx _ ?_ | refine W_skip ?_ | refine W_exit ?_ | refine W_ret ?_ | refine W_label ?_ | refine W_scope ?_ | refine W_block ?_ | refine W_seq ?_ | ((first | refine tS fun N hNx => ?_ | refine WL_gE rfl rfl (by kernel_rfl) (by kernel_rfl) fun G hGx => ?_ | refine vcOpsS_sound (by kernel_rfl) ?_ | refine W_ifE fun A B hAx hBx => ?_); refine evT ?_; (first | refine hGx _ ?_ | refine hNx _ ?_ | refine hAx ?_ | refine hBx ?_ | skip)))); (try clear fs))
    refine W_drawE (fun _ _ _ _ => False) (by kernel_rfl) (by kernel_rfl) (by kernel_rfl) fun N hNx => ?_; (have fs := And.intro g4 (And.intro g5 (And.intro @i64.eq_1 (And.intro hHb2 (And.intro hg1 (And.intro hg0 (And.intro hxj (And.intro hxj0 (And.intro h0j (And.intro h0j0 (And.intro hjl (And.intro hj2 (And.intro hcml (And.intro q6 (And.intro q7 (And.intro q8 w3))))))))))))))); (repeat ((first | refine vcD_g rfl rfl fun G hGx => ?_ | refine vcDS_to ?_); refine evD ?_; (first | refine hGx _ ?_ | refine hNx _ ?_ | skip))); (try clear fs))
    (have fs := And.intro g5 (And.intro @i64.eq_1 w4); (repeat (first | refine hGx _ ?_ | refine hNx _ ?_ | refine W_skip ?_ | refine W_exit ?_ | refine W_ret ?_ | refine W_label ?_ | refine W_scope ?_ | refine W_block ?_ | refine W_seq ?_ | ((first | refine tS fun N hNx => ?_ | refine WL_gE rfl rfl (by kernel_rfl) (by kernel_rfl) fun G hGx => ?_ | refine vcOpsS_sound (by kernel_rfl) ?_ | refine W_ifE fun A B hAx hBx => ?_); refine evT ?_; (first | refine hGx _ ?_ | refine hNx _ ?_ | refine hAx ?_ | refine hBx ?_ | skip)))); (try clear fs))
    exact ⟨by show j < n2 - 1; omega, hdf2, g0, g4, rfl, by omega, cur, k, hH2, hcl, g3, by rw [show i + 1 + (j + 1) + 1 = i + 1 + j + 1 + 1 by omega, hct2]; exact htk, fun m h h' hm => hrest m h h' (by omega), by omega⟩
  · have q8 : (y = x) = False := eq_false fun e => he2 e.symm
    rw [if_neg he2] at hct2
    have hxk : (k : Int).toNat = k := Int.toNat_natCast _
    have h0k : (0 : Int) ≤ (k : Int) := Int.natCast_nonneg _
    have hkl : k < l.length := by omega
    have hkl2 : ((k : Int) < (l.length : Int)) = True := eq_true (by omega)
    have hkc : k < cur.length := by omega
    have hgk := get_ints hkc
    (have fs := And.intro g0 (And.intro g3 (And.intro g4 (And.intro g5 (And.intro @i64.eq_1 q6)))); (repeat (first | refine hGx _ ?_ | refine hNx _ ?_ | refine W_skip ?_ | refine W_exit ?_ | refine W_ret ?_ | refine W_label ?_ | refine W_scope ?_ | refine W_block ?_ | refine W_seq ?_ | ((first | refine tS fun N hNx => ?_ | refine WL_gE rfl rfl (by kernel_rfl) (by kernel_rfl) fun G hGx => ?_ | refine vcOpsS_sound (by kernel_rfl) ?_ | refine W_ifE fun A B hAx hBx => ?_); refine evT ?_; (first | refine hGx _ ?_ | refine hNx _ ?_ | refine hAx ?_ | refine hBx ?_ | skip)))); (try clear fs))
    refine W_drawE (fun _ _ _ _ => False) (by kernel_rfl) (by kernel_rfl) (by kernel_rfl) fun N hNx => ?_; (have fs := And.intro g4 (And.intro g5 (And.intro @i64.eq_1 (And.intro hHb2 (And.intro hg1 (And.intro hg0 (And.intro hxj (And.intro hxj0 (And.intro h0j (And.intro h0j0 (And.intro hjl (And.intro hj2 (And.intro hcml (And.intro q6 (And.intro q7 (And.intro q8 w3))))))))))))))); (repeat ((first | refine vcD_g rfl rfl fun G hGx => ?_ | refine vcDS_to ?_); refine evD ?_; (first | refine hGx _ ?_ | refine hNx _ ?_ | skip))); (try clear fs))
    (have fs := And.intro g0 (And.intro g3 (And.intro g4 (And.intro g5 (And.intro @i64.eq_1 (And.intro q6 (And.intro q7 (And.intro q8 (And.intro w4 (And.intro w5 (And.intro hHb2 (And.intro hg1 (And.intro hg0 (And.intro hgk (And.intro hxj (And.intro h0j (And.intro hxk (And.intro h0k (And.intro hkl (And.intro hkl2 (And.intro hkc (And.intro hjl hcml))))))))))))))))))))); (repeat (first | refine hGx _ ?_ | refine hNx _ ?_ | refine W_skip ?_ | refine W_exit ?_ | refine W_ret ?_ | refine W_label ?_ | refine W_scope ?_ | refine W_block ?_ | refine W_seq ?_ | ((first | refine tS fun N hNx => ?_ | refine WL_gE rfl rfl (by kernel_rfl) (by kernel_rfl) fun G hGx => ?_ | refine vcOpsS_sound (by kernel_rfl) ?_ | refine W_ifE fun A B hAx hBx => ?_); refine evT ?_; (first | refine hGx _ ?_ | refine hNx _ ?_ | refine hAx ?_ | refine hBx ?_ | skip)))); (try clear fs))
    have hset : (List.map iD cur).set k [.val (.int .i64 y)] = (cur.set k y).map iD := by rw [List.map_set]; rfl
    refine ⟨by show j < n2 - 1; omega, hdf2, g0, g4, rfl, by omega, cur.set k y, k + 1, by show s2.H.upd b _ = _; rw [hH2, upd_upd', ← hset], by rw [List.length_set]; exact hcl, rfl, ?_, fun m h h' hm => ?_, by omega⟩
    · rw [show i + 1 + (j + 1) + 1 = i + 1 + j + 1 + 1 by omega, hct2, List.take_succ_eq_append_getElem (by rw [List.length_set]; exact hkc), List.take_set_of_le (Nat.le_refl _), htk, List.getElem_set_self]
    · rw [List.getElem_set_ne (by omega)]
      exact hrest m h (by rw [List.length_set] at h'; exact h') (by omega)
end Go.Proofs.Ytdbeimlancnncaa
