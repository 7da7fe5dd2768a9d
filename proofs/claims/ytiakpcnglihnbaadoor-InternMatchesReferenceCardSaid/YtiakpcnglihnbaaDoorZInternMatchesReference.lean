/- The walk of the law InternMatchesReference. -/
import Derived.Test.YtiakpcnglihnbaaDoorGY
import Derived.Test.YtiakpcnglihnbaaDoorGID
/- slices.Equal of strings. -/
namespace Go.Proofs.YtiakpcnglihnbaaDoor
open Go.RowKit
set_option linter.unusedVariables false
set_option maxRecDepth 100000
set_option linter.unusedSimpArgs false
set_option maxHeartbeats 1000000 in
theorem equalS_N (l m : List ByteArray) (hl : big l.length) : Does Tryd.prog 19 [.seq 1 (l.map sD), .seq 1 (m.map sD)] .none fun d _ => d = .val (.bool (decide (l = m))) := by
  unfold big at hl
  have hll : (List.map sD l).length = l.length := List.length_map _
  have hml : (List.map sD m).length = m.length := List.length_map _
  refine does_of _ _ Tryd.func19 rfl rfl Tryd.ntmps19 Tryd.results19 (by simp only [List.length_cons, List.length_nil]; omega) fun w0 Q hret => ?_
  by_cases hlm : l.length = m.length
  case neg =>
    have q : ((l.length : Int) = (m.length : Int)) = False := eq_false (by omega)
    (have fs := And.intro @i64.eq_1 (And.intro hll (And.intro hml q)); (repeat (first | refine hGx _ ?_ | refine hNx _ ?_ | refine W_skip ?_ | refine W_exit ?_ | refine W_ret ?_ | refine W_label ?_ | refine W_scope ?_ | refine W_block ?_ | refine W_seq ?_ | ((first | refine tS fun N hNx => ?_ | refine WL_gE rfl rfl (by kernel_rfl) (by kernel_rfl) fun G hGx => ?_ | refine vcOpsS_sound (by kernel_rfl) ?_ | refine W_ifE fun A B hAx hBx => ?_); refine evT ?_; (first | refine hGx _ ?_ | refine hNx _ ?_ | refine hAx ?_ | refine hBx ?_ | skip)))); (try clear fs))
    (first | (show Q .ret _) | (show Q .normal _) | skip); refine hret _ _ (by first | exact .inr rfl | exact .inl rfl) (by first | rfl | assumption | (simp only [put_df, withH_df]; assumption)) ?_; have fs := @i64.eq_1; refine evT ?_; clear fs
    exact ⟨_, Heap.le_refl _, by rw [decide_eq_false fun e => hlm (by rw [e])]⟩
  have q : ((l.length : Int) = (m.length : Int)) = True := eq_true (by omega)
  (have fs := And.intro @i64.eq_1 (And.intro hll (And.intro hml q)); (repeat (first | refine hGx _ ?_ | refine hNx _ ?_ | refine W_skip ?_ | refine W_exit ?_ | refine W_ret ?_ | refine W_label ?_ | refine W_scope ?_ | refine W_block ?_ | refine W_seq ?_ | ((first | refine tS fun N hNx => ?_ | refine WL_gE rfl rfl (by kernel_rfl) (by kernel_rfl) fun G hGx => ?_ | refine vcOpsS_sound (by kernel_rfl) ?_ | refine W_ifE fun A B hAx hBx => ?_); refine evT ?_; (first | refine hGx _ ?_ | refine hNx _ ?_ | refine hAx ?_ | refine hBx ?_ | skip)))); (try clear fs))
  refine W_loopN l.length (fun i s => s.df = [] ∧ s.fr 0 = .seq 1 (l.map sD) ∧ s.fr 1 = .seq 1 (m.map sD) ∧ s.fr 12 = i64 l.length ∧ s.fr 13 = i64 i ∧ s.H = Heap.none ∧ l.take i = m.take i) ⟨rfl, rfl, rfl, rfl, rfl, rfl, by simp⟩ ?_
  rintro i s hi ⟨hdf, f0, f1, f12, f13, hH, htk⟩
  have hx : (i : Int).toNat = i := Int.toNat_natCast _
  have h00 : (0 : Int) ≤ (i : Int) := Int.natCast_nonneg _
  by_cases hil : i < l.length
  case neg =>
    have q1 : ((i : Int) < (l.length : Int)) = False := eq_false (by omega)
    rw [List.take_of_length_le (by omega), List.take_of_length_le (by omega)] at htk
    (have fs := And.intro f12 (And.intro f13 (And.intro @i64.eq_1 q1)); (repeat (first | refine hGx _ ?_ | refine hNx _ ?_ | refine W_skip ?_ | refine W_exit ?_ | refine W_ret ?_ | refine W_label ?_ | refine W_scope ?_ | refine W_block ?_ | refine W_seq ?_ | ((first | refine tS fun N hNx => ?_ | refine WL_gE rfl rfl (by kernel_rfl) (by kernel_rfl) fun G hGx => ?_ | refine vcOpsS_sound (by kernel_rfl) ?_ | refine W_ifE fun A B hAx hBx => ?_); refine evT ?_; (first | refine hGx _ ?_ | refine hNx _ ?_ | refine hAx ?_ | refine hBx ?_ | skip)))); (try clear fs))
    (first | (show Q .ret _) | (show Q .normal _) | skip); refine hret _ _ (by first | exact .inr rfl | exact .inl rfl) (by first | rfl | assumption | (simp only [put_df, withH_df]; assumption)) ?_; have fs := hdf; refine evT ?_; clear fs
    exact ⟨_, Heap.le_refl _, by rw [decide_eq_true htk]⟩
  have q1 : ((i : Int) < (l.length : Int)) = True := eq_true (by omega)
  have him : i < m.length := by omega
  have hgi := map_get (f := sD) hil
  have hgm := map_get (f := sD) him
  have w3 : IntKind.i64.wrap ((i : Int) + 1) = ((i + 1 : Nat) : Int) := by rw [wrap_i64_of (by omega)]; omega
  have hne : l[i] ≠ m[i] → decide (l = m) = false := fun h => decide_eq_false (by rintro rfl; exact h rfl)
  have hts := take_snocA htk hil him
  obtain ⟨x, hxe⟩ : ∃ x, x = l[i] := ⟨_, rfl⟩
  obtain ⟨y, hye⟩ : ∃ x, x = m[i] := ⟨_, rfl⟩
  rw [← hxe] at hgi hne hts
  rw [← hye] at hgm hne hts
  simp only [sD, strD] at hgi hgm
  (have fs := And.intro f12 (And.intro f13 (And.intro @i64.eq_1 q1)); (repeat (first | refine hGx _ ?_ | refine hNx _ ?_ | refine W_skip ?_ | refine W_exit ?_ | refine W_ret ?_ | refine W_label ?_ | refine W_scope ?_ | refine W_block ?_ | refine W_seq ?_ | ((first | refine tS fun N hNx => ?_ | refine WL_gE rfl rfl (by kernel_rfl) (by kernel_rfl) fun G hGx => ?_ | refine vcOpsS_sound (by kernel_rfl) ?_ | refine W_ifE fun A B hAx hBx => ?_); refine evT ?_; (first | refine hGx _ ?_ | refine hNx _ ?_ | refine hAx ?_ | refine hBx ?_ | skip)))); (try clear fs))
  by_cases c1 : x.toList = y.toList
  case neg =>
    have p1 : (x.toList = y.toList) = False := eq_false c1
    refine W_drawE (fun _ _ _ _ => False) (by kernel_rfl) (by kernel_rfl) (by kernel_rfl) fun N hNx => ?_; (have fs := And.intro f0 (And.intro f1 (And.intro @i64.eq_1 (And.intro hll (And.intro hml (And.intro hgi (And.intro hgm (And.intro hx (And.intro h00 (And.intro hil (And.intro him p1)))))))))); (repeat ((first | refine vcD_g rfl rfl fun G hGx => ?_ | refine vcDS_to ?_); refine evD ?_; (first | refine hGx _ ?_ | refine hNx _ ?_ | skip))); (try clear fs))
    (have fs := And.intro f13 (And.intro @i64.eq_1 w3); (repeat (first | refine hGx _ ?_ | refine hNx _ ?_ | refine W_skip ?_ | refine W_exit ?_ | refine W_ret ?_ | refine W_label ?_ | refine W_scope ?_ | refine W_block ?_ | refine W_seq ?_ | ((first | refine tS fun N hNx => ?_ | refine WL_gE rfl rfl (by kernel_rfl) (by kernel_rfl) fun G hGx => ?_ | refine vcOpsS_sound (by kernel_rfl) ?_ | refine W_ifE fun A B hAx hBx => ?_); refine evT ?_; (first | refine hGx _ ?_ | refine hNx _ ?_ | refine hAx ?_ | refine hBx ?_ | skip)))); (try clear fs))
    (first | (show Q .ret _) | (show Q .normal _) | skip); refine hret _ _ (by first | exact .inr rfl | exact .inl rfl) (by first | rfl | assumption | (simp only [put_df, withH_df]; assumption)) ?_; have fs := hdf; refine evT ?_; clear fs
    exact ⟨_, Heap.le_refl _, by rw [hne fun h => c1 (by rw [h])]⟩
  have p1 : (x.toList = y.toList) = True := eq_true c1
  refine W_drawE (fun _ _ _ _ => False) (by kernel_rfl) (by kernel_rfl) (by kernel_rfl) fun N hNx => ?_; (have fs := And.intro f0 (And.intro f1 (And.intro @i64.eq_1 (And.intro hll (And.intro hml (And.intro hgi (And.intro hgm (And.intro hx (And.intro h00 (And.intro hil (And.intro him p1)))))))))); (repeat ((first | refine vcD_g rfl rfl fun G hGx => ?_ | refine vcDS_to ?_); refine evD ?_; (first | refine hGx _ ?_ | refine hNx _ ?_ | skip))); (try clear fs))
  (have fs := And.intro f13 (And.intro @i64.eq_1 w3); (repeat (first | refine hGx _ ?_ | refine hNx _ ?_ | refine W_skip ?_ | refine W_exit ?_ | refine W_ret ?_ | refine W_label ?_ | refine W_scope ?_ | refine W_block ?_ | refine W_seq ?_ | ((first | refine tS fun N hNx => ?_ | refine WL_gE rfl rfl (by kernel_rfl) (by kernel_rfl) fun G hGx => ?_ | refine vcOpsS_sound (by kernel_rfl) ?_ | refine W_ifE fun A B hAx hBx => ?_); refine evT ?_; (first | refine hGx _ ?_ | refine hNx _ ?_ | refine hAx ?_ | refine hBx ?_ | skip)))); (try clear fs))
  refine ⟨hil, hdf, f0, f1, f12, rfl, hH, ?_⟩
  exact hts (toL_inj.1 c1)
theorem equalS_at (H : Heap) (l m : List ByteArray) (hl : big l.length) : Does Tryd.prog 19 [.seq 1 (l.map sD), .seq 1 (m.map sD)] H fun d H' => d = .val (.bool (decide (l = m))) ∧ H = H' :=
  pure_D (equalS_N l m hl) rfl (vws2 (vw_refl _ _) (vw_refl _ _))
def tlen : List ByteArray → Nat
  | [] => 0
  | s :: l => 1 + min s.size 9000 + tlen l
theorem tlen_append : ∀ l m : List ByteArray, tlen (l ++ m) = tlen l + tlen m
  | [], m => by simp [tlen]
  | s :: l, m => by simp only [List.cons_append, tlen, tlen_append l m]; omega
theorem tlen_succ {l : List ByteArray} {i : Nat} (h : i < l.length) : tlen (l.take (i + 1)) = tlen (l.take i) + (1 + min l[i].size 9000) := by
  rw [List.take_succ_eq_append_getElem h, tlen_append]; simp [tlen]
theorem tlen_take (l : List ByteArray) (i : Nat) : tlen (l.take i) ≤ tlen l := by
  have := tlen_append (l.take i) (l.drop i)
  rw [List.take_append_drop] at this; omega
theorem tlen_small : ∀ {l : List ByteArray}, tlen l ≤ 8000 → l.length ≤ tlen l ∧ bsum l ≤ 11 * tlen l ∧ ∀ s ∈ l, s.size ≤ 8000
  | [], _ => ⟨Nat.zero_le _, Nat.zero_le _, fun s h => by cases h⟩
  | x :: l, h => by
    simp only [tlen, bsum, List.length_cons] at h ⊢
    obtain ⟨h1, h2, h3⟩ := tlen_small (l := l) (by omega)
    refine ⟨by omega, by omega, fun s hs => ?_⟩
    rcases List.mem_cons.1 hs with rfl | hs
    · omega
    · exact h3 s hs
set_option maxHeartbeats 1000000 in
theorem long_N (l : List ByteArray) (H : Heap) (hl : big l.length) : Does Tryd.prog 11 [.seq 1 (l.map sD)] H fun d H' => d = .val (.bool (decide (8000 < tlen l))) ∧ H = H' := by
  have hml : (List.map sD l).length = l.length := List.length_map _
  unfold big at hl
  refine does_of _ _ Tryd.func11 rfl rfl Tryd.ntmps11 Tryd.results11 (by simp only [List.length_cons, List.length_nil]; omega) fun w0 Q hret => ?_
  (have fs := And.intro @i64.eq_1 hml; (repeat (first | refine hGx _ ?_ | refine hNx _ ?_ | refine W_skip ?_ | refine W_exit ?_ | refine W_ret ?_ | refine W_label ?_ | refine W_scope ?_ | refine W_block ?_ | refine W_seq ?_ | ((first | refine tS fun N hNx => ?_ | refine WL_gE rfl rfl (by kernel_rfl) (by kernel_rfl) fun G hGx => ?_ | refine vcOpsS_sound (by kernel_rfl) ?_ | refine W_ifE fun A B hAx hBx => ?_); refine evT ?_; (first | refine hGx _ ?_ | refine hNx _ ?_ | refine hAx ?_ | refine hBx ?_ | skip)))); (try clear fs))
  refine W_loopN l.length (fun i s => s.df = [] ∧ s.fr 3 = i64 (tlen (l.take i)) ∧ s.fr 6 = .seq 1 (l.map sD) ∧ s.fr 7 = i64 l.length ∧ s.fr 8 = i64 i ∧ s.H = H ∧ tlen (l.take i) ≤ 8000) ⟨rfl, rfl, rfl, rfl, rfl, rfl, Nat.zero_le _⟩ ?_
  rintro i s hi ⟨hdf, f3, f6, f7, f8, hH, hle⟩
  have hx : (i : Int).toNat = i := Int.toNat_natCast _
  have h00 : (0 : Int) ≤ (i : Int) := Int.natCast_nonneg _
  by_cases hil : i < l.length
  case neg =>
    have p1 : ((i : Int) < (l.length : Int)) = False := eq_false (by omega)
    rw [List.take_of_length_le (by omega)] at hle
    (have fs := And.intro f3 (And.intro f6 (And.intro f7 (And.intro f8 (And.intro @i64.eq_1 p1)))); (repeat (first | refine hGx _ ?_ | refine hNx _ ?_ | refine W_skip ?_ | refine W_exit ?_ | refine W_ret ?_ | refine W_label ?_ | refine W_scope ?_ | refine W_block ?_ | refine W_seq ?_ | ((first | refine tS fun N hNx => ?_ | refine WL_gE rfl rfl (by kernel_rfl) (by kernel_rfl) fun G hGx => ?_ | refine vcOpsS_sound (by kernel_rfl) ?_ | refine W_ifE fun A B hAx hBx => ?_); refine evT ?_; (first | refine hGx _ ?_ | refine hNx _ ?_ | refine hAx ?_ | refine hBx ?_ | skip)))); (try clear fs))
    (first | (show Q .ret _) | (show Q .normal _) | skip); refine hret _ _ (by first | exact .inr rfl | exact .inl rfl) (by first | rfl | assumption | (simp only [put_df, withH_df]; assumption)) ?_; have fs := hdf; refine evT ?_; clear fs
    exact ⟨_, Heap.le_refl _, by rw [decide_eq_false (by omega)], hH.symm⟩
  have hil' : (i : Int) < (l.length : Int) := by omega
  have p1 : ((i : Int) < (l.length : Int)) = True := eq_true hil'
  have hgi := get_strs hil
  have w3 : IntKind.i64.wrap ((i : Int) + 1) = ((i + 1 : Nat) : Int) := by rw [wrap_i64_of (by omega)]; omega
  obtain ⟨m, hm⟩ : ∃ m, m = min l[i].size 9000 := ⟨_, rfl⟩
  have hts := tlen_succ hil
  rw [← hm] at hts
  have hmm : min (l[i].size : Int) 9000 = (m : Int) := by omega
  have w4 : IntKind.i64.wrap (1 + (m : Int)) = ((1 + m : Nat) : Int) := by rw [wrap_i64_of (by omega)]; omega
  have w5 : IntKind.i64.wrap ((tlen (l.take i) : Int) + ((1 + m : Nat) : Int)) = (tlen (l.take (i + 1)) : Int) := by rw [wrap_i64_of (by omega)]; omega
  by_cases hgt : 8000 < tlen (l.take (i + 1))
  · have p2 : ((tlen (l.take (i + 1)) : Int) > 8000) = True := eq_true (by omega)
    have := tlen_take l (i + 1)
    (have fs := And.intro f3 (And.intro f6 (And.intro f7 (And.intro f8 (And.intro @i64.eq_1 (And.intro p1 (And.intro hml (And.intro hgi (And.intro hx (And.intro h00 (And.intro hil (And.intro hmm (And.intro w4 (And.intro w5 p2))))))))))))); (repeat (first | refine hGx _ ?_ | refine hNx _ ?_ | refine W_skip ?_ | refine W_exit ?_ | refine W_ret ?_ | refine W_label ?_ | refine W_scope ?_ | refine W_block ?_ | refine W_seq ?_ | ((first | refine tS fun N hNx => ?_ | refine WL_gE rfl rfl (by kernel_rfl) (by kernel_rfl) fun G hGx => ?_ | refine vcOpsS_sound (by kernel_rfl) ?_ | refine W_ifE fun A B hAx hBx => ?_); refine evT ?_; (first | refine hGx _ ?_ | refine hNx _ ?_ | refine hAx ?_ | refine hBx ?_ | skip)))); (try clear fs))
    (first | (show Q .ret _) | (show Q .normal _) | skip); refine hret _ _ (by first | exact .inr rfl | exact .inl rfl) (by first | rfl | assumption | (simp only [put_df, withH_df]; assumption)) ?_; have fs := hdf; refine evT ?_; clear fs
    exact ⟨_, Heap.le_refl _, by rw [decide_eq_true (by omega)], hH.symm⟩
  · have p2 : ((tlen (l.take (i + 1)) : Int) > 8000) = False := eq_false (by omega)
    (have fs := And.intro f3 (And.intro f6 (And.intro f7 (And.intro f8 (And.intro @i64.eq_1 (And.intro p1 (And.intro hml (And.intro hgi (And.intro hx (And.intro h00 (And.intro hil (And.intro hmm (And.intro w4 (And.intro w5 (And.intro p2 w3)))))))))))))); (repeat (first | refine hGx _ ?_ | refine hNx _ ?_ | refine W_skip ?_ | refine W_exit ?_ | refine W_ret ?_ | refine W_label ?_ | refine W_scope ?_ | refine W_block ?_ | refine W_seq ?_ | ((first | refine tS fun N hNx => ?_ | refine WL_gE rfl rfl (by kernel_rfl) (by kernel_rfl) fun G hGx => ?_ | refine vcOpsS_sound (by kernel_rfl) ?_ | refine W_ifE fun A B hAx hBx => ?_); refine evT ?_; (first | refine hGx _ ?_ | refine hNx _ ?_ | refine hAx ?_ | refine hBx ?_ | skip)))); (try clear fs))
    exact ⟨hil, hdf, rfl, f6, f7, rfl, hH, by omega⟩
set_option maxHeartbeats 1000000 in
theorem list_N (l : List ByteArray) (H : Heap) (hl : l.length ≤ 9000) : Does Tryd.prog 13 [tabD l, i64 9000] H fun d H' => d = .seq 1 (l.map sD) ∧ H = H' := by
  refine Does.frz (K := fun d => d = .seq 1 (l.map sD)) ?_
  have hml : (List.map sD l).length = l.length := List.length_map _
  have hmm : min (l.length : Int) 9000 = (l.length : Int) := by omega
  refine does_of _ _ Tryd.func13 rfl rfl Tryd.ntmps13 Tryd.results13 (by simp only [List.length_cons, List.length_nil]; omega) fun w0 Q hret => ?_
  (have fs := @i64.eq_1; (repeat (first | refine hGx _ ?_ | refine hNx _ ?_ | refine W_skip ?_ | refine W_exit ?_ | refine W_ret ?_ | refine W_label ?_ | refine W_scope ?_ | refine W_block ?_ | refine W_seq ?_ | ((first | refine tS fun N hNx => ?_ | refine WL_gE rfl rfl (by kernel_rfl) (by kernel_rfl) fun G hGx => ?_ | refine vcOpsS_sound (by kernel_rfl) ?_ | refine W_ifE fun A B hAx hBx => ?_); refine evT ?_; (first | refine hGx _ ?_ | refine hNx _ ?_ | refine hAx ?_ | refine hBx ?_ | skip)))); (try clear fs))
  refine (len_N l _).mono ?_
  rintro d _ ⟨rfl, rfl⟩
  (have fs := And.intro @i64.eq_1 hmm; (repeat (first | refine hGx _ ?_ | refine hNx _ ?_ | refine W_skip ?_ | refine W_exit ?_ | refine W_ret ?_ | refine W_label ?_ | refine W_scope ?_ | refine W_block ?_ | refine W_seq ?_ | ((first | refine tS fun N hNx => ?_ | refine WL_gE rfl rfl (by kernel_rfl) (by kernel_rfl) fun G hGx => ?_ | refine vcOpsS_sound (by kernel_rfl) ?_ | refine W_ifE fun A B hAx hBx => ?_); refine evT ?_; (first | refine hGx _ ?_ | refine hNx _ ?_ | refine hAx ?_ | refine hBx ?_ | skip)))); (try clear fs))
  refine W_loopN l.length (fun i s => s.df = [] ∧ s.fr 0 = tabD l ∧ s.fr 12 = i64 l.length ∧ s.fr 13 = i64 i ∧ H.le s.H ∧ ∃ ob, Gl H 9 1 ((l.take i).map sD) (s.fr 5) s.H ob) ⟨rfl, rfl, rfl, rfl, Heap.le_refl _, none, Gl.nil _ _ _ _⟩ ?_
  rintro i s hi ⟨hdf, f0, f12, f13, hle, ob, hg⟩
  have hx : (i : Int).toNat = i := Int.toNat_natCast _
  by_cases hil : i < l.length
  case neg =>
    have p1 : ((i : Int) < (l.length : Int)) = False := eq_false (by omega)
    rw [List.take_of_length_le (by omega)] at hg
    (have fs := And.intro f12 (And.intro f13 (And.intro @i64.eq_1 p1)); (repeat (first | refine hGx _ ?_ | refine hNx _ ?_ | refine W_skip ?_ | refine W_exit ?_ | refine W_ret ?_ | refine W_label ?_ | refine W_scope ?_ | refine W_block ?_ | refine W_seq ?_ | ((first | refine tS fun N hNx => ?_ | refine WL_gE rfl rfl (by kernel_rfl) (by kernel_rfl) fun G hGx => ?_ | refine vcOpsS_sound (by kernel_rfl) ?_ | refine W_ifE fun A B hAx hBx => ?_); refine evT ?_; (first | refine hGx _ ?_ | refine hNx _ ?_ | refine hAx ?_ | refine hBx ?_ | skip)))); (try clear fs))
    (first | (show Q .ret _) | (show Q .normal _) | skip); refine hret _ _ (by first | exact .inr rfl | exact .inl rfl) (by first | rfl | assumption | (simp only [put_df, withH_df]; assumption)) ?_; have fs := hdf; refine evT ?_; clear fs
    exact ⟨_, Heap.le_refl _, hle, _, frz_gl hle hg, rfl⟩
  have p1 : ((i : Int) < (l.length : Int)) = True := eq_true (by omega)
  have w3 : IntKind.i64.wrap ((i : Int) + 1) = ((i + 1 : Nat) : Int) := by rw [wrap_i64_of (by omega)]; omega
  have hat : atD l i = .tup [strD l[i], .val (.bool true)] := by
    unfold atD
    rw [if_pos (by unfold InR; omega), hx, List.getD_eq_getElem?_getD, List.getElem?_eq_getElem hil]; rfl
  (have fs := And.intro f0 (And.intro f12 (And.intro f13 (And.intro @i64.eq_1 p1))); (repeat (first | refine hGx _ ?_ | refine hNx _ ?_ | refine W_skip ?_ | refine W_exit ?_ | refine W_ret ?_ | refine W_label ?_ | refine W_scope ?_ | refine W_block ?_ | refine W_seq ?_ | ((first | refine tS fun N hNx => ?_ | refine WL_gE rfl rfl (by kernel_rfl) (by kernel_rfl) fun G hGx => ?_ | refine vcOpsS_sound (by kernel_rfl) ?_ | refine W_ifE fun A B hAx hBx => ?_); refine evT ?_; (first | refine hGx _ ?_ | refine hNx _ ?_ | refine hAx ?_ | refine hBx ?_ | skip)))); (try clear fs))
  refine (at_N l i _).mono ?_
  rintro d _ ⟨rfl, rfl⟩
  rw [hat]
  (have fs := And.intro @i64.eq_1 @strD.eq_1; (repeat (first | refine hGx _ ?_ | refine hNx _ ?_ | refine W_skip ?_ | refine W_exit ?_ | refine W_ret ?_ | refine W_label ?_ | refine W_scope ?_ | refine W_block ?_ | refine W_seq ?_ | ((first | refine tS fun N hNx => ?_ | refine WL_gE rfl rfl (by kernel_rfl) (by kernel_rfl) fun G hGx => ?_ | refine vcOpsS_sound (by kernel_rfl) ?_ | refine W_ifE fun A B hAx hBx => ?_); refine evT ?_; (first | refine hGx _ ?_ | refine hNx _ ?_ | refine hAx ?_ | refine hBx ?_ | skip)))); (try clear fs))
  refine apV_grow (e := 9) ty24 rfl ty24 rfl ty9 rfl (by decide) hle hg (new := [sD l[i]]) (by exact ⟨rfl, rfl⟩) (by rw [List.length_map, List.length_take]; show (_ + 1) * 16 ≤ _; omega) fun d' H' ob' hg6 hle6 _ => ?_
  rw [show [sD l[i]] = [l[i]].map sD from rfl, ← List.map_append, ← List.take_succ_eq_append_getElem hil] at hg6
  (have fs := And.intro f12 (And.intro f13 (And.intro @i64.eq_1 w3)); (repeat (first | refine hGx _ ?_ | refine hNx _ ?_ | refine W_skip ?_ | refine W_exit ?_ | refine W_ret ?_ | refine W_label ?_ | refine W_scope ?_ | refine W_block ?_ | refine W_seq ?_ | ((first | refine tS fun N hNx => ?_ | refine WL_gE rfl rfl (by kernel_rfl) (by kernel_rfl) fun G hGx => ?_ | refine vcOpsS_sound (by kernel_rfl) ?_ | refine W_ifE fun A B hAx hBx => ?_); refine evT ?_; (first | refine hGx _ ?_ | refine hNx _ ?_ | refine hAx ?_ | refine hBx ?_ | skip)))); (try clear fs))
  exact ⟨hil, hdf, f0, f12, rfl, hle6, ob', hg6⟩
/-- What the reference's New returns. -/
def knewD (l : List ByteArray) : D := if (∀ s ∈ l, isId s = true) then .tup [.seq 1 ((insAll l).map sD), i64 0] else .tup [.val (.slice none 0 0), i64 12]
set_option maxHeartbeats 1000000 in
theorem knew_N (l : List ByteArray) (H : Heap) (hl : l.length ≤ 1000000) (hs : ∀ s ∈ l, big s.size) : Does Tryd.prog 15 [.seq 1 (l.map sD)] H fun d H' => d = knewD l ∧ H = H' := by
  have hml : (List.map sD l).length = l.length := List.length_map _
  refine does_of _ _ Tryd.func15 rfl rfl Tryd.ntmps15 Tryd.results15 (by simp only [List.length_cons, List.length_nil]; omega) fun w0 Q hret => ?_
  (have fs := @i64.eq_1; (repeat (first | refine hGx _ ?_ | refine hNx _ ?_ | refine W_skip ?_ | refine W_exit ?_ | refine W_ret ?_ | refine W_label ?_ | refine W_scope ?_ | refine W_block ?_ | refine W_seq ?_ | ((first | refine tS fun N hNx => ?_ | refine WL_gE rfl rfl (by kernel_rfl) (by kernel_rfl) fun G hGx => ?_ | refine vcOpsS_sound (by kernel_rfl) ?_ | refine W_ifE fun A B hAx hBx => ?_); refine evT ?_; (first | refine hGx _ ?_ | refine hNx _ ?_ | refine hAx ?_ | refine hBx ?_ | skip)))); (try clear fs))
  refine W_as 4 (.seq 1 ((insAll (l.take 0)).map sD)) (fun w v hv => by exact imp_nil _ _ _ hv) ?_
  refine W_loopN l.length (fun i s => s.df = [] ∧ s.fr 0 = .seq 1 (l.map sD) ∧ s.fr 4 = .seq 1 ((insAll (l.take i)).map sD) ∧ s.fr 5 = i64 i ∧ s.H = H ∧ ∀ s ∈ l.take i, isId s = true) ⟨rfl, rfl, rfl, rfl, rfl, by intro s hs; cases hs⟩ ?_
  rintro i s hi ⟨hdf, f0, f4, f5, hH, ha⟩
  have hx : (i : Int).toNat = i := Int.toNat_natCast _
  have h00 : (0 : Int) ≤ (i : Int) := Int.natCast_nonneg _
  by_cases hil : i < l.length
  case neg =>
    have p1 : ((i : Int) < (l.length : Int)) = False := eq_false (by omega)
    rw [List.take_of_length_le (by omega)] at f4 ha
    have hd : knewD l = .tup [.seq 1 ((insAll l).map sD), i64 0] := if_pos ha
    (have fs := And.intro f0 (And.intro f4 (And.intro f5 (And.intro @i64.eq_1 (And.intro p1 hml)))); (repeat (first | refine hGx _ ?_ | refine hNx _ ?_ | refine W_skip ?_ | refine W_exit ?_ | refine W_ret ?_ | refine W_label ?_ | refine W_scope ?_ | refine W_block ?_ | refine W_seq ?_ | ((first | refine tS fun N hNx => ?_ | refine WL_gE rfl rfl (by kernel_rfl) (by kernel_rfl) fun G hGx => ?_ | refine vcOpsS_sound (by kernel_rfl) ?_ | refine W_ifE fun A B hAx hBx => ?_); refine evT ?_; (first | refine hGx _ ?_ | refine hNx _ ?_ | refine hAx ?_ | refine hBx ?_ | skip)))); (try clear fs))
    (first | (show Q .ret _) | (show Q .normal _) | skip); refine hret _ _ (by first | exact .inr rfl | exact .inl rfl) (by first | rfl | assumption | (simp only [put_df, withH_df]; assumption)) ?_; have fs := hdf; refine evT ?_; clear fs
    exact ⟨_, Heap.le_refl _, hd.symm, hH.symm⟩
  have hil' : (i : Int) < (l.length : Int) := by omega
  have p1 : ((i : Int) < (l.length : Int)) = True := eq_true hil'
  have hgi := get_strs hil
  have hil2 := insAll_len (l.take i)
  rw [List.length_take] at hil2
  have w3 : IntKind.i64.wrap ((i : Int) + 1) = ((i + 1 : Nat) : Int) := by rw [wrap_i64_of (by omega)]; omega
  (have fs := And.intro f0 (And.intro f4 (And.intro f5 (And.intro @i64.eq_1 (And.intro p1 (And.intro hml (And.intro hgi (And.intro hx (And.intro h00 hil)))))))); (repeat (first | refine hGx _ ?_ | refine hNx _ ?_ | refine W_skip ?_ | refine W_exit ?_ | refine W_ret ?_ | refine W_label ?_ | refine W_scope ?_ | refine W_block ?_ | refine W_seq ?_ | ((first | refine tS fun N hNx => ?_ | refine WL_gE rfl rfl (by kernel_rfl) (by kernel_rfl) fun G hGx => ?_ | refine vcOpsS_sound (by kernel_rfl) ?_ | refine W_ifE fun A B hAx hBx => ?_); refine evT ?_; (first | refine hGx _ ?_ | refine hNx _ ?_ | refine hAx ?_ | refine hBx ?_ | skip)))); (try clear fs))
  refine (kisid_N l[i] _ (hs _ (List.getElem_mem hil))).mono ?_
  rintro d _ ⟨rfl, rfl⟩
  cases hid : isId l[i]
  · have hd : knewD l = .tup [.val (.slice none 0 0), i64 12] := if_neg fun h => by rw [h _ (List.getElem_mem hil)] at hid; cases hid
    (have fs := And.intro f0 (And.intro f4 (And.intro f5 @i64.eq_1)); (repeat (first | refine hGx _ ?_ | refine hNx _ ?_ | refine W_skip ?_ | refine W_exit ?_ | refine W_ret ?_ | refine W_label ?_ | refine W_scope ?_ | refine W_block ?_ | refine W_seq ?_ | ((first | refine tS fun N hNx => ?_ | refine WL_gE rfl rfl (by kernel_rfl) (by kernel_rfl) fun G hGx => ?_ | refine vcOpsS_sound (by kernel_rfl) ?_ | refine W_ifE fun A B hAx hBx => ?_); refine evT ?_; (first | refine hGx _ ?_ | refine hNx _ ?_ | refine hAx ?_ | refine hBx ?_ | skip)))); (try clear fs))
    (first | (show Q .ret _) | (show Q .normal _) | skip); refine hret _ _ (by first | exact .inr rfl | exact .inl rfl) (by first | rfl | assumption | (simp only [put_df, withH_df]; assumption)) ?_; have fs := hdf; refine evT ?_; clear fs
    exact ⟨_, Heap.le_refl _, hd.symm, hH.symm⟩
  · (have fs := And.intro f0 (And.intro f4 (And.intro f5 (And.intro @i64.eq_1 (And.intro hml (And.intro hgi (And.intro hx (And.intro h00 hil))))))); (repeat (first | refine hGx _ ?_ | refine hNx _ ?_ | refine W_skip ?_ | refine W_exit ?_ | refine W_ret ?_ | refine W_label ?_ | refine W_scope ?_ | refine W_block ?_ | refine W_seq ?_ | ((first | refine tS fun N hNx => ?_ | refine WL_gE rfl rfl (by kernel_rfl) (by kernel_rfl) fun G hGx => ?_ | refine vcOpsS_sound (by kernel_rfl) ?_ | refine W_ifE fun A B hAx hBx => ?_); refine evT ?_; (first | refine hGx _ ?_ | refine hNx _ ?_ | refine hAx ?_ | refine hBx ?_ | skip)))); (try clear fs))
    refine (ins_N (insAll (l.take i)) l[i] _ (by omega)).mono ?_
    rintro d _ ⟨rfl, rfl⟩
    rw [← insAll_snoc, ← List.take_succ_eq_append_getElem hil]
    (have fs := And.intro f5 (And.intro @i64.eq_1 w3); (repeat (first | refine hGx _ ?_ | refine hNx _ ?_ | refine W_skip ?_ | refine W_exit ?_ | refine W_ret ?_ | refine W_label ?_ | refine W_scope ?_ | refine W_block ?_ | refine W_seq ?_ | ((first | refine tS fun N hNx => ?_ | refine WL_gE rfl rfl (by kernel_rfl) (by kernel_rfl) fun G hGx => ?_ | refine vcOpsS_sound (by kernel_rfl) ?_ | refine W_ifE fun A B hAx hBx => ?_); refine evT ?_; (first | refine hGx _ ?_ | refine hNx _ ?_ | refine hAx ?_ | refine hBx ?_ | skip)))); (try clear fs))
    refine ⟨hil, hdf, f0, rfl, rfl, hH, fun s hs => ?_⟩
    rw [List.take_succ_eq_append_getElem hil] at hs
    rcases List.mem_append.1 hs with h | h
    · exact ha s h
    · rw [List.mem_singleton.1 h]; exact hid
set_option maxHeartbeats 1000000 in
theorem kindex_N (l : List ByteArray) (t : ByteArray) (H : Heap) (hl : big l.length) : Does Tryd.prog 16 [.seq 1 (l.map sD), strD t] H fun d H' => d = i64 (if ixS l t < l.length then (ixS l t : Int) else -1) ∧ H = H' := by
  have hml : (List.map sD l).length = l.length := List.length_map _
  unfold big at hl
  refine does_of _ _ Tryd.func16 rfl rfl Tryd.ntmps16 Tryd.results16 (by simp only [List.length_cons, List.length_nil]; omega) fun w0 Q hret => ?_
  (have fs := And.intro @i64.eq_1 @strD.eq_1; (repeat (first | refine hGx _ ?_ | refine hNx _ ?_ | refine W_skip ?_ | refine W_exit ?_ | refine W_ret ?_ | refine W_label ?_ | refine W_scope ?_ | refine W_block ?_ | refine W_seq ?_ | ((first | refine tS fun N hNx => ?_ | refine WL_gE rfl rfl (by kernel_rfl) (by kernel_rfl) fun G hGx => ?_ | refine vcOpsS_sound (by kernel_rfl) ?_ | refine W_ifE fun A B hAx hBx => ?_); refine evT ?_; (first | refine hGx _ ?_ | refine hNx _ ?_ | refine hAx ?_ | refine hBx ?_ | skip)))); (try clear fs))
  refine W_loopN l.length (fun i s => s.df = [] ∧ s.fr 0 = .seq 1 (l.map sD) ∧ s.fr 1 = .val (.string t) ∧ s.fr 5 = i64 i ∧ s.H = H ∧ ∀ (k : Nat) (h : k < l.length), k < i → l[k] ≠ t) ⟨rfl, rfl, rfl, rfl, rfl, fun k _ h => absurd h (by omega)⟩ ?_
  rintro i s hi ⟨hdf, f0, f1, f5, hH, ha⟩
  have hx : (i : Int).toNat = i := Int.toNat_natCast _
  have h00 : (0 : Int) ≤ (i : Int) := Int.natCast_nonneg _
  by_cases hil : i < l.length
  case neg =>
    have p1 : ((i : Int) < (l.length : Int)) = False := eq_false (by omega)
    have hn : ¬ ixS l t < l.length := fun h => by
      obtain ⟨k, hk, e⟩ := List.getElem_of_mem (ixS_lt.1 h)
      exact ha k hk (by omega) e
    (have fs := And.intro f0 (And.intro f1 (And.intro f5 (And.intro @i64.eq_1 (And.intro p1 hml)))); (repeat (first | refine hGx _ ?_ | refine hNx _ ?_ | refine W_skip ?_ | refine W_exit ?_ | refine W_ret ?_ | refine W_label ?_ | refine W_scope ?_ | refine W_block ?_ | refine W_seq ?_ | ((first | refine tS fun N hNx => ?_ | refine WL_gE rfl rfl (by kernel_rfl) (by kernel_rfl) fun G hGx => ?_ | refine vcOpsS_sound (by kernel_rfl) ?_ | refine W_ifE fun A B hAx hBx => ?_); refine evT ?_; (first | refine hGx _ ?_ | refine hNx _ ?_ | refine hAx ?_ | refine hBx ?_ | skip)))); (try clear fs))
    (first | (show Q .ret _) | (show Q .normal _) | skip); refine hret _ _ (by first | exact .inr rfl | exact .inl rfl) (by first | rfl | assumption | (simp only [put_df, withH_df]; assumption)) ?_; have fs := hdf; refine evT ?_; clear fs
    exact ⟨_, Heap.le_refl _, by rw [if_neg hn]; rfl, hH.symm⟩
  have hil' : (i : Int) < (l.length : Int) := by omega
  have p1 : ((i : Int) < (l.length : Int)) = True := eq_true hil'
  have hgi := get_strs hil
  have w3 : IntKind.i64.wrap ((i : Int) + 1) = ((i + 1 : Nat) : Int) := by rw [wrap_i64_of (by omega)]; omega
  by_cases he : l[i] = t
  · have q1 : (l[i].toList = t.toList) = True := eq_true (by rw [he])
    have hix := ixS_eq hil he ha
    (have fs := And.intro f0 (And.intro f1 (And.intro f5 (And.intro @i64.eq_1 (And.intro p1 (And.intro hml (And.intro hgi (And.intro hx (And.intro h00 (And.intro hil q1))))))))); (repeat (first | refine hGx _ ?_ | refine hNx _ ?_ | refine W_skip ?_ | refine W_exit ?_ | refine W_ret ?_ | refine W_label ?_ | refine W_scope ?_ | refine W_block ?_ | refine W_seq ?_ | ((first | refine tS fun N hNx => ?_ | refine WL_gE rfl rfl (by kernel_rfl) (by kernel_rfl) fun G hGx => ?_ | refine vcOpsS_sound (by kernel_rfl) ?_ | refine W_ifE fun A B hAx hBx => ?_); refine evT ?_; (first | refine hGx _ ?_ | refine hNx _ ?_ | refine hAx ?_ | refine hBx ?_ | skip)))); (try clear fs))
    (first | (show Q .ret _) | (show Q .normal _) | skip); refine hret _ _ (by first | exact .inr rfl | exact .inl rfl) (by first | rfl | assumption | (simp only [put_df, withH_df]; assumption)) ?_; have fs := f5; refine evT ?_; clear fs
    exact ⟨_, Heap.le_refl _, by rw [hix, if_pos hil]; rfl, hH.symm⟩
  · have q1 : (l[i].toList = t.toList) = False := eq_false fun h => he (toL_inj.1 h)
    (have fs := And.intro f0 (And.intro f1 (And.intro f5 (And.intro @i64.eq_1 (And.intro p1 (And.intro hml (And.intro hgi (And.intro hx (And.intro h00 (And.intro hil (And.intro q1 w3)))))))))); (repeat (first | refine hGx _ ?_ | refine hNx _ ?_ | refine W_skip ?_ | refine W_exit ?_ | refine W_ret ?_ | refine W_label ?_ | refine W_scope ?_ | refine W_block ?_ | refine W_seq ?_ | ((first | refine tS fun N hNx => ?_ | refine WL_gE rfl rfl (by kernel_rfl) (by kernel_rfl) fun G hGx => ?_ | refine vcOpsS_sound (by kernel_rfl) ?_ | refine W_ifE fun A B hAx hBx => ?_); refine evT ?_; (first | refine hGx _ ?_ | refine hNx _ ?_ | refine hAx ?_ | refine hBx ?_ | skip)))); (try clear fs))
    refine ⟨hil, hdf, f0, f1, rfl, hH, fun k hk hki => ?_⟩
    by_cases h1 : k = i
    · subst h1; exact he
    · exact ha k hk (by omega)
theorem ixS_at {l : List ByteArray} (h : l.Pairwise ltB) {i : Nat} (hi : i < l.length) : ixS l l[i] = i :=
  ixS_eq hi rfl fun k hk hki e => by
    have := List.pairwise_iff_getElem.1 h k i hk hi hki
    rw [e] at this
    exact ltB_irr _ this
set_option maxHeartbeats 2000000 in
theorem lorders_N (l : List ByteArray) (hl : big l.length) (hs : ∀ s ∈ l, big s.size) : Does Tryd.prog 4 [.seq 1 (l.map sD)] .none fun d _ => d = .val (.bool true) := by
  have hml : (List.map sD l).length = l.length := List.length_map _
  refine does_of _ _ Tryd.func4 rfl rfl Tryd.ntmps4 Tryd.results4 (by simp only [List.length_cons, List.length_nil]; omega) fun w0 Q hret => ?_
  (have fs := @i64.eq_1; (repeat (first | refine hGx _ ?_ | refine hNx _ ?_ | refine W_skip ?_ | refine W_exit ?_ | refine W_ret ?_ | refine W_label ?_ | refine W_scope ?_ | refine W_block ?_ | refine W_seq ?_ | ((first | refine tS fun N hNx => ?_ | refine WL_gE rfl rfl (by kernel_rfl) (by kernel_rfl) fun G hGx => ?_ | refine vcOpsS_sound (by kernel_rfl) ?_ | refine W_ifE fun A B hAx hBx => ?_); refine evT ?_; (first | refine hGx _ ?_ | refine hNx _ ?_ | refine hAx ?_ | refine hBx ?_ | skip)))); (try clear fs))
  refine (long_N l _ hl).mono ?_
  rintro d _ ⟨rfl, rfl⟩
  by_cases hlg : 8000 < tlen l
  · rw [decide_eq_true hlg]
    (have fs := @i64.eq_1; (repeat (first | refine hGx _ ?_ | refine hNx _ ?_ | refine W_skip ?_ | refine W_exit ?_ | refine W_ret ?_ | refine W_label ?_ | refine W_scope ?_ | refine W_block ?_ | refine W_seq ?_ | ((first | refine tS fun N hNx => ?_ | refine WL_gE rfl rfl (by kernel_rfl) (by kernel_rfl) fun G hGx => ?_ | refine vcOpsS_sound (by kernel_rfl) ?_ | refine W_ifE fun A B hAx hBx => ?_); refine evT ?_; (first | refine hGx _ ?_ | refine hNx _ ?_ | refine hAx ?_ | refine hBx ?_ | skip)))); (try clear fs))
    refine (alive5_N _).mono ?_; rintro d _ ⟨rfl, rfl⟩
    (have fs := @i64.eq_1; (repeat (first | refine hGx _ ?_ | refine hNx _ ?_ | refine W_skip ?_ | refine W_exit ?_ | refine W_ret ?_ | refine W_label ?_ | refine W_scope ?_ | refine W_block ?_ | refine W_seq ?_ | ((first | refine tS fun N hNx => ?_ | refine WL_gE rfl rfl (by kernel_rfl) (by kernel_rfl) fun G hGx => ?_ | refine vcOpsS_sound (by kernel_rfl) ?_ | refine W_ifE fun A B hAx hBx => ?_); refine evT ?_; (first | refine hGx _ ?_ | refine hNx _ ?_ | refine hAx ?_ | refine hBx ?_ | skip)))); (try clear fs))
    (first | (show Q .ret _) | (show Q .normal _) | skip); refine hret _ _ (by first | exact .inr rfl | exact .inl rfl) (by first | rfl | assumption | (simp only [put_df, withH_df]; assumption)) ?_; have fs := @i64.eq_1; refine evT ?_; clear fs
    exact ⟨_, Heap.le_refl _⟩
  rw [decide_eq_false hlg]
  obtain ⟨h1, h2, h3⟩ := tlen_small (l := l) (by omega)
  (have fs := @i64.eq_1; (repeat (first | refine hGx _ ?_ | refine hNx _ ?_ | refine W_skip ?_ | refine W_exit ?_ | refine W_ret ?_ | refine W_label ?_ | refine W_scope ?_ | refine W_block ?_ | refine W_seq ?_ | ((first | refine tS fun N hNx => ?_ | refine WL_gE rfl rfl (by kernel_rfl) (by kernel_rfl) fun G hGx => ?_ | refine vcOpsS_sound (by kernel_rfl) ?_ | refine W_ifE fun A B hAx hBx => ?_); refine evT ?_; (first | refine hGx _ ?_ | refine hNx _ ?_ | refine hAx ?_ | refine hBx ?_ | skip)))); (try clear fs))
  refine (new_N l _ (by omega) hs).mono ?_
  rintro d _ ⟨rfl, rfl⟩
  by_cases hok : ∀ s ∈ l, isId s = true
  case neg =>
    have hd : newD l = .tup [nilP, i64 12] := if_neg hok
    rw [hd]
    (have fs := And.intro @i64.eq_1 @nilP.eq_1; (repeat (first | refine hGx _ ?_ | refine hNx _ ?_ | refine W_skip ?_ | refine W_exit ?_ | refine W_ret ?_ | refine W_label ?_ | refine W_scope ?_ | refine W_block ?_ | refine W_seq ?_ | ((first | refine tS fun N hNx => ?_ | refine WL_gE rfl rfl (by kernel_rfl) (by kernel_rfl) fun G hGx => ?_ | refine vcOpsS_sound (by kernel_rfl) ?_ | refine W_ifE fun A B hAx hBx => ?_); refine evT ?_; (first | refine hGx _ ?_ | refine hNx _ ?_ | refine hAx ?_ | refine hBx ?_ | skip)))); (try clear fs))
    refine (alive5_N _).mono ?_; rintro d _ ⟨rfl, rfl⟩
    (first | refine hGx _ ?_ | refine hNx _ ?_ | skip)
    (have fs := @i64.eq_1; (repeat (first | refine hGx _ ?_ | refine hNx _ ?_ | refine W_skip ?_ | refine W_exit ?_ | refine W_ret ?_ | refine W_label ?_ | refine W_scope ?_ | refine W_block ?_ | refine W_seq ?_ | ((first | refine tS fun N hNx => ?_ | refine WL_gE rfl rfl (by kernel_rfl) (by kernel_rfl) fun G hGx => ?_ | refine vcOpsS_sound (by kernel_rfl) ?_ | refine W_ifE fun A B hAx hBx => ?_); refine evT ?_; (first | refine hGx _ ?_ | refine hNx _ ?_ | refine hAx ?_ | refine hBx ?_ | skip)))); (try clear fs))
    (first | (show Q .ret _) | (show Q .normal _) | skip); refine hret _ _ (by first | exact .inr rfl | exact .inl rfl) (by first | rfl | assumption | (simp only [put_df, withH_df]; assumption)) ?_; have fs := @i64.eq_1; refine evT ?_; clear fs
    exact ⟨_, Heap.le_refl _⟩
  have hd : newD l = .tup [tabD (insAll l), i64 0] := if_pos hok
  rw [hd]
  obtain ⟨t, ht⟩ : ∃ t, t = insAll l := ⟨_, rfl⟩
  have hst := insAll_strict l
  have htl := insAll_len l
  have htm : ∀ x, x ∈ insAll l ↔ x ∈ l := fun x => insAll_mem
  rw [← ht] at hst htl htm ⊢
  have hmt : (List.map sD t).length = t.length := List.length_map _
  (have fs := And.intro @i64.eq_1 @tabD.eq_1; (repeat (first | refine hGx _ ?_ | refine hNx _ ?_ | refine W_skip ?_ | refine W_exit ?_ | refine W_ret ?_ | refine W_label ?_ | refine W_scope ?_ | refine W_block ?_ | refine W_seq ?_ | ((first | refine tS fun N hNx => ?_ | refine WL_gE rfl rfl (by kernel_rfl) (by kernel_rfl) fun G hGx => ?_ | refine vcOpsS_sound (by kernel_rfl) ?_ | refine W_ifE fun A B hAx hBx => ?_); refine evT ?_; (first | refine hGx _ ?_ | refine hNx _ ?_ | refine hAx ?_ | refine hBx ?_ | skip)))); (try clear fs))
  refine (list_N t _ (by omega)).mono ?_
  rintro d _ ⟨rfl, rfl⟩
  (have fs := And.intro @i64.eq_1 hmt; (repeat (first | refine hGx _ ?_ | refine hNx _ ?_ | refine W_skip ?_ | refine W_exit ?_ | refine W_ret ?_ | refine W_label ?_ | refine W_scope ?_ | refine W_block ?_ | refine W_seq ?_ | ((first | refine tS fun N hNx => ?_ | refine WL_gE rfl rfl (by kernel_rfl) (by kernel_rfl) fun G hGx => ?_ | refine vcOpsS_sound (by kernel_rfl) ?_ | refine W_ifE fun A B hAx hBx => ?_); refine evT ?_; (first | refine hGx _ ?_ | refine hNx _ ?_ | refine hAx ?_ | refine hBx ?_ | skip)))); (try clear fs))
  refine W_loopN t.length (fun i s => s.df = [] ∧ s.fr 0 = .seq 1 (l.map sD) ∧ s.fr 3 = .rp [.seq 1 (t.map sD)] ∧ s.fr 5 = .seq 1 (t.map sD) ∧ s.fr 35 = .seq 1 (t.map sD) ∧ s.fr 36 = i64 t.length ∧ s.fr 37 = i64 i ∧ s.H = .none) ⟨rfl, rfl, rfl, rfl, rfl, rfl, rfl, rfl⟩ ?_
  rintro i s hi ⟨hdf, f0, f3, f5, f35, f36, f37, hH⟩
  have hx : (i : Int).toNat = i := Int.toNat_natCast _
  have h00 : (0 : Int) ≤ (i : Int) := Int.natCast_nonneg _
  by_cases hil : i < t.length
  case pos =>
    have hil' : (i : Int) < (t.length : Int) := by omega
    have p1 : ((i : Int) < (t.length : Int)) = True := eq_true hil'
    have hgi := get_strs hil
    have w3 : IntKind.i64.wrap ((i : Int) + 1) = ((i + 1 : Nat) : Int) := by rw [wrap_i64_of (by omega)]; omega
    have hq : idxD t t[i] = .tup [i64 i, .val (.bool true)] := by unfold idxD; rw [ixS_at hst hil, if_pos hil, decide_eq_true hil]
    (have fs := And.intro f0 (And.intro f3 (And.intro f5 (And.intro f35 (And.intro f36 (And.intro f37 (And.intro @i64.eq_1 (And.intro p1 (And.intro hmt (And.intro hgi (And.intro hx (And.intro h00 hil))))))))))); (repeat (first | refine hGx _ ?_ | refine hNx _ ?_ | refine W_skip ?_ | refine W_exit ?_ | refine W_ret ?_ | refine W_label ?_ | refine W_scope ?_ | refine W_block ?_ | refine W_seq ?_ | ((first | refine tS fun N hNx => ?_ | refine WL_gE rfl rfl (by kernel_rfl) (by kernel_rfl) fun G hGx => ?_ | refine vcOpsS_sound (by kernel_rfl) ?_ | refine W_ifE fun A B hAx hBx => ?_); refine evT ?_; (first | refine hGx _ ?_ | refine hNx _ ?_ | refine hAx ?_ | refine hBx ?_ | skip)))); (try clear fs))
    refine (index_N t t[i] _ (by omega) hst).mono ?_
    rintro d _ ⟨rfl, rfl⟩
    rw [hq]
    by_cases h0 : i = 0
    · have p2 : ((i : Int) > 0) = False := eq_false (by omega)
      have p3 : ((i : Int) = (i : Int)) = True := eq_true rfl
      (have fs := And.intro f0 (And.intro f3 (And.intro f5 (And.intro f35 (And.intro f36 (And.intro f37 (And.intro @i64.eq_1 (And.intro p2 (And.intro p3 w3)))))))); (repeat (first | refine hGx _ ?_ | refine hNx _ ?_ | refine W_skip ?_ | refine W_exit ?_ | refine W_ret ?_ | refine W_label ?_ | refine W_scope ?_ | refine W_block ?_ | refine W_seq ?_ | ((first | refine tS fun N hNx => ?_ | refine WL_gE rfl rfl (by kernel_rfl) (by kernel_rfl) fun G hGx => ?_ | refine vcOpsS_sound (by kernel_rfl) ?_ | refine W_ifE fun A B hAx hBx => ?_); refine evT ?_; (first | refine hGx _ ?_ | refine hNx _ ?_ | refine hAx ?_ | refine hBx ?_ | skip)))); (try clear fs))
      exact ⟨hil, hdf, f0, f3, f5, f35, f36, rfl, hH⟩
    · have p2 : ((i : Int) > 0) = True := eq_true (by omega)
      have p3 : ((i : Int) = (i : Int)) = True := eq_true rfl
      have w4 : IntKind.i64.wrap ((i : Int) - 1) = ((i - 1 : Nat) : Int) := by rw [wrap_i64_of (by omega)]; omega
      have hx1 : ((i - 1 : Nat) : Int).toNat = i - 1 := Int.toNat_natCast _
      have h01 : (0 : Int) ≤ ((i - 1 : Nat) : Int) := Int.natCast_nonneg _
      have hil1 : i - 1 < t.length := by omega
      have hgi1 := get_strs hil1
      have hlt := List.pairwise_iff_getElem.1 hst (i - 1) i hil1 hil (by omega)
      have e1 : Op.bytesLess t[i - 1].toList t[i].toList = true := less_tb hlt
      have e2 : Op.bytesLess t[i].toList t[i - 1].toList = false := less_fb (ltB_asymm hlt)
      (have fs := And.intro f0 (And.intro f3 (And.intro f5 (And.intro f35 (And.intro f36 (And.intro f37 (And.intro @i64.eq_1 (And.intro p2 (And.intro p3 (And.intro w3 (And.intro w4 (And.intro hx1 (And.intro h01 (And.intro hil1 (And.intro hgi1 (And.intro hmt (And.intro e1 e2)))))))))))))))); (repeat (first | refine hGx _ ?_ | refine hNx _ ?_ | refine W_skip ?_ | refine W_exit ?_ | refine W_ret ?_ | refine W_label ?_ | refine W_scope ?_ | refine W_block ?_ | refine W_seq ?_ | ((first | refine tS fun N hNx => ?_ | refine WL_gE rfl rfl (by kernel_rfl) (by kernel_rfl) fun G hGx => ?_ | refine vcOpsS_sound (by kernel_rfl) ?_ | refine W_ifE fun A B hAx hBx => ?_); refine evT ?_; (first | refine hGx _ ?_ | refine hNx _ ?_ | refine hAx ?_ | refine hBx ?_ | skip)))); (try clear fs))
      exact ⟨hil, hdf, f0, f3, f5, f35, f36, rfl, hH⟩
  have p1 : ((i : Int) < (t.length : Int)) = False := eq_false (by omega)
  (have fs := And.intro f0 (And.intro f3 (And.intro f5 (And.intro f35 (And.intro f36 (And.intro f37 (And.intro @i64.eq_1 (And.intro p1 hml))))))); (repeat (first | refine hGx _ ?_ | refine hNx _ ?_ | refine W_skip ?_ | refine W_exit ?_ | refine W_ret ?_ | refine W_label ?_ | refine W_scope ?_ | refine W_block ?_ | refine W_seq ?_ | ((first | refine tS fun N hNx => ?_ | refine WL_gE rfl rfl (by kernel_rfl) (by kernel_rfl) fun G hGx => ?_ | refine vcOpsS_sound (by kernel_rfl) ?_ | refine W_ifE fun A B hAx hBx => ?_); refine evT ?_; (first | refine hGx _ ?_ | refine hNx _ ?_ | refine hAx ?_ | refine hBx ?_ | skip)))); (try clear fs))
  refine W_loopN l.length (fun j s => s.df = [] ∧ s.fr 0 = .seq 1 (l.map sD) ∧ s.fr 3 = .rp [.seq 1 (t.map sD)] ∧ s.fr 5 = .seq 1 (t.map sD) ∧ s.fr 69 = .seq 1 (l.map sD) ∧ s.fr 70 = i64 l.length ∧ s.fr 71 = i64 j ∧ s.H = .none) ⟨hdf, f0, f3, f5, rfl, rfl, rfl, hH⟩ ?_
  clear hdf f0 f3 f5 f35 f36 f37 hH p1 hx h00
  rintro j s hj ⟨hdf, f0, f3, f5, f69, f70, f71, hH⟩
  have hx : (j : Int).toNat = j := Int.toNat_natCast _
  have h00 : (0 : Int) ≤ (j : Int) := Int.natCast_nonneg _
  by_cases hjl : j < l.length
  case neg =>
    have p1 : ((j : Int) < (l.length : Int)) = False := eq_false (by omega)
    have p2 : ((t.length : Int) ≤ (l.length : Int)) = True := eq_true (by omega)
    (have fs := And.intro f0 (And.intro f3 (And.intro f5 (And.intro f69 (And.intro f70 (And.intro f71 (And.intro @i64.eq_1 p1)))))); (repeat (first | refine hGx _ ?_ | refine hNx _ ?_ | refine W_skip ?_ | refine W_exit ?_ | refine W_ret ?_ | refine W_label ?_ | refine W_scope ?_ | refine W_block ?_ | refine W_seq ?_ | ((first | refine tS fun N hNx => ?_ | refine WL_gE rfl rfl (by kernel_rfl) (by kernel_rfl) fun G hGx => ?_ | refine vcOpsS_sound (by kernel_rfl) ?_ | refine W_ifE fun A B hAx hBx => ?_); refine evT ?_; (first | refine hGx _ ?_ | refine hNx _ ?_ | refine hAx ?_ | refine hBx ?_ | skip)))); (try clear fs))
    refine (alive5_N _).mono ?_; rintro d _ ⟨rfl, rfl⟩
    (first | refine hGx _ ?_ | refine hNx _ ?_ | skip)
    (have fs := And.intro f0 (And.intro f5 (And.intro @i64.eq_1 (And.intro hml (And.intro hmt p2)))); (repeat (first | refine hGx _ ?_ | refine hNx _ ?_ | refine W_skip ?_ | refine W_exit ?_ | refine W_ret ?_ | refine W_label ?_ | refine W_scope ?_ | refine W_block ?_ | refine W_seq ?_ | ((first | refine tS fun N hNx => ?_ | refine WL_gE rfl rfl (by kernel_rfl) (by kernel_rfl) fun G hGx => ?_ | refine vcOpsS_sound (by kernel_rfl) ?_ | refine W_ifE fun A B hAx hBx => ?_); refine evT ?_; (first | refine hGx _ ?_ | refine hNx _ ?_ | refine hAx ?_ | refine hBx ?_ | skip)))); (try clear fs))
    (first | (show Q .ret _) | (show Q .normal _) | skip); refine hret _ _ (by first | exact .inr rfl | exact .inl rfl) (by first | rfl | assumption | (simp only [put_df, withH_df]; assumption)) ?_; have fs := hdf; refine evT ?_; clear fs
    exact ⟨_, Heap.le_refl _⟩
  have hjl' : (j : Int) < (l.length : Int) := by omega
  have p1 : ((j : Int) < (l.length : Int)) = True := eq_true hjl'
  have hgj := get_strs hjl
  have w3 : IntKind.i64.wrap ((j : Int) + 1) = ((j + 1 : Nat) : Int) := by rw [wrap_i64_of (by omega)]; omega
  have hmem : ixS t l[j] < t.length := ixS_lt.2 ((htm _).2 (List.getElem_mem hjl))
  have hq : idxD t l[j] = .tup [i64 (ixS t l[j]), .val (.bool true)] := by unfold idxD; rw [if_pos hmem, decide_eq_true hmem]
  (have fs := And.intro f0 (And.intro f3 (And.intro f5 (And.intro f69 (And.intro f70 (And.intro f71 (And.intro @i64.eq_1 (And.intro p1 (And.intro hml (And.intro hgj (And.intro hx (And.intro h00 hjl))))))))))); (repeat (first | refine hGx _ ?_ | refine hNx _ ?_ | refine W_skip ?_ | refine W_exit ?_ | refine W_ret ?_ | refine W_label ?_ | refine W_scope ?_ | refine W_block ?_ | refine W_seq ?_ | ((first | refine tS fun N hNx => ?_ | refine WL_gE rfl rfl (by kernel_rfl) (by kernel_rfl) fun G hGx => ?_ | refine vcOpsS_sound (by kernel_rfl) ?_ | refine W_ifE fun A B hAx hBx => ?_); refine evT ?_; (first | refine hGx _ ?_ | refine hNx _ ?_ | refine hAx ?_ | refine hBx ?_ | skip)))); (try clear fs))
  refine (index_N t l[j] _ (by omega) hst).mono ?_
  rintro d _ ⟨rfl, rfl⟩
  rw [hq]
  (have fs := And.intro f0 (And.intro f3 (And.intro f5 (And.intro f69 (And.intro f70 (And.intro f71 (And.intro @i64.eq_1 w3)))))); (repeat (first | refine hGx _ ?_ | refine hNx _ ?_ | refine W_skip ?_ | refine W_exit ?_ | refine W_ret ?_ | refine W_label ?_ | refine W_scope ?_ | refine W_block ?_ | refine W_seq ?_ | ((first | refine tS fun N hNx => ?_ | refine WL_gE rfl rfl (by kernel_rfl) (by kernel_rfl) fun G hGx => ?_ | refine vcOpsS_sound (by kernel_rfl) ?_ | refine W_ifE fun A B hAx hBx => ?_); refine evT ?_; (first | refine hGx _ ?_ | refine hNx _ ?_ | refine hAx ?_ | refine hBx ?_ | skip)))); (try clear fs))
  exact ⟨hjl, hdf, f0, f3, f5, f69, f70, rfl, hH⟩
theorem ok_strs {by_ : Nat} {x : X} (h : DT.ok (.slice 1 by_ .string) x) (hb : 0 < by_) : ∃ l : List ByteArray, x.d = .seq 1 (l.map sD) ∧ big l.length ∧ ∀ s ∈ l, big s.size := by
  simp only [DT.ok] at h
  obtain ⟨xs, rfl, hl, hx⟩ := h
  obtain ⟨l, rfl, hp⟩ := list_of (f := fun s => X.str s) (p := fun s => big s.size) (e := .string) (fun x hx => by
    obtain ⟨s, rfl, hs⟩ : ∃ s, x = .str s ∧ s.size ≤ 140737488351232 := by simpa only [DT.ok] using hx
    exact ⟨s, rfl, hs⟩) (by simpa only [DT.ok] using hx)
  refine ⟨l, ?_, ?_, hp⟩
  · simp only [X.d, X.css_map, List.map_map]; rfl
  · rw [List.length_map] at hl
    exact Nat.le_trans (Nat.le_mul_of_pos_right _ hb) hl
theorem InternOrders_walk (x0 : X) (v0 : Value) (w : World) (o0 : DT.ok (DT.slice 1 16 (DT.string)) x0) (i0 : D.is w Heap.none.others x0.d v0) :
    Calls Tryd.prog 4 #[v0] w fun e w' => e = .returned (.bool true) ∧ Below w.heap.size w w' := by
  obtain ⟨l, hx, hl, hs⟩ := ok_strs o0 (by decide)
  rw [hx] at i0
  exact walk_of (lorders_N l hl hs) ⟨_, _, rfl, i0, rfl⟩
set_option maxHeartbeats 2000000 in
theorem lmatch_N (l : List ByteArray) (t : ByteArray) (i : Int) (hl : big l.length) (hs : ∀ s ∈ l, big s.size) : Does Tryd.prog 5 [.seq 1 (l.map sD), strD t, i64 i] .none fun d _ => d = .val (.bool true) := by
  have hml : (List.map sD l).length = l.length := List.length_map _
  refine does_of _ _ Tryd.func5 rfl rfl Tryd.ntmps5 Tryd.results5 (by simp only [List.length_cons, List.length_nil]; omega) fun w0 Q hret => ?_
  (have fs := @i64.eq_1; (repeat (first | refine hGx _ ?_ | refine hNx _ ?_ | refine W_skip ?_ | refine W_exit ?_ | refine W_ret ?_ | refine W_label ?_ | refine W_scope ?_ | refine W_block ?_ | refine W_seq ?_ | ((first | refine tS fun N hNx => ?_ | refine WL_gE rfl rfl (by kernel_rfl) (by kernel_rfl) fun G hGx => ?_ | refine vcOpsS_sound (by kernel_rfl) ?_ | refine W_ifE fun A B hAx hBx => ?_); refine evT ?_; (first | refine hGx _ ?_ | refine hNx _ ?_ | refine hAx ?_ | refine hBx ?_ | skip)))); (try clear fs))
  refine (long_N l _ hl).mono ?_
  rintro d _ ⟨rfl, rfl⟩
  by_cases hlg : 8000 < tlen l
  · rw [decide_eq_true hlg]
    (first | refine hGx _ ?_ | refine hNx _ ?_ | skip)
    (have fs := And.intro @i64.eq_1 @strD.eq_1; (repeat (first | refine hGx _ ?_ | refine hNx _ ?_ | refine W_skip ?_ | refine W_exit ?_ | refine W_ret ?_ | refine W_label ?_ | refine W_scope ?_ | refine W_block ?_ | refine W_seq ?_ | ((first | refine tS fun N hNx => ?_ | refine WL_gE rfl rfl (by kernel_rfl) (by kernel_rfl) fun G hGx => ?_ | refine vcOpsS_sound (by kernel_rfl) ?_ | refine W_ifE fun A B hAx hBx => ?_); refine evT ?_; (first | refine hGx _ ?_ | refine hNx _ ?_ | refine hAx ?_ | refine hBx ?_ | skip)))); (try clear fs))
    refine (alive5_N _).mono ?_; rintro d _ ⟨rfl, rfl⟩
    (have fs := @i64.eq_1; (repeat (first | refine hGx _ ?_ | refine hNx _ ?_ | refine W_skip ?_ | refine W_exit ?_ | refine W_ret ?_ | refine W_label ?_ | refine W_scope ?_ | refine W_block ?_ | refine W_seq ?_ | ((first | refine tS fun N hNx => ?_ | refine WL_gE rfl rfl (by kernel_rfl) (by kernel_rfl) fun G hGx => ?_ | refine vcOpsS_sound (by kernel_rfl) ?_ | refine W_ifE fun A B hAx hBx => ?_); refine evT ?_; (first | refine hGx _ ?_ | refine hNx _ ?_ | refine hAx ?_ | refine hBx ?_ | skip)))); (try clear fs))
    (first | (show Q .ret _) | (show Q .normal _) | skip); refine hret _ _ (by first | exact .inr rfl | exact .inl rfl) (by first | rfl | assumption | (simp only [put_df, withH_df]; assumption)) ?_; have fs := @i64.eq_1; refine evT ?_; clear fs
    exact ⟨_, Heap.le_refl _⟩
  rw [decide_eq_false hlg]
  obtain ⟨h1, h2, h3⟩ := tlen_small (l := l) (by omega)
  by_cases h5 : 5000 < t.size
  · have p1 : ((t.size : Int) > 5000) = True := eq_true (by omega)
    (first | refine hGx _ ?_ | refine hNx _ ?_ | skip)
    (have fs := And.intro @i64.eq_1 (And.intro @strD.eq_1 p1); (repeat (first | refine hGx _ ?_ | refine hNx _ ?_ | refine W_skip ?_ | refine W_exit ?_ | refine W_ret ?_ | refine W_label ?_ | refine W_scope ?_ | refine W_block ?_ | refine W_seq ?_ | ((first | refine tS fun N hNx => ?_ | refine WL_gE rfl rfl (by kernel_rfl) (by kernel_rfl) fun G hGx => ?_ | refine vcOpsS_sound (by kernel_rfl) ?_ | refine W_ifE fun A B hAx hBx => ?_); refine evT ?_; (first | refine hGx _ ?_ | refine hNx _ ?_ | refine hAx ?_ | refine hBx ?_ | skip)))); (try clear fs))
    refine (alive5_N _).mono ?_; rintro d _ ⟨rfl, rfl⟩
    (have fs := @i64.eq_1; (repeat (first | refine hGx _ ?_ | refine hNx _ ?_ | refine W_skip ?_ | refine W_exit ?_ | refine W_ret ?_ | refine W_label ?_ | refine W_scope ?_ | refine W_block ?_ | refine W_seq ?_ | ((first | refine tS fun N hNx => ?_ | refine WL_gE rfl rfl (by kernel_rfl) (by kernel_rfl) fun G hGx => ?_ | refine vcOpsS_sound (by kernel_rfl) ?_ | refine W_ifE fun A B hAx hBx => ?_); refine evT ?_; (first | refine hGx _ ?_ | refine hNx _ ?_ | refine hAx ?_ | refine hBx ?_ | skip)))); (try clear fs))
    (first | (show Q .ret _) | (show Q .normal _) | skip); refine hret _ _ (by first | exact .inr rfl | exact .inl rfl) (by first | rfl | assumption | (simp only [put_df, withH_df]; assumption)) ?_; have fs := @i64.eq_1; refine evT ?_; clear fs
    exact ⟨_, Heap.le_refl _⟩
  have p1 : ((t.size : Int) > 5000) = False := eq_false (by omega)
  (first | refine hGx _ ?_ | refine hNx _ ?_ | skip)
  (have fs := And.intro @i64.eq_1 (And.intro @strD.eq_1 p1); (repeat (first | refine hGx _ ?_ | refine hNx _ ?_ | refine W_skip ?_ | refine W_exit ?_ | refine W_ret ?_ | refine W_label ?_ | refine W_scope ?_ | refine W_block ?_ | refine W_seq ?_ | ((first | refine tS fun N hNx => ?_ | refine WL_gE rfl rfl (by kernel_rfl) (by kernel_rfl) fun G hGx => ?_ | refine vcOpsS_sound (by kernel_rfl) ?_ | refine W_ifE fun A B hAx hBx => ?_); refine evT ?_; (first | refine hGx _ ?_ | refine hNx _ ?_ | refine hAx ?_ | refine hBx ?_ | skip)))); (try clear fs))
  refine (new_N l _ (by omega) hs).mono ?_
  rintro d _ ⟨rfl, rfl⟩
  by_cases hok : ∀ s ∈ l, isId s = true
  case neg =>
    have hd : newD l = .tup [nilP, i64 12] := if_neg hok
    have hd2 : knewD l = .tup [.val (.slice none 0 0), i64 12] := if_neg hok
    rw [hd]
    (have fs := And.intro @i64.eq_1 @nilP.eq_1; (repeat (first | refine hGx _ ?_ | refine hNx _ ?_ | refine W_skip ?_ | refine W_exit ?_ | refine W_ret ?_ | refine W_label ?_ | refine W_scope ?_ | refine W_block ?_ | refine W_seq ?_ | ((first | refine tS fun N hNx => ?_ | refine WL_gE rfl rfl (by kernel_rfl) (by kernel_rfl) fun G hGx => ?_ | refine vcOpsS_sound (by kernel_rfl) ?_ | refine W_ifE fun A B hAx hBx => ?_); refine evT ?_; (first | refine hGx _ ?_ | refine hNx _ ?_ | refine hAx ?_ | refine hBx ?_ | skip)))); (try clear fs))
    refine (knew_N l _ (by omega) hs).mono ?_
    rintro d _ ⟨rfl, rfl⟩
    rw [hd2]
    (have fs := @i64.eq_1; (repeat (first | refine hGx _ ?_ | refine hNx _ ?_ | refine W_skip ?_ | refine W_exit ?_ | refine W_ret ?_ | refine W_label ?_ | refine W_scope ?_ | refine W_block ?_ | refine W_seq ?_ | ((first | refine tS fun N hNx => ?_ | refine WL_gE rfl rfl (by kernel_rfl) (by kernel_rfl) fun G hGx => ?_ | refine vcOpsS_sound (by kernel_rfl) ?_ | refine W_ifE fun A B hAx hBx => ?_); refine evT ?_; (first | refine hGx _ ?_ | refine hNx _ ?_ | refine hAx ?_ | refine hBx ?_ | skip)))); (try clear fs))
    refine (alive5_N _).mono ?_; rintro d _ ⟨rfl, rfl⟩
    (have fs := @i64.eq_1; (repeat (first | refine hGx _ ?_ | refine hNx _ ?_ | refine W_skip ?_ | refine W_exit ?_ | refine W_ret ?_ | refine W_label ?_ | refine W_scope ?_ | refine W_block ?_ | refine W_seq ?_ | ((first | refine tS fun N hNx => ?_ | refine WL_gE rfl rfl (by kernel_rfl) (by kernel_rfl) fun G hGx => ?_ | refine vcOpsS_sound (by kernel_rfl) ?_ | refine W_ifE fun A B hAx hBx => ?_); refine evT ?_; (first | refine hGx _ ?_ | refine hNx _ ?_ | refine hAx ?_ | refine hBx ?_ | skip)))); (try clear fs))
    (first | (show Q .ret _) | (show Q .normal _) | skip); refine hret _ _ (by first | exact .inr rfl | exact .inl rfl) (by first | rfl | assumption | (simp only [put_df, withH_df]; assumption)) ?_; have fs := @i64.eq_1; refine evT ?_; clear fs
    exact ⟨_, Heap.le_refl _⟩
  have hd : newD l = .tup [tabD (insAll l), i64 0] := if_pos hok
  have hd2 : knewD l = .tup [.seq 1 ((insAll l).map sD), i64 0] := if_pos hok
  rw [hd]
  obtain ⟨m, hm⟩ : ∃ m, m = insAll l := ⟨_, rfl⟩
  have hst := insAll_strict l
  have htl := insAll_len l
  rw [← hm] at hst htl hd2 ⊢
  have hmt : (List.map sD m).length = m.length := List.length_map _
  (have fs := And.intro @i64.eq_1 @tabD.eq_1; (repeat (first | refine hGx _ ?_ | refine hNx _ ?_ | refine W_skip ?_ | refine W_exit ?_ | refine W_ret ?_ | refine W_label ?_ | refine W_scope ?_ | refine W_block ?_ | refine W_seq ?_ | ((first | refine tS fun N hNx => ?_ | refine WL_gE rfl rfl (by kernel_rfl) (by kernel_rfl) fun G hGx => ?_ | refine vcOpsS_sound (by kernel_rfl) ?_ | refine W_ifE fun A B hAx hBx => ?_); refine evT ?_; (first | refine hGx _ ?_ | refine hNx _ ?_ | refine hAx ?_ | refine hBx ?_ | skip)))); (try clear fs))
  refine (knew_N l _ (by omega) hs).mono ?_
  rintro d _ ⟨rfl, rfl⟩
  rw [hd2]
  (have fs := @i64.eq_1; (repeat (first | refine hGx _ ?_ | refine hNx _ ?_ | refine W_skip ?_ | refine W_exit ?_ | refine W_ret ?_ | refine W_label ?_ | refine W_scope ?_ | refine W_block ?_ | refine W_seq ?_ | ((first | refine tS fun N hNx => ?_ | refine WL_gE rfl rfl (by kernel_rfl) (by kernel_rfl) fun G hGx => ?_ | refine vcOpsS_sound (by kernel_rfl) ?_ | refine W_ifE fun A B hAx hBx => ?_); refine evT ?_; (first | refine hGx _ ?_ | refine hNx _ ?_ | refine hAx ?_ | refine hBx ?_ | skip)))); (try clear fs))
  refine (index_N m t _ (by omega) hst).mono ?_
  rintro d _ ⟨rfl, rfl⟩
  obtain ⟨kx, bx, want, hq1, hq2, hq3, hq4⟩ : ∃ (kx : Int) (bx : Bool) (want : Int), idxD m t = .tup [i64 kx, .val (.bool bx)] ∧ (if ixS m t < m.length then (ixS m t : Int) else -1) = want ∧ (want ≥ 0) = (bx = true) ∧ kx = max want 0 := by
    unfold idxD
    by_cases h : ixS m t < m.length
    · refine ⟨_, _, _, rfl, rfl, ?_, ?_⟩
      · rw [if_pos h, decide_eq_true h]; exact propext ⟨fun _ => rfl, fun _ => Int.natCast_nonneg _⟩
      · rw [if_pos h]; omega
    · refine ⟨_, _, _, rfl, rfl, ?_, ?_⟩
      · rw [if_neg h, decide_eq_false h]; exact propext ⟨fun h => by omega, fun h => by cases h⟩
      · rw [if_neg h, if_neg h]; rfl
  rw [hq1]
  (have fs := @i64.eq_1; (repeat (first | refine hGx _ ?_ | refine hNx _ ?_ | refine W_skip ?_ | refine W_exit ?_ | refine W_ret ?_ | refine W_label ?_ | refine W_scope ?_ | refine W_block ?_ | refine W_seq ?_ | ((first | refine tS fun N hNx => ?_ | refine WL_gE rfl rfl (by kernel_rfl) (by kernel_rfl) fun G hGx => ?_ | refine vcOpsS_sound (by kernel_rfl) ?_ | refine W_ifE fun A B hAx hBx => ?_); refine evT ?_; (first | refine hGx _ ?_ | refine hNx _ ?_ | refine hAx ?_ | refine hBx ?_ | skip)))); (try clear fs))
  refine (kindex_N m t _ (by unfold big; omega)).mono ?_
  rintro d _ ⟨rfl, rfl⟩
  rw [hq2]
  (have fs := @i64.eq_1; (repeat (first | refine hGx _ ?_ | refine hNx _ ?_ | refine W_skip ?_ | refine W_exit ?_ | refine W_ret ?_ | refine W_label ?_ | refine W_scope ?_ | refine W_block ?_ | refine W_seq ?_ | ((first | refine tS fun N hNx => ?_ | refine WL_gE rfl rfl (by kernel_rfl) (by kernel_rfl) fun G hGx => ?_ | refine vcOpsS_sound (by kernel_rfl) ?_ | refine W_ifE fun A B hAx hBx => ?_); refine evT ?_; (first | refine hGx _ ?_ | refine hNx _ ?_ | refine hAx ?_ | refine hBx ?_ | skip)))); (try clear fs))
  refine (at_N m i _).mono ?_
  rintro d _ ⟨rfl, rfl⟩
  have ee : ∀ b : Bool, decide (b = b) = true := fun b => decide_eq_true rfl
  have eb : decide (bx = decide (bx = true)) = true := by cases bx <;> rfl
  have ek : (kx = max want 0) = True := eq_true hq4
  have em : ((m.length : Int) = (m.length : Int)) = True := eq_true rfl
  by_cases hin : InR m.length i
  case neg =>
    have hat : atD m i = .tup [strD ByteArray.empty, .val (.bool false)] := if_neg hin
    have q0 : (ByteArray.empty.toList = (⟨#[]⟩ : ByteArray).toList) = True := eq_true rfl
    rw [hat]
    by_cases hi0 : i ≥ 0
    · have p2 : (i ≥ 0) = True := eq_true hi0
      have p3 : (i < (m.length : Int)) = False := eq_false fun h => hin ⟨hi0, h⟩
      (have fs := And.intro @i64.eq_1 (And.intro hmt (And.intro p2 (And.intro p3 @strD.eq_1))); (repeat (first | refine hGx _ ?_ | refine hNx _ ?_ | refine W_skip ?_ | refine W_exit ?_ | refine W_ret ?_ | refine W_label ?_ | refine W_scope ?_ | refine W_block ?_ | refine W_seq ?_ | ((first | refine tS fun N hNx => ?_ | refine WL_gE rfl rfl (by kernel_rfl) (by kernel_rfl) fun G hGx => ?_ | refine vcOpsS_sound (by kernel_rfl) ?_ | refine W_ifE fun A B hAx hBx => ?_); refine evT ?_; (first | refine hGx _ ?_ | refine hNx _ ?_ | refine hAx ?_ | refine hBx ?_ | skip)))); (try clear fs))
      refine (alive5_N _).mono ?_; rintro d _ ⟨rfl, rfl⟩
      (first | refine hGx _ ?_ | refine hNx _ ?_ | skip)
      (have fs := @i64.eq_1; (repeat (first | refine hGx _ ?_ | refine hNx _ ?_ | refine W_skip ?_ | refine W_exit ?_ | refine W_ret ?_ | refine W_label ?_ | refine W_scope ?_ | refine W_block ?_ | refine W_seq ?_ | ((first | refine tS fun N hNx => ?_ | refine WL_gE rfl rfl (by kernel_rfl) (by kernel_rfl) fun G hGx => ?_ | refine vcOpsS_sound (by kernel_rfl) ?_ | refine W_ifE fun A B hAx hBx => ?_); refine evT ?_; (first | refine hGx _ ?_ | refine hNx _ ?_ | refine hAx ?_ | refine hBx ?_ | skip)))); (try clear fs))
      refine (len_N m _).mono ?_
      rintro d _ ⟨rfl, rfl⟩
      (first | refine hGx _ ?_ | refine hNx _ ?_ | skip)
      (have fs := And.intro @i64.eq_1 (And.intro hmt em); (repeat (first | refine hGx _ ?_ | refine hNx _ ?_ | refine W_skip ?_ | refine W_exit ?_ | refine W_ret ?_ | refine W_label ?_ | refine W_scope ?_ | refine W_block ?_ | refine W_seq ?_ | ((first | refine tS fun N hNx => ?_ | refine WL_gE rfl rfl (by kernel_rfl) (by kernel_rfl) fun G hGx => ?_ | refine vcOpsS_sound (by kernel_rfl) ?_ | refine W_ifE fun A B hAx hBx => ?_); refine evT ?_; (first | refine hGx _ ?_ | refine hNx _ ?_ | refine hAx ?_ | refine hBx ?_ | skip)))); (try clear fs))
      refine (list_N m _ (by omega)).mono ?_
      rintro d _ ⟨rfl, rfl⟩
      (first | refine hGx _ ?_ | refine hNx _ ?_ | skip)
      (have fs := @i64.eq_1; (repeat (first | refine hGx _ ?_ | refine hNx _ ?_ | refine W_skip ?_ | refine W_exit ?_ | refine W_ret ?_ | refine W_label ?_ | refine W_scope ?_ | refine W_block ?_ | refine W_seq ?_ | ((first | refine tS fun N hNx => ?_ | refine WL_gE rfl rfl (by kernel_rfl) (by kernel_rfl) fun G hGx => ?_ | refine vcOpsS_sound (by kernel_rfl) ?_ | refine W_ifE fun A B hAx hBx => ?_); refine evT ?_; (first | refine hGx _ ?_ | refine hNx _ ?_ | refine hAx ?_ | refine hBx ?_ | skip)))); (try clear fs))
      refine (equalS_at _ m m (by unfold big; omega)).mono ?_
      rintro d _ ⟨rfl, rfl⟩
      rw [decide_eq_true rfl]
      (first | refine hGx _ ?_ | refine hNx _ ?_ | skip)
      (have fs := And.intro @i64.eq_1 (And.intro hq3 (And.intro eb (And.intro ek (And.intro ee q0)))); (repeat (first | refine hGx _ ?_ | refine hNx _ ?_ | refine W_skip ?_ | refine W_exit ?_ | refine W_ret ?_ | refine W_label ?_ | refine W_scope ?_ | refine W_block ?_ | refine W_seq ?_ | ((first | refine tS fun N hNx => ?_ | refine WL_gE rfl rfl (by kernel_rfl) (by kernel_rfl) fun G hGx => ?_ | refine vcOpsS_sound (by kernel_rfl) ?_ | refine W_ifE fun A B hAx hBx => ?_); refine evT ?_; (first | refine hGx _ ?_ | refine hNx _ ?_ | refine hAx ?_ | refine hBx ?_ | skip)))); (try clear fs))
      (first | (show Q .ret _) | (show Q .normal _) | skip); refine hret _ _ (by first | exact .inr rfl | exact .inl rfl) (by first | rfl | assumption | (simp only [put_df, withH_df]; assumption)) ?_; have fs := @i64.eq_1; refine evT ?_; clear fs
      exact ⟨_, Heap.le_refl _⟩
    · have p2 : (i ≥ 0) = False := eq_false hi0
      (have fs := And.intro @i64.eq_1 (And.intro hmt (And.intro p2 @strD.eq_1)); (repeat (first | refine hGx _ ?_ | refine hNx _ ?_ | refine W_skip ?_ | refine W_exit ?_ | refine W_ret ?_ | refine W_label ?_ | refine W_scope ?_ | refine W_block ?_ | refine W_seq ?_ | ((first | refine tS fun N hNx => ?_ | refine WL_gE rfl rfl (by kernel_rfl) (by kernel_rfl) fun G hGx => ?_ | refine vcOpsS_sound (by kernel_rfl) ?_ | refine W_ifE fun A B hAx hBx => ?_); refine evT ?_; (first | refine hGx _ ?_ | refine hNx _ ?_ | refine hAx ?_ | refine hBx ?_ | skip)))); (try clear fs))
      refine (alive5_N _).mono ?_; rintro d _ ⟨rfl, rfl⟩
      (first | refine hGx _ ?_ | refine hNx _ ?_ | skip)
      (have fs := @i64.eq_1; (repeat (first | refine hGx _ ?_ | refine hNx _ ?_ | refine W_skip ?_ | refine W_exit ?_ | refine W_ret ?_ | refine W_label ?_ | refine W_scope ?_ | refine W_block ?_ | refine W_seq ?_ | ((first | refine tS fun N hNx => ?_ | refine WL_gE rfl rfl (by kernel_rfl) (by kernel_rfl) fun G hGx => ?_ | refine vcOpsS_sound (by kernel_rfl) ?_ | refine W_ifE fun A B hAx hBx => ?_); refine evT ?_; (first | refine hGx _ ?_ | refine hNx _ ?_ | refine hAx ?_ | refine hBx ?_ | skip)))); (try clear fs))
      refine (len_N m _).mono ?_
      rintro d _ ⟨rfl, rfl⟩
      (first | refine hGx _ ?_ | refine hNx _ ?_ | skip)
      (have fs := And.intro @i64.eq_1 (And.intro hmt em); (repeat (first | refine hGx _ ?_ | refine hNx _ ?_ | refine W_skip ?_ | refine W_exit ?_ | refine W_ret ?_ | refine W_label ?_ | refine W_scope ?_ | refine W_block ?_ | refine W_seq ?_ | ((first | refine tS fun N hNx => ?_ | refine WL_gE rfl rfl (by kernel_rfl) (by kernel_rfl) fun G hGx => ?_ | refine vcOpsS_sound (by kernel_rfl) ?_ | refine W_ifE fun A B hAx hBx => ?_); refine evT ?_; (first | refine hGx _ ?_ | refine hNx _ ?_ | refine hAx ?_ | refine hBx ?_ | skip)))); (try clear fs))
      refine (list_N m _ (by omega)).mono ?_
      rintro d _ ⟨rfl, rfl⟩
      (first | refine hGx _ ?_ | refine hNx _ ?_ | skip)
      (have fs := @i64.eq_1; (repeat (first | refine hGx _ ?_ | refine hNx _ ?_ | refine W_skip ?_ | refine W_exit ?_ | refine W_ret ?_ | refine W_label ?_ | refine W_scope ?_ | refine W_block ?_ | refine W_seq ?_ | ((first | refine tS fun N hNx => ?_ | refine WL_gE rfl rfl (by kernel_rfl) (by kernel_rfl) fun G hGx => ?_ | refine vcOpsS_sound (by kernel_rfl) ?_ | refine W_ifE fun A B hAx hBx => ?_); refine evT ?_; (first | refine hGx _ ?_ | refine hNx _ ?_ | refine hAx ?_ | refine hBx ?_ | skip)))); (try clear fs))
      refine (equalS_at _ m m (by unfold big; omega)).mono ?_
      rintro d _ ⟨rfl, rfl⟩
      rw [decide_eq_true rfl]
      (first | refine hGx _ ?_ | refine hNx _ ?_ | skip)
      (have fs := And.intro @i64.eq_1 (And.intro hq3 (And.intro eb (And.intro ek (And.intro ee q0)))); (repeat (first | refine hGx _ ?_ | refine hNx _ ?_ | refine W_skip ?_ | refine W_exit ?_ | refine W_ret ?_ | refine W_label ?_ | refine W_scope ?_ | refine W_block ?_ | refine W_seq ?_ | ((first | refine tS fun N hNx => ?_ | refine WL_gE rfl rfl (by kernel_rfl) (by kernel_rfl) fun G hGx => ?_ | refine vcOpsS_sound (by kernel_rfl) ?_ | refine W_ifE fun A B hAx hBx => ?_); refine evT ?_; (first | refine hGx _ ?_ | refine hNx _ ?_ | refine hAx ?_ | refine hBx ?_ | skip)))); (try clear fs))
      (first | (show Q .ret _) | (show Q .normal _) | skip); refine hret _ _ (by first | exact .inr rfl | exact .inl rfl) (by first | rfl | assumption | (simp only [put_df, withH_df]; assumption)) ?_; have fs := @i64.eq_1; refine evT ?_; clear fs
      exact ⟨_, Heap.le_refl _⟩
  · have hin' := hin
    obtain ⟨hi0, hil⟩ := hin'
    have p2 : (i ≥ 0) = True := eq_true hi0
    have p3 : (i < (m.length : Int)) = True := eq_true hil
    have hil2 : i.toNat < m.length := by omega
    have hgi := get_strs hil2
    have hat : atD m i = .tup [strD m[i.toNat], .val (.bool true)] := by
      unfold atD
      rw [if_pos hin, List.getD_eq_getElem?_getD, List.getElem?_eq_getElem hil2]; rfl
    rw [hat]
    · have m1 : max i 0 = i := by omega
      have m2 : max (m.length : Int) 1 = (m.length : Int) := by omega
      have m3 : i.tmod (m.length : Int) = i := by rw [Int.tmod_eq_emod_of_nonneg hi0]; exact Int.emod_eq_of_lt hi0 hil
      have m4 : ((m.length : Int) = 0) = False := eq_false (by omega)
      have m5 : (m[i.toNat].toList = m[i.toNat].toList) = True := eq_true rfl
      have hi0' : 0 ≤ i := hi0
      (have fs := And.intro @i64.eq_1 (And.intro hmt (And.intro p2 (And.intro p3 @strD.eq_1))); (repeat (first | refine hGx _ ?_ | refine hNx _ ?_ | refine W_skip ?_ | refine W_exit ?_ | refine W_ret ?_ | refine W_label ?_ | refine W_scope ?_ | refine W_block ?_ | refine W_seq ?_ | ((first | refine tS fun N hNx => ?_ | refine WL_gE rfl rfl (by kernel_rfl) (by kernel_rfl) fun G hGx => ?_ | refine vcOpsS_sound (by kernel_rfl) ?_ | refine W_ifE fun A B hAx hBx => ?_); refine evT ?_; (first | refine hGx _ ?_ | refine hNx _ ?_ | refine hAx ?_ | refine hBx ?_ | skip)))); (try clear fs))
      refine (alive5_N _).mono ?_; rintro d _ ⟨rfl, rfl⟩
      (first | refine hGx _ ?_ | refine hNx _ ?_ | skip)
      (have fs := @i64.eq_1; (repeat (first | refine hGx _ ?_ | refine hNx _ ?_ | refine W_skip ?_ | refine W_exit ?_ | refine W_ret ?_ | refine W_label ?_ | refine W_scope ?_ | refine W_block ?_ | refine W_seq ?_ | ((first | refine tS fun N hNx => ?_ | refine WL_gE rfl rfl (by kernel_rfl) (by kernel_rfl) fun G hGx => ?_ | refine vcOpsS_sound (by kernel_rfl) ?_ | refine W_ifE fun A B hAx hBx => ?_); refine evT ?_; (first | refine hGx _ ?_ | refine hNx _ ?_ | refine hAx ?_ | refine hBx ?_ | skip)))); (try clear fs))
      refine (len_N m _).mono ?_
      rintro d _ ⟨rfl, rfl⟩
      (first | refine hGx _ ?_ | refine hNx _ ?_ | skip)
      (have fs := And.intro @i64.eq_1 (And.intro hmt em); (repeat (first | refine hGx _ ?_ | refine hNx _ ?_ | refine W_skip ?_ | refine W_exit ?_ | refine W_ret ?_ | refine W_label ?_ | refine W_scope ?_ | refine W_block ?_ | refine W_seq ?_ | ((first | refine tS fun N hNx => ?_ | refine WL_gE rfl rfl (by kernel_rfl) (by kernel_rfl) fun G hGx => ?_ | refine vcOpsS_sound (by kernel_rfl) ?_ | refine W_ifE fun A B hAx hBx => ?_); refine evT ?_; (first | refine hGx _ ?_ | refine hNx _ ?_ | refine hAx ?_ | refine hBx ?_ | skip)))); (try clear fs))
      refine (list_N m _ (by omega)).mono ?_
      rintro d _ ⟨rfl, rfl⟩
      (first | refine hGx _ ?_ | refine hNx _ ?_ | skip)
      (have fs := @i64.eq_1; (repeat (first | refine hGx _ ?_ | refine hNx _ ?_ | refine W_skip ?_ | refine W_exit ?_ | refine W_ret ?_ | refine W_label ?_ | refine W_scope ?_ | refine W_block ?_ | refine W_seq ?_ | ((first | refine tS fun N hNx => ?_ | refine WL_gE rfl rfl (by kernel_rfl) (by kernel_rfl) fun G hGx => ?_ | refine vcOpsS_sound (by kernel_rfl) ?_ | refine W_ifE fun A B hAx hBx => ?_); refine evT ?_; (first | refine hGx _ ?_ | refine hNx _ ?_ | refine hAx ?_ | refine hBx ?_ | skip)))); (try clear fs))
      refine (equalS_at _ m m (by unfold big; omega)).mono ?_
      rintro d _ ⟨rfl, rfl⟩
      rw [decide_eq_true rfl]
      (first | refine hGx _ ?_ | refine hNx _ ?_ | skip)
      (have fs := And.intro @i64.eq_1 (And.intro hq3 (And.intro eb (And.intro ek (And.intro ee (And.intro hmt (And.intro m1 (And.intro m2 (And.intro m3 (And.intro m4 (And.intro hi0' (And.intro hil (And.intro hgi m5)))))))))))); (repeat (first | refine hGx _ ?_ | refine hNx _ ?_ | refine W_skip ?_ | refine W_exit ?_ | refine W_ret ?_ | refine W_label ?_ | refine W_scope ?_ | refine W_block ?_ | refine W_seq ?_ | ((first | refine tS fun N hNx => ?_ | refine WL_gE rfl rfl (by kernel_rfl) (by kernel_rfl) fun G hGx => ?_ | refine vcOpsS_sound (by kernel_rfl) ?_ | refine W_ifE fun A B hAx hBx => ?_); refine evT ?_; (first | refine hGx _ ?_ | refine hNx _ ?_ | refine hAx ?_ | refine hBx ?_ | skip)))); (try clear fs))
      (first | (show Q .ret _) | (show Q .normal _) | skip); refine hret _ _ (by first | exact .inr rfl | exact .inl rfl) (by first | rfl | assumption | (simp only [put_df, withH_df]; assumption)) ?_; have fs := @i64.eq_1; refine evT ?_; clear fs
      exact ⟨_, Heap.le_refl _⟩
theorem InternMatchesReference_walk (x0 : X) (v0 : Value) (x1 : X) (v1 : Value) (x2 : X) (v2 : Value) (w : World) (o0 : DT.ok (DT.slice 1 16 (DT.string)) x0) (i0 : D.is w Heap.none.others x0.d v0) (o1 : DT.ok (DT.string) x1) (i1 : D.is w Heap.none.others x1.d v1) (o2 : DT.ok (DT.int .i64) x2) (i2 : D.is w Heap.none.others x2.d v2) :
    Calls Tryd.prog 5 #[v0, v1, v2] w fun e w' => e = .returned (.bool true) ∧ Below w.heap.size w w' := by
  obtain ⟨l, hx, hl, hs⟩ := ok_strs o0 (by decide)
  obtain ⟨t, rfl, _⟩ : ∃ s, x1 = .str s ∧ s.size ≤ 140737488351232 := by simpa only [DT.ok] using o1
  obtain ⟨i, rfl, _⟩ := ok_i64 o2
  rw [hx] at i0
  exact walk_of (lmatch_N l t i hl hs) ⟨_, _, rfl, i0, _, _, rfl, i1, _, _, rfl, i2, rfl⟩
end Go.Proofs.YtiakpcnglihnbaaDoor
