/- The walk of the law InternIsolated. -/
import Derived.Test.YtiakpcnglihnbaaDoorGY
import Derived.Test.YtiakpcnglihnbaaDoorGID
import Derived.Test.YtiakpcnglihnbaaDoorGF
import Derived.Test.YtiakpcnglihnbaaDoorGI
import Derived.Test.YtiakpcnglihnbaaDoorGD
import Derived.Test.YtiakpcnglihnbaaDoorGIB
/- slices.Equal of strings. -/
namespace Go.Proofs.YtiakpcnglihnbaaDoor
open Go.RowKit
set_option linter.unusedVariables false
set_option maxRecDepth 100000
set_option linter.unusedSimpArgs false
set_option maxHeartbeats 1000000 in
theorem equalS_N (l m : List ByteArray) (hl : big l.length) : Does Tryd.prog 19 [.seq 1 (l.map sD), .seq 1 (m.map sD)] .none fun d _ => d = .val (.bool (decide (l = m))) := by
  unfold big at hl
  have hll : (List.map sD l).length = l.length := List.length_map _
  have hml : (List.map sD m).length = m.length := List.length_map _
  refine does_of _ _ Tryd.func19 rfl rfl Tryd.ntmps19 Tryd.results19 (by simp only [List.length_cons, List.length_nil]; omega) fun w0 Q hret => ?_
  by_cases hlm : l.length = m.length
  case neg =>
    have q : ((l.length : Int) = (m.length : Int)) = False := eq_false (by omega)
    (have fs := And.intro @i64.eq_1 (And.intro hll (And.intro hml q)); (repeat (first | refine hGx _ ?_ | refine hNx _ ?_ | refine W_skip ?_ | refine W_exit ?_ | refine W_ret ?_ | refine W_label ?_ | refine W_scope ?_ | refine W_block ?_ | refine W_seq ?_ | ((first | refine tS fun N hNx => ?_ | refine WL_gE rfl rfl (by kernel_rfl) (by kernel_rfl) fun G hGx => ?_ | refine vcOpsS_sound (by kernel_rfl) ?_ | refine W_ifE fun A B hAx hBx => ?_); refine evT ?_; (first | refine hGx _ ?_ | refine hNx _ ?_ | refine hAx ?_ | refine hBx ?_ | skip)))); (try clear fs))
    (first | (show Q .ret _) | (show Q .normal _) | skip); refine hret _ _ (by first | exact .inr rfl | exact .inl rfl) (by first | rfl | assumption | (simp only [put_df, withH_df]; assumption)) ?_; have fs := @i64.eq_1; refine evT ?_; clear fs
    exact ⟨_, Heap.le_refl _, by rw [decide_eq_false fun e => hlm (by rw [e])]⟩
  have q : ((l.length : Int) = (m.length : Int)) = True := eq_true (by omega)
  (have fs := And.intro @i64.eq_1 (And.intro hll (And.intro hml q)); (repeat (first | refine hGx _ ?_ | refine hNx _ ?_ | refine W_skip ?_ | refine W_exit ?_ | refine W_ret ?_ | refine W_label ?_ | refine W_scope ?_ | refine W_block ?_ | refine W_seq ?_ | ((first | refine tS fun N hNx => ?_ | refine WL_gE rfl rfl (by kernel_rfl) (by kernel_rfl) fun G hGx => ?_ | refine vcOpsS_sound (by kernel_rfl) ?_ | refine W_ifE fun A B hAx hBx => ?_); refine evT ?_; (first | refine hGx _ ?_ | refine hNx _ ?_ | refine hAx ?_ | refine hBx ?_ | skip)))); (try clear fs))
  refine W_loopN l.length (fun i s => s.df = [] ∧ s.fr 0 = .seq 1 (l.map sD) ∧ s.fr 1 = .seq 1 (m.map sD) ∧ s.fr 12 = i64 l.length ∧ s.fr 13 = i64 i ∧ s.H = Heap.none ∧ l.take i = m.take i) ⟨rfl, rfl, rfl, rfl, rfl, rfl, by simp⟩ ?_
  rintro i s hi ⟨hdf, f0, f1, f12, f13, hH, htk⟩
  have hx : (i : Int).toNat = i := Int.toNat_natCast _
  have h00 : (0 : Int) ≤ (i : Int) := Int.natCast_nonneg _
  by_cases hil : i < l.length
  case neg =>
    have q1 : ((i : Int) < (l.length : Int)) = False := eq_false (by omega)
    rw [List.take_of_length_le (by omega), List.take_of_length_le (by omega)] at htk
    (have fs := And.intro f12 (And.intro f13 (And.intro @i64.eq_1 q1)); (repeat (first | refine hGx _ ?_ | refine hNx _ ?_ | refine W_skip ?_ | refine W_exit ?_ | refine W_ret ?_ | refine W_label ?_ | refine W_scope ?_ | refine W_block ?_ | refine W_seq ?_ | ((first | refine tS fun N hNx => ?_ | refine WL_gE rfl rfl (by kernel_rfl) (by kernel_rfl) fun G hGx => ?_ | refine vcOpsS_sound (by kernel_rfl) ?_ | refine W_ifE fun A B hAx hBx => ?_); refine evT ?_; (first | refine hGx _ ?_ | refine hNx _ ?_ | refine hAx ?_ | refine hBx ?_ | skip)))); (try clear fs))
    (first | (show Q .ret _) | (show Q .normal _) | skip); refine hret _ _ (by first | exact .inr rfl | exact .inl rfl) (by first | rfl | assumption | (simp only [put_df, withH_df]; assumption)) ?_; have fs := hdf; refine evT ?_; clear fs
    exact ⟨_, Heap.le_refl _, by rw [decide_eq_true htk]⟩
  have q1 : ((i : Int) < (l.length : Int)) = True := eq_true (by omega)
  have him : i < m.length := by omega
  have hgi := map_get (f := sD) hil
  have hgm := map_get (f := sD) him
  have w3 : IntKind.i64.wrap ((i : Int) + 1) = ((i + 1 : Nat) : Int) := by rw [wrap_i64_of (by omega)]; omega
  have hne : l[i] ≠ m[i] → decide (l = m) = false := fun h => decide_eq_false (by rintro rfl; exact h rfl)
  have hts := take_snocA htk hil him
  obtain ⟨x, hxe⟩ : ∃ x, x = l[i] := ⟨_, rfl⟩
  obtain ⟨y, hye⟩ : ∃ x, x = m[i] := ⟨_, rfl⟩
  rw [← hxe] at hgi hne hts
  rw [← hye] at hgm hne hts
  simp only [sD, strD] at hgi hgm
  (have fs := And.intro f12 (And.intro f13 (And.intro @i64.eq_1 q1)); (repeat (first | refine hGx _ ?_ | refine hNx _ ?_ | refine W_skip ?_ | refine W_exit ?_ | refine W_ret ?_ | refine W_label ?_ | refine W_scope ?_ | refine W_block ?_ | refine W_seq ?_ | ((first | refine tS fun N hNx => ?_ | refine WL_gE rfl rfl (by kernel_rfl) (by kernel_rfl) fun G hGx => ?_ | refine vcOpsS_sound (by kernel_rfl) ?_ | refine W_ifE fun A B hAx hBx => ?_); refine evT ?_; (first | refine hGx _ ?_ | refine hNx _ ?_ | refine hAx ?_ | refine hBx ?_ | skip)))); (try clear fs))
  by_cases c1 : x.toList = y.toList
  case neg =>
    have p1 : (x.toList = y.toList) = False := eq_false c1
    refine W_drawE (fun _ _ _ _ => False) (by kernel_rfl) (by kernel_rfl) (by kernel_rfl) fun N hNx => ?_; (have fs := And.intro f0 (And.intro f1 (And.intro @i64.eq_1 (And.intro hll (And.intro hml (And.intro hgi (And.intro hgm (And.intro hx (And.intro h00 (And.intro hil (And.intro him p1)))))))))); (repeat ((first | refine vcD_g rfl rfl fun G hGx => ?_ | refine vcDS_to ?_); refine evD ?_; (first | refine hGx _ ?_ | refine hNx _ ?_ | skip))); (try clear fs))
    (have fs := And.intro f13 (And.intro @i64.eq_1 w3); (repeat (first | refine hGx _ ?_ | refine hNx _ ?_ | refine W_skip ?_ | refine W_exit ?_ | refine W_ret ?_ | refine W_label ?_ | refine W_scope ?_ | refine W_block ?_ | refine W_seq ?_ | ((first | refine tS fun N hNx => ?_ | refine WL_gE rfl rfl (by kernel_rfl) (by kernel_rfl) fun G hGx => ?_ | refine vcOpsS_sound (by kernel_rfl) ?_ | refine W_ifE fun A B hAx hBx => ?_); refine evT ?_; (first | refine hGx _ ?_ | refine hNx _ ?_ | refine hAx ?_ | refine hBx ?_ | skip)))); (try clear fs))
    (first | (show Q .ret _) | (show Q .normal _) | skip); refine hret _ _ (by first | exact .inr rfl | exact .inl rfl) (by first | rfl | assumption | (simp only [put_df, withH_df]; assumption)) ?_; have fs := hdf; refine evT ?_; clear fs
    exact ⟨_, Heap.le_refl _, by rw [hne fun h => c1 (by rw [h])]⟩
  have p1 : (x.toList = y.toList) = True := eq_true c1
  refine W_drawE (fun _ _ _ _ => False) (by kernel_rfl) (by kernel_rfl) (by kernel_rfl) fun N hNx => ?_; (have fs := And.intro f0 (And.intro f1 (And.intro @i64.eq_1 (And.intro hll (And.intro hml (And.intro hgi (And.intro hgm (And.intro hx (And.intro h00 (And.intro hil (And.intro him p1)))))))))); (repeat ((first | refine vcD_g rfl rfl fun G hGx => ?_ | refine vcDS_to ?_); refine evD ?_; (first | refine hGx _ ?_ | refine hNx _ ?_ | skip))); (try clear fs))
  (have fs := And.intro f13 (And.intro @i64.eq_1 w3); (repeat (first | refine hGx _ ?_ | refine hNx _ ?_ | refine W_skip ?_ | refine W_exit ?_ | refine W_ret ?_ | refine W_label ?_ | refine W_scope ?_ | refine W_block ?_ | refine W_seq ?_ | ((first | refine tS fun N hNx => ?_ | refine WL_gE rfl rfl (by kernel_rfl) (by kernel_rfl) fun G hGx => ?_ | refine vcOpsS_sound (by kernel_rfl) ?_ | refine W_ifE fun A B hAx hBx => ?_); refine evT ?_; (first | refine hGx _ ?_ | refine hNx _ ?_ | refine hAx ?_ | refine hBx ?_ | skip)))); (try clear fs))
  refine ⟨hil, hdf, f0, f1, f12, rfl, hH, ?_⟩
  exact hts (toL_inj.1 c1)
theorem equalS_at (H : Heap) (l m : List ByteArray) (hl : big l.length) : Does Tryd.prog 19 [.seq 1 (l.map sD), .seq 1 (m.map sD)] H fun d H' => d = .val (.bool (decide (l = m))) ∧ H = H' :=
  pure_D (equalS_N l m hl) rfl (vws2 (vw_refl _ _) (vw_refl _ _))
def tlen : List ByteArray → Nat
  | [] => 0
  | s :: l => 1 + min s.size 9000 + tlen l
theorem tlen_append : ∀ l m : List ByteArray, tlen (l ++ m) = tlen l + tlen m
  | [], m => by simp [tlen]
  | s :: l, m => by simp only [List.cons_append, tlen, tlen_append l m]; omega
theorem tlen_succ {l : List ByteArray} {i : Nat} (h : i < l.length) : tlen (l.take (i + 1)) = tlen (l.take i) + (1 + min l[i].size 9000) := by
  rw [List.take_succ_eq_append_getElem h, tlen_append]; simp [tlen]
theorem tlen_take (l : List ByteArray) (i : Nat) : tlen (l.take i) ≤ tlen l := by
  have := tlen_append (l.take i) (l.drop i)
  rw [List.take_append_drop] at this; omega
theorem tlen_small : ∀ {l : List ByteArray}, tlen l ≤ 8000 → l.length ≤ tlen l ∧ bsum l ≤ 11 * tlen l ∧ ∀ s ∈ l, s.size ≤ 8000
  | [], _ => ⟨Nat.zero_le _, Nat.zero_le _, fun s h => by cases h⟩
  | x :: l, h => by
    simp only [tlen, bsum, List.length_cons] at h ⊢
    obtain ⟨h1, h2, h3⟩ := tlen_small (l := l) (by omega)
    refine ⟨by omega, by omega, fun s hs => ?_⟩
    rcases List.mem_cons.1 hs with rfl | hs
    · omega
    · exact h3 s hs
set_option maxHeartbeats 1000000 in
theorem long_N (l : List ByteArray) (H : Heap) (hl : big l.length) : Does Tryd.prog 11 [.seq 1 (l.map sD)] H fun d H' => d = .val (.bool (decide (8000 < tlen l))) ∧ H = H' := by
  have hml : (List.map sD l).length = l.length := List.length_map _
  unfold big at hl
  refine does_of _ _ Tryd.func11 rfl rfl Tryd.ntmps11 Tryd.results11 (by simp only [List.length_cons, List.length_nil]; omega) fun w0 Q hret => ?_
  (have fs := And.intro @i64.eq_1 hml; (repeat (first | refine hGx _ ?_ | refine hNx _ ?_ | refine W_skip ?_ | refine W_exit ?_ | refine W_ret ?_ | refine W_label ?_ | refine W_scope ?_ | refine W_block ?_ | refine W_seq ?_ | ((first | refine tS fun N hNx => ?_ | refine WL_gE rfl rfl (by kernel_rfl) (by kernel_rfl) fun G hGx => ?_ | refine vcOpsS_sound (by kernel_rfl) ?_ | refine W_ifE fun A B hAx hBx => ?_); refine evT ?_; (first | refine hGx _ ?_ | refine hNx _ ?_ | refine hAx ?_ | refine hBx ?_ | skip)))); (try clear fs))
  refine W_loopN l.length (fun i s => s.df = [] ∧ s.fr 3 = i64 (tlen (l.take i)) ∧ s.fr 6 = .seq 1 (l.map sD) ∧ s.fr 7 = i64 l.length ∧ s.fr 8 = i64 i ∧ s.H = H ∧ tlen (l.take i) ≤ 8000) ⟨rfl, rfl, rfl, rfl, rfl, rfl, Nat.zero_le _⟩ ?_
  rintro i s hi ⟨hdf, f3, f6, f7, f8, hH, hle⟩
  have hx : (i : Int).toNat = i := Int.toNat_natCast _
  have h00 : (0 : Int) ≤ (i : Int) := Int.natCast_nonneg _
  by_cases hil : i < l.length
  case neg =>
    have p1 : ((i : Int) < (l.length : Int)) = False := eq_false (by omega)
    rw [List.take_of_length_le (by omega)] at hle
    (have fs := And.intro f3 (And.intro f6 (And.intro f7 (And.intro f8 (And.intro @i64.eq_1 p1)))); (repeat (first | refine hGx _ ?_ | refine hNx _ ?_ | refine W_skip ?_ | refine W_exit ?_ | refine W_ret ?_ | refine W_label ?_ | refine W_scope ?_ | refine W_block ?_ | refine W_seq ?_ | ((first | refine tS fun N hNx => ?_ | refine WL_gE rfl rfl (by kernel_rfl) (by kernel_rfl) fun G hGx => ?_ | refine vcOpsS_sound (by kernel_rfl) ?_ | refine W_ifE fun A B hAx hBx => ?_); refine evT ?_; (first | refine hGx _ ?_ | refine hNx _ ?_ | refine hAx ?_ | refine hBx ?_ | skip)))); (try clear fs))
    (first | (show Q .ret _) | (show Q .normal _) | skip); refine hret _ _ (by first | exact .inr rfl | exact .inl rfl) (by first | rfl | assumption | (simp only [put_df, withH_df]; assumption)) ?_; have fs := hdf; refine evT ?_; clear fs
    exact ⟨_, Heap.le_refl _, by rw [decide_eq_false (by omega)], hH.symm⟩
  have hil' : (i : Int) < (l.length : Int) := by omega
  have p1 : ((i : Int) < (l.length : Int)) = True := eq_true hil'
  have hgi := get_strs hil
  have w3 : IntKind.i64.wrap ((i : Int) + 1) = ((i + 1 : Nat) : Int) := by rw [wrap_i64_of (by omega)]; omega
  obtain ⟨m, hm⟩ : ∃ m, m = min l[i].size 9000 := ⟨_, rfl⟩
  have hts := tlen_succ hil
  rw [← hm] at hts
  have hmm : min (l[i].size : Int) 9000 = (m : Int) := by omega
  have w4 : IntKind.i64.wrap (1 + (m : Int)) = ((1 + m : Nat) : Int) := by rw [wrap_i64_of (by omega)]; omega
  have w5 : IntKind.i64.wrap ((tlen (l.take i) : Int) + ((1 + m : Nat) : Int)) = (tlen (l.take (i + 1)) : Int) := by rw [wrap_i64_of (by omega)]; omega
  by_cases hgt : 8000 < tlen (l.take (i + 1))
  · have p2 : ((tlen (l.take (i + 1)) : Int) > 8000) = True := eq_true (by omega)
    have := tlen_take l (i + 1)
    (have fs := And.intro f3 (And.intro f6 (And.intro f7 (And.intro f8 (And.intro @i64.eq_1 (And.intro p1 (And.intro hml (And.intro hgi (And.intro hx (And.intro h00 (And.intro hil (And.intro hmm (And.intro w4 (And.intro w5 p2))))))))))))); (repeat (first | refine hGx _ ?_ | refine hNx _ ?_ | refine W_skip ?_ | refine W_exit ?_ | refine W_ret ?_ | refine W_label ?_ | refine W_scope ?_ | refine W_block ?_ | refine W_seq ?_ | ((first | refine tS fun N hNx => ?_ | refine WL_gE rfl rfl (by kernel_rfl) (by kernel_rfl) fun G hGx => ?_ | refine vcOpsS_sound (by kernel_rfl) ?_ | refine W_ifE fun A B hAx hBx => ?_); refine evT ?_; (first | refine hGx _ ?_ | refine hNx _ ?_ | refine hAx ?_ | refine hBx ?_ | skip)))); (try clear fs))
    (first | (show Q .ret _) | (show Q .normal _) | skip); refine hret _ _ (by first | exact .inr rfl | exact .inl rfl) (by first | rfl | assumption | (simp only [put_df, withH_df]; assumption)) ?_; have fs := hdf; refine evT ?_; clear fs
    exact ⟨_, Heap.le_refl _, by rw [decide_eq_true (by omega)], hH.symm⟩
  · have p2 : ((tlen (l.take (i + 1)) : Int) > 8000) = False := eq_false (by omega)
    (have fs := And.intro f3 (And.intro f6 (And.intro f7 (And.intro f8 (And.intro @i64.eq_1 (And.intro p1 (And.intro hml (And.intro hgi (And.intro hx (And.intro h00 (And.intro hil (And.intro hmm (And.intro w4 (And.intro w5 (And.intro p2 w3)))))))))))))); (repeat (first | refine hGx _ ?_ | refine hNx _ ?_ | refine W_skip ?_ | refine W_exit ?_ | refine W_ret ?_ | refine W_label ?_ | refine W_scope ?_ | refine W_block ?_ | refine W_seq ?_ | ((first | refine tS fun N hNx => ?_ | refine WL_gE rfl rfl (by kernel_rfl) (by kernel_rfl) fun G hGx => ?_ | refine vcOpsS_sound (by kernel_rfl) ?_ | refine W_ifE fun A B hAx hBx => ?_); refine evT ?_; (first | refine hGx _ ?_ | refine hNx _ ?_ | refine hAx ?_ | refine hBx ?_ | skip)))); (try clear fs))
    exact ⟨hil, hdf, rfl, f6, f7, rfl, hH, by omega⟩
set_option maxHeartbeats 1000000 in
theorem list_N (l : List ByteArray) (H : Heap) (hl : l.length ≤ 9000) : Does Tryd.prog 13 [tabD l, i64 9000] H fun d H' => d = .seq 1 (l.map sD) ∧ H = H' := by
  refine Does.frz (K := fun d => d = .seq 1 (l.map sD)) ?_
  have hml : (List.map sD l).length = l.length := List.length_map _
  have hmm : min (l.length : Int) 9000 = (l.length : Int) := by omega
  refine does_of _ _ Tryd.func13 rfl rfl Tryd.ntmps13 Tryd.results13 (by simp only [List.length_cons, List.length_nil]; omega) fun w0 Q hret => ?_
  (have fs := @i64.eq_1; (repeat (first | refine hGx _ ?_ | refine hNx _ ?_ | refine W_skip ?_ | refine W_exit ?_ | refine W_ret ?_ | refine W_label ?_ | refine W_scope ?_ | refine W_block ?_ | refine W_seq ?_ | ((first | refine tS fun N hNx => ?_ | refine WL_gE rfl rfl (by kernel_rfl) (by kernel_rfl) fun G hGx => ?_ | refine vcOpsS_sound (by kernel_rfl) ?_ | refine W_ifE fun A B hAx hBx => ?_); refine evT ?_; (first | refine hGx _ ?_ | refine hNx _ ?_ | refine hAx ?_ | refine hBx ?_ | skip)))); (try clear fs))
  refine (len_N l _).mono ?_
  rintro d _ ⟨rfl, rfl⟩
  (have fs := And.intro @i64.eq_1 hmm; (repeat (first | refine hGx _ ?_ | refine hNx _ ?_ | refine W_skip ?_ | refine W_exit ?_ | refine W_ret ?_ | refine W_label ?_ | refine W_scope ?_ | refine W_block ?_ | refine W_seq ?_ | ((first | refine tS fun N hNx => ?_ | refine WL_gE rfl rfl (by kernel_rfl) (by kernel_rfl) fun G hGx => ?_ | refine vcOpsS_sound (by kernel_rfl) ?_ | refine W_ifE fun A B hAx hBx => ?_); refine evT ?_; (first | refine hGx _ ?_ | refine hNx _ ?_ | refine hAx ?_ | refine hBx ?_ | skip)))); (try clear fs))
  refine W_loopN l.length (fun i s => s.df = [] ∧ s.fr 0 = tabD l ∧ s.fr 12 = i64 l.length ∧ s.fr 13 = i64 i ∧ H.le s.H ∧ ∃ ob, Gl H 9 1 ((l.take i).map sD) (s.fr 5) s.H ob) ⟨rfl, rfl, rfl, rfl, Heap.le_refl _, none, Gl.nil _ _ _ _⟩ ?_
  rintro i s hi ⟨hdf, f0, f12, f13, hle, ob, hg⟩
  have hx : (i : Int).toNat = i := Int.toNat_natCast _
  by_cases hil : i < l.length
  case neg =>
    have p1 : ((i : Int) < (l.length : Int)) = False := eq_false (by omega)
    rw [List.take_of_length_le (by omega)] at hg
    (have fs := And.intro f12 (And.intro f13 (And.intro @i64.eq_1 p1)); (repeat (first | refine hGx _ ?_ | refine hNx _ ?_ | refine W_skip ?_ | refine W_exit ?_ | refine W_ret ?_ | refine W_label ?_ | refine W_scope ?_ | refine W_block ?_ | refine W_seq ?_ | ((first | refine tS fun N hNx => ?_ | refine WL_gE rfl rfl (by kernel_rfl) (by kernel_rfl) fun G hGx => ?_ | refine vcOpsS_sound (by kernel_rfl) ?_ | refine W_ifE fun A B hAx hBx => ?_); refine evT ?_; (first | refine hGx _ ?_ | refine hNx _ ?_ | refine hAx ?_ | refine hBx ?_ | skip)))); (try clear fs))
    (first | (show Q .ret _) | (show Q .normal _) | skip); refine hret _ _ (by first | exact .inr rfl | exact .inl rfl) (by first | rfl | assumption | (simp only [put_df, withH_df]; assumption)) ?_; have fs := hdf; refine evT ?_; clear fs
    exact ⟨_, Heap.le_refl _, hle, _, frz_gl hle hg, rfl⟩
  have p1 : ((i : Int) < (l.length : Int)) = True := eq_true (by omega)
  have w3 : IntKind.i64.wrap ((i : Int) + 1) = ((i + 1 : Nat) : Int) := by rw [wrap_i64_of (by omega)]; omega
  have hat : atD l i = .tup [strD l[i], .val (.bool true)] := by
    unfold atD
    rw [if_pos (by unfold InR; omega), hx, List.getD_eq_getElem?_getD, List.getElem?_eq_getElem hil]; rfl
  (have fs := And.intro f0 (And.intro f12 (And.intro f13 (And.intro @i64.eq_1 p1))); (repeat (first | refine hGx _ ?_ | refine hNx _ ?_ | refine W_skip ?_ | refine W_exit ?_ | refine W_ret ?_ | refine W_label ?_ | refine W_scope ?_ | refine W_block ?_ | refine W_seq ?_ | ((first | refine tS fun N hNx => ?_ | refine WL_gE rfl rfl (by kernel_rfl) (by kernel_rfl) fun G hGx => ?_ | refine vcOpsS_sound (by kernel_rfl) ?_ | refine W_ifE fun A B hAx hBx => ?_); refine evT ?_; (first | refine hGx _ ?_ | refine hNx _ ?_ | refine hAx ?_ | refine hBx ?_ | skip)))); (try clear fs))
  refine (at_N l i _).mono ?_
  rintro d _ ⟨rfl, rfl⟩
  rw [hat]
  (have fs := And.intro @i64.eq_1 @strD.eq_1; (repeat (first | refine hGx _ ?_ | refine hNx _ ?_ | refine W_skip ?_ | refine W_exit ?_ | refine W_ret ?_ | refine W_label ?_ | refine W_scope ?_ | refine W_block ?_ | refine W_seq ?_ | ((first | refine tS fun N hNx => ?_ | refine WL_gE rfl rfl (by kernel_rfl) (by kernel_rfl) fun G hGx => ?_ | refine vcOpsS_sound (by kernel_rfl) ?_ | refine W_ifE fun A B hAx hBx => ?_); refine evT ?_; (first | refine hGx _ ?_ | refine hNx _ ?_ | refine hAx ?_ | refine hBx ?_ | skip)))); (try clear fs))
  refine apV_grow (e := 9) ty24 rfl ty24 rfl ty9 rfl (by decide) hle hg (new := [sD l[i]]) (by exact ⟨rfl, rfl⟩) (by rw [List.length_map, List.length_take]; show (_ + 1) * 16 ≤ _; omega) fun d' H' ob' hg6 hle6 _ => ?_
  rw [show [sD l[i]] = [l[i]].map sD from rfl, ← List.map_append, ← List.take_succ_eq_append_getElem hil] at hg6
  (have fs := And.intro f12 (And.intro f13 (And.intro @i64.eq_1 w3)); (repeat (first | refine hGx _ ?_ | refine hNx _ ?_ | refine W_skip ?_ | refine W_exit ?_ | refine W_ret ?_ | refine W_label ?_ | refine W_scope ?_ | refine W_block ?_ | refine W_seq ?_ | ((first | refine tS fun N hNx => ?_ | refine WL_gE rfl rfl (by kernel_rfl) (by kernel_rfl) fun G hGx => ?_ | refine vcOpsS_sound (by kernel_rfl) ?_ | refine W_ifE fun A B hAx hBx => ?_); refine evT ?_; (first | refine hGx _ ?_ | refine hNx _ ?_ | refine hAx ?_ | refine hBx ?_ | skip)))); (try clear fs))
  exact ⟨hil, hdf, f0, f12, rfl, hle6, ob', hg6⟩
/-- What the reference's New returns. -/
def knewD (l : List ByteArray) : D := if (∀ s ∈ l, isId s = true) then .tup [.seq 1 ((insAll l).map sD), i64 0] else .tup [.val (.slice none 0 0), i64 12]
set_option maxHeartbeats 1000000 in
theorem knew_N (l : List ByteArray) (H : Heap) (hl : l.length ≤ 1000000) (hs : ∀ s ∈ l, big s.size) : Does Tryd.prog 15 [.seq 1 (l.map sD)] H fun d H' => d = knewD l ∧ H = H' := by
  have hml : (List.map sD l).length = l.length := List.length_map _
  refine does_of _ _ Tryd.func15 rfl rfl Tryd.ntmps15 Tryd.results15 (by simp only [List.length_cons, List.length_nil]; omega) fun w0 Q hret => ?_
  (have fs := @i64.eq_1; (repeat (first | refine hGx _ ?_ | refine hNx _ ?_ | refine W_skip ?_ | refine W_exit ?_ | refine W_ret ?_ | refine W_label ?_ | refine W_scope ?_ | refine W_block ?_ | refine W_seq ?_ | ((first | refine tS fun N hNx => ?_ | refine WL_gE rfl rfl (by kernel_rfl) (by kernel_rfl) fun G hGx => ?_ | refine vcOpsS_sound (by kernel_rfl) ?_ | refine W_ifE fun A B hAx hBx => ?_); refine evT ?_; (first | refine hGx _ ?_ | refine hNx _ ?_ | refine hAx ?_ | refine hBx ?_ | skip)))); (try clear fs))
  refine W_as 4 (.seq 1 ((insAll (l.take 0)).map sD)) (fun w v hv => by exact imp_nil _ _ _ hv) ?_
  refine W_loopN l.length (fun i s => s.df = [] ∧ s.fr 0 = .seq 1 (l.map sD) ∧ s.fr 4 = .seq 1 ((insAll (l.take i)).map sD) ∧ s.fr 5 = i64 i ∧ s.H = H ∧ ∀ s ∈ l.take i, isId s = true) ⟨rfl, rfl, rfl, rfl, rfl, by intro s hs; cases hs⟩ ?_
  rintro i s hi ⟨hdf, f0, f4, f5, hH, ha⟩
  have hx : (i : Int).toNat = i := Int.toNat_natCast _
  have h00 : (0 : Int) ≤ (i : Int) := Int.natCast_nonneg _
  by_cases hil : i < l.length
  case neg =>
    have p1 : ((i : Int) < (l.length : Int)) = False := eq_false (by omega)
    rw [List.take_of_length_le (by omega)] at f4 ha
    have hd : knewD l = .tup [.seq 1 ((insAll l).map sD), i64 0] := if_pos ha
    (have fs := And.intro f0 (And.intro f4 (And.intro f5 (And.intro @i64.eq_1 (And.intro p1 hml)))); (repeat (first | refine hGx _ ?_ | refine hNx _ ?_ | refine W_skip ?_ | refine W_exit ?_ | refine W_ret ?_ | refine W_label ?_ | refine W_scope ?_ | refine W_block ?_ | refine W_seq ?_ | ((first | refine tS fun N hNx => ?_ | refine WL_gE rfl rfl (by kernel_rfl) (by kernel_rfl) fun G hGx => ?_ | refine vcOpsS_sound (by kernel_rfl) ?_ | refine W_ifE fun A B hAx hBx => ?_); refine evT ?_; (first | refine hGx _ ?_ | refine hNx _ ?_ | refine hAx ?_ | refine hBx ?_ | skip)))); (try clear fs))
    (first | (show Q .ret _) | (show Q .normal _) | skip); refine hret _ _ (by first | exact .inr rfl | exact .inl rfl) (by first | rfl | assumption | (simp only [put_df, withH_df]; assumption)) ?_; have fs := hdf; refine evT ?_; clear fs
    exact ⟨_, Heap.le_refl _, hd.symm, hH.symm⟩
  have hil' : (i : Int) < (l.length : Int) := by omega
  have p1 : ((i : Int) < (l.length : Int)) = True := eq_true hil'
  have hgi := get_strs hil
  have hil2 := insAll_len (l.take i)
  rw [List.length_take] at hil2
  have w3 : IntKind.i64.wrap ((i : Int) + 1) = ((i + 1 : Nat) : Int) := by rw [wrap_i64_of (by omega)]; omega
  (have fs := And.intro f0 (And.intro f4 (And.intro f5 (And.intro @i64.eq_1 (And.intro p1 (And.intro hml (And.intro hgi (And.intro hx (And.intro h00 hil)))))))); (repeat (first | refine hGx _ ?_ | refine hNx _ ?_ | refine W_skip ?_ | refine W_exit ?_ | refine W_ret ?_ | refine W_label ?_ | refine W_scope ?_ | refine W_block ?_ | refine W_seq ?_ | ((first | refine tS fun N hNx => ?_ | refine WL_gE rfl rfl (by kernel_rfl) (by kernel_rfl) fun G hGx => ?_ | refine vcOpsS_sound (by kernel_rfl) ?_ | refine W_ifE fun A B hAx hBx => ?_); refine evT ?_; (first | refine hGx _ ?_ | refine hNx _ ?_ | refine hAx ?_ | refine hBx ?_ | skip)))); (try clear fs))
  refine (kisid_N l[i] _ (hs _ (List.getElem_mem hil))).mono ?_
  rintro d _ ⟨rfl, rfl⟩
  cases hid : isId l[i]
  · have hd : knewD l = .tup [.val (.slice none 0 0), i64 12] := if_neg fun h => by rw [h _ (List.getElem_mem hil)] at hid; cases hid
    (have fs := And.intro f0 (And.intro f4 (And.intro f5 @i64.eq_1)); (repeat (first | refine hGx _ ?_ | refine hNx _ ?_ | refine W_skip ?_ | refine W_exit ?_ | refine W_ret ?_ | refine W_label ?_ | refine W_scope ?_ | refine W_block ?_ | refine W_seq ?_ | ((first | refine tS fun N hNx => ?_ | refine WL_gE rfl rfl (by kernel_rfl) (by kernel_rfl) fun G hGx => ?_ | refine vcOpsS_sound (by kernel_rfl) ?_ | refine W_ifE fun A B hAx hBx => ?_); refine evT ?_; (first | refine hGx _ ?_ | refine hNx _ ?_ | refine hAx ?_ | refine hBx ?_ | skip)))); (try clear fs))
    (first | (show Q .ret _) | (show Q .normal _) | skip); refine hret _ _ (by first | exact .inr rfl | exact .inl rfl) (by first | rfl | assumption | (simp only [put_df, withH_df]; assumption)) ?_; have fs := hdf; refine evT ?_; clear fs
    exact ⟨_, Heap.le_refl _, hd.symm, hH.symm⟩
  · (have fs := And.intro f0 (And.intro f4 (And.intro f5 (And.intro @i64.eq_1 (And.intro hml (And.intro hgi (And.intro hx (And.intro h00 hil))))))); (repeat (first | refine hGx _ ?_ | refine hNx _ ?_ | refine W_skip ?_ | refine W_exit ?_ | refine W_ret ?_ | refine W_label ?_ | refine W_scope ?_ | refine W_block ?_ | refine W_seq ?_ | ((first | refine tS fun N hNx => ?_ | refine WL_gE rfl rfl (by kernel_rfl) (by kernel_rfl) fun G hGx => ?_ | refine vcOpsS_sound (by kernel_rfl) ?_ | refine W_ifE fun A B hAx hBx => ?_); refine evT ?_; (first | refine hGx _ ?_ | refine hNx _ ?_ | refine hAx ?_ | refine hBx ?_ | skip)))); (try clear fs))
    refine (ins_N (insAll (l.take i)) l[i] _ (by omega)).mono ?_
    rintro d _ ⟨rfl, rfl⟩
    rw [← insAll_snoc, ← List.take_succ_eq_append_getElem hil]
    (have fs := And.intro f5 (And.intro @i64.eq_1 w3); (repeat (first | refine hGx _ ?_ | refine hNx _ ?_ | refine W_skip ?_ | refine W_exit ?_ | refine W_ret ?_ | refine W_label ?_ | refine W_scope ?_ | refine W_block ?_ | refine W_seq ?_ | ((first | refine tS fun N hNx => ?_ | refine WL_gE rfl rfl (by kernel_rfl) (by kernel_rfl) fun G hGx => ?_ | refine vcOpsS_sound (by kernel_rfl) ?_ | refine W_ifE fun A B hAx hBx => ?_); refine evT ?_; (first | refine hGx _ ?_ | refine hNx _ ?_ | refine hAx ?_ | refine hBx ?_ | skip)))); (try clear fs))
    refine ⟨hil, hdf, f0, rfl, rfl, hH, fun s hs => ?_⟩
    rw [List.take_succ_eq_append_getElem hil] at hs
    rcases List.mem_append.1 hs with h | h
    · exact ha s h
    · rw [List.mem_singleton.1 h]; exact hid
set_option maxHeartbeats 1000000 in
theorem kindex_N (l : List ByteArray) (t : ByteArray) (H : Heap) (hl : big l.length) : Does Tryd.prog 16 [.seq 1 (l.map sD), strD t] H fun d H' => d = i64 (if ixS l t < l.length then (ixS l t : Int) else -1) ∧ H = H' := by
  have hml : (List.map sD l).length = l.length := List.length_map _
  unfold big at hl
  refine does_of _ _ Tryd.func16 rfl rfl Tryd.ntmps16 Tryd.results16 (by simp only [List.length_cons, List.length_nil]; omega) fun w0 Q hret => ?_
  (have fs := And.intro @i64.eq_1 @strD.eq_1; (repeat (first | refine hGx _ ?_ | refine hNx _ ?_ | refine W_skip ?_ | refine W_exit ?_ | refine W_ret ?_ | refine W_label ?_ | refine W_scope ?_ | refine W_block ?_ | refine W_seq ?_ | ((first | refine tS fun N hNx => ?_ | refine WL_gE rfl rfl (by kernel_rfl) (by kernel_rfl) fun G hGx => ?_ | refine vcOpsS_sound (by kernel_rfl) ?_ | refine W_ifE fun A B hAx hBx => ?_); refine evT ?_; (first | refine hGx _ ?_ | refine hNx _ ?_ | refine hAx ?_ | refine hBx ?_ | skip)))); (try clear fs))
  refine W_loopN l.length (fun i s => s.df = [] ∧ s.fr 0 = .seq 1 (l.map sD) ∧ s.fr 1 = .val (.string t) ∧ s.fr 5 = i64 i ∧ s.H = H ∧ ∀ (k : Nat) (h : k < l.length), k < i → l[k] ≠ t) ⟨rfl, rfl, rfl, rfl, rfl, fun k _ h => absurd h (by omega)⟩ ?_
  rintro i s hi ⟨hdf, f0, f1, f5, hH, ha⟩
  have hx : (i : Int).toNat = i := Int.toNat_natCast _
  have h00 : (0 : Int) ≤ (i : Int) := Int.natCast_nonneg _
  by_cases hil : i < l.length
  case neg =>
    have p1 : ((i : Int) < (l.length : Int)) = False := eq_false (by omega)
    have hn : ¬ ixS l t < l.length := fun h => by
      obtain ⟨k, hk, e⟩ := List.getElem_of_mem (ixS_lt.1 h)
      exact ha k hk (by omega) e
    (have fs := And.intro f0 (And.intro f1 (And.intro f5 (And.intro @i64.eq_1 (And.intro p1 hml)))); (repeat (first | refine hGx _ ?_ | refine hNx _ ?_ | refine W_skip ?_ | refine W_exit ?_ | refine W_ret ?_ | refine W_label ?_ | refine W_scope ?_ | refine W_block ?_ | refine W_seq ?_ | ((first | refine tS fun N hNx => ?_ | refine WL_gE rfl rfl (by kernel_rfl) (by kernel_rfl) fun G hGx => ?_ | refine vcOpsS_sound (by kernel_rfl) ?_ | refine W_ifE fun A B hAx hBx => ?_); refine evT ?_; (first | refine hGx _ ?_ | refine hNx _ ?_ | refine hAx ?_ | refine hBx ?_ | skip)))); (try clear fs))
    (first | (show Q .ret _) | (show Q .normal _) | skip); refine hret _ _ (by first | exact .inr rfl | exact .inl rfl) (by first | rfl | assumption | (simp only [put_df, withH_df]; assumption)) ?_; have fs := hdf; refine evT ?_; clear fs
    exact ⟨_, Heap.le_refl _, by rw [if_neg hn]; rfl, hH.symm⟩
  have hil' : (i : Int) < (l.length : Int) := by omega
  have p1 : ((i : Int) < (l.length : Int)) = True := eq_true hil'
  have hgi := get_strs hil
  have w3 : IntKind.i64.wrap ((i : Int) + 1) = ((i + 1 : Nat) : Int) := by rw [wrap_i64_of (by omega)]; omega
  by_cases he : l[i] = t
  · have q1 : (l[i].toList = t.toList) = True := eq_true (by rw [he])
    have hix := ixS_eq hil he ha
    (have fs := And.intro f0 (And.intro f1 (And.intro f5 (And.intro @i64.eq_1 (And.intro p1 (And.intro hml (And.intro hgi (And.intro hx (And.intro h00 (And.intro hil q1))))))))); (repeat (first | refine hGx _ ?_ | refine hNx _ ?_ | refine W_skip ?_ | refine W_exit ?_ | refine W_ret ?_ | refine W_label ?_ | refine W_scope ?_ | refine W_block ?_ | refine W_seq ?_ | ((first | refine tS fun N hNx => ?_ | refine WL_gE rfl rfl (by kernel_rfl) (by kernel_rfl) fun G hGx => ?_ | refine vcOpsS_sound (by kernel_rfl) ?_ | refine W_ifE fun A B hAx hBx => ?_); refine evT ?_; (first | refine hGx _ ?_ | refine hNx _ ?_ | refine hAx ?_ | refine hBx ?_ | skip)))); (try clear fs))
    (first | (show Q .ret _) | (show Q .normal _) | skip); refine hret _ _ (by first | exact .inr rfl | exact .inl rfl) (by first | rfl | assumption | (simp only [put_df, withH_df]; assumption)) ?_; have fs := f5; refine evT ?_; clear fs
    exact ⟨_, Heap.le_refl _, by rw [hix, if_pos hil]; rfl, hH.symm⟩
  · have q1 : (l[i].toList = t.toList) = False := eq_false fun h => he (toL_inj.1 h)
    (have fs := And.intro f0 (And.intro f1 (And.intro f5 (And.intro @i64.eq_1 (And.intro p1 (And.intro hml (And.intro hgi (And.intro hx (And.intro h00 (And.intro hil (And.intro q1 w3)))))))))); (repeat (first | refine hGx _ ?_ | refine hNx _ ?_ | refine W_skip ?_ | refine W_exit ?_ | refine W_ret ?_ | refine W_label ?_ | refine W_scope ?_ | refine W_block ?_ | refine W_seq ?_ | ((first | refine tS fun N hNx => ?_ | refine WL_gE rfl rfl (by kernel_rfl) (by kernel_rfl) fun G hGx => ?_ | refine vcOpsS_sound (by kernel_rfl) ?_ | refine W_ifE fun A B hAx hBx => ?_); refine evT ?_; (first | refine hGx _ ?_ | refine hNx _ ?_ | refine hAx ?_ | refine hBx ?_ | skip)))); (try clear fs))
    refine ⟨hil, hdf, f0, f1, rfl, hH, fun k hk hki => ?_⟩
    by_cases h1 : k = i
    · subst h1; exact he
    · exact ha k hk (by omega)
theorem ixS_at {l : List ByteArray} (h : l.Pairwise ltB) {i : Nat} (hi : i < l.length) : ixS l l[i] = i :=
  ixS_eq hi rfl fun k hk hki e => by
    have := List.pairwise_iff_getElem.1 h k i hk hi hki
    rw [e] at this
    exact ltB_irr _ this
set_option maxHeartbeats 2000000 in
theorem lorders_N (l : List ByteArray) (hl : big l.length) (hs : ∀ s ∈ l, big s.size) : Does Tryd.prog 4 [.seq 1 (l.map sD)] .none fun d _ => d = .val (.bool true) := by
  have hml : (List.map sD l).length = l.length := List.length_map _
  refine does_of _ _ Tryd.func4 rfl rfl Tryd.ntmps4 Tryd.results4 (by simp only [List.length_cons, List.length_nil]; omega) fun w0 Q hret => ?_
  (have fs := @i64.eq_1; (repeat (first | refine hGx _ ?_ | refine hNx _ ?_ | refine W_skip ?_ | refine W_exit ?_ | refine W_ret ?_ | refine W_label ?_ | refine W_scope ?_ | refine W_block ?_ | refine W_seq ?_ | ((first | refine tS fun N hNx => ?_ | refine WL_gE rfl rfl (by kernel_rfl) (by kernel_rfl) fun G hGx => ?_ | refine vcOpsS_sound (by kernel_rfl) ?_ | refine W_ifE fun A B hAx hBx => ?_); refine evT ?_; (first | refine hGx _ ?_ | refine hNx _ ?_ | refine hAx ?_ | refine hBx ?_ | skip)))); (try clear fs))
  refine (long_N l _ hl).mono ?_
  rintro d _ ⟨rfl, rfl⟩
  by_cases hlg : 8000 < tlen l
  · rw [decide_eq_true hlg]
    (have fs := @i64.eq_1; (repeat (first | refine hGx _ ?_ | refine hNx _ ?_ | refine W_skip ?_ | refine W_exit ?_ | refine W_ret ?_ | refine W_label ?_ | refine W_scope ?_ | refine W_block ?_ | refine W_seq ?_ | ((first | refine tS fun N hNx => ?_ | refine WL_gE rfl rfl (by kernel_rfl) (by kernel_rfl) fun G hGx => ?_ | refine vcOpsS_sound (by kernel_rfl) ?_ | refine W_ifE fun A B hAx hBx => ?_); refine evT ?_; (first | refine hGx _ ?_ | refine hNx _ ?_ | refine hAx ?_ | refine hBx ?_ | skip)))); (try clear fs))
    refine (alive5_N _).mono ?_; rintro d _ ⟨rfl, rfl⟩
    (have fs := @i64.eq_1; (repeat (first | refine hGx _ ?_ | refine hNx _ ?_ | refine W_skip ?_ | refine W_exit ?_ | refine W_ret ?_ | refine W_label ?_ | refine W_scope ?_ | refine W_block ?_ | refine W_seq ?_ | ((first | refine tS fun N hNx => ?_ | refine WL_gE rfl rfl (by kernel_rfl) (by kernel_rfl) fun G hGx => ?_ | refine vcOpsS_sound (by kernel_rfl) ?_ | refine W_ifE fun A B hAx hBx => ?_); refine evT ?_; (first | refine hGx _ ?_ | refine hNx _ ?_ | refine hAx ?_ | refine hBx ?_ | skip)))); (try clear fs))
    (first | (show Q .ret _) | (show Q .normal _) | skip); refine hret _ _ (by first | exact .inr rfl | exact .inl rfl) (by first | rfl | assumption | (simp only [put_df, withH_df]; assumption)) ?_; have fs := @i64.eq_1; refine evT ?_; clear fs
    exact ⟨_, Heap.le_refl _⟩
  rw [decide_eq_false hlg]
  obtain ⟨h1, h2, h3⟩ := tlen_small (l := l) (by omega)
  (have fs := @i64.eq_1; (repeat (first | refine hGx _ ?_ | refine hNx _ ?_ | refine W_skip ?_ | refine W_exit ?_ | refine W_ret ?_ | refine W_label ?_ | refine W_scope ?_ | refine W_block ?_ | refine W_seq ?_ | ((first | refine tS fun N hNx => ?_ | refine WL_gE rfl rfl (by kernel_rfl) (by kernel_rfl) fun G hGx => ?_ | refine vcOpsS_sound (by kernel_rfl) ?_ | refine W_ifE fun A B hAx hBx => ?_); refine evT ?_; (first | refine hGx _ ?_ | refine hNx _ ?_ | refine hAx ?_ | refine hBx ?_ | skip)))); (try clear fs))
  refine (new_N l _ (by omega) hs).mono ?_
  rintro d _ ⟨rfl, rfl⟩
  by_cases hok : ∀ s ∈ l, isId s = true
  case neg =>
    have hd : newD l = .tup [nilP, i64 12] := if_neg hok
    rw [hd]
    (have fs := And.intro @i64.eq_1 @nilP.eq_1; (repeat (first | refine hGx _ ?_ | refine hNx _ ?_ | refine W_skip ?_ | refine W_exit ?_ | refine W_ret ?_ | refine W_label ?_ | refine W_scope ?_ | refine W_block ?_ | refine W_seq ?_ | ((first | refine tS fun N hNx => ?_ | refine WL_gE rfl rfl (by kernel_rfl) (by kernel_rfl) fun G hGx => ?_ | refine vcOpsS_sound (by kernel_rfl) ?_ | refine W_ifE fun A B hAx hBx => ?_); refine evT ?_; (first | refine hGx _ ?_ | refine hNx _ ?_ | refine hAx ?_ | refine hBx ?_ | skip)))); (try clear fs))
    refine (alive5_N _).mono ?_; rintro d _ ⟨rfl, rfl⟩
    (first | refine hGx _ ?_ | refine hNx _ ?_ | skip)
    (have fs := @i64.eq_1; (repeat (first | refine hGx _ ?_ | refine hNx _ ?_ | refine W_skip ?_ | refine W_exit ?_ | refine W_ret ?_ | refine W_label ?_ | refine W_scope ?_ | refine W_block ?_ | refine W_seq ?_ | ((first | refine tS fun N hNx => ?_ | refine WL_gE rfl rfl (by kernel_rfl) (by kernel_rfl) fun G hGx => ?_ | refine vcOpsS_sound (by kernel_rfl) ?_ | refine W_ifE fun A B hAx hBx => ?_); refine evT ?_; (first | refine hGx _ ?_ | refine hNx _ ?_ | refine hAx ?_ | refine hBx ?_ | skip)))); (try clear fs))
    (first | (show Q .ret _) | (show Q .normal _) | skip); refine hret _ _ (by first | exact .inr rfl | exact .inl rfl) (by first | rfl | assumption | (simp only [put_df, withH_df]; assumption)) ?_; have fs := @i64.eq_1; refine evT ?_; clear fs
    exact ⟨_, Heap.le_refl _⟩
  have hd : newD l = .tup [tabD (insAll l), i64 0] := if_pos hok
  rw [hd]
  obtain ⟨t, ht⟩ : ∃ t, t = insAll l := ⟨_, rfl⟩
  have hst := insAll_strict l
  have htl := insAll_len l
  have htm : ∀ x, x ∈ insAll l ↔ x ∈ l := fun x => insAll_mem
  rw [← ht] at hst htl htm ⊢
  have hmt : (List.map sD t).length = t.length := List.length_map _
  (have fs := And.intro @i64.eq_1 @tabD.eq_1; (repeat (first | refine hGx _ ?_ | refine hNx _ ?_ | refine W_skip ?_ | refine W_exit ?_ | refine W_ret ?_ | refine W_label ?_ | refine W_scope ?_ | refine W_block ?_ | refine W_seq ?_ | ((first | refine tS fun N hNx => ?_ | refine WL_gE rfl rfl (by kernel_rfl) (by kernel_rfl) fun G hGx => ?_ | refine vcOpsS_sound (by kernel_rfl) ?_ | refine W_ifE fun A B hAx hBx => ?_); refine evT ?_; (first | refine hGx _ ?_ | refine hNx _ ?_ | refine hAx ?_ | refine hBx ?_ | skip)))); (try clear fs))
  refine (list_N t _ (by omega)).mono ?_
  rintro d _ ⟨rfl, rfl⟩
  (have fs := And.intro @i64.eq_1 hmt; (repeat (first | refine hGx _ ?_ | refine hNx _ ?_ | refine W_skip ?_ | refine W_exit ?_ | refine W_ret ?_ | refine W_label ?_ | refine W_scope ?_ | refine W_block ?_ | refine W_seq ?_ | ((first | refine tS fun N hNx => ?_ | refine WL_gE rfl rfl (by kernel_rfl) (by kernel_rfl) fun G hGx => ?_ | refine vcOpsS_sound (by kernel_rfl) ?_ | refine W_ifE fun A B hAx hBx => ?_); refine evT ?_; (first | refine hGx _ ?_ | refine hNx _ ?_ | refine hAx ?_ | refine hBx ?_ | skip)))); (try clear fs))
  refine W_loopN t.length (fun i s => s.df = [] ∧ s.fr 0 = .seq 1 (l.map sD) ∧ s.fr 3 = .rp [.seq 1 (t.map sD)] ∧ s.fr 5 = .seq 1 (t.map sD) ∧ s.fr 35 = .seq 1 (t.map sD) ∧ s.fr 36 = i64 t.length ∧ s.fr 37 = i64 i ∧ s.H = .none) ⟨rfl, rfl, rfl, rfl, rfl, rfl, rfl, rfl⟩ ?_
  rintro i s hi ⟨hdf, f0, f3, f5, f35, f36, f37, hH⟩
  have hx : (i : Int).toNat = i := Int.toNat_natCast _
  have h00 : (0 : Int) ≤ (i : Int) := Int.natCast_nonneg _
  by_cases hil : i < t.length
  case pos =>
    have hil' : (i : Int) < (t.length : Int) := by omega
    have p1 : ((i : Int) < (t.length : Int)) = True := eq_true hil'
    have hgi := get_strs hil
    have w3 : IntKind.i64.wrap ((i : Int) + 1) = ((i + 1 : Nat) : Int) := by rw [wrap_i64_of (by omega)]; omega
    have hq : idxD t t[i] = .tup [i64 i, .val (.bool true)] := by unfold idxD; rw [ixS_at hst hil, if_pos hil, decide_eq_true hil]
    (have fs := And.intro f0 (And.intro f3 (And.intro f5 (And.intro f35 (And.intro f36 (And.intro f37 (And.intro @i64.eq_1 (And.intro p1 (And.intro hmt (And.intro hgi (And.intro hx (And.intro h00 hil))))))))))); (repeat (first | refine hGx _ ?_ | refine hNx _ ?_ | refine W_skip ?_ | refine W_exit ?_ | refine W_ret ?_ | refine W_label ?_ | refine W_scope ?_ | refine W_block ?_ | refine W_seq ?_ | ((first | refine tS fun N hNx => ?_ | refine WL_gE rfl rfl (by kernel_rfl) (by kernel_rfl) fun G hGx => ?_ | refine vcOpsS_sound (by kernel_rfl) ?_ | refine W_ifE fun A B hAx hBx => ?_); refine evT ?_; (first | refine hGx _ ?_ | refine hNx _ ?_ | refine hAx ?_ | refine hBx ?_ | skip)))); (try clear fs))
    refine (index_N t t[i] _ (by omega) hst).mono ?_
    rintro d _ ⟨rfl, rfl⟩
    rw [hq]
    by_cases h0 : i = 0
    · have p2 : ((i : Int) > 0) = False := eq_false (by omega)
      have p3 : ((i : Int) = (i : Int)) = True := eq_true rfl
      (have fs := And.intro f0 (And.intro f3 (And.intro f5 (And.intro f35 (And.intro f36 (And.intro f37 (And.intro @i64.eq_1 (And.intro p2 (And.intro p3 w3)))))))); (repeat (first | refine hGx _ ?_ | refine hNx _ ?_ | refine W_skip ?_ | refine W_exit ?_ | refine W_ret ?_ | refine W_label ?_ | refine W_scope ?_ | refine W_block ?_ | refine W_seq ?_ | ((first | refine tS fun N hNx => ?_ | refine WL_gE rfl rfl (by kernel_rfl) (by kernel_rfl) fun G hGx => ?_ | refine vcOpsS_sound (by kernel_rfl) ?_ | refine W_ifE fun A B hAx hBx => ?_); refine evT ?_; (first | refine hGx _ ?_ | refine hNx _ ?_ | refine hAx ?_ | refine hBx ?_ | skip)))); (try clear fs))
      exact ⟨hil, hdf, f0, f3, f5, f35, f36, rfl, hH⟩
    · have p2 : ((i : Int) > 0) = True := eq_true (by omega)
      have p3 : ((i : Int) = (i : Int)) = True := eq_true rfl
      have w4 : IntKind.i64.wrap ((i : Int) - 1) = ((i - 1 : Nat) : Int) := by rw [wrap_i64_of (by omega)]; omega
      have hx1 : ((i - 1 : Nat) : Int).toNat = i - 1 := Int.toNat_natCast _
      have h01 : (0 : Int) ≤ ((i - 1 : Nat) : Int) := Int.natCast_nonneg _
      have hil1 : i - 1 < t.length := by omega
      have hgi1 := get_strs hil1
      have hlt := List.pairwise_iff_getElem.1 hst (i - 1) i hil1 hil (by omega)
      have e1 : Op.bytesLess t[i - 1].toList t[i].toList = true := less_tb hlt
      have e2 : Op.bytesLess t[i].toList t[i - 1].toList = false := less_fb (ltB_asymm hlt)
      (have fs := And.intro f0 (And.intro f3 (And.intro f5 (And.intro f35 (And.intro f36 (And.intro f37 (And.intro @i64.eq_1 (And.intro p2 (And.intro p3 (And.intro w3 (And.intro w4 (And.intro hx1 (And.intro h01 (And.intro hil1 (And.intro hgi1 (And.intro hmt (And.intro e1 e2)))))))))))))))); (repeat (first | refine hGx _ ?_ | refine hNx _ ?_ | refine W_skip ?_ | refine W_exit ?_ | refine W_ret ?_ | refine W_label ?_ | refine W_scope ?_ | refine W_block ?_ | refine W_seq ?_ | ((first | refine tS fun N hNx => ?_ | refine WL_gE rfl rfl (by kernel_rfl) (by kernel_rfl) fun G hGx => ?_ | refine vcOpsS_sound (by kernel_rfl) ?_ | refine W_ifE fun A B hAx hBx => ?_); refine evT ?_; (first | refine hGx _ ?_ | refine hNx _ ?_ | refine hAx ?_ | refine hBx ?_ | skip)))); (try clear fs))
      exact ⟨hil, hdf, f0, f3, f5, f35, f36, rfl, hH⟩
  have p1 : ((i : Int) < (t.length : Int)) = False := eq_false (by omega)
  (have fs := And.intro f0 (And.intro f3 (And.intro f5 (And.intro f35 (And.intro f36 (And.intro f37 (And.intro @i64.eq_1 (And.intro p1 hml))))))); (repeat (first | refine hGx _ ?_ | refine hNx _ ?_ | refine W_skip ?_ | refine W_exit ?_ | refine W_ret ?_ | refine W_label ?_ | refine W_scope ?_ | refine W_block ?_ | refine W_seq ?_ | ((first | refine tS fun N hNx => ?_ | refine WL_gE rfl rfl (by kernel_rfl) (by kernel_rfl) fun G hGx => ?_ | refine vcOpsS_sound (by kernel_rfl) ?_ | refine W_ifE fun A B hAx hBx => ?_); refine evT ?_; (first | refine hGx _ ?_ | refine hNx _ ?_ | refine hAx ?_ | refine hBx ?_ | skip)))); (try clear fs))
  refine W_loopN l.length (fun j s => s.df = [] ∧ s.fr 0 = .seq 1 (l.map sD) ∧ s.fr 3 = .rp [.seq 1 (t.map sD)] ∧ s.fr 5 = .seq 1 (t.map sD) ∧ s.fr 69 = .seq 1 (l.map sD) ∧ s.fr 70 = i64 l.length ∧ s.fr 71 = i64 j ∧ s.H = .none) ⟨hdf, f0, f3, f5, rfl, rfl, rfl, hH⟩ ?_
  clear hdf f0 f3 f5 f35 f36 f37 hH p1 hx h00
  rintro j s hj ⟨hdf, f0, f3, f5, f69, f70, f71, hH⟩
  have hx : (j : Int).toNat = j := Int.toNat_natCast _
  have h00 : (0 : Int) ≤ (j : Int) := Int.natCast_nonneg _
  by_cases hjl : j < l.length
  case neg =>
    have p1 : ((j : Int) < (l.length : Int)) = False := eq_false (by omega)
    have p2 : ((t.length : Int) ≤ (l.length : Int)) = True := eq_true (by omega)
    (have fs := And.intro f0 (And.intro f3 (And.intro f5 (And.intro f69 (And.intro f70 (And.intro f71 (And.intro @i64.eq_1 p1)))))); (repeat (first | refine hGx _ ?_ | refine hNx _ ?_ | refine W_skip ?_ | refine W_exit ?_ | refine W_ret ?_ | refine W_label ?_ | refine W_scope ?_ | refine W_block ?_ | refine W_seq ?_ | ((first | refine tS fun N hNx => ?_ | refine WL_gE rfl rfl (by kernel_rfl) (by kernel_rfl) fun G hGx => ?_ | refine vcOpsS_sound (by kernel_rfl) ?_ | refine W_ifE fun A B hAx hBx => ?_); refine evT ?_; (first | refine hGx _ ?_ | refine hNx _ ?_ | refine hAx ?_ | refine hBx ?_ | skip)))); (try clear fs))
    refine (alive5_N _).mono ?_; rintro d _ ⟨rfl, rfl⟩
    (first | refine hGx _ ?_ | refine hNx _ ?_ | skip)
    (have fs := And.intro f0 (And.intro f5 (And.intro @i64.eq_1 (And.intro hml (And.intro hmt p2)))); (repeat (first | refine hGx _ ?_ | refine hNx _ ?_ | refine W_skip ?_ | refine W_exit ?_ | refine W_ret ?_ | refine W_label ?_ | refine W_scope ?_ | refine W_block ?_ | refine W_seq ?_ | ((first | refine tS fun N hNx => ?_ | refine WL_gE rfl rfl (by kernel_rfl) (by kernel_rfl) fun G hGx => ?_ | refine vcOpsS_sound (by kernel_rfl) ?_ | refine W_ifE fun A B hAx hBx => ?_); refine evT ?_; (first | refine hGx _ ?_ | refine hNx _ ?_ | refine hAx ?_ | refine hBx ?_ | skip)))); (try clear fs))
    (first | (show Q .ret _) | (show Q .normal _) | skip); refine hret _ _ (by first | exact .inr rfl | exact .inl rfl) (by first | rfl | assumption | (simp only [put_df, withH_df]; assumption)) ?_; have fs := hdf; refine evT ?_; clear fs
    exact ⟨_, Heap.le_refl _⟩
  have hjl' : (j : Int) < (l.length : Int) := by omega
  have p1 : ((j : Int) < (l.length : Int)) = True := eq_true hjl'
  have hgj := get_strs hjl
  have w3 : IntKind.i64.wrap ((j : Int) + 1) = ((j + 1 : Nat) : Int) := by rw [wrap_i64_of (by omega)]; omega
  have hmem : ixS t l[j] < t.length := ixS_lt.2 ((htm _).2 (List.getElem_mem hjl))
  have hq : idxD t l[j] = .tup [i64 (ixS t l[j]), .val (.bool true)] := by unfold idxD; rw [if_pos hmem, decide_eq_true hmem]
  (have fs := And.intro f0 (And.intro f3 (And.intro f5 (And.intro f69 (And.intro f70 (And.intro f71 (And.intro @i64.eq_1 (And.intro p1 (And.intro hml (And.intro hgj (And.intro hx (And.intro h00 hjl))))))))))); (repeat (first | refine hGx _ ?_ | refine hNx _ ?_ | refine W_skip ?_ | refine W_exit ?_ | refine W_ret ?_ | refine W_label ?_ | refine W_scope ?_ | refine W_block ?_ | refine W_seq ?_ | ((first | refine tS fun N hNx => ?_ | refine WL_gE rfl rfl (by kernel_rfl) (by kernel_rfl) fun G hGx => ?_ | refine vcOpsS_sound (by kernel_rfl) ?_ | refine W_ifE fun A B hAx hBx => ?_); refine evT ?_; (first | refine hGx _ ?_ | refine hNx _ ?_ | refine hAx ?_ | refine hBx ?_ | skip)))); (try clear fs))
  refine (index_N t l[j] _ (by omega) hst).mono ?_
  rintro d _ ⟨rfl, rfl⟩
  rw [hq]
  (have fs := And.intro f0 (And.intro f3 (And.intro f5 (And.intro f69 (And.intro f70 (And.intro f71 (And.intro @i64.eq_1 w3)))))); (repeat (first | refine hGx _ ?_ | refine hNx _ ?_ | refine W_skip ?_ | refine W_exit ?_ | refine W_ret ?_ | refine W_label ?_ | refine W_scope ?_ | refine W_block ?_ | refine W_seq ?_ | ((first | refine tS fun N hNx => ?_ | refine WL_gE rfl rfl (by kernel_rfl) (by kernel_rfl) fun G hGx => ?_ | refine vcOpsS_sound (by kernel_rfl) ?_ | refine W_ifE fun A B hAx hBx => ?_); refine evT ?_; (first | refine hGx _ ?_ | refine hNx _ ?_ | refine hAx ?_ | refine hBx ?_ | skip)))); (try clear fs))
  exact ⟨hjl, hdf, f0, f3, f5, f69, f70, rfl, hH⟩
theorem ok_strs {by_ : Nat} {x : X} (h : DT.ok (.slice 1 by_ .string) x) (hb : 0 < by_) : ∃ l : List ByteArray, x.d = .seq 1 (l.map sD) ∧ big l.length ∧ ∀ s ∈ l, big s.size := by
  simp only [DT.ok] at h
  obtain ⟨xs, rfl, hl, hx⟩ := h
  obtain ⟨l, rfl, hp⟩ := list_of (f := fun s => X.str s) (p := fun s => big s.size) (e := .string) (fun x hx => by
    obtain ⟨s, rfl, hs⟩ : ∃ s, x = .str s ∧ s.size ≤ 140737488351232 := by simpa only [DT.ok] using hx
    exact ⟨s, rfl, hs⟩) (by simpa only [DT.ok] using hx)
  refine ⟨l, ?_, ?_, hp⟩
  · simp only [X.d, X.css_map, List.map_map]; rfl
  · rw [List.length_map] at hl
    exact Nat.le_trans (Nat.le_mul_of_pos_right _ hb) hl
theorem InternOrders_walk (x0 : X) (v0 : Value) (w : World) (o0 : DT.ok (DT.slice 1 16 (DT.string)) x0) (i0 : D.is w Heap.none.others x0.d v0) :
    Calls Tryd.prog 4 #[v0] w fun e w' => e = .returned (.bool true) ∧ Below w.heap.size w w' := by
  obtain ⟨l, hx, hl, hs⟩ := ok_strs o0 (by decide)
  rw [hx] at i0
  exact walk_of (lorders_N l hl hs) ⟨_, _, rfl, i0, rfl⟩
set_option maxHeartbeats 2000000 in
theorem lmatch_N (l : List ByteArray) (t : ByteArray) (i : Int) (hl : big l.length) (hs : ∀ s ∈ l, big s.size) : Does Tryd.prog 5 [.seq 1 (l.map sD), strD t, i64 i] .none fun d _ => d = .val (.bool true) := by
  have hml : (List.map sD l).length = l.length := List.length_map _
  refine does_of _ _ Tryd.func5 rfl rfl Tryd.ntmps5 Tryd.results5 (by simp only [List.length_cons, List.length_nil]; omega) fun w0 Q hret => ?_
  (have fs := @i64.eq_1; (repeat (first | refine hGx _ ?_ | refine hNx _ ?_ | refine W_skip ?_ | refine W_exit ?_ | refine W_ret ?_ | refine W_label ?_ | refine W_scope ?_ | refine W_block ?_ | refine W_seq ?_ | ((first | refine tS fun N hNx => ?_ | refine WL_gE rfl rfl (by kernel_rfl) (by kernel_rfl) fun G hGx => ?_ | refine vcOpsS_sound (by kernel_rfl) ?_ | refine W_ifE fun A B hAx hBx => ?_); refine evT ?_; (first | refine hGx _ ?_ | refine hNx _ ?_ | refine hAx ?_ | refine hBx ?_ | skip)))); (try clear fs))
  refine (long_N l _ hl).mono ?_
  rintro d _ ⟨rfl, rfl⟩
  by_cases hlg : 8000 < tlen l
  · rw [decide_eq_true hlg]
    (first | refine hGx _ ?_ | refine hNx _ ?_ | skip)
    (have fs := And.intro @i64.eq_1 @strD.eq_1; (repeat (first | refine hGx _ ?_ | refine hNx _ ?_ | refine W_skip ?_ | refine W_exit ?_ | refine W_ret ?_ | refine W_label ?_ | refine W_scope ?_ | refine W_block ?_ | refine W_seq ?_ | ((first | refine tS fun N hNx => ?_ | refine WL_gE rfl rfl (by kernel_rfl) (by kernel_rfl) fun G hGx => ?_ | refine vcOpsS_sound (by kernel_rfl) ?_ | refine W_ifE fun A B hAx hBx => ?_); refine evT ?_; (first | refine hGx _ ?_ | refine hNx _ ?_ | refine hAx ?_ | refine hBx ?_ | skip)))); (try clear fs))
    refine (alive5_N _).mono ?_; rintro d _ ⟨rfl, rfl⟩
    (have fs := @i64.eq_1; (repeat (first | refine hGx _ ?_ | refine hNx _ ?_ | refine W_skip ?_ | refine W_exit ?_ | refine W_ret ?_ | refine W_label ?_ | refine W_scope ?_ | refine W_block ?_ | refine W_seq ?_ | ((first | refine tS fun N hNx => ?_ | refine WL_gE rfl rfl (by kernel_rfl) (by kernel_rfl) fun G hGx => ?_ | refine vcOpsS_sound (by kernel_rfl) ?_ | refine W_ifE fun A B hAx hBx => ?_); refine evT ?_; (first | refine hGx _ ?_ | refine hNx _ ?_ | refine hAx ?_ | refine hBx ?_ | skip)))); (try clear fs))
    (first | (show Q .ret _) | (show Q .normal _) | skip); refine hret _ _ (by first | exact .inr rfl | exact .inl rfl) (by first | rfl | assumption | (simp only [put_df, withH_df]; assumption)) ?_; have fs := @i64.eq_1; refine evT ?_; clear fs
    exact ⟨_, Heap.le_refl _⟩
  rw [decide_eq_false hlg]
  obtain ⟨h1, h2, h3⟩ := tlen_small (l := l) (by omega)
  by_cases h5 : 5000 < t.size
  · have p1 : ((t.size : Int) > 5000) = True := eq_true (by omega)
    (first | refine hGx _ ?_ | refine hNx _ ?_ | skip)
    (have fs := And.intro @i64.eq_1 (And.intro @strD.eq_1 p1); (repeat (first | refine hGx _ ?_ | refine hNx _ ?_ | refine W_skip ?_ | refine W_exit ?_ | refine W_ret ?_ | refine W_label ?_ | refine W_scope ?_ | refine W_block ?_ | refine W_seq ?_ | ((first | refine tS fun N hNx => ?_ | refine WL_gE rfl rfl (by kernel_rfl) (by kernel_rfl) fun G hGx => ?_ | refine vcOpsS_sound (by kernel_rfl) ?_ | refine W_ifE fun A B hAx hBx => ?_); refine evT ?_; (first | refine hGx _ ?_ | refine hNx _ ?_ | refine hAx ?_ | refine hBx ?_ | skip)))); (try clear fs))
    refine (alive5_N _).mono ?_; rintro d _ ⟨rfl, rfl⟩
    (have fs := @i64.eq_1; (repeat (first | refine hGx _ ?_ | refine hNx _ ?_ | refine W_skip ?_ | refine W_exit ?_ | refine W_ret ?_ | refine W_label ?_ | refine W_scope ?_ | refine W_block ?_ | refine W_seq ?_ | ((first | refine tS fun N hNx => ?_ | refine WL_gE rfl rfl (by kernel_rfl) (by kernel_rfl) fun G hGx => ?_ | refine vcOpsS_sound (by kernel_rfl) ?_ | refine W_ifE fun A B hAx hBx => ?_); refine evT ?_; (first | refine hGx _ ?_ | refine hNx _ ?_ | refine hAx ?_ | refine hBx ?_ | skip)))); (try clear fs))
    (first | (show Q .ret _) | (show Q .normal _) | skip); refine hret _ _ (by first | exact .inr rfl | exact .inl rfl) (by first | rfl | assumption | (simp only [put_df, withH_df]; assumption)) ?_; have fs := @i64.eq_1; refine evT ?_; clear fs
    exact ⟨_, Heap.le_refl _⟩
  have p1 : ((t.size : Int) > 5000) = False := eq_false (by omega)
  (first | refine hGx _ ?_ | refine hNx _ ?_ | skip)
  (have fs := And.intro @i64.eq_1 (And.intro @strD.eq_1 p1); (repeat (first | refine hGx _ ?_ | refine hNx _ ?_ | refine W_skip ?_ | refine W_exit ?_ | refine W_ret ?_ | refine W_label ?_ | refine W_scope ?_ | refine W_block ?_ | refine W_seq ?_ | ((first | refine tS fun N hNx => ?_ | refine WL_gE rfl rfl (by kernel_rfl) (by kernel_rfl) fun G hGx => ?_ | refine vcOpsS_sound (by kernel_rfl) ?_ | refine W_ifE fun A B hAx hBx => ?_); refine evT ?_; (first | refine hGx _ ?_ | refine hNx _ ?_ | refine hAx ?_ | refine hBx ?_ | skip)))); (try clear fs))
  refine (new_N l _ (by omega) hs).mono ?_
  rintro d _ ⟨rfl, rfl⟩
  by_cases hok : ∀ s ∈ l, isId s = true
  case neg =>
    have hd : newD l = .tup [nilP, i64 12] := if_neg hok
    have hd2 : knewD l = .tup [.val (.slice none 0 0), i64 12] := if_neg hok
    rw [hd]
    (have fs := And.intro @i64.eq_1 @nilP.eq_1; (repeat (first | refine hGx _ ?_ | refine hNx _ ?_ | refine W_skip ?_ | refine W_exit ?_ | refine W_ret ?_ | refine W_label ?_ | refine W_scope ?_ | refine W_block ?_ | refine W_seq ?_ | ((first | refine tS fun N hNx => ?_ | refine WL_gE rfl rfl (by kernel_rfl) (by kernel_rfl) fun G hGx => ?_ | refine vcOpsS_sound (by kernel_rfl) ?_ | refine W_ifE fun A B hAx hBx => ?_); refine evT ?_; (first | refine hGx _ ?_ | refine hNx _ ?_ | refine hAx ?_ | refine hBx ?_ | skip)))); (try clear fs))
    refine (knew_N l _ (by omega) hs).mono ?_
    rintro d _ ⟨rfl, rfl⟩
    rw [hd2]
    (have fs := @i64.eq_1; (repeat (first | refine hGx _ ?_ | refine hNx _ ?_ | refine W_skip ?_ | refine W_exit ?_ | refine W_ret ?_ | refine W_label ?_ | refine W_scope ?_ | refine W_block ?_ | refine W_seq ?_ | ((first | refine tS fun N hNx => ?_ | refine WL_gE rfl rfl (by kernel_rfl) (by kernel_rfl) fun G hGx => ?_ | refine vcOpsS_sound (by kernel_rfl) ?_ | refine W_ifE fun A B hAx hBx => ?_); refine evT ?_; (first | refine hGx _ ?_ | refine hNx _ ?_ | refine hAx ?_ | refine hBx ?_ | skip)))); (try clear fs))
    refine (alive5_N _).mono ?_; rintro d _ ⟨rfl, rfl⟩
    (have fs := @i64.eq_1; (repeat (first | refine hGx _ ?_ | refine hNx _ ?_ | refine W_skip ?_ | refine W_exit ?_ | refine W_ret ?_ | refine W_label ?_ | refine W_scope ?_ | refine W_block ?_ | refine W_seq ?_ | ((first | refine tS fun N hNx => ?_ | refine WL_gE rfl rfl (by kernel_rfl) (by kernel_rfl) fun G hGx => ?_ | refine vcOpsS_sound (by kernel_rfl) ?_ | refine W_ifE fun A B hAx hBx => ?_); refine evT ?_; (first | refine hGx _ ?_ | refine hNx _ ?_ | refine hAx ?_ | refine hBx ?_ | skip)))); (try clear fs))
    (first | (show Q .ret _) | (show Q .normal _) | skip); refine hret _ _ (by first | exact .inr rfl | exact .inl rfl) (by first | rfl | assumption | (simp only [put_df, withH_df]; assumption)) ?_; have fs := @i64.eq_1; refine evT ?_; clear fs
    exact ⟨_, Heap.le_refl _⟩
  have hd : newD l = .tup [tabD (insAll l), i64 0] := if_pos hok
  have hd2 : knewD l = .tup [.seq 1 ((insAll l).map sD), i64 0] := if_pos hok
  rw [hd]
  obtain ⟨m, hm⟩ : ∃ m, m = insAll l := ⟨_, rfl⟩
  have hst := insAll_strict l
  have htl := insAll_len l
  rw [← hm] at hst htl hd2 ⊢
  have hmt : (List.map sD m).length = m.length := List.length_map _
  (have fs := And.intro @i64.eq_1 @tabD.eq_1; (repeat (first | refine hGx _ ?_ | refine hNx _ ?_ | refine W_skip ?_ | refine W_exit ?_ | refine W_ret ?_ | refine W_label ?_ | refine W_scope ?_ | refine W_block ?_ | refine W_seq ?_ | ((first | refine tS fun N hNx => ?_ | refine WL_gE rfl rfl (by kernel_rfl) (by kernel_rfl) fun G hGx => ?_ | refine vcOpsS_sound (by kernel_rfl) ?_ | refine W_ifE fun A B hAx hBx => ?_); refine evT ?_; (first | refine hGx _ ?_ | refine hNx _ ?_ | refine hAx ?_ | refine hBx ?_ | skip)))); (try clear fs))
  refine (knew_N l _ (by omega) hs).mono ?_
  rintro d _ ⟨rfl, rfl⟩
  rw [hd2]
  (have fs := @i64.eq_1; (repeat (first | refine hGx _ ?_ | refine hNx _ ?_ | refine W_skip ?_ | refine W_exit ?_ | refine W_ret ?_ | refine W_label ?_ | refine W_scope ?_ | refine W_block ?_ | refine W_seq ?_ | ((first | refine tS fun N hNx => ?_ | refine WL_gE rfl rfl (by kernel_rfl) (by kernel_rfl) fun G hGx => ?_ | refine vcOpsS_sound (by kernel_rfl) ?_ | refine W_ifE fun A B hAx hBx => ?_); refine evT ?_; (first | refine hGx _ ?_ | refine hNx _ ?_ | refine hAx ?_ | refine hBx ?_ | skip)))); (try clear fs))
  refine (index_N m t _ (by omega) hst).mono ?_
  rintro d _ ⟨rfl, rfl⟩
  obtain ⟨kx, bx, want, hq1, hq2, hq3, hq4⟩ : ∃ (kx : Int) (bx : Bool) (want : Int), idxD m t = .tup [i64 kx, .val (.bool bx)] ∧ (if ixS m t < m.length then (ixS m t : Int) else -1) = want ∧ (want ≥ 0) = (bx = true) ∧ kx = max want 0 := by
    unfold idxD
    by_cases h : ixS m t < m.length
    · refine ⟨_, _, _, rfl, rfl, ?_, ?_⟩
      · rw [if_pos h, decide_eq_true h]; exact propext ⟨fun _ => rfl, fun _ => Int.natCast_nonneg _⟩
      · rw [if_pos h]; omega
    · refine ⟨_, _, _, rfl, rfl, ?_, ?_⟩
      · rw [if_neg h, decide_eq_false h]; exact propext ⟨fun h => by omega, fun h => by cases h⟩
      · rw [if_neg h, if_neg h]; rfl
  rw [hq1]
  (have fs := @i64.eq_1; (repeat (first | refine hGx _ ?_ | refine hNx _ ?_ | refine W_skip ?_ | refine W_exit ?_ | refine W_ret ?_ | refine W_label ?_ | refine W_scope ?_ | refine W_block ?_ | refine W_seq ?_ | ((first | refine tS fun N hNx => ?_ | refine WL_gE rfl rfl (by kernel_rfl) (by kernel_rfl) fun G hGx => ?_ | refine vcOpsS_sound (by kernel_rfl) ?_ | refine W_ifE fun A B hAx hBx => ?_); refine evT ?_; (first | refine hGx _ ?_ | refine hNx _ ?_ | refine hAx ?_ | refine hBx ?_ | skip)))); (try clear fs))
  refine (kindex_N m t _ (by unfold big; omega)).mono ?_
  rintro d _ ⟨rfl, rfl⟩
  rw [hq2]
  (have fs := @i64.eq_1; (repeat (first | refine hGx _ ?_ | refine hNx _ ?_ | refine W_skip ?_ | refine W_exit ?_ | refine W_ret ?_ | refine W_label ?_ | refine W_scope ?_ | refine W_block ?_ | refine W_seq ?_ | ((first | refine tS fun N hNx => ?_ | refine WL_gE rfl rfl (by kernel_rfl) (by kernel_rfl) fun G hGx => ?_ | refine vcOpsS_sound (by kernel_rfl) ?_ | refine W_ifE fun A B hAx hBx => ?_); refine evT ?_; (first | refine hGx _ ?_ | refine hNx _ ?_ | refine hAx ?_ | refine hBx ?_ | skip)))); (try clear fs))
  refine (at_N m i _).mono ?_
  rintro d _ ⟨rfl, rfl⟩
  have ee : ∀ b : Bool, decide (b = b) = true := fun b => decide_eq_true rfl
  have eb : decide (bx = decide (bx = true)) = true := by cases bx <;> rfl
  have ek : (kx = max want 0) = True := eq_true hq4
  have em : ((m.length : Int) = (m.length : Int)) = True := eq_true rfl
  by_cases hin : InR m.length i
  case neg =>
    have hat : atD m i = .tup [strD ByteArray.empty, .val (.bool false)] := if_neg hin
    have q0 : (ByteArray.empty.toList = (⟨#[]⟩ : ByteArray).toList) = True := eq_true rfl
    rw [hat]
    by_cases hi0 : i ≥ 0
    · have p2 : (i ≥ 0) = True := eq_true hi0
      have p3 : (i < (m.length : Int)) = False := eq_false fun h => hin ⟨hi0, h⟩
      (have fs := And.intro @i64.eq_1 (And.intro hmt (And.intro p2 (And.intro p3 @strD.eq_1))); (repeat (first | refine hGx _ ?_ | refine hNx _ ?_ | refine W_skip ?_ | refine W_exit ?_ | refine W_ret ?_ | refine W_label ?_ | refine W_scope ?_ | refine W_block ?_ | refine W_seq ?_ | ((first | refine tS fun N hNx => ?_ | refine WL_gE rfl rfl (by kernel_rfl) (by kernel_rfl) fun G hGx => ?_ | refine vcOpsS_sound (by kernel_rfl) ?_ | refine W_ifE fun A B hAx hBx => ?_); refine evT ?_; (first | refine hGx _ ?_ | refine hNx _ ?_ | refine hAx ?_ | refine hBx ?_ | skip)))); (try clear fs))
      refine (alive5_N _).mono ?_; rintro d _ ⟨rfl, rfl⟩
      (first | refine hGx _ ?_ | refine hNx _ ?_ | skip)
      (have fs := @i64.eq_1; (repeat (first | refine hGx _ ?_ | refine hNx _ ?_ | refine W_skip ?_ | refine W_exit ?_ | refine W_ret ?_ | refine W_label ?_ | refine W_scope ?_ | refine W_block ?_ | refine W_seq ?_ | ((first | refine tS fun N hNx => ?_ | refine WL_gE rfl rfl (by kernel_rfl) (by kernel_rfl) fun G hGx => ?_ | refine vcOpsS_sound (by kernel_rfl) ?_ | refine W_ifE fun A B hAx hBx => ?_); refine evT ?_; (first | refine hGx _ ?_ | refine hNx _ ?_ | refine hAx ?_ | refine hBx ?_ | skip)))); (try clear fs))
      refine (len_N m _).mono ?_
      rintro d _ ⟨rfl, rfl⟩
      (first | refine hGx _ ?_ | refine hNx _ ?_ | skip)
      (have fs := And.intro @i64.eq_1 (And.intro hmt em); (repeat (first | refine hGx _ ?_ | refine hNx _ ?_ | refine W_skip ?_ | refine W_exit ?_ | refine W_ret ?_ | refine W_label ?_ | refine W_scope ?_ | refine W_block ?_ | refine W_seq ?_ | ((first | refine tS fun N hNx => ?_ | refine WL_gE rfl rfl (by kernel_rfl) (by kernel_rfl) fun G hGx => ?_ | refine vcOpsS_sound (by kernel_rfl) ?_ | refine W_ifE fun A B hAx hBx => ?_); refine evT ?_; (first | refine hGx _ ?_ | refine hNx _ ?_ | refine hAx ?_ | refine hBx ?_ | skip)))); (try clear fs))
      refine (list_N m _ (by omega)).mono ?_
      rintro d _ ⟨rfl, rfl⟩
      (first | refine hGx _ ?_ | refine hNx _ ?_ | skip)
      (have fs := @i64.eq_1; (repeat (first | refine hGx _ ?_ | refine hNx _ ?_ | refine W_skip ?_ | refine W_exit ?_ | refine W_ret ?_ | refine W_label ?_ | refine W_scope ?_ | refine W_block ?_ | refine W_seq ?_ | ((first | refine tS fun N hNx => ?_ | refine WL_gE rfl rfl (by kernel_rfl) (by kernel_rfl) fun G hGx => ?_ | refine vcOpsS_sound (by kernel_rfl) ?_ | refine W_ifE fun A B hAx hBx => ?_); refine evT ?_; (first | refine hGx _ ?_ | refine hNx _ ?_ | refine hAx ?_ | refine hBx ?_ | skip)))); (try clear fs))
      refine (equalS_at _ m m (by unfold big; omega)).mono ?_
      rintro d _ ⟨rfl, rfl⟩
      rw [decide_eq_true rfl]
      (first | refine hGx _ ?_ | refine hNx _ ?_ | skip)
      (have fs := And.intro @i64.eq_1 (And.intro hq3 (And.intro eb (And.intro ek (And.intro ee q0)))); (repeat (first | refine hGx _ ?_ | refine hNx _ ?_ | refine W_skip ?_ | refine W_exit ?_ | refine W_ret ?_ | refine W_label ?_ | refine W_scope ?_ | refine W_block ?_ | refine W_seq ?_ | ((first | refine tS fun N hNx => ?_ | refine WL_gE rfl rfl (by kernel_rfl) (by kernel_rfl) fun G hGx => ?_ | refine vcOpsS_sound (by kernel_rfl) ?_ | refine W_ifE fun A B hAx hBx => ?_); refine evT ?_; (first | refine hGx _ ?_ | refine hNx _ ?_ | refine hAx ?_ | refine hBx ?_ | skip)))); (try clear fs))
      (first | (show Q .ret _) | (show Q .normal _) | skip); refine hret _ _ (by first | exact .inr rfl | exact .inl rfl) (by first | rfl | assumption | (simp only [put_df, withH_df]; assumption)) ?_; have fs := @i64.eq_1; refine evT ?_; clear fs
      exact ⟨_, Heap.le_refl _⟩
    · have p2 : (i ≥ 0) = False := eq_false hi0
      (have fs := And.intro @i64.eq_1 (And.intro hmt (And.intro p2 @strD.eq_1)); (repeat (first | refine hGx _ ?_ | refine hNx _ ?_ | refine W_skip ?_ | refine W_exit ?_ | refine W_ret ?_ | refine W_label ?_ | refine W_scope ?_ | refine W_block ?_ | refine W_seq ?_ | ((first | refine tS fun N hNx => ?_ | refine WL_gE rfl rfl (by kernel_rfl) (by kernel_rfl) fun G hGx => ?_ | refine vcOpsS_sound (by kernel_rfl) ?_ | refine W_ifE fun A B hAx hBx => ?_); refine evT ?_; (first | refine hGx _ ?_ | refine hNx _ ?_ | refine hAx ?_ | refine hBx ?_ | skip)))); (try clear fs))
      refine (alive5_N _).mono ?_; rintro d _ ⟨rfl, rfl⟩
      (first | refine hGx _ ?_ | refine hNx _ ?_ | skip)
      (have fs := @i64.eq_1; (repeat (first | refine hGx _ ?_ | refine hNx _ ?_ | refine W_skip ?_ | refine W_exit ?_ | refine W_ret ?_ | refine W_label ?_ | refine W_scope ?_ | refine W_block ?_ | refine W_seq ?_ | ((first | refine tS fun N hNx => ?_ | refine WL_gE rfl rfl (by kernel_rfl) (by kernel_rfl) fun G hGx => ?_ | refine vcOpsS_sound (by kernel_rfl) ?_ | refine W_ifE fun A B hAx hBx => ?_); refine evT ?_; (first | refine hGx _ ?_ | refine hNx _ ?_ | refine hAx ?_ | refine hBx ?_ | skip)))); (try clear fs))
      refine (len_N m _).mono ?_
      rintro d _ ⟨rfl, rfl⟩
      (first | refine hGx _ ?_ | refine hNx _ ?_ | skip)
      (have fs := And.intro @i64.eq_1 (And.intro hmt em); (repeat (first | refine hGx _ ?_ | refine hNx _ ?_ | refine W_skip ?_ | refine W_exit ?_ | refine W_ret ?_ | refine W_label ?_ | refine W_scope ?_ | refine W_block ?_ | refine W_seq ?_ | ((first | refine tS fun N hNx => ?_ | refine WL_gE rfl rfl (by kernel_rfl) (by kernel_rfl) fun G hGx => ?_ | refine vcOpsS_sound (by kernel_rfl) ?_ | refine W_ifE fun A B hAx hBx => ?_); refine evT ?_; (first | refine hGx _ ?_ | refine hNx _ ?_ | refine hAx ?_ | refine hBx ?_ | skip)))); (try clear fs))
      refine (list_N m _ (by omega)).mono ?_
      rintro d _ ⟨rfl, rfl⟩
      (first | refine hGx _ ?_ | refine hNx _ ?_ | skip)
      (have fs := @i64.eq_1; (repeat (first | refine hGx _ ?_ | refine hNx _ ?_ | refine W_skip ?_ | refine W_exit ?_ | refine W_ret ?_ | refine W_label ?_ | refine W_scope ?_ | refine W_block ?_ | refine W_seq ?_ | ((first | refine tS fun N hNx => ?_ | refine WL_gE rfl rfl (by kernel_rfl) (by kernel_rfl) fun G hGx => ?_ | refine vcOpsS_sound (by kernel_rfl) ?_ | refine W_ifE fun A B hAx hBx => ?_); refine evT ?_; (first | refine hGx _ ?_ | refine hNx _ ?_ | refine hAx ?_ | refine hBx ?_ | skip)))); (try clear fs))
      refine (equalS_at _ m m (by unfold big; omega)).mono ?_
      rintro d _ ⟨rfl, rfl⟩
      rw [decide_eq_true rfl]
      (first | refine hGx _ ?_ | refine hNx _ ?_ | skip)
      (have fs := And.intro @i64.eq_1 (And.intro hq3 (And.intro eb (And.intro ek (And.intro ee q0)))); (repeat (first | refine hGx _ ?_ | refine hNx _ ?_ | refine W_skip ?_ | refine W_exit ?_ | refine W_ret ?_ | refine W_label ?_ | refine W_scope ?_ | refine W_block ?_ | refine W_seq ?_ | ((first | refine tS fun N hNx => ?_ | refine WL_gE rfl rfl (by kernel_rfl) (by kernel_rfl) fun G hGx => ?_ | refine vcOpsS_sound (by kernel_rfl) ?_ | refine W_ifE fun A B hAx hBx => ?_); refine evT ?_; (first | refine hGx _ ?_ | refine hNx _ ?_ | refine hAx ?_ | refine hBx ?_ | skip)))); (try clear fs))
      (first | (show Q .ret _) | (show Q .normal _) | skip); refine hret _ _ (by first | exact .inr rfl | exact .inl rfl) (by first | rfl | assumption | (simp only [put_df, withH_df]; assumption)) ?_; have fs := @i64.eq_1; refine evT ?_; clear fs
      exact ⟨_, Heap.le_refl _⟩
  · have hin' := hin
    obtain ⟨hi0, hil⟩ := hin'
    have p2 : (i ≥ 0) = True := eq_true hi0
    have p3 : (i < (m.length : Int)) = True := eq_true hil
    have hil2 : i.toNat < m.length := by omega
    have hgi := get_strs hil2
    have hat : atD m i = .tup [strD m[i.toNat], .val (.bool true)] := by
      unfold atD
      rw [if_pos hin, List.getD_eq_getElem?_getD, List.getElem?_eq_getElem hil2]; rfl
    rw [hat]
    · have m1 : max i 0 = i := by omega
      have m2 : max (m.length : Int) 1 = (m.length : Int) := by omega
      have m3 : i.tmod (m.length : Int) = i := by rw [Int.tmod_eq_emod_of_nonneg hi0]; exact Int.emod_eq_of_lt hi0 hil
      have m4 : ((m.length : Int) = 0) = False := eq_false (by omega)
      have m5 : (m[i.toNat].toList = m[i.toNat].toList) = True := eq_true rfl
      have hi0' : 0 ≤ i := hi0
      (have fs := And.intro @i64.eq_1 (And.intro hmt (And.intro p2 (And.intro p3 @strD.eq_1))); (repeat (first | refine hGx _ ?_ | refine hNx _ ?_ | refine W_skip ?_ | refine W_exit ?_ | refine W_ret ?_ | refine W_label ?_ | refine W_scope ?_ | refine W_block ?_ | refine W_seq ?_ | ((first | refine tS fun N hNx => ?_ | refine WL_gE rfl rfl (by kernel_rfl) (by kernel_rfl) fun G hGx => ?_ | refine vcOpsS_sound (by kernel_rfl) ?_ | refine W_ifE fun A B hAx hBx => ?_); refine evT ?_; (first | refine hGx _ ?_ | refine hNx _ ?_ | refine hAx ?_ | refine hBx ?_ | skip)))); (try clear fs))
      refine (alive5_N _).mono ?_; rintro d _ ⟨rfl, rfl⟩
      (first | refine hGx _ ?_ | refine hNx _ ?_ | skip)
      (have fs := @i64.eq_1; (repeat (first | refine hGx _ ?_ | refine hNx _ ?_ | refine W_skip ?_ | refine W_exit ?_ | refine W_ret ?_ | refine W_label ?_ | refine W_scope ?_ | refine W_block ?_ | refine W_seq ?_ | ((first | refine tS fun N hNx => ?_ | refine WL_gE rfl rfl (by kernel_rfl) (by kernel_rfl) fun G hGx => ?_ | refine vcOpsS_sound (by kernel_rfl) ?_ | refine W_ifE fun A B hAx hBx => ?_); refine evT ?_; (first | refine hGx _ ?_ | refine hNx _ ?_ | refine hAx ?_ | refine hBx ?_ | skip)))); (try clear fs))
      refine (len_N m _).mono ?_
      rintro d _ ⟨rfl, rfl⟩
      (first | refine hGx _ ?_ | refine hNx _ ?_ | skip)
      (have fs := And.intro @i64.eq_1 (And.intro hmt em); (repeat (first | refine hGx _ ?_ | refine hNx _ ?_ | refine W_skip ?_ | refine W_exit ?_ | refine W_ret ?_ | refine W_label ?_ | refine W_scope ?_ | refine W_block ?_ | refine W_seq ?_ | ((first | refine tS fun N hNx => ?_ | refine WL_gE rfl rfl (by kernel_rfl) (by kernel_rfl) fun G hGx => ?_ | refine vcOpsS_sound (by kernel_rfl) ?_ | refine W_ifE fun A B hAx hBx => ?_); refine evT ?_; (first | refine hGx _ ?_ | refine hNx _ ?_ | refine hAx ?_ | refine hBx ?_ | skip)))); (try clear fs))
      refine (list_N m _ (by omega)).mono ?_
      rintro d _ ⟨rfl, rfl⟩
      (first | refine hGx _ ?_ | refine hNx _ ?_ | skip)
      (have fs := @i64.eq_1; (repeat (first | refine hGx _ ?_ | refine hNx _ ?_ | refine W_skip ?_ | refine W_exit ?_ | refine W_ret ?_ | refine W_label ?_ | refine W_scope ?_ | refine W_block ?_ | refine W_seq ?_ | ((first | refine tS fun N hNx => ?_ | refine WL_gE rfl rfl (by kernel_rfl) (by kernel_rfl) fun G hGx => ?_ | refine vcOpsS_sound (by kernel_rfl) ?_ | refine W_ifE fun A B hAx hBx => ?_); refine evT ?_; (first | refine hGx _ ?_ | refine hNx _ ?_ | refine hAx ?_ | refine hBx ?_ | skip)))); (try clear fs))
      refine (equalS_at _ m m (by unfold big; omega)).mono ?_
      rintro d _ ⟨rfl, rfl⟩
      rw [decide_eq_true rfl]
      (first | refine hGx _ ?_ | refine hNx _ ?_ | skip)
      (have fs := And.intro @i64.eq_1 (And.intro hq3 (And.intro eb (And.intro ek (And.intro ee (And.intro hmt (And.intro m1 (And.intro m2 (And.intro m3 (And.intro m4 (And.intro hi0' (And.intro hil (And.intro hgi m5)))))))))))); (repeat (first | refine hGx _ ?_ | refine hNx _ ?_ | refine W_skip ?_ | refine W_exit ?_ | refine W_ret ?_ | refine W_label ?_ | refine W_scope ?_ | refine W_block ?_ | refine W_seq ?_ | ((first | refine tS fun N hNx => ?_ | refine WL_gE rfl rfl (by kernel_rfl) (by kernel_rfl) fun G hGx => ?_ | refine vcOpsS_sound (by kernel_rfl) ?_ | refine W_ifE fun A B hAx hBx => ?_); refine evT ?_; (first | refine hGx _ ?_ | refine hNx _ ?_ | refine hAx ?_ | refine hBx ?_ | skip)))); (try clear fs))
      (first | (show Q .ret _) | (show Q .normal _) | skip); refine hret _ _ (by first | exact .inr rfl | exact .inl rfl) (by first | rfl | assumption | (simp only [put_df, withH_df]; assumption)) ?_; have fs := @i64.eq_1; refine evT ?_; clear fs
      exact ⟨_, Heap.le_refl _⟩
theorem InternMatchesReference_walk (x0 : X) (v0 : Value) (x1 : X) (v1 : Value) (x2 : X) (v2 : Value) (w : World) (o0 : DT.ok (DT.slice 1 16 (DT.string)) x0) (i0 : D.is w Heap.none.others x0.d v0) (o1 : DT.ok (DT.string) x1) (i1 : D.is w Heap.none.others x1.d v1) (o2 : DT.ok (DT.int .i64) x2) (i2 : D.is w Heap.none.others x2.d v2) :
    Calls Tryd.prog 5 #[v0, v1, v2] w fun e w' => e = .returned (.bool true) ∧ Below w.heap.size w w' := by
  obtain ⟨l, hx, hl, hs⟩ := ok_strs o0 (by decide)
  obtain ⟨t, rfl, _⟩ : ∃ s, x1 = .str s ∧ s.size ≤ 140737488351232 := by simpa only [DT.ok] using o1
  obtain ⟨i, rfl, _⟩ := ok_i64 o2
  rw [hx] at i0
  exact walk_of (lmatch_N l t i hl hs) ⟨_, _, rfl, i0, _, _, rfl, i1, _, _, rfl, i2, rfl⟩
theorem after_z {α : Type} {z x : α} {at_ y : Int} : after z at_ 0 (x, y, 0) = (x, y, 0) := by simp [after]
theorem cnt_at (pre r : List UInt8) (n : Nat) (most : Int) (h : (n : Int) ≤ most) (hn : n ≤ r.length) (hb : n < 18446744073709551616) : cnt (pre ++ (put n ++ r)) pre.length most = ((n : Int), ((pre.length + (put n).length : Nat) : Int), 0) := by
  unfold cnt
  rw [getR_put pre r n hb]
  simp only
  rw [if_neg (by simp), if_neg (by omega), if_neg (by simp only [List.length_append]; omega), Int.natCast_add]
theorem str_at (pre r s : List UInt8) (most : Int) (h : (s.length : Int) ≤ most) (hb : s.length ≤ 140737488351232) : countA (pre ++ ((put s.length ++ s) ++ r)) pre.length 0 most = ((s.length : Int), ((pre.length + (put s.length).length : Nat) : Int), 0) ∧ strA (pre ++ ((put s.length ++ s) ++ r)) pre.length 0 most = (s, ((pre.length + (put s.length ++ s).length : Nat) : Int), 0) := by
  have hc : countA (pre ++ ((put s.length ++ s) ++ r)) pre.length 0 most = ((s.length : Int), ((pre.length + (put s.length).length : Nat) : Int), 0) := by
    unfold countA
    rw [List.append_assoc, cnt_at pre (s ++ r) s.length most h (by rw [List.length_append]; omega) (by omega), after_z]
  refine ⟨hc, ?_⟩
  unfold strA
  rw [hc]
  unfold takeA takeC
  have hl : ((pre ++ ((put s.length ++ s) ++ r)).length : Int) - ((pre.length + (put s.length).length : Nat) : Int) = s.length + r.length := by simp only [List.length_append]; omega
  rw [if_neg (by omega), if_neg (by rw [hl]; omega), after_z]
  have hd : List.drop ((pre.length + (put s.length).length : Nat) : Int).toNat (pre ++ ((put s.length ++ s) ++ r)) = s ++ r := by
    rw [Int.toNat_natCast, ← List.drop_drop, List.drop_left, List.append_assoc, List.drop_left]
  rw [hd, Int.toNat_natCast, List.take_left]
  simp only [List.length_append]
  congr 2
  omega
/-- A pointer to a row of one's own is frozen with what its cells hold. -/
theorem frz_ep2 {H H' : Heap} {b o sz i : Nat} {ty : TypeId} {els : List (List D)} {el el' : List D} (hd : Dom H H') (hb : H' b = some (.row ty o sz els)) (h0 : H b = none) (hi : els[i]? = some el) (hr : FrzL H (H'.del b) el el') : Frz H H' (.ep b o sz i 0) (.rp el') := fun w v hH hv => by
  have h1 := frzp_is (k := 0) hH hb hi hv
  rw [List.drop_zero] at h1
  have hH2 : HOk w (H'.del b) := hH.less (fun c x hc => by
    by_cases e : c = b
    · rw [e, Heap.del_same] at hc; cases hc
    · rwa [Heap.del_ne e] at hc)
  simp only [D.is] at h1 ⊢
  obtain ⟨b2, o2, e3, e4, e5, e6⟩ := h1
  refine ⟨b2, o2, e3, ?_, e5, hr.at hH2 e6⟩
  by_cases e : b2 = b
  · rw [e]; exact h0
  · refine hd b2 ?_
    have : (H'.del b) b2 = none := e4
    rwa [Heap.del_ne e] at this
def posT5 (t : List ByteArray) (i : Nat) : List UInt8 := put t.length ++ (t.take i).flatMap encS1
theorem posT5_all (t : List ByteArray) : posT5 t t.length = encT t := by unfold posT5 encT; rw [List.take_length]
theorem posT5_split {t : List ByteArray} {i : Nat} (h : i < t.length) : encT t = posT5 t i ++ (encS1 t[i] ++ (t.drop (i + 1)).flatMap encS1) ∧ posT5 t (i + 1) = posT5 t i ++ encS1 t[i] := by
  unfold posT5 encT
  constructor
  · have e : t = t.take i ++ t[i] :: t.drop (i + 1) := by rw [List.getElem_cons_drop, List.take_append_drop]
    have e2 : t.flatMap encS1 = (t.take i ++ t[i] :: t.drop (i + 1)).flatMap encS1 := congrArg _ e
    rw [e2, List.flatMap_append, List.flatMap_cons, List.append_assoc]
  · rw [List.take_succ_eq_append_getElem h, List.flatMap_append, List.flatMap_singleton, List.append_assoc]
def lastS (t : List ByteArray) (i : Nat) : ByteArray := if h : 0 < i ∧ i - 1 < t.length then t[i - 1]'h.2 else ByteArray.empty
theorem lastS_lt {t : List ByteArray} (hs : t.Pairwise ltB) {i : Nat} (h : i < t.length) (hid : isId t[i] = true) : ltB (lastS t i) t[i] := by
  unfold lastS
  split
  · rename_i h2
    exact List.pairwise_iff_getElem.1 hs _ _ _ h (by omega)
  · unfold ltB
    have hne : t[i].toList ≠ [] := fun e => by
      have e2 : t[i] = bstr [] := toL_inj.1 (by rw [e, bstr_toL])
      rw [e2] at hid
      unfold isId at hid
      rw [bstr_toList] at hid
      revert hid; decide
    rw [show ByteArray.empty.toList = [] from bstr_toL []]
    cases e : t[i].toList with
    | nil => exact absurd e hne
    | cons a l => exact List.nil_lt_cons a l
theorem lastS_succ {t : List ByteArray} {i : Nat} (h : i < t.length) : lastS t (i + 1) = t[i] := by
  unfold lastS
  rw [dif_pos ⟨by omega, by omega⟩]; rfl
theorem flat_ge : ∀ l : List ByteArray, l.length ≤ (l.flatMap encS1).length
  | [] => Nat.le_refl _
  | s :: l => by
    have := flat_ge l
    have hp : 1 ≤ (encS1 s).length := by
      unfold encS1
      rw [List.length_append]
      have : (put s.size).length ≠ 0 := fun e => by
        have := List.eq_nil_of_length_eq_zero e
        unfold put at this
        simp only [putF] at this
        split at this <;> simp at this
      omega
    rw [List.flatMap_cons, List.length_append, List.length_cons]; omega
theorem encT_len (l : List ByteArray) (hl : l.length ≤ 1000000) (hb : bsum l ≤ 1000000000) : (encT l).length ≤ 1000000010 := by
  have hp := put_length l.length (by omega)
  have := flat_len l hb
  unfold encT
  rw [List.length_append]; omega
theorem bsum_le {m : Nat} : ∀ {l : List ByteArray}, (∀ s ∈ l, s.size ≤ m) → l.length * (m + 10) ≤ 200000000 → bsum l ≤ 200000000
  | [], _, _ => Nat.zero_le _
  | s :: l, h, hl => by
    have key : ∀ l : List ByteArray, (∀ s ∈ l, s.size ≤ m) → bsum l ≤ l.length * (m + 10) := fun l => by
      induction l with
      | nil => intro _; exact Nat.zero_le _
      | cons s l ih =>
        intro h
        have h1 := ih fun s hs => h s (List.mem_cons_of_mem _ hs)
        have h2 := h s List.mem_cons_self
        rw [List.length_cons, Nat.succ_mul]
        simp only [bsum]; omega
    exact Nat.le_trans (key _ h) hl
set_option maxHeartbeats 2000000 in
theorem decode_N (t : List ByteArray) (H : Heap) (hl : t.length ≤ 1000000) (hb : bsum t ≤ 1000000000) (hs : t.Pairwise ltB) (hid : ∀ s ∈ t, isId s = true) : Does Tryd.prog 24 [.seq 1 ((encT t).map bD)] H fun d H' => d = .tup [tabD t, i64 0] ∧ H = H' := by
  refine Does.frz (K := fun d => d = .tup [tabD t, i64 0]) ?_
  have hlen := encT_len t hl hb
  obtain ⟨bs, hB⟩ : ∃ bs, bs = encT t := ⟨_, rfl⟩
  rw [← hB] at hlen ⊢
  have hcnt : after 0 0 0 (cnt bs 0 4611686018427387904) = ((t.length : Int), ((posT5 t 0).length : Int), 0) := by
    have h1 := cnt_at [] (t.flatMap encS1) t.length 4611686018427387904 (by omega) (flat_ge t) (by omega)
    rw [List.nil_append] at h1
    have h2 : cnt bs 0 4611686018427387904 = ((t.length : Int), ((posT5 t 0).length : Int), 0) := by
      rw [hB]; unfold encT posT5
      rw [List.take_zero, List.flatMap_nil, List.append_nil]
      simpa using h1
    rw [h2, after_z]
  refine does_of _ _ Tryd.func24 rfl rfl Tryd.ntmps24 Tryd.results24 (by simp only [List.length_cons, List.length_nil]; omega) fun w0 Q hret => ?_
  (have fs := @i64.eq_1; (repeat (first | refine hGx _ ?_ | refine hNx _ ?_ | refine W_skip ?_ | refine W_exit ?_ | refine W_ret ?_ | refine W_label ?_ | refine W_scope ?_ | refine W_block ?_ | refine W_seq ?_ | ((first | refine tS fun N hNx => ?_ | refine WL_gE rfl rfl (by kernel_rfl) (by kernel_rfl) fun G hGx => ?_ | refine vcOpsS_sound (by kernel_rfl) ?_ | refine W_ifE fun A B hAx hBx => ?_); refine evT ?_; (first | refine hGx _ ?_ | refine hNx _ ?_ | refine hAx ?_ | refine hBx ?_ | skip)))); (try clear fs))
  refine (newReader_N bs _ (by omega)).mono ?_
  rintro d _ ⟨r, hr, rfl, rfl⟩
  (have fs := @i64.eq_1; (repeat (first | refine hGx _ ?_ | refine hNx _ ?_ | refine W_skip ?_ | refine W_exit ?_ | refine W_ret ?_ | refine W_label ?_ | refine W_scope ?_ | refine W_block ?_ | refine W_seq ?_ | ((first | refine tS fun N hNx => ?_ | refine WL_gE rfl rfl (by kernel_rfl) (by kernel_rfl) fun G hGx => ?_ | refine vcOpsS_sound (by kernel_rfl) ?_ | refine W_ifE fun A B hAx hBx => ?_); refine evT ?_; (first | refine hGx _ ?_ | refine hNx _ ?_ | refine hAx ?_ | refine hBx ?_ | skip)))); (try clear fs))
  intro bt hbt
  obtain ⟨hbr, hbt0⟩ := Heap.upd_none.1 hbt
  refine hNx _ ?_
  (have fs := @i64.eq_1; (repeat (first | refine hGx _ ?_ | refine hNx _ ?_ | refine W_skip ?_ | refine W_exit ?_ | refine W_ret ?_ | refine W_label ?_ | refine W_scope ?_ | refine W_block ?_ | refine W_seq ?_ | ((first | refine tS fun N hNx => ?_ | refine WL_gE rfl rfl (by kernel_rfl) (by kernel_rfl) fun G hGx => ?_ | refine vcOpsS_sound (by kernel_rfl) ?_ | refine W_ifE fun A B hAx hBx => ?_); refine evT ?_; (first | refine hGx _ ?_ | refine hNx _ ?_ | refine hAx ?_ | refine hBx ?_ | skip)))); (try clear fs))
  have z1 : ((H.upd r (rdr bs 0 0)).upd bt (.row 51 0 1 [[.val (.slice none 0 0)]])) r = some (rdr bs 0 0) := by rw [Heap.upd_ne (Ne.symm hbr), Heap.upd_same]
  refine (count_N bs 0 0 4611686018427387904 r _ z1 (by omega) (by omega) (by omega)).mono ?_
  rw [hcnt]
  rintro d _ ⟨rfl, rfl⟩
  (have fs := @i64.eq_1; (repeat (first | refine hGx _ ?_ | refine hNx _ ?_ | refine W_skip ?_ | refine W_exit ?_ | refine W_ret ?_ | refine W_label ?_ | refine W_scope ?_ | refine W_block ?_ | refine W_seq ?_ | ((first | refine tS fun N hNx => ?_ | refine WL_gE rfl rfl (by kernel_rfl) (by kernel_rfl) fun G hGx => ?_ | refine vcOpsS_sound (by kernel_rfl) ?_ | refine W_ifE fun A B hAx hBx => ?_); refine evT ?_; (first | refine hGx _ ?_ | refine hNx _ ?_ | refine hAx ?_ | refine hBx ?_ | skip)))); (try clear fs))
  refine W_loopN t.length (fun i s => s.df = [] ∧ s.fr 4 = .ep r 0 3 0 0 ∧ s.fr 5 = .ep bt 0 1 0 0 ∧ s.fr 6 = strD (lastS t i) ∧ s.fr 14 = i64 t.length ∧ s.fr 15 = i64 i ∧ H.le s.H ∧ s.H r = some (rdr bs (posT5 t i).length 0) ∧ ∃ d ob, s.H bt = some (.row 51 0 1 [[d]]) ∧ Gl H 9 1 ((t.take i).map sD) d s.H ob ∧ ob ≠ some r ∧ ob ≠ some bt) ⟨rfl, rfl, rfl, rfl, rfl, rfl, ?_, Heap.upd_same _ _ _, .val (.slice none 0 0), none, ?_, Gl.nil _ _ _ _, (by intro h; cases h), by intro h; cases h⟩ ?_
  · exact Heap.le_put (Heap.le_put (Heap.le_put (Heap.le_refl _) hr) hbt0) hr
  · exact (Heap.upd_ne hbr).trans (Heap.upd_same _ _ _)
  rintro i s hi ⟨hdf, f4, f5, f6, f14, f15, hle, hHr, dd, ob, hHb, hg, ho1, ho2⟩
  have hx : (i : Int).toNat = i := Int.toNat_natCast _
  have h00 : (0 : Int) ≤ (i : Int) := Int.natCast_nonneg _
  by_cases hil : i < t.length
  case neg =>
    have p1 : ((i : Int) < (t.length : Int)) = False := eq_false (by omega)
    have hi2 : i = t.length := by omega
    rw [hi2, posT5_all, ← hB] at hHr
    rw [List.take_of_length_le (by omega)] at hg
    (have fs := And.intro f4 (And.intro f5 (And.intro f6 (And.intro f14 (And.intro f15 (And.intro @i64.eq_1 p1))))); (repeat (first | refine hGx _ ?_ | refine hNx _ ?_ | refine W_skip ?_ | refine W_exit ?_ | refine W_ret ?_ | refine W_label ?_ | refine W_scope ?_ | refine W_block ?_ | refine W_seq ?_ | ((first | refine tS fun N hNx => ?_ | refine WL_gE rfl rfl (by kernel_rfl) (by kernel_rfl) fun G hGx => ?_ | refine vcOpsS_sound (by kernel_rfl) ?_ | refine W_ifE fun A B hAx hBx => ?_); refine evT ?_; (first | refine hGx _ ?_ | refine hNx _ ?_ | refine hAx ?_ | refine hBx ?_ | skip)))); (try clear fs))
    refine (end_N bs bs.length 0 r _ hHr (by omega) (by omega)).mono ?_
    rw [if_neg (by omega)]
    rintro d _ ⟨rfl, rfl⟩
    (have fs := And.intro f4 (And.intro f5 @i64.eq_1); (repeat (first | refine hGx _ ?_ | refine hNx _ ?_ | refine W_skip ?_ | refine W_exit ?_ | refine W_ret ?_ | refine W_label ?_ | refine W_scope ?_ | refine W_block ?_ | refine W_seq ?_ | ((first | refine tS fun N hNx => ?_ | refine WL_gE rfl rfl (by kernel_rfl) (by kernel_rfl) fun G hGx => ?_ | refine vcOpsS_sound (by kernel_rfl) ?_ | refine W_ifE fun A B hAx hBx => ?_); refine evT ?_; (first | refine hGx _ ?_ | refine hNx _ ?_ | refine hAx ?_ | refine hBx ?_ | skip)))); (try clear fs))
    (first | (show Q .ret _) | (show Q .normal _) | skip); refine hret _ _ (by first | exact .inr rfl | exact .inl rfl) (by first | rfl | assumption | (simp only [put_df, withH_df]; assumption)) ?_; have fs := hdf; refine evT ?_; clear fs
    have hdom : Dom H s.H := fun k hk => Heap.none_of hle hk
    refine ⟨_, Heap.le_refl _, hle, .tup [tabD t, i64 0], frz_tup ⟨frz_ep2 hdom hHb hbt0 rfl ⟨?_, trivial⟩, frz_same hdom, trivial⟩, rfl⟩
    have hg2 : Gl H 9 1 (t.map sD) dd (s.H.del bt) ob := hg.keep fun c hc => Heap.del_ne fun e => ho2 (by rw [hc, e])
    exact frz_gl (Heap.le_del hle hbt0) hg2
  have hil' : (i : Int) < (t.length : Int) := by omega
  have p1 : ((i : Int) < (t.length : Int)) = True := eq_true hil'
  have w3 : IntKind.i64.wrap ((i : Int) + 1) = ((i + 1 : Nat) : Int) := by rw [wrap_i64_of (by omega)]; omega
  obtain ⟨hsp, hnx⟩ := posT5_split hil
  have hidi := hid _ (List.getElem_mem hil)
  have hlt := lastS_lt hs hil hidi
  have hbm := bsum_mem (List.getElem_mem hil)
  obtain ⟨u, hu, hul⟩ := bstr_of' t[i]
  have h255 : u.length ≤ 255 := by
    have h := hidi
    rw [hu] at h
    unfold isId isIdL at h
    rw [bstr_toList] at h
    simp at h; omega
  have hes : encS1 t[i] = put u.length ++ u := by unfold encS1; rw [hu, bstr_toList, bstr_size]
  rw [hes] at hsp hnx
  obtain ⟨hc1, hs1⟩ := str_at (posT5 t i) ((t.drop (i + 1)).flatMap encS1) u 255 (by omega) (by omega)
  rw [← hsp, ← hB] at hc1 hs1
  have hpl : (posT5 t i).length ≤ bs.length := by rw [hB, hsp, List.length_append]; omega
  have hpl2 : (posT5 t i).length + (put u.length).length ≤ bs.length := by rw [hB, hsp]; simp only [List.length_append]; omega
  (have fs := And.intro f4 (And.intro f5 (And.intro f6 (And.intro f14 (And.intro f15 (And.intro @i64.eq_1 p1))))); (repeat (first | refine hGx _ ?_ | refine hNx _ ?_ | refine W_skip ?_ | refine W_exit ?_ | refine W_ret ?_ | refine W_label ?_ | refine W_scope ?_ | refine W_block ?_ | refine W_seq ?_ | ((first | refine tS fun N hNx => ?_ | refine WL_gE rfl rfl (by kernel_rfl) (by kernel_rfl) fun G hGx => ?_ | refine vcOpsS_sound (by kernel_rfl) ?_ | refine W_ifE fun A B hAx hBx => ?_); refine evT ?_; (first | refine hGx _ ?_ | refine hNx _ ?_ | refine hAx ?_ | refine hBx ?_ | skip)))); (try clear fs))
  refine (str_N bs (posT5 t i).length 0 255 r _ hHr (by omega) (by omega) (by omega) (by rw [hc1]; dsimp only; omega) (by rw [hc1]; dsimp only; constructor <;> omega)).mono ?_
  rw [hs1]
  dsimp only
  rw [← List.length_append, ← hnx, ← hu]
  rintro d _ ⟨rfl, rfl⟩
  (have fs := And.intro f4 (And.intro f5 (And.intro f6 @i64.eq_1)); (repeat (first | refine hGx _ ?_ | refine hNx _ ?_ | refine W_skip ?_ | refine W_exit ?_ | refine W_ret ?_ | refine W_label ?_ | refine W_scope ?_ | refine W_block ?_ | refine W_seq ?_ | ((first | refine tS fun N hNx => ?_ | refine WL_gE rfl rfl (by kernel_rfl) (by kernel_rfl) fun G hGx => ?_ | refine vcOpsS_sound (by kernel_rfl) ?_ | refine W_ifE fun A B hAx hBx => ?_); refine evT ?_; (first | refine hGx _ ?_ | refine hNx _ ?_ | refine hAx ?_ | refine hBx ?_ | skip)))); (try clear fs))
  refine (isid_N t[i] _ (by unfold big; omega)).mono ?_
  rintro d _ ⟨rfl, rfl⟩
  rw [hidi]
  have e1 : Op.bytesLess (lastS t i).toList t[i].toList = true := less_tb hlt
  have e2 : Op.bytesLess t[i].toList (lastS t i).toList = false := less_fb (ltB_asymm hlt)
  have e3 : (t[i].toList = (lastS t i).toList) = False := eq_false fun h => by
    have h2 := toL_inj.1 h
    rw [h2] at hlt
    exact ltB_irr _ hlt
  have e4 : (false || false) = false := rfl
  (first | refine hGx _ ?_ | refine hNx _ ?_ | skip)
  (have fs := And.intro f4 (And.intro f5 (And.intro f6 (And.intro @i64.eq_1 (And.intro @strD.eq_1 (And.intro e1 (And.intro e2 (And.intro e3 e4))))))); (repeat (first | refine hGx _ ?_ | refine hNx _ ?_ | refine W_skip ?_ | refine W_exit ?_ | refine W_ret ?_ | refine W_label ?_ | refine W_scope ?_ | refine W_block ?_ | refine W_seq ?_ | ((first | refine tS fun N hNx => ?_ | refine WL_gE rfl rfl (by kernel_rfl) (by kernel_rfl) fun G hGx => ?_ | refine vcOpsS_sound (by kernel_rfl) ?_ | refine W_ifE fun A B hAx hBx => ?_); refine evT ?_; (first | refine hGx _ ?_ | refine hNx _ ?_ | refine hAx ?_ | refine hBx ?_ | skip)))); (try clear fs))
  refine (err_N bs (posT5 t (i + 1)).length 0 r _ (Heap.upd_same _ _ _)).mono ?_
  rintro d _ ⟨rfl, rfl⟩
  have z2 : (s.H.upd r (rdr bs (posT5 t (i + 1)).length 0)) bt = some (.row 51 0 1 [[dd]]) := by rw [Heap.upd_ne hbr]; exact hHb
  have hle2 : H.le (s.H.upd r (rdr bs (posT5 t (i + 1)).length 0)) := Heap.le_put hle hr
  have hg2 : Gl H 9 1 ((t.take i).map sD) dd (s.H.upd r (rdr bs (posT5 t (i + 1)).length 0)) ob := hg.keep fun c hc => Heap.upd_ne fun e => ho1 (by rw [hc, e])
  (have fs := And.intro f4 (And.intro f5 (And.intro f6 (And.intro @i64.eq_1 z2))); (repeat (first | refine hGx _ ?_ | refine hNx _ ?_ | refine W_skip ?_ | refine W_exit ?_ | refine W_ret ?_ | refine W_label ?_ | refine W_scope ?_ | refine W_block ?_ | refine W_seq ?_ | ((first | refine tS fun N hNx => ?_ | refine WL_gE rfl rfl (by kernel_rfl) (by kernel_rfl) fun G hGx => ?_ | refine vcOpsS_sound (by kernel_rfl) ?_ | refine W_ifE fun A B hAx hBx => ?_); refine evT ?_; (first | refine hGx _ ?_ | refine hNx _ ?_ | refine hAx ?_ | refine hBx ?_ | skip)))); (try clear fs))
  refine apV_grow (e := 9) ty24 rfl ty24 rfl ty9 rfl (by decide) hle2 hg2 (new := [sD t[i]]) (by exact ⟨rfl, rfl⟩) (by rw [List.length_map, List.length_take]; show (_ + 1) * 16 ≤ _; omega) fun d' H6 ob6 hg6 hle6 hp6 => ?_
  obtain ⟨z3, ho3⟩ := hp6 bt _ z2 ho2
  obtain ⟨z4, ho4⟩ := hp6 r _ (Heap.upd_same _ _ _) ho1
  rw [show [sD t[i]] = [t[i]].map sD from rfl, ← List.map_append, ← List.take_succ_eq_append_getElem hil] at hg6
  have hgk := hg6
  rcases hg6 with ⟨_, _, h⟩ | ⟨cc, oo, _, rfl, g2, g3⟩
  · have h2 : (List.map sD (t.take (i + 1))).length = 0 := by rw [h]; rfl
    rw [List.length_map, List.length_take] at h2
    omega
  rw [List.length_map] at hgk
  (have fs := And.intro @i64.eq_1 z3; refine evT ?_; try clear fs); (first | refine hGx _ ?_ | refine hNx _ ?_ | skip)
  (have fs := And.intro f4 (And.intro f5 (And.intro f6 (And.intro f15 (And.intro @i64.eq_1 w3)))); (repeat (first | refine hGx _ ?_ | refine hNx _ ?_ | refine W_skip ?_ | refine W_exit ?_ | refine W_ret ?_ | refine W_label ?_ | refine W_scope ?_ | refine W_block ?_ | refine W_seq ?_ | ((first | refine tS fun N hNx => ?_ | refine WL_gE rfl rfl (by kernel_rfl) (by kernel_rfl) fun G hGx => ?_ | refine vcOpsS_sound (by kernel_rfl) ?_ | refine W_ifE fun A B hAx hBx => ?_); refine evT ?_; (first | refine hGx _ ?_ | refine hNx _ ?_ | refine hAx ?_ | refine hBx ?_ | skip)))); (try clear fs))
  refine ⟨hil, hdf, f4, f5, ?_, f14, rfl, Heap.le_put hle6 hbt0, ?_, _, ob6, Heap.upd_same _ _ _, hgk.keep fun c hc => Heap.upd_ne fun e => ho3 (by rw [hc, e]), ho4, ho3⟩
  · rw [lastS_succ hil]; rfl
  · exact (Heap.upd_ne (Ne.symm hbr)).trans z4
/-- The law InternRoundTrip. -/
theorem lround_N (l : List ByteArray) (hl : big l.length) (hs : ∀ s ∈ l, big s.size) : Does Tryd.prog 7 [.seq 1 (l.map sD)] .none fun d _ => d = .val (.bool true) := by
  refine does_of _ _ Tryd.func7 rfl rfl Tryd.ntmps7 Tryd.results7 (by simp only [List.length_cons, List.length_nil]; omega) fun w0 Q hret => ?_
  (have fs := @i64.eq_1; (repeat (first | refine hGx _ ?_ | refine hNx _ ?_ | refine W_skip ?_ | refine W_exit ?_ | refine W_ret ?_ | refine W_label ?_ | refine W_scope ?_ | refine W_block ?_ | refine W_seq ?_ | ((first | refine tS fun N hNx => ?_ | refine WL_gE rfl rfl (by kernel_rfl) (by kernel_rfl) fun G hGx => ?_ | refine vcOpsS_sound (by kernel_rfl) ?_ | refine W_ifE fun A B hAx hBx => ?_); refine evT ?_; (first | refine hGx _ ?_ | refine hNx _ ?_ | refine hAx ?_ | refine hBx ?_ | skip)))); (try clear fs))
  refine (long_N l _ hl).mono ?_
  rintro d _ ⟨rfl, rfl⟩
  by_cases hlg : 8000 < tlen l
  · rw [decide_eq_true hlg]
    (have fs := @i64.eq_1; (repeat (first | refine hGx _ ?_ | refine hNx _ ?_ | refine W_skip ?_ | refine W_exit ?_ | refine W_ret ?_ | refine W_label ?_ | refine W_scope ?_ | refine W_block ?_ | refine W_seq ?_ | ((first | refine tS fun N hNx => ?_ | refine WL_gE rfl rfl (by kernel_rfl) (by kernel_rfl) fun G hGx => ?_ | refine vcOpsS_sound (by kernel_rfl) ?_ | refine W_ifE fun A B hAx hBx => ?_); refine evT ?_; (first | refine hGx _ ?_ | refine hNx _ ?_ | refine hAx ?_ | refine hBx ?_ | skip)))); (try clear fs))
    refine (alive5_N _).mono ?_; rintro d _ ⟨rfl, rfl⟩
    (have fs := @i64.eq_1; (repeat (first | refine hGx _ ?_ | refine hNx _ ?_ | refine W_skip ?_ | refine W_exit ?_ | refine W_ret ?_ | refine W_label ?_ | refine W_scope ?_ | refine W_block ?_ | refine W_seq ?_ | ((first | refine tS fun N hNx => ?_ | refine WL_gE rfl rfl (by kernel_rfl) (by kernel_rfl) fun G hGx => ?_ | refine vcOpsS_sound (by kernel_rfl) ?_ | refine W_ifE fun A B hAx hBx => ?_); refine evT ?_; (first | refine hGx _ ?_ | refine hNx _ ?_ | refine hAx ?_ | refine hBx ?_ | skip)))); (try clear fs))
    (first | (show Q .ret _) | (show Q .normal _) | skip); refine hret _ _ (by first | exact .inr rfl | exact .inl rfl) (by first | rfl | assumption | (simp only [put_df, withH_df]; assumption)) ?_; have fs := @i64.eq_1; refine evT ?_; clear fs
    exact ⟨_, Heap.le_refl _⟩
  rw [decide_eq_false hlg]
  obtain ⟨h1, h2, h3⟩ := tlen_small (l := l) (by omega)
  (have fs := @i64.eq_1; (repeat (first | refine hGx _ ?_ | refine hNx _ ?_ | refine W_skip ?_ | refine W_exit ?_ | refine W_ret ?_ | refine W_label ?_ | refine W_scope ?_ | refine W_block ?_ | refine W_seq ?_ | ((first | refine tS fun N hNx => ?_ | refine WL_gE rfl rfl (by kernel_rfl) (by kernel_rfl) fun G hGx => ?_ | refine vcOpsS_sound (by kernel_rfl) ?_ | refine W_ifE fun A B hAx hBx => ?_); refine evT ?_; (first | refine hGx _ ?_ | refine hNx _ ?_ | refine hAx ?_ | refine hBx ?_ | skip)))); (try clear fs))
  refine (new_N l _ (by omega) hs).mono ?_
  rintro d _ ⟨rfl, rfl⟩
  by_cases hok : ∀ s ∈ l, isId s = true
  case neg =>
    have hd : newD l = .tup [nilP, i64 12] := if_neg hok
    have hd2 : knewD l = .tup [.val (.slice none 0 0), i64 12] := if_neg hok
    rw [hd]
    (have fs := And.intro @i64.eq_1 @nilP.eq_1; (repeat (first | refine hGx _ ?_ | refine hNx _ ?_ | refine W_skip ?_ | refine W_exit ?_ | refine W_ret ?_ | refine W_label ?_ | refine W_scope ?_ | refine W_block ?_ | refine W_seq ?_ | ((first | refine tS fun N hNx => ?_ | refine WL_gE rfl rfl (by kernel_rfl) (by kernel_rfl) fun G hGx => ?_ | refine vcOpsS_sound (by kernel_rfl) ?_ | refine W_ifE fun A B hAx hBx => ?_); refine evT ?_; (first | refine hGx _ ?_ | refine hNx _ ?_ | refine hAx ?_ | refine hBx ?_ | skip)))); (try clear fs))
    refine (knew_N l _ (by omega) hs).mono ?_
    rintro d _ ⟨rfl, rfl⟩
    rw [hd2]
    (have fs := @i64.eq_1; (repeat (first | refine hGx _ ?_ | refine hNx _ ?_ | refine W_skip ?_ | refine W_exit ?_ | refine W_ret ?_ | refine W_label ?_ | refine W_scope ?_ | refine W_block ?_ | refine W_seq ?_ | ((first | refine tS fun N hNx => ?_ | refine WL_gE rfl rfl (by kernel_rfl) (by kernel_rfl) fun G hGx => ?_ | refine vcOpsS_sound (by kernel_rfl) ?_ | refine W_ifE fun A B hAx hBx => ?_); refine evT ?_; (first | refine hGx _ ?_ | refine hNx _ ?_ | refine hAx ?_ | refine hBx ?_ | skip)))); (try clear fs))
    refine (alive5_N _).mono ?_; rintro d _ ⟨rfl, rfl⟩
    (first | refine hGx _ ?_ | refine hNx _ ?_ | skip)
    (have fs := @i64.eq_1; (repeat (first | refine hGx _ ?_ | refine hNx _ ?_ | refine W_skip ?_ | refine W_exit ?_ | refine W_ret ?_ | refine W_label ?_ | refine W_scope ?_ | refine W_block ?_ | refine W_seq ?_ | ((first | refine tS fun N hNx => ?_ | refine WL_gE rfl rfl (by kernel_rfl) (by kernel_rfl) fun G hGx => ?_ | refine vcOpsS_sound (by kernel_rfl) ?_ | refine W_ifE fun A B hAx hBx => ?_); refine evT ?_; (first | refine hGx _ ?_ | refine hNx _ ?_ | refine hAx ?_ | refine hBx ?_ | skip)))); (try clear fs))
    (first | (show Q .ret _) | (show Q .normal _) | skip); refine hret _ _ (by first | exact .inr rfl | exact .inl rfl) (by first | rfl | assumption | (simp only [put_df, withH_df]; assumption)) ?_; have fs := @i64.eq_1; refine evT ?_; clear fs
    exact ⟨_, Heap.le_refl _⟩
  have hd : newD l = .tup [tabD (insAll l), i64 0] := if_pos hok
  rw [hd]
  obtain ⟨t, ht⟩ : ∃ t, t = insAll l := ⟨_, rfl⟩
  have hst := insAll_strict l
  have htl := insAll_len l
  have htm : ∀ x, x ∈ insAll l ↔ x ∈ l := fun x => insAll_mem
  rw [← ht] at hst htl htm ⊢
  have hbt : bsum t ≤ 200000000 := bsum_le (m := 8000) (fun s hs => h3 s ((htm s).1 hs)) (by omega)
  (have fs := And.intro @i64.eq_1 @tabD.eq_1; (repeat (first | refine hGx _ ?_ | refine hNx _ ?_ | refine W_skip ?_ | refine W_exit ?_ | refine W_ret ?_ | refine W_label ?_ | refine W_scope ?_ | refine W_block ?_ | refine W_seq ?_ | ((first | refine tS fun N hNx => ?_ | refine WL_gE rfl rfl (by kernel_rfl) (by kernel_rfl) fun G hGx => ?_ | refine vcOpsS_sound (by kernel_rfl) ?_ | refine W_ifE fun A B hAx hBx => ?_); refine evT ?_; (first | refine hGx _ ?_ | refine hNx _ ?_ | refine hAx ?_ | refine hBx ?_ | skip)))); (try clear fs))
  refine (encode_S t _ (by omega) (by omega)).mono ?_
  rintro d _ ⟨rfl, rfl⟩
  (have fs := @i64.eq_1; (repeat (first | refine hGx _ ?_ | refine hNx _ ?_ | refine W_skip ?_ | refine W_exit ?_ | refine W_ret ?_ | refine W_label ?_ | refine W_scope ?_ | refine W_block ?_ | refine W_seq ?_ | ((first | refine tS fun N hNx => ?_ | refine WL_gE rfl rfl (by kernel_rfl) (by kernel_rfl) fun G hGx => ?_ | refine vcOpsS_sound (by kernel_rfl) ?_ | refine W_ifE fun A B hAx hBx => ?_); refine evT ?_; (first | refine hGx _ ?_ | refine hNx _ ?_ | refine hAx ?_ | refine hBx ?_ | skip)))); (try clear fs))
  refine (decode_N t _ (by omega) (by omega) hst (fun s hs => hok s ((htm s).1 hs))).mono ?_
  rintro d _ ⟨rfl, rfl⟩
  (have fs := And.intro @i64.eq_1 @tabD.eq_1; (repeat (first | refine hGx _ ?_ | refine hNx _ ?_ | refine W_skip ?_ | refine W_exit ?_ | refine W_ret ?_ | refine W_label ?_ | refine W_scope ?_ | refine W_block ?_ | refine W_seq ?_ | ((first | refine tS fun N hNx => ?_ | refine WL_gE rfl rfl (by kernel_rfl) (by kernel_rfl) fun G hGx => ?_ | refine vcOpsS_sound (by kernel_rfl) ?_ | refine W_ifE fun A B hAx hBx => ?_); refine evT ?_; (first | refine hGx _ ?_ | refine hNx _ ?_ | refine hAx ?_ | refine hBx ?_ | skip)))); (try clear fs))
  refine (alive5_N _).mono ?_; rintro d _ ⟨rfl, rfl⟩
  (first | refine hGx _ ?_ | refine hNx _ ?_ | skip)
  (have fs := @i64.eq_1; (repeat (first | refine hGx _ ?_ | refine hNx _ ?_ | refine W_skip ?_ | refine W_exit ?_ | refine W_ret ?_ | refine W_label ?_ | refine W_scope ?_ | refine W_block ?_ | refine W_seq ?_ | ((first | refine tS fun N hNx => ?_ | refine WL_gE rfl rfl (by kernel_rfl) (by kernel_rfl) fun G hGx => ?_ | refine vcOpsS_sound (by kernel_rfl) ?_ | refine W_ifE fun A B hAx hBx => ?_); refine evT ?_; (first | refine hGx _ ?_ | refine hNx _ ?_ | refine hAx ?_ | refine hBx ?_ | skip)))); (try clear fs))
  refine (list_N t _ (by omega)).mono ?_
  rintro d _ ⟨rfl, rfl⟩
  (first | refine hGx _ ?_ | refine hNx _ ?_ | skip)
  (have fs := @i64.eq_1; (repeat (first | refine hGx _ ?_ | refine hNx _ ?_ | refine W_skip ?_ | refine W_exit ?_ | refine W_ret ?_ | refine W_label ?_ | refine W_scope ?_ | refine W_block ?_ | refine W_seq ?_ | ((first | refine tS fun N hNx => ?_ | refine WL_gE rfl rfl (by kernel_rfl) (by kernel_rfl) fun G hGx => ?_ | refine vcOpsS_sound (by kernel_rfl) ?_ | refine W_ifE fun A B hAx hBx => ?_); refine evT ?_; (first | refine hGx _ ?_ | refine hNx _ ?_ | refine hAx ?_ | refine hBx ?_ | skip)))); (try clear fs))
  refine (list_N t _ (by omega)).mono ?_
  rintro d _ ⟨rfl, rfl⟩
  (first | refine hGx _ ?_ | refine hNx _ ?_ | skip)
  (have fs := @i64.eq_1; (repeat (first | refine hGx _ ?_ | refine hNx _ ?_ | refine W_skip ?_ | refine W_exit ?_ | refine W_ret ?_ | refine W_label ?_ | refine W_scope ?_ | refine W_block ?_ | refine W_seq ?_ | ((first | refine tS fun N hNx => ?_ | refine WL_gE rfl rfl (by kernel_rfl) (by kernel_rfl) fun G hGx => ?_ | refine vcOpsS_sound (by kernel_rfl) ?_ | refine W_ifE fun A B hAx hBx => ?_); refine evT ?_; (first | refine hGx _ ?_ | refine hNx _ ?_ | refine hAx ?_ | refine hBx ?_ | skip)))); (try clear fs))
  refine (equalS_at _ t t (by unfold big; omega)).mono ?_
  rintro d _ ⟨rfl, rfl⟩
  rw [decide_eq_true rfl]
  (first | refine hGx _ ?_ | refine hNx _ ?_ | skip)
  (have fs := @i64.eq_1; (repeat (first | refine hGx _ ?_ | refine hNx _ ?_ | refine W_skip ?_ | refine W_exit ?_ | refine W_ret ?_ | refine W_label ?_ | refine W_scope ?_ | refine W_block ?_ | refine W_seq ?_ | ((first | refine tS fun N hNx => ?_ | refine WL_gE rfl rfl (by kernel_rfl) (by kernel_rfl) fun G hGx => ?_ | refine vcOpsS_sound (by kernel_rfl) ?_ | refine W_ifE fun A B hAx hBx => ?_); refine evT ?_; (first | refine hGx _ ?_ | refine hNx _ ?_ | refine hAx ?_ | refine hBx ?_ | skip)))); (try clear fs))
  refine (len_N t _).mono ?_
  rintro d _ ⟨rfl, rfl⟩
  (first | refine hGx _ ?_ | refine hNx _ ?_ | skip)
  (have fs := @i64.eq_1; (repeat (first | refine hGx _ ?_ | refine hNx _ ?_ | refine W_skip ?_ | refine W_exit ?_ | refine W_ret ?_ | refine W_label ?_ | refine W_scope ?_ | refine W_block ?_ | refine W_seq ?_ | ((first | refine tS fun N hNx => ?_ | refine WL_gE rfl rfl (by kernel_rfl) (by kernel_rfl) fun G hGx => ?_ | refine vcOpsS_sound (by kernel_rfl) ?_ | refine W_ifE fun A B hAx hBx => ?_); refine evT ?_; (first | refine hGx _ ?_ | refine hNx _ ?_ | refine hAx ?_ | refine hBx ?_ | skip)))); (try clear fs))
  refine (len_N t _).mono ?_
  rintro d _ ⟨rfl, rfl⟩
  have em : ((t.length : Int) = (t.length : Int)) = True := eq_true rfl
  (first | refine hGx _ ?_ | refine hNx _ ?_ | skip)
  (have fs := And.intro @i64.eq_1 em; (repeat (first | refine hGx _ ?_ | refine hNx _ ?_ | refine W_skip ?_ | refine W_exit ?_ | refine W_ret ?_ | refine W_label ?_ | refine W_scope ?_ | refine W_block ?_ | refine W_seq ?_ | ((first | refine tS fun N hNx => ?_ | refine WL_gE rfl rfl (by kernel_rfl) (by kernel_rfl) fun G hGx => ?_ | refine vcOpsS_sound (by kernel_rfl) ?_ | refine W_ifE fun A B hAx hBx => ?_); refine evT ?_; (first | refine hGx _ ?_ | refine hNx _ ?_ | refine hAx ?_ | refine hBx ?_ | skip)))); (try clear fs))
  (first | (show Q .ret _) | (show Q .normal _) | skip); refine hret _ _ (by first | exact .inr rfl | exact .inl rfl) (by first | rfl | assumption | (simp only [put_df, withH_df]; assumption)) ?_; have fs := @i64.eq_1; refine evT ?_; clear fs
  exact ⟨_, Heap.le_refl _⟩
theorem InternRoundTrip_walk (x0 : X) (v0 : Value) (w : World) (o0 : DT.ok (DT.slice 1 16 (DT.string)) x0) (i0 : D.is w Heap.none.others x0.d v0) :
    Calls Tryd.prog 7 #[v0] w fun e w' => e = .returned (.bool true) ∧ Below w.heap.size w w' := by
  obtain ⟨l, hx, hl, hs⟩ := ok_strs o0 (by decide)
  rw [hx] at i0
  exact walk_of (lround_N l hl hs) ⟨_, _, rfl, i0, rfl⟩
theorem rput_S (n : Nat) (H : Heap) (hn : n < 18446744073709551616) : Does Tryd.prog 59 [.val (.int .u64 n)] H fun d H' => d = .seq 1 ((put n).map bD) ∧ H = H' :=
  (rput_N n H hn).seqOut fun d H' ⟨b, o, hb, h1, h2⟩ => .inr (.inl ⟨b, o, _, hb, by rw [List.length_map]; exact h1, h2⟩)
theorem rInt_S (n : Int) (H : Heap) (hn : -9223372036854775808 ≤ n ∧ n ≤ 9223372036854775807) : Does Tryd.prog 36 [.val (.int .i64 n)] H fun d H' => d = .seq 1 ((put (zz n).toNat).map bD) ∧ H = H' := by
  have hz := zz_range n hn
  refine does_of _ _ Tryd.func36 rfl rfl Tryd.ntmps36 Tryd.results36 (by simp only [List.length_cons, List.length_nil]; omega) fun w0 Q hret => ?_
  (repeat (first | refine W_seq ?_ | refine W_block ?_ | refine W_skip ?_ | refine W_exit ?_ | refine W_ret ?_ | refine W_label ?_ | ((first | refine W_ops (by kernel_rfl) ?_ | refine W_if ?_ | refine WL_go (by kernel_rfl) (by kernel_rfl) ?_); simp (maxSteps := 4000000) only [vB, vT, vZ, vcOps, isCall, mmV, lkV, muV, keyVal, keyVals, mget_nil, ↓selV_eq, eqK, stepOp, clV, biV, bnU, nilU, binV, bInt, bStr, bNilP, bNilS, bNilM, nilOp, D.nilPtr, D.nilSl, D.nilMap, isBoolTy, unV, cwV, cvV, elsP, partV, fieldsOf, fieldV, faV, iaV, ixV, ldC, ldV, stV, D.cells, putAt, bxV, alV, bldD, placesOf, allSized, bdV, bsV, rowsD, mkV, bdN, slV, newsP, TD.notInt, TD.agg, azV, clrV, cpyV, cpV, lenV, minV, maxV, ncV, exV, condV, retV, thenQ, blockQ, Value.oneCell', forall_const, true_implies, ne_eq, reduceCtorEq, false_implies, eq_self, if_true, if_false, ↓reduceIte, Nat.reduceEqDiff, Int.reduceLE, Int.reduceLT, Int.reduceNeg, Int.reduceToNat, Nat.reduceAdd, Nat.reduceMul, Nat.reduceLeDiff, Nat.reduceMod, Nat.reduceSub, Int.reduceEq, Int.reduceNe, Int.reduceAdd, Int.reduceSub, Int.reduceMul, implies_true, apV])))
  refine (pure_D (rzig_N n hn) rfl (vws1 (vw_refl _ _))).mono ?_
  rintro d _ ⟨rfl, rfl⟩
  rw [show zz n = ((zz n).toNat : Int) by omega]
  (repeat (first | refine W_seq ?_ | refine W_block ?_ | refine W_skip ?_ | refine W_exit ?_ | refine W_ret ?_ | refine W_label ?_ | ((first | refine W_ops (by kernel_rfl) ?_ | refine W_if ?_ | refine WL_go (by kernel_rfl) (by kernel_rfl) ?_); simp (maxSteps := 4000000) only [vB, vT, vZ, vcOps, isCall, mmV, lkV, muV, keyVal, keyVals, mget_nil, ↓selV_eq, eqK, stepOp, clV, biV, bnU, nilU, binV, bInt, bStr, bNilP, bNilS, bNilM, nilOp, D.nilPtr, D.nilSl, D.nilMap, isBoolTy, unV, cwV, cvV, elsP, partV, fieldsOf, fieldV, faV, iaV, ixV, ldC, ldV, stV, D.cells, putAt, bxV, alV, bldD, placesOf, allSized, bdV, bsV, rowsD, mkV, bdN, slV, newsP, TD.notInt, TD.agg, azV, clrV, cpyV, cpV, lenV, minV, maxV, ncV, exV, condV, retV, thenQ, blockQ, Value.oneCell', forall_const, true_implies, ne_eq, reduceCtorEq, false_implies, eq_self, if_true, if_false, ↓reduceIte, Nat.reduceEqDiff, Int.reduceLE, Int.reduceLT, Int.reduceNeg, Int.reduceToNat, Nat.reduceAdd, Nat.reduceMul, Nat.reduceLeDiff, Nat.reduceMod, Nat.reduceSub, Int.reduceEq, Int.reduceNe, Int.reduceAdd, Int.reduceSub, Int.reduceMul, implies_true, apV])))
  refine (rput_S (zz n).toNat _ (by omega)).mono ?_
  rintro d _ ⟨rfl, rfl⟩
  (repeat (first | refine W_seq ?_ | refine W_block ?_ | refine W_skip ?_ | refine W_exit ?_ | refine W_ret ?_ | refine W_label ?_ | ((first | refine W_ops (by kernel_rfl) ?_ | refine W_if ?_ | refine WL_go (by kernel_rfl) (by kernel_rfl) ?_); simp (maxSteps := 4000000) only [vB, vT, vZ, vcOps, isCall, mmV, lkV, muV, keyVal, keyVals, mget_nil, ↓selV_eq, eqK, stepOp, clV, biV, bnU, nilU, binV, bInt, bStr, bNilP, bNilS, bNilM, nilOp, D.nilPtr, D.nilSl, D.nilMap, isBoolTy, unV, cwV, cvV, elsP, partV, fieldsOf, fieldV, faV, iaV, ixV, ldC, ldV, stV, D.cells, putAt, bxV, alV, bldD, placesOf, allSized, bdV, bsV, rowsD, mkV, bdN, slV, newsP, TD.notInt, TD.agg, azV, clrV, cpyV, cpV, lenV, minV, maxV, ncV, exV, condV, retV, thenQ, blockQ, Value.oneCell', forall_const, true_implies, ne_eq, reduceCtorEq, false_implies, eq_self, if_true, if_false, ↓reduceIte, Nat.reduceEqDiff, Int.reduceLE, Int.reduceLT, Int.reduceNeg, Int.reduceToNat, Nat.reduceAdd, Nat.reduceMul, Nat.reduceLeDiff, Nat.reduceMod, Nat.reduceSub, Int.reduceEq, Int.reduceNe, Int.reduceAdd, Int.reduceSub, Int.reduceMul, implies_true, apV])))
  refine hret _ _ (by first | exact .inr rfl | exact .inl rfl) rfl ?_; simp (maxSteps := 4000000) only [vB, vT, vZ, vcOps, isCall, mmV, lkV, muV, keyVal, keyVals, mget_nil, ↓selV_eq, eqK, stepOp, clV, biV, bnU, nilU, binV, bInt, bStr, bNilP, bNilS, bNilM, nilOp, D.nilPtr, D.nilSl, D.nilMap, isBoolTy, unV, cwV, cvV, elsP, partV, fieldsOf, fieldV, faV, iaV, ixV, ldC, ldV, stV, D.cells, putAt, bxV, alV, bldD, placesOf, allSized, bdV, bsV, rowsD, mkV, bdN, slV, newsP, TD.notInt, TD.agg, azV, clrV, cpyV, cpV, lenV, minV, maxV, ncV, exV, condV, retV, thenQ, blockQ, Value.oneCell', forall_const, true_implies, ne_eq, reduceCtorEq, false_implies, eq_self, if_true, if_false, ↓reduceIte, Nat.reduceEqDiff, Int.reduceLE, Int.reduceLT, Int.reduceNeg, Int.reduceToNat, Nat.reduceAdd, Nat.reduceMul, Nat.reduceLeDiff, Nat.reduceMod, Nat.reduceSub, Int.reduceEq, Int.reduceNe, Int.reduceAdd, Int.reduceSub, Int.reduceMul, implies_true, apV]
  exact ⟨_, Heap.le_refl _, by first | rfl | trivial | exact ⟨rfl, rfl⟩⟩
theorem rStr_S (s : List UInt8) (H : Heap) (hs : s.length ≤ 140737488351232) : Does Tryd.prog 38 [.val (.string (bstr s))] H fun d H' => d = .seq 1 ((put s.length ++ s).map bD) ∧ H = H' := by
  have hp := put_length s.length (by omega)
  have hw : IntKind.u64.wrap (s.length : Int) = s.length := wrap_u64_of (by omega)
  refine Does.mono (Does.seqO (J := fun H' => H = H') (sz := 1) (els := (put s.length ++ s).map bD) ?_) fun d H' h => h
  refine does_of _ _ Tryd.func38 rfl rfl Tryd.ntmps38 Tryd.results38 (by simp only [List.length_cons, List.length_nil]; omega) fun w0 Q hret => ?_
  (repeat (first | refine W_seq ?_ | refine W_block ?_ | refine W_skip ?_ | refine W_exit ?_ | refine W_ret ?_ | refine W_label ?_ | ((first | refine W_ops (by kernel_rfl) ?_ | refine W_if ?_ | refine WL_go (by kernel_rfl) (by kernel_rfl) ?_); simp (maxSteps := 4000000) only [vX, vB, vT, vZ, vcOps, isCall, mmV, lkV, muV, keyVal, keyVals, mget_nil, ↓selV_eq, eqK, stepOp, clV, biV, bnU, nilU, binV, bInt, bStr, bNilP, bNilS, bNilM, nilOp, D.nilPtr, D.nilSl, D.nilMap, isBoolTy, unV, cwV, cvV, elsP, partV, fieldsOf, fieldV, faV, iaV, ixV, ldC, ldV, stV, D.cells, putAt, bxV, alV, bldD, placesOf, allSized, bdV, bsV, rowsD, mkV, bdN, slV, newsP, TD.notInt, TD.agg, azV, clrV, cpyV, cpV, lenV, minV, maxV, ncV, exV, condV, retV, thenQ, blockQ, Value.oneCell', forall_const, true_implies, ne_eq, reduceCtorEq, false_implies, eq_self, if_true, if_false, ↓reduceIte, Nat.reduceEqDiff, Int.reduceLE, Int.reduceLT, Int.reduceNeg, Int.reduceToNat, Nat.reduceAdd, Nat.reduceMul, Nat.reduceLeDiff, Nat.reduceMod, Nat.reduceSub, Int.reduceEq, Int.reduceNe, Int.reduceAdd, Int.reduceSub, Int.reduceMul, implies_true, apV, hw])))
  refine (rput_N s.length _ (by omega)).mono ?_
  rintro d _ ⟨b, o, hb, rfl, rfl⟩
  (repeat (first | refine W_seq ?_ | refine W_block ?_ | refine W_skip ?_ | refine W_exit ?_ | refine W_ret ?_ | refine W_label ?_ | ((first | refine W_ops (by kernel_rfl) ?_ | refine W_if ?_ | refine WL_go (by kernel_rfl) (by kernel_rfl) ?_); simp (maxSteps := 4000000) only [vX, vB, vT, vZ, vcOps, isCall, mmV, lkV, muV, keyVal, keyVals, mget_nil, ↓selV_eq, eqK, stepOp, clV, biV, bnU, nilU, binV, bInt, bStr, bNilP, bNilS, bNilM, nilOp, D.nilPtr, D.nilSl, D.nilMap, isBoolTy, unV, cwV, cvV, elsP, partV, fieldsOf, fieldV, faV, iaV, ixV, ldC, ldV, stV, D.cells, putAt, bxV, alV, bldD, placesOf, allSized, bdV, bsV, rowsD, mkV, bdN, slV, newsP, TD.notInt, TD.agg, azV, clrV, cpyV, cpV, lenV, minV, maxV, ncV, exV, condV, retV, thenQ, blockQ, Value.oneCell', forall_const, true_implies, ne_eq, reduceCtorEq, false_implies, eq_self, if_true, if_false, ↓reduceIte, Nat.reduceEqDiff, Int.reduceLE, Int.reduceLT, Int.reduceNeg, Int.reduceToNat, Nat.reduceAdd, Nat.reduceMul, Nat.reduceLeDiff, Nat.reduceMod, Nat.reduceSub, Int.reduceEq, Int.reduceNe, Int.reduceAdd, Int.reduceSub, Int.reduceMul, implies_true, apV, hw])))
  refine ⟨by omega, fun b2 o2 hb2 => ?_⟩
  rw [Heap.del_none hb] at hb2 ⊢
  (repeat (first | refine W_seq ?_ | refine W_block ?_ | refine W_skip ?_ | refine W_exit ?_ | refine W_ret ?_ | refine W_label ?_ | ((first | refine W_ops (by kernel_rfl) ?_ | refine W_if ?_ | refine WL_go (by kernel_rfl) (by kernel_rfl) ?_); simp (maxSteps := 4000000) only [vX, vB, vT, vZ, vcOps, isCall, mmV, lkV, muV, keyVal, keyVals, mget_nil, ↓selV_eq, eqK, stepOp, clV, biV, bnU, nilU, binV, bInt, bStr, bNilP, bNilS, bNilM, nilOp, D.nilPtr, D.nilSl, D.nilMap, isBoolTy, unV, cwV, cvV, elsP, partV, fieldsOf, fieldV, faV, iaV, ixV, ldC, ldV, stV, D.cells, putAt, bxV, alV, bldD, placesOf, allSized, bdV, bsV, rowsD, mkV, bdN, slV, newsP, TD.notInt, TD.agg, azV, clrV, cpyV, cpV, lenV, minV, maxV, ncV, exV, condV, retV, thenQ, blockQ, Value.oneCell', forall_const, true_implies, ne_eq, reduceCtorEq, false_implies, eq_self, if_true, if_false, ↓reduceIte, Nat.reduceEqDiff, Int.reduceLE, Int.reduceLT, Int.reduceNeg, Int.reduceToNat, Nat.reduceAdd, Nat.reduceMul, Nat.reduceLeDiff, Nat.reduceMod, Nat.reduceSub, Int.reduceEq, Int.reduceNe, Int.reduceAdd, Int.reduceSub, Int.reduceMul, implies_true, apV, hw])))
  refine hret _ _ (by first | exact .inr rfl | exact .inl rfl) (by first | rfl | assumption | (simp only [put_df, withH_df]; assumption)) ?_; simp (maxSteps := 4000000) only [vX, vB, vT, vZ, vcOps, isCall, mmV, lkV, muV, keyVal, keyVals, mget_nil, ↓selV_eq, eqK, stepOp, clV, biV, bnU, nilU, binV, bInt, bStr, bNilP, bNilS, bNilM, nilOp, D.nilPtr, D.nilSl, D.nilMap, isBoolTy, unV, cwV, cvV, elsP, partV, fieldsOf, fieldV, faV, iaV, ixV, ldC, ldV, stV, D.cells, putAt, bxV, alV, bldD, placesOf, allSized, bdV, bsV, rowsD, mkV, bdN, slV, newsP, TD.notInt, TD.agg, azV, clrV, cpyV, cpV, lenV, minV, maxV, ncV, exV, condV, retV, thenQ, blockQ, Value.oneCell', forall_const, true_implies, ne_eq, reduceCtorEq, false_implies, eq_self, if_true, if_false, ↓reduceIte, Nat.reduceEqDiff, Int.reduceLE, Int.reduceLT, Int.reduceNeg, Int.reduceToNat, Nat.reduceAdd, Nat.reduceMul, Nat.reduceLeDiff, Nat.reduceMod, Nat.reduceSub, Int.reduceEq, Int.reduceNe, Int.reduceAdd, Int.reduceSub, Int.reduceMul, implies_true, apV, hw]
  exact ⟨_, Heap.le_refl _, H, rfl, .inr (.inr (.inl ⟨b2, o2, _, hb2, by rw [List.length_map, List.length_append], by rw [List.map_append]⟩))⟩
/-- The reference's Int, in a row of one's own. -/
theorem rInt_R (n : Int) (H : Heap) (hn : -9223372036854775808 ≤ n ∧ n ≤ 9223372036854775807) : Does Tryd.prog 36 [i64 n] H (PutR (zz n).toNat H) := by
  have hz := zz_range n hn
  refine does_of _ _ Tryd.func36 rfl rfl Tryd.ntmps36 Tryd.results36 (by simp only [List.length_cons, List.length_nil]; omega) fun w0 Q hret => ?_
  (have fs := @i64.eq_1; (repeat (first | refine hGx _ ?_ | refine hNx _ ?_ | refine W_skip ?_ | refine W_exit ?_ | refine W_ret ?_ | refine W_label ?_ | refine W_scope ?_ | refine W_block ?_ | refine W_seq ?_ | ((first | refine tS fun N hNx => ?_ | refine WL_gE rfl rfl (by kernel_rfl) (by kernel_rfl) fun G hGx => ?_ | refine vcOpsS_sound (by kernel_rfl) ?_ | refine W_ifE fun A B hAx hBx => ?_); refine evT ?_; (first | refine hGx _ ?_ | refine hNx _ ?_ | refine hAx ?_ | refine hBx ?_ | skip)))); (try clear fs))
  refine (pure_D (rzig_N n hn) rfl (vws1 (vw_refl _ _))).mono ?_
  rintro d _ ⟨rfl, rfl⟩
  rw [show zz n = ((zz n).toNat : Int) by omega]
  (have fs := @i64.eq_1; (repeat (first | refine hGx _ ?_ | refine hNx _ ?_ | refine W_skip ?_ | refine W_exit ?_ | refine W_ret ?_ | refine W_label ?_ | refine W_scope ?_ | refine W_block ?_ | refine W_seq ?_ | ((first | refine tS fun N hNx => ?_ | refine WL_gE rfl rfl (by kernel_rfl) (by kernel_rfl) fun G hGx => ?_ | refine vcOpsS_sound (by kernel_rfl) ?_ | refine W_ifE fun A B hAx hBx => ?_); refine evT ?_; (first | refine hGx _ ?_ | refine hNx _ ?_ | refine hAx ?_ | refine hBx ?_ | skip)))); (try clear fs))
  refine (rput_N (zz n).toNat _ (by omega)).mono ?_
  rintro d H1 ⟨b, o, hb, rfl, rfl⟩
  (have fs := @i64.eq_1; (repeat (first | refine hGx _ ?_ | refine hNx _ ?_ | refine W_skip ?_ | refine W_exit ?_ | refine W_ret ?_ | refine W_label ?_ | refine W_scope ?_ | refine W_block ?_ | refine W_seq ?_ | ((first | refine tS fun N hNx => ?_ | refine WL_gE rfl rfl (by kernel_rfl) (by kernel_rfl) fun G hGx => ?_ | refine vcOpsS_sound (by kernel_rfl) ?_ | refine W_ifE fun A B hAx hBx => ?_); refine evT ?_; (first | refine hGx _ ?_ | refine hNx _ ?_ | refine hAx ?_ | refine hBx ?_ | skip)))); (try clear fs))
  (first | (show Q .ret _) | (show Q .normal _) | skip); refine hret _ _ (by first | exact .inr rfl | exact .inl rfl) (by first | rfl | assumption | (simp only [put_df, withH_df]; assumption)) ?_; have fs := @i64.eq_1; refine evT ?_; clear fs
  exact ⟨_, Heap.le_refl _, b, o, hb, rfl, rfl⟩
theorem PutR.seq {P : Program} {f : FuncId} {ds : List D} {n : Nat} {H : Heap} (h : Does P f ds H (PutR n H)) : Does P f ds H fun d H' => d = .seq 1 ((put n).map bD) ∧ H = H' :=
  h.seqOut fun d H' ⟨b, o, hb, h1, h2⟩ => .inr (.inl ⟨b, o, _, hb, by rw [List.length_map]; exact h1, h2⟩)
theorem kcnt_D (k : Nat) : ∀ (n : Nat) (H : Heap), n < 128 ^ k → n ≤ 1000000000 → Does Tryd.prog 37 [i64 n] H (PutR n H) := by
  have small : ∀ (n : Nat) (H : Heap), n < 128 → Does Tryd.prog 37 [i64 n] H (PutR n H) := by
    intro n H hn
    have p1 : ((n : Int) < 128) = True := eq_true (by omega)
    have hw : IntKind.u8.wrap (n : Int) = ((UInt8.ofNat n).toNat : Int) := by rw [wrap_u8_mod, UInt8.toNat_ofNat']; omega
    refine does_of _ _ Tryd.func37 rfl rfl Tryd.ntmps37 Tryd.results37 (by simp only [List.length_cons, List.length_nil]; omega) fun w0 Q hret => ?_
    (have fs := And.intro @i64.eq_1 (And.intro p1 hw); (repeat (first | refine hGx _ ?_ | refine hNx _ ?_ | refine W_skip ?_ | refine W_exit ?_ | refine W_ret ?_ | refine W_label ?_ | refine W_scope ?_ | refine W_block ?_ | refine W_seq ?_ | ((first | refine tT fun N hNx => ?_ | refine WL_gO rfl rfl (by kernel_rfl) (by kernel_rfl) fun G hGx => ?_ | refine vcOpsT_sound (by kernel_rfl) ?_ | refine W_ifE fun A B hAx hBx => ?_); refine evT ?_; (first | refine hGx _ ?_ | refine hNx _ ?_ | refine hAx ?_ | refine hBx ?_ | skip)))); (try clear fs))
    intro b hb
    (have fs := @i64.eq_1; (repeat (first | refine hGx _ ?_ | refine hNx _ ?_ | refine W_skip ?_ | refine W_exit ?_ | refine W_ret ?_ | refine W_label ?_ | refine W_scope ?_ | refine W_block ?_ | refine W_seq ?_ | ((first | refine tT fun N hNx => ?_ | refine WL_gO rfl rfl (by kernel_rfl) (by kernel_rfl) fun G hGx => ?_ | refine vcOpsT_sound (by kernel_rfl) ?_ | refine W_ifE fun A B hAx hBx => ?_); refine evT ?_; (first | refine hGx _ ?_ | refine hNx _ ?_ | refine hAx ?_ | refine hBx ?_ | skip)))); (try clear fs))
    (first | (show Q .ret _) | (show Q .normal _) | skip); refine hret _ _ (by first | exact .inr rfl | exact .inl rfl) (by first | rfl | assumption | (simp only [put_df, withH_df]; assumption)) ?_; have fs := @i64.eq_1; refine evT ?_; clear fs
    exact ⟨_, Heap.le_refl _, b, 0, hb, by rw [put_small n hn]; rfl, by rw [put_small n hn]; rfl⟩
  induction k with
  | zero => exact fun n H hk _ => small n H (by omega)
  | succ k ih =>
    intro n H hk hn
    by_cases h128 : n < 128
    · exact small n H h128
    · have p1 : ((n : Int) < 128) = False := eq_false (by omega)
      have e1 : (n : Int).tdiv 128 = ((n / 128 : Nat) : Int) := by
        rw [Int.tdiv_eq_ediv_of_nonneg (by omega)]; omega
      have e0 : (n : Int).tmod 128 = ((n % 128 : Nat) : Int) := by
        rw [Int.tmod_eq_emod_of_nonneg (by omega)]; omega
      have e2 : IntKind.i64.wrap (((n % 128 : Nat) : Int) + 128) = ((n % 128 + 128 : Nat) : Int) := by rw [wrap_i64_of (by omega)]; omega
      have e3 : IntKind.u8.wrap ((n % 128 + 128 : Nat) : Int) = ((UInt8.ofNat (n % 128 + 128)).toNat : Int) := by
        rw [wrap_u8_mod, UInt8.toNat_ofNat']; omega
      have e4 : IntKind.i64.wrap ((n / 128 : Nat) : Int) = ((n / 128 : Nat) : Int) := wrap_i64_of (by omega)
      have e5 : ((128 : Int) = 0) = False := eq_false (by decide)
      refine does_of _ _ Tryd.func37 rfl rfl Tryd.ntmps37 Tryd.results37 (by simp only [List.length_cons, List.length_nil]; omega) fun w0 Q hret => ?_
      (have fs := And.intro @i64.eq_1 (And.intro p1 (And.intro e0 (And.intro e1 (And.intro e2 (And.intro e3 (And.intro e4 e5)))))); (repeat (first | refine hGx _ ?_ | refine hNx _ ?_ | refine W_skip ?_ | refine W_exit ?_ | refine W_ret ?_ | refine W_label ?_ | refine W_scope ?_ | refine W_block ?_ | refine W_seq ?_ | ((first | refine tT fun N hNx => ?_ | refine WL_gO rfl rfl (by kernel_rfl) (by kernel_rfl) fun G hGx => ?_ | refine vcOpsT_sound (by kernel_rfl) ?_ | refine W_ifE fun A B hAx hBx => ?_); refine evT ?_; (first | refine hGx _ ?_ | refine hNx _ ?_ | refine hAx ?_ | refine hBx ?_ | skip)))); (try clear fs))
      intro b hb
      (have fs := And.intro @i64.eq_1 (And.intro p1 (And.intro e0 (And.intro e1 (And.intro e2 (And.intro e3 (And.intro e4 e5)))))); (repeat (first | refine hGx _ ?_ | refine hNx _ ?_ | refine W_skip ?_ | refine W_exit ?_ | refine W_ret ?_ | refine W_label ?_ | refine W_scope ?_ | refine W_block ?_ | refine W_seq ?_ | ((first | refine tT fun N hNx => ?_ | refine WL_gO rfl rfl (by kernel_rfl) (by kernel_rfl) fun G hGx => ?_ | refine vcOpsT_sound (by kernel_rfl) ?_ | refine W_ifE fun A B hAx hBx => ?_); refine evT ?_; (first | refine hGx _ ?_ | refine hNx _ ?_ | refine hAx ?_ | refine hBx ?_ | skip)))); (try clear fs))
      have hp := put_length (n / 128) (by omega)
      refine (PutR.seq (ih (n / 128) _ (by rw [Nat.pow_succ] at hk; omega) (by omega))).mono ?_
      rintro d _ ⟨rfl, rfl⟩
      (have fs := @i64.eq_1; (repeat (first | refine hGx _ ?_ | refine hNx _ ?_ | refine W_skip ?_ | refine W_exit ?_ | refine W_ret ?_ | refine W_label ?_ | refine W_scope ?_ | refine W_block ?_ | refine W_seq ?_ | ((first | refine tT fun N hNx => ?_ | refine WL_gO rfl rfl (by kernel_rfl) (by kernel_rfl) fun G hGx => ?_ | refine vcOpsT_sound (by kernel_rfl) ?_ | refine W_ifE fun A B hAx hBx => ?_); refine evT ?_; (first | refine hGx _ ?_ | refine hNx _ ?_ | refine hAx ?_ | refine hBx ?_ | skip)))); (try clear fs))
      refine apV_grow (e := 5) ty41 rfl ty41 rfl ty5 rfl (by decide) (Heap.le_put (Heap.le_refl H) hb) (.inr ⟨b, 0, rfl, rfl, hb, Heap.upd_same _ _ _⟩ : Gl H 5 1 [bD (UInt8.ofNat (n % 128 + 128))] (.os b 0 1 0 1) _ (some b)) (new := (put (n / 128)).map bD) (by exact ⟨rfl, rfl⟩) (by rw [List.length_map]; show (1 + _) * 1 ≤ _; omega) fun d' H6 ob6 hg6 hle6 hp6 => ?_
      rcases hg6 with ⟨_, _, h⟩ | ⟨cc, oo, _, rfl, g2, g3⟩
      · cases h
      (have fs := @i64.eq_1; refine evT ?_; try clear fs); (first | refine hGx _ ?_ | refine hNx _ ?_ | skip)
      (have fs := @i64.eq_1; (repeat (first | refine hGx _ ?_ | refine hNx _ ?_ | refine W_skip ?_ | refine W_exit ?_ | refine W_ret ?_ | refine W_label ?_ | refine W_scope ?_ | refine W_block ?_ | refine W_seq ?_ | ((first | refine tT fun N hNx => ?_ | refine WL_gO rfl rfl (by kernel_rfl) (by kernel_rfl) fun G hGx => ?_ | refine vcOpsT_sound (by kernel_rfl) ?_ | refine W_ifE fun A B hAx hBx => ?_); refine evT ?_; (first | refine hGx _ ?_ | refine hNx _ ?_ | refine hAx ?_ | refine hBx ?_ | skip)))); (try clear fs))
      (first | (show Q .ret _) | (show Q .normal _) | skip); refine hret _ _ (by first | exact .inr rfl | exact .inl rfl) (by first | rfl | assumption | (simp only [put_df, withH_df]; assumption)) ?_; have fs := @i64.eq_1; refine evT ?_; clear fs
      have e : [bD (UInt8.ofNat (n % 128 + 128))] ++ (put (n / 128)).map bD = (put n).map bD := by rw [put_step n (by omega) (by omega)]; rfl
      refine ⟨H.upd cc (.row 5 oo 1 ((put n).map bD)), fun x y hx => ?_, cc, oo, g2, ?_, rfl⟩
      · by_cases e2 : x = cc
        · rw [e2, Heap.upd_same] at hx; rw [e2, g3, e]; exact hx
        · rw [Heap.upd_ne e2] at hx; exact hle6 _ _ hx
      · rw [put_step n (by omega) (by omega), List.length_cons]
theorem kcnt_S (n : Nat) (H : Heap) (hn : n ≤ 1000000000) : Does Tryd.prog 37 [i64 n] H fun d H' => d = .seq 1 ((put n).map bD) ∧ H = H' := PutR.seq (kcnt_D 10 n H (by omega) hn)
set_option maxHeartbeats 1000000 in
theorem kenc_N (l : List ByteArray) (H : Heap) (hl : l.length ≤ 1000000) (hb : bsum l ≤ 1000000000) : Does Tryd.prog 23 [.seq 1 (l.map sD)] H fun d H' => d = .seq 1 ((encT l).map bD) ∧ H = H' := by
  refine Does.frz (K := fun d => d = .seq 1 ((encT l).map bD)) ?_
  have hml : (List.map sD l).length = l.length := List.length_map _
  have hpl := put_length l.length (by omega)
  have z0 : put (zz 0).toNat = [0] := by decide
  refine does_of _ _ Tryd.func23 rfl rfl Tryd.ntmps23 Tryd.results23 (by simp only [List.length_cons, List.length_nil]; omega) fun w0 Q hret => ?_
  (have fs := @i64.eq_1; (repeat (first | refine hGx _ ?_ | refine hNx _ ?_ | refine W_skip ?_ | refine W_exit ?_ | refine W_ret ?_ | refine W_label ?_ | refine W_scope ?_ | refine W_block ?_ | refine W_seq ?_ | ((first | refine tS fun N hNx => ?_ | refine WL_gE rfl rfl (by kernel_rfl) (by kernel_rfl) fun G hGx => ?_ | refine vcOpsS_sound (by kernel_rfl) ?_ | refine W_ifE fun A B hAx hBx => ?_); refine evT ?_; (first | refine hGx _ ?_ | refine hNx _ ?_ | refine hAx ?_ | refine hBx ?_ | skip)))); (try clear fs))
  refine (rInt_R 0 _ (by omega)).mono ?_
  rintro d H1 ⟨b, o, hbn, rfl, rfl⟩
  rw [z0]
  have z1 : (H.upd b (.row 5 o 1 (([0] : List UInt8).map bD))) b = some (.row 5 o 1 (([0] : List UInt8).map bD)) := Heap.upd_same _ _ _
  (have fs := @i64.eq_1; (repeat (first | refine hGx _ ?_ | refine hNx _ ?_ | refine W_skip ?_ | refine W_exit ?_ | refine W_ret ?_ | refine W_label ?_ | refine W_scope ?_ | refine W_block ?_ | refine W_seq ?_ | ((first | refine tS fun N hNx => ?_ | refine WL_gE rfl rfl (by kernel_rfl) (by kernel_rfl) fun G hGx => ?_ | refine vcOpsS_sound (by kernel_rfl) ?_ | refine W_ifE fun A B hAx hBx => ?_); refine evT ?_; (first | refine hGx _ ?_ | refine hNx _ ?_ | refine hAx ?_ | refine hBx ?_ | skip)))); (try clear fs))
  refine W_wildE (fun _ => false) (fun _ => false) (fun _ _ d A => A = .none ∧ d = .seq 1 ((put l.length).map bD)) (fun _ _ _ _ _ => False) (by kernel_rfl) (by kernel_rfl) (by kernel_rfl) (by kernel_rfl) (by kernel_rfl) fun N hNx => ?_; refine vcWS_to ?_; have fs := And.intro @i64.eq_1 (And.intro hml z1); refine evD ?_; (first | refine hGx _ ?_ | refine hNx _ ?_ | skip); (try clear fs)
  refine ⟨callOK_eq fun H'' _ => (kcnt_S l.length H'' (by omega)).mono fun d H' h => h, ?_⟩
  simp only [apV, ty41, ty5, Heap.upd_same, newsP, elsP, TD.notInt]
  refine ⟨trivial, rfl, by decide, trivial, trivial, by rw [List.length_map]; omega, trivial, trivial, trivial, by decide, fun b2 o2 hb2 => ?_⟩
  rw [Heap.del_upd_same, Heap.del_none hbn] at hb2 ⊢
  rw [List.drop_zero, List.take_zero, List.nil_append, Nat.zero_add, List.length_map]
  (first | refine hGx _ ?_ | refine hNx _ ?_ | skip)
  (have fs := @i64.eq_1; (repeat (first | refine hGx _ ?_ | refine hNx _ ?_ | refine W_skip ?_ | refine W_exit ?_ | refine W_ret ?_ | refine W_label ?_ | refine W_scope ?_ | refine W_block ?_ | refine W_seq ?_ | ((first | refine tS fun N hNx => ?_ | refine WL_gE rfl rfl (by kernel_rfl) (by kernel_rfl) fun G hGx => ?_ | refine vcOpsS_sound (by kernel_rfl) ?_ | refine W_ifE fun A B hAx hBx => ?_); refine evT ?_; (first | refine hGx _ ?_ | refine hNx _ ?_ | refine hAx ?_ | refine hBx ?_ | skip)))); (try clear fs))
  have hle0 := Heap.le_put (x := .row 5 o2 1 ((put l.length).map bD)) (Heap.le_refl H) hb2
  refine W_loopN l.length (fun i s => s.df = [] ∧ s.fr 0 = .seq 1 (l.map sD) ∧ s.fr 4 = i64 i ∧ H.le s.H ∧ ∃ ob, Gl H 5 1 ((posT5 l i).map bD) (s.fr 3) s.H ob) ⟨rfl, rfl, rfl, hle0, some b2, .inr ⟨b2, o2, rfl, ?_, hb2, ?_⟩⟩ ?_
  · unfold posT5; rw [List.take_zero, List.flatMap_nil, List.append_nil, List.length_map]; rfl
  · unfold posT5; rw [List.take_zero, List.flatMap_nil, List.append_nil]; exact Heap.upd_same _ _ _
  rintro i s hi ⟨hdf, f0, f4, hle, ob, hg⟩
  have hx : (i : Int).toNat = i := Int.toNat_natCast _
  have h00 : (0 : Int) ≤ (i : Int) := Int.natCast_nonneg _
  by_cases hil : i < l.length
  case neg =>
    have p1 : ((i : Int) < (l.length : Int)) = False := eq_false (by omega)
    have hi2 : i = l.length := by omega
    rw [hi2, posT5_all] at hg
    (have fs := And.intro f0 (And.intro f4 (And.intro @i64.eq_1 (And.intro p1 hml))); (repeat (first | refine hGx _ ?_ | refine hNx _ ?_ | refine W_skip ?_ | refine W_exit ?_ | refine W_ret ?_ | refine W_label ?_ | refine W_scope ?_ | refine W_block ?_ | refine W_seq ?_ | ((first | refine tS fun N hNx => ?_ | refine WL_gE rfl rfl (by kernel_rfl) (by kernel_rfl) fun G hGx => ?_ | refine vcOpsS_sound (by kernel_rfl) ?_ | refine W_ifE fun A B hAx hBx => ?_); refine evT ?_; (first | refine hGx _ ?_ | refine hNx _ ?_ | refine hAx ?_ | refine hBx ?_ | skip)))); (try clear fs))
    (first | (show Q .ret _) | (show Q .normal _) | skip); refine hret _ _ (by first | exact .inr rfl | exact .inl rfl) (by first | rfl | assumption | (simp only [put_df, withH_df]; assumption)) ?_; have fs := hdf; refine evT ?_; clear fs
    exact ⟨_, Heap.le_refl _, hle, _, frz_gl hle hg, rfl⟩
  have hil' : (i : Int) < (l.length : Int) := by omega
  have p1 : ((i : Int) < (l.length : Int)) = True := eq_true hil'
  have hgi := get_strs hil
  have w3 : IntKind.i64.wrap ((i : Int) + 1) = ((i + 1 : Nat) : Int) := by rw [wrap_i64_of (by omega)]; omega
  obtain ⟨u, hu, hul⟩ := bstr_of' l[i]
  have hbm := bsum_mem (List.getElem_mem hil)
  obtain ⟨hsp, hnx⟩ := posT5_split hil
  have hes : encS1 l[i] = put u.length ++ u := by unfold encS1; rw [hu, bstr_toList, bstr_size]
  have hlen := encT_len l hl hb
  have hpl : (posT5 l i).length + (encS1 l[i]).length ≤ (encT l).length := by rw [hsp]; simp only [List.length_append]; omega
  rw [hu] at hgi
  (have fs := And.intro f0 (And.intro f4 (And.intro @i64.eq_1 (And.intro p1 (And.intro hml (And.intro hgi (And.intro hx (And.intro h00 hil))))))); (repeat (first | refine hGx _ ?_ | refine hNx _ ?_ | refine W_skip ?_ | refine W_exit ?_ | refine W_ret ?_ | refine W_label ?_ | refine W_scope ?_ | refine W_block ?_ | refine W_seq ?_ | ((first | refine tS fun N hNx => ?_ | refine WL_gE rfl rfl (by kernel_rfl) (by kernel_rfl) fun G hGx => ?_ | refine vcOpsS_sound (by kernel_rfl) ?_ | refine W_ifE fun A B hAx hBx => ?_); refine evT ?_; (first | refine hGx _ ?_ | refine hNx _ ?_ | refine hAx ?_ | refine hBx ?_ | skip)))); (try clear fs))
  refine (rStr_S u _ (by omega)).mono ?_
  rintro d _ ⟨rfl, rfl⟩
  rw [← hes]
  (have fs := @i64.eq_1; (repeat (first | refine hGx _ ?_ | refine hNx _ ?_ | refine W_skip ?_ | refine W_exit ?_ | refine W_ret ?_ | refine W_label ?_ | refine W_scope ?_ | refine W_block ?_ | refine W_seq ?_ | ((first | refine tS fun N hNx => ?_ | refine WL_gE rfl rfl (by kernel_rfl) (by kernel_rfl) fun G hGx => ?_ | refine vcOpsS_sound (by kernel_rfl) ?_ | refine W_ifE fun A B hAx hBx => ?_); refine evT ?_; (first | refine hGx _ ?_ | refine hNx _ ?_ | refine hAx ?_ | refine hBx ?_ | skip)))); (try clear fs))
  refine apV_grow (e := 5) ty41 rfl ty41 rfl ty5 rfl (by decide) hle hg (new := (encS1 l[i]).map bD) (by exact ⟨rfl, rfl⟩) (by rw [List.length_map, List.length_map]; show _ * 1 ≤ _; omega) fun d' H6 ob6 hg6 hle6 hp6 => ?_
  rw [← List.map_append, ← hnx] at hg6
  (have fs := And.intro f4 (And.intro @i64.eq_1 w3); (repeat (first | refine hGx _ ?_ | refine hNx _ ?_ | refine W_skip ?_ | refine W_exit ?_ | refine W_ret ?_ | refine W_label ?_ | refine W_scope ?_ | refine W_block ?_ | refine W_seq ?_ | ((first | refine tS fun N hNx => ?_ | refine WL_gE rfl rfl (by kernel_rfl) (by kernel_rfl) fun G hGx => ?_ | refine vcOpsS_sound (by kernel_rfl) ?_ | refine W_ifE fun A B hAx hBx => ?_); refine evT ?_; (first | refine hGx _ ?_ | refine hNx _ ?_ | refine hAx ?_ | refine hBx ?_ | skip)))); (try clear fs))
  exact ⟨hil, hdf, f0, rfl, hle6, ob6, hg6⟩
/-- slices.Clone of a row of one's own. -/
theorem clSO_N (l : List ByteArray) (H : Heap) (c0 o0 : Nat) (hc0H : H c0 = some (.row 9 o0 1 (l.map sD))) (hl : l.length ≤ 1000000) : Does Tryd.prog 21 [.os c0 o0 1 0 l.length] H (ClR 9 1 (l.map sD) H) := by
  have hml : (List.map sD l).length = l.length := List.length_map _
  refine does_of _ _ Tryd.func21 rfl rfl Tryd.ntmps21 Tryd.results21 (by simp only [List.length_cons, List.length_nil]; omega) fun w0 Q hret => ?_
  (have fs := @i64.eq_1; (repeat (first | refine hGx _ ?_ | refine hNx _ ?_ | refine W_skip ?_ | refine W_exit ?_ | refine W_ret ?_ | refine W_label ?_ | refine W_scope ?_ | refine W_block ?_ | refine W_seq ?_ | ((first | refine tS fun N hNx => ?_ | refine WL_gE rfl rfl (by kernel_rfl) (by kernel_rfl) fun G hGx => ?_ | refine vcOpsS_sound (by kernel_rfl) ?_ | refine W_ifE fun A B hAx hBx => ?_); refine evT ?_; (first | refine hGx _ ?_ | refine hNx _ ?_ | refine hAx ?_ | refine hBx ?_ | skip)))); (try clear fs))
  intro b hb
  refine hNx _ ?_
  cases b with
  | true =>
    (have fs := @i64.eq_1; (repeat (first | refine hGx _ ?_ | refine hNx _ ?_ | refine W_skip ?_ | refine W_exit ?_ | refine W_ret ?_ | refine W_label ?_ | refine W_scope ?_ | refine W_block ?_ | refine W_seq ?_ | ((first | refine tS fun N hNx => ?_ | refine WL_gE rfl rfl (by kernel_rfl) (by kernel_rfl) fun G hGx => ?_ | refine vcOpsS_sound (by kernel_rfl) ?_ | refine W_ifE fun A B hAx hBx => ?_); refine evT ?_; (first | refine hGx _ ?_ | refine hNx _ ?_ | refine hAx ?_ | refine hBx ?_ | skip)))); (try clear fs))
    (first | (show Q .ret _) | (show Q .normal _) | skip); refine hret _ _ (by first | exact .inr rfl | exact .inl rfl) (by first | rfl | assumption | (simp only [put_df, withH_df]; assumption)) ?_; have fs := @i64.eq_1; refine evT ?_; clear fs
    have he : l.map sD = [] := Classical.byContradiction fun e => Bool.noConfusion (hb fun e0 => e (List.eq_nil_of_length_eq_zero (by rw [hml]; exact e0)))
    exact ⟨H, Heap.le_refl _, .inl ⟨rfl, he, rfl⟩⟩
  | false =>
    (have fs := @i64.eq_1; (repeat (first | refine hGx _ ?_ | refine hNx _ ?_ | refine W_skip ?_ | refine W_exit ?_ | refine W_ret ?_ | refine W_label ?_ | refine W_scope ?_ | refine W_block ?_ | refine W_seq ?_ | ((first | refine tS fun N hNx => ?_ | refine WL_gE rfl rfl (by kernel_rfl) (by kernel_rfl) fun G hGx => ?_ | refine vcOpsS_sound (by kernel_rfl) ?_ | refine W_ifE fun A B hAx hBx => ?_); refine evT ?_; (first | refine hGx _ ?_ | refine hNx _ ?_ | refine hAx ?_ | refine hBx ?_ | skip)))); (try clear fs))
    intro b1 hb1
    have hne : c0 ≠ b1 := fun e => by rw [e, hb1] at hc0H; cases hc0H
    have hcc : (H.upd b1 (.row 9 0 1 [])) c0 = some (.row 9 o0 1 (l.map sD)) := by rw [Heap.upd_ne hne]; exact hc0H
    refine apV_grow (e := 9) ty24 rfl ty24 rfl ty9 rfl (by decide) (Heap.le_put (Heap.le_refl _) hb1) (.inr ⟨b1, 0, rfl, rfl, hb1, Heap.upd_same _ _ _⟩ : Gl H 9 1 [] (.os b1 0 1 0 0) (H.upd b1 (.row 9 0 1 [])) (some b1)) (new := l.map sD) (by simp only [newsP, elsP, hcc]; exact ⟨trivial, trivial, trivial, by rw [hml]; omega, by rw [List.drop_zero, List.take_of_length_le (by rw [hml]; exact Nat.le_refl _)]⟩) (by rw [List.length_nil, hml]; show (_ + _) * 16 ≤ _; omega) fun d H6 ob6 hg6 hle6 _ => ?_
    (have fs := @i64.eq_1; (repeat (first | refine hGx _ ?_ | refine hNx _ ?_ | refine W_skip ?_ | refine W_exit ?_ | refine W_ret ?_ | refine W_label ?_ | refine W_scope ?_ | refine W_block ?_ | refine W_seq ?_ | ((first | refine tS fun N hNx => ?_ | refine WL_gE rfl rfl (by kernel_rfl) (by kernel_rfl) fun G hGx => ?_ | refine vcOpsS_sound (by kernel_rfl) ?_ | refine W_ifE fun A B hAx hBx => ?_); refine evT ?_; (first | refine hGx _ ?_ | refine hNx _ ?_ | refine hAx ?_ | refine hBx ?_ | skip)))); (try clear fs))
    (first | (show Q .ret _) | (show Q .normal _) | skip); refine hret _ _ (by first | exact .inr rfl | exact .inl rfl) (by first | rfl | assumption | (simp only [put_df, withH_df]; assumption)) ?_; have fs := @i64.eq_1; refine evT ?_; clear fs
    rw [List.nil_append] at hg6
    rcases hg6 with ⟨_, rfl, he⟩ | ⟨c, o, _, rfl, h2, h3⟩
    · exact ⟨H, hle6, .inl ⟨rfl, he, rfl⟩⟩
    · refine ⟨H.upd c (.row 9 o 1 (l.map sD)), fun b x hx => ?_, .inr ⟨c, o, h2, rfl, rfl⟩⟩
      by_cases e : b = c
      · rw [e, Heap.upd_same] at hx; rw [e, h3]; exact hx
      · rw [Heap.upd_ne e] at hx; exact hle6 _ _ hx
set_option maxHeartbeats 1000000 in
theorem newO_N (l : List ByteArray) (H : Heap) (c0 o0 : Nat) (hc0H : H c0 = some (.row 9 o0 1 (l.map sD))) (hl : l.length ≤ 1000000) (hs : ∀ s ∈ l, big s.size) : Does Tryd.prog 12 [.os c0 o0 1 0 l.length] H fun d H' => d = newD l ∧ H = H' := by
  refine Does.frz (K := fun d => d = newD l) ?_
  have hml : (List.map sD l).length = l.length := List.length_map _
  refine does_of _ _ Tryd.func12 rfl rfl Tryd.ntmps12 Tryd.results12 (by simp only [List.length_cons, List.length_nil]; omega) fun w0 Q hret => ?_
  (have fs := And.intro @i64.eq_1 hml; (repeat (first | refine hGx _ ?_ | refine hNx _ ?_ | refine W_skip ?_ | refine W_exit ?_ | refine W_ret ?_ | refine W_label ?_ | refine W_scope ?_ | refine W_block ?_ | refine W_seq ?_ | ((first | refine tS fun N hNx => ?_ | refine WL_gE rfl rfl (by kernel_rfl) (by kernel_rfl) fun G hGx => ?_ | refine vcOpsS_sound (by kernel_rfl) ?_ | refine W_ifE fun A B hAx hBx => ?_); refine evT ?_; (first | refine hGx _ ?_ | refine hNx _ ?_ | refine hAx ?_ | refine hBx ?_ | skip)))); (try clear fs))
  refine W_loopN l.length (fun i s => s.df = [] ∧ s.fr 0 = .os c0 o0 1 0 l.length ∧ s.fr 7 = .os c0 o0 1 0 l.length ∧ s.fr 8 = i64 l.length ∧ s.fr 9 = i64 i ∧ s.H = H ∧ ∀ s ∈ l.take i, isId s = true) ⟨rfl, rfl, rfl, rfl, rfl, rfl, by intro s hs; cases hs⟩ ?_
  rintro i s hi ⟨hdf, f0, f7, f8, f9, hH, ha⟩
  have hx : (i : Int).toNat = i := Int.toNat_natCast _
  have h00 : (0 : Int) ≤ (i : Int) := Int.natCast_nonneg _
  by_cases hil : i < l.length
  case neg =>
    have p1 : ((i : Int) < (l.length : Int)) = False := eq_false (by omega)
    rw [List.take_of_length_le (by omega)] at ha
    have hd : newD l = .tup [tabD (insAll l), i64 0] := if_pos ha
    rw [← names_eq] at hd
    (have fs := And.intro f0 (And.intro f7 (And.intro f8 (And.intro f9 (And.intro @i64.eq_1 p1)))); (repeat (first | refine hGx _ ?_ | refine hNx _ ?_ | refine W_skip ?_ | refine W_exit ?_ | refine W_ret ?_ | refine W_label ?_ | refine W_scope ?_ | refine W_block ?_ | refine W_seq ?_ | ((first | refine tS fun N hNx => ?_ | refine WL_gE rfl rfl (by kernel_rfl) (by kernel_rfl) fun G hGx => ?_ | refine vcOpsS_sound (by kernel_rfl) ?_ | refine W_ifE fun A B hAx hBx => ?_); refine evT ?_; (first | refine hGx _ ?_ | refine hNx _ ?_ | refine hAx ?_ | refine hBx ?_ | skip)))); (try clear fs))
    refine (clSO_N l _ c0 o0 (by rw [hH]; exact hc0H) hl).mono ?_
    rintro d H1 (⟨rfl, h0, rfl⟩ | ⟨b, o, hb, rfl, rfl⟩)
    · have hl0 : l = [] := by simpa using h0
      (have fs := And.intro f0 (And.intro f7 (And.intro f8 (And.intro f9 @i64.eq_1))); (repeat (first | refine hGx _ ?_ | refine hNx _ ?_ | refine W_skip ?_ | refine W_exit ?_ | refine W_ret ?_ | refine W_label ?_ | refine W_scope ?_ | refine W_block ?_ | refine W_seq ?_ | ((first | refine tS fun N hNx => ?_ | refine WL_gE rfl rfl (by kernel_rfl) (by kernel_rfl) fun G hGx => ?_ | refine vcOpsS_sound (by kernel_rfl) ?_ | refine W_ifE fun A B hAx hBx => ?_); refine evT ?_; (first | refine hGx _ ?_ | refine hNx _ ?_ | refine hAx ?_ | refine hBx ?_ | skip)))); (try clear fs))
      refine (sortS_nil _).mono ?_
      rintro d _ ⟨rfl, rfl⟩
      (have fs := And.intro f0 (And.intro f7 (And.intro f8 (And.intro f9 @i64.eq_1))); (repeat (first | refine hGx _ ?_ | refine hNx _ ?_ | refine W_skip ?_ | refine W_exit ?_ | refine W_ret ?_ | refine W_label ?_ | refine W_scope ?_ | refine W_block ?_ | refine W_seq ?_ | ((first | refine tS fun N hNx => ?_ | refine WL_gE rfl rfl (by kernel_rfl) (by kernel_rfl) fun G hGx => ?_ | refine vcOpsS_sound (by kernel_rfl) ?_ | refine W_ifE fun A B hAx hBx => ?_); refine evT ?_; (first | refine hGx _ ?_ | refine hNx _ ?_ | refine hAx ?_ | refine hBx ?_ | skip)))); (try clear fs))
      refine (compactS_nil _).mono ?_
      rintro d _ ⟨rfl, rfl⟩
      have he : cmpS (sortS l) = [] := by rw [hl0, names_eq]; rfl
      refine WL_as 22 (.seq 1 ((cmpS (sortS l)).map sD)) (fun w v hv => by rw [he]; exact imp_nil _ _ _ hv) ?_
      (have fs := And.intro f0 (And.intro f7 (And.intro f8 (And.intro f9 @i64.eq_1))); (repeat (first | refine hGx _ ?_ | refine hNx _ ?_ | refine W_skip ?_ | refine W_exit ?_ | refine W_ret ?_ | refine W_label ?_ | refine W_scope ?_ | refine W_block ?_ | refine W_seq ?_ | ((first | refine tS fun N hNx => ?_ | refine WL_gE rfl rfl (by kernel_rfl) (by kernel_rfl) fun G hGx => ?_ | refine vcOpsS_sound (by kernel_rfl) ?_ | refine W_ifE fun A B hAx hBx => ?_); refine evT ?_; (first | refine hGx _ ?_ | refine hNx _ ?_ | refine hAx ?_ | refine hBx ?_ | skip)))); (try clear fs))
      intro c hc
      refine hNx _ ?_
      (have fs := @i64.eq_1; (repeat (first | refine hGx _ ?_ | refine hNx _ ?_ | refine W_skip ?_ | refine W_exit ?_ | refine W_ret ?_ | refine W_label ?_ | refine W_scope ?_ | refine W_block ?_ | refine W_seq ?_ | ((first | refine tS fun N hNx => ?_ | refine WL_gE rfl rfl (by kernel_rfl) (by kernel_rfl) fun G hGx => ?_ | refine vcOpsS_sound (by kernel_rfl) ?_ | refine W_ifE fun A B hAx hBx => ?_); refine evT ?_; (first | refine hGx _ ?_ | refine hNx _ ?_ | refine hAx ?_ | refine hBx ?_ | skip)))); (try clear fs))
      (first | (show Q .ret _) | (show Q .normal _) | skip); refine hret _ _ (by first | exact .inr rfl | exact .inl rfl) (by first | rfl | assumption | (simp only [put_df, withH_df]; assumption)) ?_; have fs := hdf; refine evT ?_; clear fs
      rw [hH] at hc ⊢
      have hle6 := Heap.le_put (x := .row 51 0 1 [[.seq 1 ((cmpS (sortS l)).map sD)]]) (Heap.le_refl H) hc
      exact ⟨_, Heap.le_refl _, hle6, .tup [tabD (cmpS (sortS l)), i64 0], frz_tup ⟨frz_ep hle6 (Heap.upd_same _ _ _) hc rfl, frz_refl hle6, trivial⟩, by rw [hd]⟩
    · rw [hml]
      have hc0 : H b = none := by rw [← hH]; exact hb
      (have fs := And.intro f0 (And.intro f7 (And.intro f8 (And.intro f9 @i64.eq_1))); (repeat (first | refine hGx _ ?_ | refine hNx _ ?_ | refine W_skip ?_ | refine W_exit ?_ | refine W_ret ?_ | refine W_label ?_ | refine W_scope ?_ | refine W_block ?_ | refine W_seq ?_ | ((first | refine tS fun N hNx => ?_ | refine WL_gE rfl rfl (by kernel_rfl) (by kernel_rfl) fun G hGx => ?_ | refine vcOpsS_sound (by kernel_rfl) ?_ | refine W_ifE fun A B hAx hBx => ?_); refine evT ?_; (first | refine hGx _ ?_ | refine hNx _ ?_ | refine hAx ?_ | refine hBx ?_ | skip)))); (try clear fs))
      refine (sortS_own (Heap.upd_same _ _ _) (by omega)).mono ?_
      rintro d _ ⟨rfl, rfl⟩
      rw [upd_twice]
      (have fs := And.intro f0 (And.intro f7 (And.intro f8 (And.intro f9 @i64.eq_1))); (repeat (first | refine hGx _ ?_ | refine hNx _ ?_ | refine W_skip ?_ | refine W_exit ?_ | refine W_ret ?_ | refine W_label ?_ | refine W_scope ?_ | refine W_block ?_ | refine W_seq ?_ | ((first | refine tS fun N hNx => ?_ | refine WL_gE rfl rfl (by kernel_rfl) (by kernel_rfl) fun G hGx => ?_ | refine vcOpsS_sound (by kernel_rfl) ?_ | refine W_ifE fun A B hAx hBx => ?_); refine evT ?_; (first | refine hGx _ ?_ | refine hNx _ ?_ | refine hAx ?_ | refine hBx ?_ | skip)))); (try clear fs))
      have h6 := compactS_frz (Hb := H) (T := 9) (o := o) (l := sortS l) (Heap.le_put (by rw [hH]; exact Heap.le_refl _) hc0) hc0 (Heap.upd_same s.H b _) (by rw [sortS_length]; omega)
      rw [sortS_length] at h6
      refine h6.mono ?_
      rintro d _ ⟨rfl, rfl⟩
      (have fs := And.intro f0 (And.intro f7 (And.intro f8 (And.intro f9 @i64.eq_1))); (repeat (first | refine hGx _ ?_ | refine hNx _ ?_ | refine W_skip ?_ | refine W_exit ?_ | refine W_ret ?_ | refine W_label ?_ | refine W_scope ?_ | refine W_block ?_ | refine W_seq ?_ | ((first | refine tS fun N hNx => ?_ | refine WL_gE rfl rfl (by kernel_rfl) (by kernel_rfl) fun G hGx => ?_ | refine vcOpsS_sound (by kernel_rfl) ?_ | refine W_ifE fun A B hAx hBx => ?_); refine evT ?_; (first | refine hGx _ ?_ | refine hNx _ ?_ | refine hAx ?_ | refine hBx ?_ | skip)))); (try clear fs))
      intro c hc
      refine hNx _ ?_
      (have fs := @i64.eq_1; (repeat (first | refine hGx _ ?_ | refine hNx _ ?_ | refine W_skip ?_ | refine W_exit ?_ | refine W_ret ?_ | refine W_label ?_ | refine W_scope ?_ | refine W_block ?_ | refine W_seq ?_ | ((first | refine tS fun N hNx => ?_ | refine WL_gE rfl rfl (by kernel_rfl) (by kernel_rfl) fun G hGx => ?_ | refine vcOpsS_sound (by kernel_rfl) ?_ | refine W_ifE fun A B hAx hBx => ?_); refine evT ?_; (first | refine hGx _ ?_ | refine hNx _ ?_ | refine hAx ?_ | refine hBx ?_ | skip)))); (try clear fs))
      (first | (show Q .ret _) | (show Q .normal _) | skip); refine hret _ _ (by first | exact .inr rfl | exact .inl rfl) (by first | rfl | assumption | (simp only [put_df, withH_df]; assumption)) ?_; have fs := hdf; refine evT ?_; clear fs
      have hle6 := Heap.le_put (x := .row 51 0 1 [[.seq 1 ((cmpS (sortS l)).map sD)]]) (Heap.le_refl H) hc
      exact ⟨_, Heap.le_refl _, hle6, .tup [tabD (cmpS (sortS l)), i64 0], frz_tup ⟨frz_ep hle6 (Heap.upd_same _ _ _) hc rfl, frz_refl hle6, trivial⟩, by rw [hd]⟩
  have hil' : (i : Int) < (l.length : Int) := by omega
  have p1 : ((i : Int) < (l.length : Int)) = True := eq_true hil'
  have hgi := get_strs hil
  have w3 : IntKind.i64.wrap ((i : Int) + 1) = ((i + 1 : Nat) : Int) := by rw [wrap_i64_of (by omega)]; omega
  have hcs : s.H c0 = some (.row 9 o0 1 (l.map sD)) := by rw [hH]; exact hc0H
  (have fs := And.intro f0 (And.intro f7 (And.intro f8 (And.intro f9 (And.intro @i64.eq_1 (And.intro p1 (And.intro hml (And.intro hgi (And.intro hx (And.intro h00 (And.intro hil' hcs)))))))))); (repeat (first | refine hGx _ ?_ | refine hNx _ ?_ | refine W_skip ?_ | refine W_exit ?_ | refine W_ret ?_ | refine W_label ?_ | refine W_scope ?_ | refine W_block ?_ | refine W_seq ?_ | ((first | refine tS fun N hNx => ?_ | refine WL_gE rfl rfl (by kernel_rfl) (by kernel_rfl) fun G hGx => ?_ | refine vcOpsS_sound (by kernel_rfl) ?_ | refine W_ifE fun A B hAx hBx => ?_); refine evT ?_; (first | refine hGx _ ?_ | refine hNx _ ?_ | refine hAx ?_ | refine hBx ?_ | skip)))); (try clear fs))
  refine (isid_N l[i] _ (hs _ (List.getElem_mem hil))).mono ?_
  rintro d _ ⟨rfl, rfl⟩
  cases hid : isId l[i]
  · have hd : newD l = .tup [nilP, i64 12] := if_neg fun h => by rw [h _ (List.getElem_mem hil)] at hid; cases hid
    (have fs := And.intro f0 (And.intro f7 (And.intro f8 (And.intro f9 @i64.eq_1))); (repeat (first | refine hGx _ ?_ | refine hNx _ ?_ | refine W_skip ?_ | refine W_exit ?_ | refine W_ret ?_ | refine W_label ?_ | refine W_scope ?_ | refine W_block ?_ | refine W_seq ?_ | ((first | refine tS fun N hNx => ?_ | refine WL_gE rfl rfl (by kernel_rfl) (by kernel_rfl) fun G hGx => ?_ | refine vcOpsS_sound (by kernel_rfl) ?_ | refine W_ifE fun A B hAx hBx => ?_); refine evT ?_; (first | refine hGx _ ?_ | refine hNx _ ?_ | refine hAx ?_ | refine hBx ?_ | skip)))); (try clear fs))
    (first | (show Q .ret _) | (show Q .normal _) | skip); refine hret _ _ (by first | exact .inr rfl | exact .inl rfl) (by first | rfl | assumption | (simp only [put_df, withH_df]; assumption)) ?_; have fs := hdf; refine evT ?_; clear fs
    exact ⟨_, Heap.le_refl _, by rw [hH]; exact Heap.le_refl _, .tup [nilP, i64 12], by rw [hH]; exact frz_refl (Heap.le_refl _), hd.symm⟩
  · (have fs := And.intro f0 (And.intro f7 (And.intro f8 (And.intro f9 (And.intro @i64.eq_1 w3)))); (repeat (first | refine hGx _ ?_ | refine hNx _ ?_ | refine W_skip ?_ | refine W_exit ?_ | refine W_ret ?_ | refine W_label ?_ | refine W_scope ?_ | refine W_block ?_ | refine W_seq ?_ | ((first | refine tS fun N hNx => ?_ | refine WL_gE rfl rfl (by kernel_rfl) (by kernel_rfl) fun G hGx => ?_ | refine vcOpsS_sound (by kernel_rfl) ?_ | refine W_ifE fun A B hAx hBx => ?_); refine evT ?_; (first | refine hGx _ ?_ | refine hNx _ ?_ | refine hAx ?_ | refine hBx ?_ | skip)))); (try clear fs))
    refine ⟨hil, hdf, f0, f7, f8, rfl, hH, fun s hs => ?_⟩
    rw [List.take_succ_eq_append_getElem hil] at hs
    rcases List.mem_append.1 hs with h | h
    · exact ha s h
    · rw [List.mem_singleton.1 h]; exact hid
theorem atNil_N (H : Heap) : Does Tryd.prog 17 [nilP, i64 0] H fun d H' => d = .tup [strD ByteArray.empty, .val (.bool false)] ∧ H = H' := by
  have p1 : ((0 : Int) < 0) = False := eq_false (by decide)
  have p2 : ((0 : Int) ≥ 0) = True := eq_true (by decide)
  refine does_of _ _ Tryd.func17 rfl rfl Tryd.ntmps17 Tryd.results17 (by simp only [List.length_cons, List.length_nil]; omega) fun w0 Q hret => ?_
  (have fs := And.intro @i64.eq_1 (And.intro @nilP.eq_1 p1); (repeat (first | refine hGx _ ?_ | refine hNx _ ?_ | refine W_skip ?_ | refine W_exit ?_ | refine W_ret ?_ | refine W_label ?_ | refine W_scope ?_ | refine W_block ?_ | refine W_seq ?_ | ((first | refine tS fun N hNx => ?_ | refine WL_gE rfl rfl (by kernel_rfl) (by kernel_rfl) fun G hGx => ?_ | refine vcOpsS_sound (by kernel_rfl) ?_ | refine W_ifE fun A B hAx hBx => ?_); refine evT ?_; (first | refine hGx _ ?_ | refine hNx _ ?_ | refine hAx ?_ | refine hBx ?_ | skip)))); (try clear fs))
  refine (lenNil_N _).mono ?_
  rintro d _ ⟨rfl, rfl⟩
  (first | refine hGx _ ?_ | refine hNx _ ?_ | skip)
  (have fs := And.intro @i64.eq_1 p2; (repeat (first | refine hGx _ ?_ | refine hNx _ ?_ | refine W_skip ?_ | refine W_exit ?_ | refine W_ret ?_ | refine W_label ?_ | refine W_scope ?_ | refine W_block ?_ | refine W_seq ?_ | ((first | refine tS fun N hNx => ?_ | refine WL_gE rfl rfl (by kernel_rfl) (by kernel_rfl) fun G hGx => ?_ | refine vcOpsS_sound (by kernel_rfl) ?_ | refine W_ifE fun A B hAx hBx => ?_); refine evT ?_; (first | refine hGx _ ?_ | refine hNx _ ?_ | refine hAx ?_ | refine hBx ?_ | skip)))); (try clear fs))
  (first | (show Q .ret _) | (show Q .normal _) | skip); refine hret _ _ (by first | exact .inr rfl | exact .inl rfl) (by first | rfl | assumption | (simp only [put_df, withH_df]; assumption)) ?_; have fs := @i64.eq_1; refine evT ?_; clear fs
  (first | exact ⟨_, Heap.le_refl _, rfl⟩ | exact ⟨_, Heap.le_refl _, rfl, rfl⟩)
theorem encodeNil_N (H : Heap) : Does Tryd.prog 20 [nilP] H fun d H' => d = .val (.slice none 0 0) ∧ H = H' := by
  refine does_of _ _ Tryd.func20 rfl rfl Tryd.ntmps20 Tryd.results20 (by simp only [List.length_cons, List.length_nil]; omega) fun w0 Q hret => ?_
  (have fs := And.intro @i64.eq_1 @nilP.eq_1; (repeat (first | refine hGx _ ?_ | refine hNx _ ?_ | refine W_skip ?_ | refine W_exit ?_ | refine W_ret ?_ | refine W_label ?_ | refine W_scope ?_ | refine W_block ?_ | refine W_seq ?_ | ((first | refine tS fun N hNx => ?_ | refine WL_gE rfl rfl (by kernel_rfl) (by kernel_rfl) fun G hGx => ?_ | refine vcOpsS_sound (by kernel_rfl) ?_ | refine W_ifE fun A B hAx hBx => ?_); refine evT ?_; (first | refine hGx _ ?_ | refine hNx _ ?_ | refine hAx ?_ | refine hBx ?_ | skip)))); (try clear fs))
  (first | (show Q .ret _) | (show Q .normal _) | skip); refine hret _ _ (by first | exact .inr rfl | exact .inl rfl) (by first | rfl | assumption | (simp only [put_df, withH_df]; assumption)) ?_; have fs := @i64.eq_1; refine evT ?_; clear fs
  (first | exact ⟨_, Heap.le_refl _, rfl⟩ | exact ⟨_, Heap.le_refl _, rfl, rfl⟩)
set_option maxHeartbeats 2000000 in
theorem lisol_N (l : List ByteArray) (hl : big l.length) (hs : ∀ s ∈ l, big s.size) : Does Tryd.prog 6 [.seq 1 (l.map sD)] .none fun d _ => d = .val (.bool true) := by
  have hml : (List.map sD l).length = l.length := List.length_map _
  have e00 : ((0 : Int) = 0) = True := eq_true rfl
  refine does_of _ _ Tryd.func6 rfl rfl Tryd.ntmps6 Tryd.results6 (by simp only [List.length_cons, List.length_nil]; omega) fun w0 Q hret => ?_
  (have fs := @i64.eq_1; (repeat (first | refine hGx _ ?_ | refine hNx _ ?_ | refine W_skip ?_ | refine W_exit ?_ | refine W_ret ?_ | refine W_label ?_ | refine W_scope ?_ | refine W_block ?_ | refine W_seq ?_ | ((first | refine tS fun N hNx => ?_ | refine WL_gE rfl rfl (by kernel_rfl) (by kernel_rfl) fun G hGx => ?_ | refine vcOpsS_sound (by kernel_rfl) ?_ | refine W_ifE fun A B hAx hBx => ?_); refine evT ?_; (first | refine hGx _ ?_ | refine hNx _ ?_ | refine hAx ?_ | refine hBx ?_ | skip)))); (try clear fs))
  refine (indexNil_N (bstr [97]) _).mono ?_
  rintro d _ ⟨rfl, rfl⟩
  (have fs := @i64.eq_1; (repeat (first | refine hGx _ ?_ | refine hNx _ ?_ | refine W_skip ?_ | refine W_exit ?_ | refine W_ret ?_ | refine W_label ?_ | refine W_scope ?_ | refine W_block ?_ | refine W_seq ?_ | ((first | refine tS fun N hNx => ?_ | refine WL_gE rfl rfl (by kernel_rfl) (by kernel_rfl) fun G hGx => ?_ | refine vcOpsS_sound (by kernel_rfl) ?_ | refine W_ifE fun A B hAx hBx => ?_); refine evT ?_; (first | refine hGx _ ?_ | refine hNx _ ?_ | refine hAx ?_ | refine hBx ?_ | skip)))); (try clear fs))
  refine (atNil_N _).mono ?_
  rintro d _ ⟨rfl, rfl⟩
  (have fs := @i64.eq_1; (repeat (first | refine hGx _ ?_ | refine hNx _ ?_ | refine W_skip ?_ | refine W_exit ?_ | refine W_ret ?_ | refine W_label ?_ | refine W_scope ?_ | refine W_block ?_ | refine W_seq ?_ | ((first | refine tS fun N hNx => ?_ | refine WL_gE rfl rfl (by kernel_rfl) (by kernel_rfl) fun G hGx => ?_ | refine vcOpsS_sound (by kernel_rfl) ?_ | refine W_ifE fun A B hAx hBx => ?_); refine evT ?_; (first | refine hGx _ ?_ | refine hNx _ ?_ | refine hAx ?_ | refine hBx ?_ | skip)))); (try clear fs))
  refine (lenNil_N _).mono ?_
  rintro d _ ⟨rfl, rfl⟩
  (first | refine hGx _ ?_ | refine hNx _ ?_ | skip)
  (have fs := And.intro @i64.eq_1 e00; (repeat (first | refine hGx _ ?_ | refine hNx _ ?_ | refine W_skip ?_ | refine W_exit ?_ | refine W_ret ?_ | refine W_label ?_ | refine W_scope ?_ | refine W_block ?_ | refine W_seq ?_ | ((first | refine tS fun N hNx => ?_ | refine WL_gE rfl rfl (by kernel_rfl) (by kernel_rfl) fun G hGx => ?_ | refine vcOpsS_sound (by kernel_rfl) ?_ | refine W_ifE fun A B hAx hBx => ?_); refine evT ?_; (first | refine hGx _ ?_ | refine hNx _ ?_ | refine hAx ?_ | refine hBx ?_ | skip)))); (try clear fs))
  refine (encodeNil_N _).mono ?_
  rintro d _ ⟨rfl, rfl⟩
  (first | refine hGx _ ?_ | refine hNx _ ?_ | skip)
  (have fs := And.intro @i64.eq_1 e00; (repeat (first | refine hGx _ ?_ | refine hNx _ ?_ | refine W_skip ?_ | refine W_exit ?_ | refine W_ret ?_ | refine W_label ?_ | refine W_scope ?_ | refine W_block ?_ | refine W_seq ?_ | ((first | refine tS fun N hNx => ?_ | refine WL_gE rfl rfl (by kernel_rfl) (by kernel_rfl) fun G hGx => ?_ | refine vcOpsS_sound (by kernel_rfl) ?_ | refine W_ifE fun A B hAx hBx => ?_); refine evT ?_; (first | refine hGx _ ?_ | refine hNx _ ?_ | refine hAx ?_ | refine hBx ?_ | skip)))); (try clear fs))
  refine (alive5_N _).mono ?_; rintro d _ ⟨rfl, rfl⟩
  (first | refine hGx _ ?_ | refine hNx _ ?_ | skip)
  (have fs := @i64.eq_1; (repeat (first | refine hGx _ ?_ | refine hNx _ ?_ | refine W_skip ?_ | refine W_exit ?_ | refine W_ret ?_ | refine W_label ?_ | refine W_scope ?_ | refine W_block ?_ | refine W_seq ?_ | ((first | refine tS fun N hNx => ?_ | refine WL_gE rfl rfl (by kernel_rfl) (by kernel_rfl) fun G hGx => ?_ | refine vcOpsS_sound (by kernel_rfl) ?_ | refine W_ifE fun A B hAx hBx => ?_); refine evT ?_; (first | refine hGx _ ?_ | refine hNx _ ?_ | refine hAx ?_ | refine hBx ?_ | skip)))); (try clear fs))
  refine (long_N l _ hl).mono ?_
  rintro d _ ⟨rfl, rfl⟩
  by_cases hlg : 8000 < tlen l
  · rw [decide_eq_true hlg]
    (have fs := @i64.eq_1; (repeat (first | refine hGx _ ?_ | refine hNx _ ?_ | refine W_skip ?_ | refine W_exit ?_ | refine W_ret ?_ | refine W_label ?_ | refine W_scope ?_ | refine W_block ?_ | refine W_seq ?_ | ((first | refine tS fun N hNx => ?_ | refine WL_gE rfl rfl (by kernel_rfl) (by kernel_rfl) fun G hGx => ?_ | refine vcOpsS_sound (by kernel_rfl) ?_ | refine W_ifE fun A B hAx hBx => ?_); refine evT ?_; (first | refine hGx _ ?_ | refine hNx _ ?_ | refine hAx ?_ | refine hBx ?_ | skip)))); (try clear fs))
    (first | (show Q .ret _) | (show Q .normal _) | skip); refine hret _ _ (by first | exact .inr rfl | exact .inl rfl) (by first | rfl | assumption | (simp only [put_df, withH_df]; assumption)) ?_; have fs := @i64.eq_1; refine evT ?_; clear fs
    exact ⟨_, Heap.le_refl _⟩
  rw [decide_eq_false hlg]
  obtain ⟨h1, h2, h3⟩ := tlen_small (l := l) (by omega)
  (have fs := @i64.eq_1; (repeat (first | refine hGx _ ?_ | refine hNx _ ?_ | refine W_skip ?_ | refine W_exit ?_ | refine W_ret ?_ | refine W_label ?_ | refine W_scope ?_ | refine W_block ?_ | refine W_seq ?_ | ((first | refine tS fun N hNx => ?_ | refine WL_gE rfl rfl (by kernel_rfl) (by kernel_rfl) fun G hGx => ?_ | refine vcOpsS_sound (by kernel_rfl) ?_ | refine W_ifE fun A B hAx hBx => ?_); refine evT ?_; (first | refine hGx _ ?_ | refine hNx _ ?_ | refine hAx ?_ | refine hBx ?_ | skip)))); (try clear fs))
  refine (clS_N (l.map sD) _ (by rw [hml]; omega)).mono ?_
  rintro d H1 hcl
  obtain ⟨t, ht⟩ : ∃ t, t = insAll l := ⟨_, rfl⟩
  have hst := insAll_strict l
  have htl := insAll_len l
  have htm : ∀ x, x ∈ insAll l ↔ x ∈ l := fun x => insAll_mem
  rw [← ht] at hst htl htm
  have hbt : bsum t ≤ 200000000 := bsum_le (m := 8000) (fun s hs => h3 s ((htm s).1 hs)) (by omega)
  have hlt := encT_len t (by omega) (by omega)
  rcases hcl with ⟨rfl, h0, rfl⟩ | ⟨c, o, hc, rfl, rfl⟩
  · have hl0 : l = [] := by simpa using h0
    have hok : ∀ s ∈ l, isId s = true := by rw [hl0]; intro s hs; cases hs
    have hd : newD l = .tup [tabD t, i64 0] := by rw [ht]; exact if_pos hok
    have hd2 : knewD l = .tup [.seq 1 (t.map sD), i64 0] := by rw [ht]; exact if_pos hok
    refine WL_as 48 (.seq 1 (l.map sD)) (fun w v hv => by rw [hl0]; exact imp_nil _ _ _ hv) ?_
    (have fs := @i64.eq_1; (repeat (first | refine hGx _ ?_ | refine hNx _ ?_ | refine W_skip ?_ | refine W_exit ?_ | refine W_ret ?_ | refine W_label ?_ | refine W_scope ?_ | refine W_block ?_ | refine W_seq ?_ | ((first | refine tS fun N hNx => ?_ | refine WL_gE rfl rfl (by kernel_rfl) (by kernel_rfl) fun G hGx => ?_ | refine vcOpsS_sound (by kernel_rfl) ?_ | refine W_ifE fun A B hAx hBx => ?_); refine evT ?_; (first | refine hGx _ ?_ | refine hNx _ ?_ | refine hAx ?_ | refine hBx ?_ | skip)))); (try clear fs))
    refine (new_N l _ (by omega) hs).mono ?_
    rintro d _ ⟨rfl, rfl⟩
    rw [hd]
    have hl00 : l.length = 0 := by rw [hl0]; rfl
    (have fs := And.intro @i64.eq_1 (And.intro @tabD.eq_1 (And.intro hml hl00)); (repeat (first | refine hGx _ ?_ | refine hNx _ ?_ | refine W_skip ?_ | refine W_exit ?_ | refine W_ret ?_ | refine W_label ?_ | refine W_scope ?_ | refine W_block ?_ | refine W_seq ?_ | ((first | refine tS fun N hNx => ?_ | refine WL_gE rfl rfl (by kernel_rfl) (by kernel_rfl) fun G hGx => ?_ | refine vcOpsS_sound (by kernel_rfl) ?_ | refine W_ifE fun A B hAx hBx => ?_); refine evT ?_; (first | refine hGx _ ?_ | refine hNx _ ?_ | refine hAx ?_ | refine hBx ?_ | skip)))); (try clear fs))
    refine W_loopN 0 (fun i s => s.df = [] ∧ s.fr 0 = .seq 1 (l.map sD) ∧ s.fr 9 = .rp [.seq 1 (t.map sD)] ∧ s.fr 63 = i64 0 ∧ s.fr 64 = i64 i) ⟨rfl, rfl, rfl, rfl, rfl⟩ ?_
    rintro i s hi ⟨hdf, f0, f9, f63, f64⟩
    have hi0 : i = 0 := by omega
    subst hi0
    clear hi
    (have fs := And.intro f0 (And.intro f9 (And.intro f63 (And.intro f64 @i64.eq_1))); (repeat (first | refine hGx _ ?_ | refine hNx _ ?_ | refine W_skip ?_ | refine W_exit ?_ | refine W_ret ?_ | refine W_label ?_ | refine W_scope ?_ | refine W_block ?_ | refine W_seq ?_ | ((first | refine tS fun N hNx => ?_ | refine WL_gE rfl rfl (by kernel_rfl) (by kernel_rfl) fun G hGx => ?_ | refine vcOpsS_sound (by kernel_rfl) ?_ | refine W_ifE fun A B hAx hBx => ?_); refine evT ?_; (first | refine hGx _ ?_ | refine hNx _ ?_ | refine hAx ?_ | refine hBx ?_ | skip)))); (try clear fs))
    refine (encode_N t _ (by omega) (by omega)).mono ?_
    rintro d H5 ⟨c2, o2, hc2, rfl, rfl⟩
    (have fs := And.intro f0 (And.intro f9 (And.intro f63 (And.intro f64 @i64.eq_1))); (repeat (first | refine hGx _ ?_ | refine hNx _ ?_ | refine W_skip ?_ | refine W_exit ?_ | refine W_ret ?_ | refine W_label ?_ | refine W_scope ?_ | refine W_block ?_ | refine W_seq ?_ | ((first | refine tS fun N hNx => ?_ | refine WL_gE rfl rfl (by kernel_rfl) (by kernel_rfl) fun G hGx => ?_ | refine vcOpsS_sound (by kernel_rfl) ?_ | refine W_ifE fun A B hAx hBx => ?_); refine evT ?_; (first | refine hGx _ ?_ | refine hNx _ ?_ | refine hAx ?_ | refine hBx ?_ | skip)))); (try clear fs))
    refine W_loopN (encT t).length (fun i s => s.df = [] ∧ s.fr 0 = .seq 1 (l.map sD) ∧ s.fr 9 = .rp [.seq 1 (t.map sD)] ∧ s.fr 12 = .os c2 o2 1 0 (encT t).length ∧ s.fr 74 = i64 (encT t).length ∧ s.fr 75 = i64 i ∧ ∃ els, els.length = (encT t).length ∧ s.H c2 = some (.row 5 o2 1 els) ∧ ∀ el ∈ els, el.length = 1) ⟨hdf, f0, f9, rfl, rfl, rfl, (encT t).map bD, List.length_map _, Heap.upd_same _ _ _, fun el hel => by obtain ⟨x, _, rfl⟩ := List.mem_map.1 hel; rfl⟩ ?_
    rintro i s hi ⟨hdf, f0, f9, f12, f74, f75, els, hel, hH, hel1⟩
    have hx : (i : Int).toNat = i := Int.toNat_natCast _
    have h00 : (0 : Int) ≤ (i : Int) := Int.natCast_nonneg _
    by_cases hil : i < (encT t).length
    case pos =>
      have hil' : (i : Int) < ((encT t).length : Int) := by omega
      have p1 : ((i : Int) < ((encT t).length : Int)) = True := eq_true hil'
      have w3 : IntKind.i64.wrap ((i : Int) + 1) = ((i + 1 : Nat) : Int) := by rw [wrap_i64_of (by omega)]; omega
      obtain ⟨x, hx1⟩ : ∃ x, els[i]? = some x := ⟨els[i]'(by omega), List.getElem?_eq_getElem _⟩
      have hxl := hel1 x (List.mem_of_getElem? hx1)
      obtain ⟨y, rfl⟩ := List.length_eq_one_iff.1 hxl
      (have fs := And.intro f0 (And.intro f9 (And.intro f12 (And.intro f74 (And.intro f75 (And.intro @i64.eq_1 (And.intro p1 (And.intro hx (And.intro h00 (And.intro hil' (And.intro hH (And.intro hx1 w3))))))))))); (repeat (first | refine hGx _ ?_ | refine hNx _ ?_ | refine W_skip ?_ | refine W_exit ?_ | refine W_ret ?_ | refine W_label ?_ | refine W_scope ?_ | refine W_block ?_ | refine W_seq ?_ | ((first | refine tS fun N hNx => ?_ | refine WL_gE rfl rfl (by kernel_rfl) (by kernel_rfl) fun G hGx => ?_ | refine vcOpsS_sound (by kernel_rfl) ?_ | refine W_ifE fun A B hAx hBx => ?_); refine evT ?_; (first | refine hGx _ ?_ | refine hNx _ ?_ | refine hAx ?_ | refine hBx ?_ | skip)))); (try clear fs))
      refine ⟨hil, hdf, f0, f9, f12, f74, rfl, _, by rw [List.length_set]; exact hel, Heap.upd_same _ _ _, fun el hel2 => ?_⟩
      rcases List.mem_or_eq_of_mem_set hel2 with h | h
      · exact hel1 el h
      · rw [h]; rfl
    have p1 : ((i : Int) < ((encT t).length : Int)) = False := eq_false (by omega)
    (have fs := And.intro f0 (And.intro f9 (And.intro f12 (And.intro f74 (And.intro f75 (And.intro @i64.eq_1 p1))))); (repeat (first | refine hGx _ ?_ | refine hNx _ ?_ | refine W_skip ?_ | refine W_exit ?_ | refine W_ret ?_ | refine W_label ?_ | refine W_scope ?_ | refine W_block ?_ | refine W_seq ?_ | ((first | refine tS fun N hNx => ?_ | refine WL_gE rfl rfl (by kernel_rfl) (by kernel_rfl) fun G hGx => ?_ | refine vcOpsS_sound (by kernel_rfl) ?_ | refine W_ifE fun A B hAx hBx => ?_); refine evT ?_; (first | refine hGx _ ?_ | refine hNx _ ?_ | refine hAx ?_ | refine hBx ?_ | skip)))); (try clear fs))
    refine (knew_N l _ (by omega) hs).mono ?_
    rintro d _ ⟨rfl, rfl⟩
    rw [hd2]
    (have fs := And.intro f0 (And.intro f9 @i64.eq_1); (repeat (first | refine hGx _ ?_ | refine hNx _ ?_ | refine W_skip ?_ | refine W_exit ?_ | refine W_ret ?_ | refine W_label ?_ | refine W_scope ?_ | refine W_block ?_ | refine W_seq ?_ | ((first | refine tS fun N hNx => ?_ | refine WL_gE rfl rfl (by kernel_rfl) (by kernel_rfl) fun G hGx => ?_ | refine vcOpsS_sound (by kernel_rfl) ?_ | refine W_ifE fun A B hAx hBx => ?_); refine evT ?_; (first | refine hGx _ ?_ | refine hNx _ ?_ | refine hAx ?_ | refine hBx ?_ | skip)))); (try clear fs))
    refine (list_N t _ (by omega)).mono ?_
    rintro d _ ⟨rfl, rfl⟩
    (have fs := And.intro f0 (And.intro f9 @i64.eq_1); (repeat (first | refine hGx _ ?_ | refine hNx _ ?_ | refine W_skip ?_ | refine W_exit ?_ | refine W_ret ?_ | refine W_label ?_ | refine W_scope ?_ | refine W_block ?_ | refine W_seq ?_ | ((first | refine tS fun N hNx => ?_ | refine WL_gE rfl rfl (by kernel_rfl) (by kernel_rfl) fun G hGx => ?_ | refine vcOpsS_sound (by kernel_rfl) ?_ | refine W_ifE fun A B hAx hBx => ?_); refine evT ?_; (first | refine hGx _ ?_ | refine hNx _ ?_ | refine hAx ?_ | refine hBx ?_ | skip)))); (try clear fs))
    refine (equalS_at _ t t (by unfold big; omega)).mono ?_
    rintro d _ ⟨rfl, rfl⟩
    rw [decide_eq_true rfl]
    (first | refine hGx _ ?_ | refine hNx _ ?_ | skip)
    (have fs := And.intro f0 (And.intro f9 @i64.eq_1); (repeat (first | refine hGx _ ?_ | refine hNx _ ?_ | refine W_skip ?_ | refine W_exit ?_ | refine W_ret ?_ | refine W_label ?_ | refine W_scope ?_ | refine W_block ?_ | refine W_seq ?_ | ((first | refine tS fun N hNx => ?_ | refine WL_gE rfl rfl (by kernel_rfl) (by kernel_rfl) fun G hGx => ?_ | refine vcOpsS_sound (by kernel_rfl) ?_ | refine W_ifE fun A B hAx hBx => ?_); refine evT ?_; (first | refine hGx _ ?_ | refine hNx _ ?_ | refine hAx ?_ | refine hBx ?_ | skip)))); (try clear fs))
    refine (encode_S t _ (by omega) (by omega)).mono ?_
    rintro d _ ⟨rfl, rfl⟩
    (first | refine hGx _ ?_ | refine hNx _ ?_ | skip)
    (have fs := And.intro f0 (And.intro f9 @i64.eq_1); (repeat (first | refine hGx _ ?_ | refine hNx _ ?_ | refine W_skip ?_ | refine W_exit ?_ | refine W_ret ?_ | refine W_label ?_ | refine W_scope ?_ | refine W_block ?_ | refine W_seq ?_ | ((first | refine tS fun N hNx => ?_ | refine WL_gE rfl rfl (by kernel_rfl) (by kernel_rfl) fun G hGx => ?_ | refine vcOpsS_sound (by kernel_rfl) ?_ | refine W_ifE fun A B hAx hBx => ?_); refine evT ?_; (first | refine hGx _ ?_ | refine hNx _ ?_ | refine hAx ?_ | refine hBx ?_ | skip)))); (try clear fs))
    refine (kenc_N t _ (by omega) (by omega)).mono ?_
    rintro d _ ⟨rfl, rfl⟩
    (first | refine hGx _ ?_ | refine hNx _ ?_ | skip)
    (have fs := And.intro f0 (And.intro f9 @i64.eq_1); (repeat (first | refine hGx _ ?_ | refine hNx _ ?_ | refine W_skip ?_ | refine W_exit ?_ | refine W_ret ?_ | refine W_label ?_ | refine W_scope ?_ | refine W_block ?_ | refine W_seq ?_ | ((first | refine tS fun N hNx => ?_ | refine WL_gE rfl rfl (by kernel_rfl) (by kernel_rfl) fun G hGx => ?_ | refine vcOpsS_sound (by kernel_rfl) ?_ | refine W_ifE fun A B hAx hBx => ?_); refine evT ?_; (first | refine hGx _ ?_ | refine hNx _ ?_ | refine hAx ?_ | refine hBx ?_ | skip)))); (try clear fs))
    refine (eqb_N (encT t) (encT t) _).mono ?_
    rintro d _ ⟨rfl, rfl⟩
    rw [decide_eq_true rfl]
    (first | refine hGx _ ?_ | refine hNx _ ?_ | skip)
    (have fs := @i64.eq_1; (repeat (first | refine hGx _ ?_ | refine hNx _ ?_ | refine W_skip ?_ | refine W_exit ?_ | refine W_ret ?_ | refine W_label ?_ | refine W_scope ?_ | refine W_block ?_ | refine W_seq ?_ | ((first | refine tS fun N hNx => ?_ | refine WL_gE rfl rfl (by kernel_rfl) (by kernel_rfl) fun G hGx => ?_ | refine vcOpsS_sound (by kernel_rfl) ?_ | refine W_ifE fun A B hAx hBx => ?_); refine evT ?_; (first | refine hGx _ ?_ | refine hNx _ ?_ | refine hAx ?_ | refine hBx ?_ | skip)))); (try clear fs))
    (first | (show Q .ret _) | (show Q .normal _) | skip); refine hret _ _ (by first | exact .inr rfl | exact .inl rfl) (by first | rfl | assumption | (simp only [put_df, withH_df]; assumption)) ?_; have fs := hdf; refine evT ?_; clear fs
    exact ⟨_, Heap.le_refl _⟩
  · rw [hml]
    have z1 : (Heap.none.upd c (.row 9 o 1 (l.map sD))) c = some (.row 9 o 1 (l.map sD)) := Heap.upd_same _ _ _
    (have fs := @i64.eq_1; (repeat (first | refine hGx _ ?_ | refine hNx _ ?_ | refine W_skip ?_ | refine W_exit ?_ | refine W_ret ?_ | refine W_label ?_ | refine W_scope ?_ | refine W_block ?_ | refine W_seq ?_ | ((first | refine tS fun N hNx => ?_ | refine WL_gE rfl rfl (by kernel_rfl) (by kernel_rfl) fun G hGx => ?_ | refine vcOpsS_sound (by kernel_rfl) ?_ | refine W_ifE fun A B hAx hBx => ?_); refine evT ?_; (first | refine hGx _ ?_ | refine hNx _ ?_ | refine hAx ?_ | refine hBx ?_ | skip)))); (try clear fs))
    refine (newO_N l _ c o z1 (by omega) hs).mono ?_
    rintro d _ ⟨rfl, rfl⟩
    by_cases hok : ∀ s ∈ l, isId s = true
    case neg =>
      have hd : newD l = .tup [nilP, i64 12] := if_neg hok
      rw [hd]
      (have fs := And.intro @i64.eq_1 @nilP.eq_1; (repeat (first | refine hGx _ ?_ | refine hNx _ ?_ | refine W_skip ?_ | refine W_exit ?_ | refine W_ret ?_ | refine W_label ?_ | refine W_scope ?_ | refine W_block ?_ | refine W_seq ?_ | ((first | refine tS fun N hNx => ?_ | refine WL_gE rfl rfl (by kernel_rfl) (by kernel_rfl) fun G hGx => ?_ | refine vcOpsS_sound (by kernel_rfl) ?_ | refine W_ifE fun A B hAx hBx => ?_); refine evT ?_; (first | refine hGx _ ?_ | refine hNx _ ?_ | refine hAx ?_ | refine hBx ?_ | skip)))); (try clear fs))
      (first | (show Q .ret _) | (show Q .normal _) | skip); refine hret _ _ (by first | exact .inr rfl | exact .inl rfl) (by first | rfl | assumption | (simp only [put_df, withH_df]; assumption)) ?_; have fs := @i64.eq_1; refine evT ?_; clear fs
      exact ⟨_, Heap.le_refl _⟩
    have hd : newD l = .tup [tabD t, i64 0] := by rw [ht]; exact if_pos hok
    have hd2 : knewD l = .tup [.seq 1 (t.map sD), i64 0] := by rw [ht]; exact if_pos hok
    rw [hd]
    (have fs := And.intro @i64.eq_1 @tabD.eq_1; (repeat (first | refine hGx _ ?_ | refine hNx _ ?_ | refine W_skip ?_ | refine W_exit ?_ | refine W_ret ?_ | refine W_label ?_ | refine W_scope ?_ | refine W_block ?_ | refine W_seq ?_ | ((first | refine tS fun N hNx => ?_ | refine WL_gE rfl rfl (by kernel_rfl) (by kernel_rfl) fun G hGx => ?_ | refine vcOpsS_sound (by kernel_rfl) ?_ | refine W_ifE fun A B hAx hBx => ?_); refine evT ?_; (first | refine hGx _ ?_ | refine hNx _ ?_ | refine hAx ?_ | refine hBx ?_ | skip)))); (try clear fs))
    refine W_loopN l.length (fun i s => s.df = [] ∧ s.fr 0 = .seq 1 (l.map sD) ∧ s.fr 9 = .rp [.seq 1 (t.map sD)] ∧ s.fr 8 = .os c o 1 0 l.length ∧ s.fr 63 = i64 l.length ∧ s.fr 64 = i64 i ∧ ∃ els, els.length = l.length ∧ s.H c = some (.row 9 o 1 els) ∧ ∀ el ∈ els, el.length = 1) ⟨rfl, rfl, rfl, rfl, rfl, rfl, l.map sD, hml, z1, fun el hel => by obtain ⟨x, _, rfl⟩ := List.mem_map.1 hel; rfl⟩ ?_
    rintro i s hi ⟨hdf, f0, f9, f8, f63, f64, els, hel, hH, hel1⟩
    have hx : (i : Int).toNat = i := Int.toNat_natCast _
    have h00 : (0 : Int) ≤ (i : Int) := Int.natCast_nonneg _
    by_cases hil : i < l.length
    case pos =>
      have hil' : (i : Int) < (l.length : Int) := by omega
      have p1 : ((i : Int) < (l.length : Int)) = True := eq_true hil'
      have w3 : IntKind.i64.wrap ((i : Int) + 1) = ((i + 1 : Nat) : Int) := by rw [wrap_i64_of (by omega)]; omega
      obtain ⟨x, hx1⟩ : ∃ x, els[i]? = some x := ⟨els[i]'(by omega), List.getElem?_eq_getElem _⟩
      have hxl := hel1 x (List.mem_of_getElem? hx1)
      obtain ⟨y, rfl⟩ := List.length_eq_one_iff.1 hxl
      (have fs := And.intro f0 (And.intro f9 (And.intro f8 (And.intro f63 (And.intro f64 (And.intro @i64.eq_1 (And.intro p1 (And.intro hx (And.intro h00 (And.intro hil' (And.intro hH (And.intro hx1 w3))))))))))); (repeat (first | refine hGx _ ?_ | refine hNx _ ?_ | refine W_skip ?_ | refine W_exit ?_ | refine W_ret ?_ | refine W_label ?_ | refine W_scope ?_ | refine W_block ?_ | refine W_seq ?_ | ((first | refine tS fun N hNx => ?_ | refine WL_gE rfl rfl (by kernel_rfl) (by kernel_rfl) fun G hGx => ?_ | refine vcOpsS_sound (by kernel_rfl) ?_ | refine W_ifE fun A B hAx hBx => ?_); refine evT ?_; (first | refine hGx _ ?_ | refine hNx _ ?_ | refine hAx ?_ | refine hBx ?_ | skip)))); (try clear fs))
      refine ⟨hil, hdf, f0, f9, f8, f63, rfl, _, by rw [List.length_set]; exact hel, Heap.upd_same _ _ _, fun el hel2 => ?_⟩
      rcases List.mem_or_eq_of_mem_set hel2 with h | h
      · exact hel1 el h
      · rw [h]; rfl
    have p1 : ((i : Int) < (l.length : Int)) = False := eq_false (by omega)
    clear hi hx h00 hil
    (have fs := And.intro f0 (And.intro f9 (And.intro f8 (And.intro f63 (And.intro f64 (And.intro p1 @i64.eq_1))))); (repeat (first | refine hGx _ ?_ | refine hNx _ ?_ | refine W_skip ?_ | refine W_exit ?_ | refine W_ret ?_ | refine W_label ?_ | refine W_scope ?_ | refine W_block ?_ | refine W_seq ?_ | ((first | refine tS fun N hNx => ?_ | refine WL_gE rfl rfl (by kernel_rfl) (by kernel_rfl) fun G hGx => ?_ | refine vcOpsS_sound (by kernel_rfl) ?_ | refine W_ifE fun A B hAx hBx => ?_); refine evT ?_; (first | refine hGx _ ?_ | refine hNx _ ?_ | refine hAx ?_ | refine hBx ?_ | skip)))); (try clear fs))
    refine (encode_N t _ (by omega) (by omega)).mono ?_
    rintro d H5 ⟨c2, o2, hc2, rfl, rfl⟩
    (have fs := And.intro f0 (And.intro f9 @i64.eq_1); (repeat (first | refine hGx _ ?_ | refine hNx _ ?_ | refine W_skip ?_ | refine W_exit ?_ | refine W_ret ?_ | refine W_label ?_ | refine W_scope ?_ | refine W_block ?_ | refine W_seq ?_ | ((first | refine tS fun N hNx => ?_ | refine WL_gE rfl rfl (by kernel_rfl) (by kernel_rfl) fun G hGx => ?_ | refine vcOpsS_sound (by kernel_rfl) ?_ | refine W_ifE fun A B hAx hBx => ?_); refine evT ?_; (first | refine hGx _ ?_ | refine hNx _ ?_ | refine hAx ?_ | refine hBx ?_ | skip)))); (try clear fs))
    refine W_loopN (encT t).length (fun i s => s.df = [] ∧ s.fr 0 = .seq 1 (l.map sD) ∧ s.fr 9 = .rp [.seq 1 (t.map sD)] ∧ s.fr 12 = .os c2 o2 1 0 (encT t).length ∧ s.fr 74 = i64 (encT t).length ∧ s.fr 75 = i64 i ∧ ∃ els, els.length = (encT t).length ∧ s.H c2 = some (.row 5 o2 1 els) ∧ ∀ el ∈ els, el.length = 1) ⟨hdf, f0, f9, rfl, rfl, rfl, (encT t).map bD, List.length_map _, Heap.upd_same _ _ _, fun el hel => by obtain ⟨x, _, rfl⟩ := List.mem_map.1 hel; rfl⟩ ?_
    rintro i s hi ⟨hdf, f0, f9, f12, f74, f75, els, hel, hH, hel1⟩
    have hx : (i : Int).toNat = i := Int.toNat_natCast _
    have h00 : (0 : Int) ≤ (i : Int) := Int.natCast_nonneg _
    by_cases hil : i < (encT t).length
    case pos =>
      have hil' : (i : Int) < ((encT t).length : Int) := by omega
      have p1 : ((i : Int) < ((encT t).length : Int)) = True := eq_true hil'
      have w3 : IntKind.i64.wrap ((i : Int) + 1) = ((i + 1 : Nat) : Int) := by rw [wrap_i64_of (by omega)]; omega
      obtain ⟨x, hx1⟩ : ∃ x, els[i]? = some x := ⟨els[i]'(by omega), List.getElem?_eq_getElem _⟩
      have hxl := hel1 x (List.mem_of_getElem? hx1)
      obtain ⟨y, rfl⟩ := List.length_eq_one_iff.1 hxl
      (have fs := And.intro f0 (And.intro f9 (And.intro f12 (And.intro f74 (And.intro f75 (And.intro @i64.eq_1 (And.intro p1 (And.intro hx (And.intro h00 (And.intro hil' (And.intro hH (And.intro hx1 w3))))))))))); (repeat (first | refine hGx _ ?_ | refine hNx _ ?_ | refine W_skip ?_ | refine W_exit ?_ | refine W_ret ?_ | refine W_label ?_ | refine W_scope ?_ | refine W_block ?_ | refine W_seq ?_ | ((first | refine tS fun N hNx => ?_ | refine WL_gE rfl rfl (by kernel_rfl) (by kernel_rfl) fun G hGx => ?_ | refine vcOpsS_sound (by kernel_rfl) ?_ | refine W_ifE fun A B hAx hBx => ?_); refine evT ?_; (first | refine hGx _ ?_ | refine hNx _ ?_ | refine hAx ?_ | refine hBx ?_ | skip)))); (try clear fs))
      refine ⟨hil, hdf, f0, f9, f12, f74, rfl, _, by rw [List.length_set]; exact hel, Heap.upd_same _ _ _, fun el hel2 => ?_⟩
      rcases List.mem_or_eq_of_mem_set hel2 with h | h
      · exact hel1 el h
      · rw [h]; rfl
    have p1 : ((i : Int) < ((encT t).length : Int)) = False := eq_false (by omega)
    (have fs := And.intro f0 (And.intro f9 (And.intro f12 (And.intro f74 (And.intro f75 (And.intro @i64.eq_1 p1))))); (repeat (first | refine hGx _ ?_ | refine hNx _ ?_ | refine W_skip ?_ | refine W_exit ?_ | refine W_ret ?_ | refine W_label ?_ | refine W_scope ?_ | refine W_block ?_ | refine W_seq ?_ | ((first | refine tS fun N hNx => ?_ | refine WL_gE rfl rfl (by kernel_rfl) (by kernel_rfl) fun G hGx => ?_ | refine vcOpsS_sound (by kernel_rfl) ?_ | refine W_ifE fun A B hAx hBx => ?_); refine evT ?_; (first | refine hGx _ ?_ | refine hNx _ ?_ | refine hAx ?_ | refine hBx ?_ | skip)))); (try clear fs))
    refine (knew_N l _ (by omega) hs).mono ?_
    rintro d _ ⟨rfl, rfl⟩
    rw [hd2]
    (have fs := And.intro f0 (And.intro f9 @i64.eq_1); (repeat (first | refine hGx _ ?_ | refine hNx _ ?_ | refine W_skip ?_ | refine W_exit ?_ | refine W_ret ?_ | refine W_label ?_ | refine W_scope ?_ | refine W_block ?_ | refine W_seq ?_ | ((first | refine tS fun N hNx => ?_ | refine WL_gE rfl rfl (by kernel_rfl) (by kernel_rfl) fun G hGx => ?_ | refine vcOpsS_sound (by kernel_rfl) ?_ | refine W_ifE fun A B hAx hBx => ?_); refine evT ?_; (first | refine hGx _ ?_ | refine hNx _ ?_ | refine hAx ?_ | refine hBx ?_ | skip)))); (try clear fs))
    refine (list_N t _ (by omega)).mono ?_
    rintro d _ ⟨rfl, rfl⟩
    (have fs := And.intro f0 (And.intro f9 @i64.eq_1); (repeat (first | refine hGx _ ?_ | refine hNx _ ?_ | refine W_skip ?_ | refine W_exit ?_ | refine W_ret ?_ | refine W_label ?_ | refine W_scope ?_ | refine W_block ?_ | refine W_seq ?_ | ((first | refine tS fun N hNx => ?_ | refine WL_gE rfl rfl (by kernel_rfl) (by kernel_rfl) fun G hGx => ?_ | refine vcOpsS_sound (by kernel_rfl) ?_ | refine W_ifE fun A B hAx hBx => ?_); refine evT ?_; (first | refine hGx _ ?_ | refine hNx _ ?_ | refine hAx ?_ | refine hBx ?_ | skip)))); (try clear fs))
    refine (equalS_at _ t t (by unfold big; omega)).mono ?_
    rintro d _ ⟨rfl, rfl⟩
    rw [decide_eq_true rfl]
    (first | refine hGx _ ?_ | refine hNx _ ?_ | skip)
    (have fs := And.intro f0 (And.intro f9 @i64.eq_1); (repeat (first | refine hGx _ ?_ | refine hNx _ ?_ | refine W_skip ?_ | refine W_exit ?_ | refine W_ret ?_ | refine W_label ?_ | refine W_scope ?_ | refine W_block ?_ | refine W_seq ?_ | ((first | refine tS fun N hNx => ?_ | refine WL_gE rfl rfl (by kernel_rfl) (by kernel_rfl) fun G hGx => ?_ | refine vcOpsS_sound (by kernel_rfl) ?_ | refine W_ifE fun A B hAx hBx => ?_); refine evT ?_; (first | refine hGx _ ?_ | refine hNx _ ?_ | refine hAx ?_ | refine hBx ?_ | skip)))); (try clear fs))
    refine (encode_S t _ (by omega) (by omega)).mono ?_
    rintro d _ ⟨rfl, rfl⟩
    (first | refine hGx _ ?_ | refine hNx _ ?_ | skip)
    (have fs := And.intro f0 (And.intro f9 @i64.eq_1); (repeat (first | refine hGx _ ?_ | refine hNx _ ?_ | refine W_skip ?_ | refine W_exit ?_ | refine W_ret ?_ | refine W_label ?_ | refine W_scope ?_ | refine W_block ?_ | refine W_seq ?_ | ((first | refine tS fun N hNx => ?_ | refine WL_gE rfl rfl (by kernel_rfl) (by kernel_rfl) fun G hGx => ?_ | refine vcOpsS_sound (by kernel_rfl) ?_ | refine W_ifE fun A B hAx hBx => ?_); refine evT ?_; (first | refine hGx _ ?_ | refine hNx _ ?_ | refine hAx ?_ | refine hBx ?_ | skip)))); (try clear fs))
    refine (kenc_N t _ (by omega) (by omega)).mono ?_
    rintro d _ ⟨rfl, rfl⟩
    (first | refine hGx _ ?_ | refine hNx _ ?_ | skip)
    (have fs := And.intro f0 (And.intro f9 @i64.eq_1); (repeat (first | refine hGx _ ?_ | refine hNx _ ?_ | refine W_skip ?_ | refine W_exit ?_ | refine W_ret ?_ | refine W_label ?_ | refine W_scope ?_ | refine W_block ?_ | refine W_seq ?_ | ((first | refine tS fun N hNx => ?_ | refine WL_gE rfl rfl (by kernel_rfl) (by kernel_rfl) fun G hGx => ?_ | refine vcOpsS_sound (by kernel_rfl) ?_ | refine W_ifE fun A B hAx hBx => ?_); refine evT ?_; (first | refine hGx _ ?_ | refine hNx _ ?_ | refine hAx ?_ | refine hBx ?_ | skip)))); (try clear fs))
    refine (eqb_N (encT t) (encT t) _).mono ?_
    rintro d _ ⟨rfl, rfl⟩
    rw [decide_eq_true rfl]
    (first | refine hGx _ ?_ | refine hNx _ ?_ | skip)
    (have fs := @i64.eq_1; (repeat (first | refine hGx _ ?_ | refine hNx _ ?_ | refine W_skip ?_ | refine W_exit ?_ | refine W_ret ?_ | refine W_label ?_ | refine W_scope ?_ | refine W_block ?_ | refine W_seq ?_ | ((first | refine tS fun N hNx => ?_ | refine WL_gE rfl rfl (by kernel_rfl) (by kernel_rfl) fun G hGx => ?_ | refine vcOpsS_sound (by kernel_rfl) ?_ | refine W_ifE fun A B hAx hBx => ?_); refine evT ?_; (first | refine hGx _ ?_ | refine hNx _ ?_ | refine hAx ?_ | refine hBx ?_ | skip)))); (try clear fs))
    (first | (show Q .ret _) | (show Q .normal _) | skip); refine hret _ _ (by first | exact .inr rfl | exact .inl rfl) (by first | rfl | assumption | (simp only [put_df, withH_df]; assumption)) ?_; have fs := hdf; refine evT ?_; clear fs
    exact ⟨_, Heap.le_refl _⟩
theorem InternIsolated_walk (x0 : X) (v0 : Value) (w : World) (o0 : DT.ok (DT.slice 1 16 (DT.string)) x0) (i0 : D.is w Heap.none.others x0.d v0) :
    Calls Tryd.prog 6 #[v0] w fun e w' => e = .returned (.bool true) ∧ Below w.heap.size w w' := by
  obtain ⟨l, hx, hl, hs⟩ := ok_strs o0 (by decide)
  rw [hx] at i0
  exact walk_of (lisol_N l hl hs) ⟨_, _, rfl, i0, rfl⟩
end Go.Proofs.YtiakpcnglihnbaaDoor
