/- Lemmas and contracts of functions, several texts in one: B2 B3 B4. -/
import Derived.Test.YtbcghjcakincoaaGBQ
/- Comparisons of lists, cell by cell. (written by gen_bod.py) -/
namespace Go.Proofs.Ytbcghjcakincoaa
open Go.RowKit
set_option linter.unusedVariables false
set_option maxRecDepth 100000
set_option linter.unusedSimpArgs false
set_option maxHeartbeats 1000000 in
theorem equalS_N (l m : List ByteArray) (hl : big l.length) : Does Try.prog 19 [.seq 1 (l.map sD), .seq 1 (m.map sD)] .none fun d _ => d = .val (.bool (decide (l = m))) := by
  unfold big at hl
  have hll : (List.map sD l).length = l.length := List.length_map _
  have hml : (List.map sD m).length = m.length := List.length_map _
  refine does_of _ _ Try.func19 rfl rfl Try.ntmps19 Try.results19 (by simp only [List.length_cons, List.length_nil]; omega) fun w0 Q hret => ?_
  by_cases hlm : l.length = m.length
  case neg =>
    have q : ((l.length : Int) = (m.length : Int)) = False := eq_false (by omega)
    (have fs := And.intro @i64.eq_1 (And.intro hll (And.intro hml q)); (repeat (first | refine hGx _ ?_ | refine hNx _ ?_ | refine W_skip ?_ | refine W_exit ?_ | refine W_ret ?_ | refine W_label ?_ | refine W_scope ?_ | refine W_block ?_ | refine W_seq ?_ | ((first | refine tS fun N hNx => ?_ | refine WL_gE rfl rfl (by kernel_rfl) (by kernel_rfl) fun G hGx => ?_ | refine vcOpsS_sound (by kernel_rfl) ?_ | refine W_ifE fun A B hAx hBx => ?_); refine evT ?_; (first | refine hGx _ ?_ | refine hNx _ ?_ | refine hAx ?_ | refine hBx ?_ | skip)))); (try clear fs))
    (first | (show Q .ret _) | (show Q .normal _) | skip); refine hret _ _ (by first | exact .inr rfl | exact .inl rfl) (by first | rfl | assumption | (simp only [put_df, withH_df]; assumption)) ?_; have fs := @i64.eq_1; refine evT ?_; clear fs
    exact ⟨_, Heap.le_refl _, by rw [decide_eq_false fun e => hlm (by rw [e])]⟩
  have q : ((l.length : Int) = (m.length : Int)) = True := eq_true (by omega)
  (have fs := And.intro @i64.eq_1 (And.intro hll (And.intro hml q)); (repeat (first | refine hGx _ ?_ | refine hNx _ ?_ | refine W_skip ?_ | refine W_exit ?_ | refine W_ret ?_ | refine W_label ?_ | refine W_scope ?_ | refine W_block ?_ | refine W_seq ?_ | ((first | refine tS fun N hNx => ?_ | refine WL_gE rfl rfl (by kernel_rfl) (by kernel_rfl) fun G hGx => ?_ | refine vcOpsS_sound (by kernel_rfl) ?_ | refine W_ifE fun A B hAx hBx => ?_); refine evT ?_; (first | refine hGx _ ?_ | refine hNx _ ?_ | refine hAx ?_ | refine hBx ?_ | skip)))); (try clear fs))
  refine W_loopN l.length (fun i s => s.df = [] ∧ s.fr 0 = .seq 1 (l.map sD) ∧ s.fr 1 = .seq 1 (m.map sD) ∧ s.fr 12 = i64 l.length ∧ s.fr 13 = i64 i ∧ s.H = Heap.none ∧ l.take i = m.take i) ⟨rfl, rfl, rfl, rfl, rfl, rfl, by simp⟩ ?_
  rintro i s hi ⟨hdf, f0, f1, f12, f13, hH, htk⟩
  have hx : (i : Int).toNat = i := Int.toNat_natCast _
  have h00 : (0 : Int) ≤ (i : Int) := Int.natCast_nonneg _
  by_cases hil : i < l.length
  case neg =>
    have q1 : ((i : Int) < (l.length : Int)) = False := eq_false (by omega)
    rw [List.take_of_length_le (by omega), List.take_of_length_le (by omega)] at htk
    (have fs := And.intro f12 (And.intro f13 (And.intro @i64.eq_1 q1)); (repeat (first | refine hGx _ ?_ | refine hNx _ ?_ | refine W_skip ?_ | refine W_exit ?_ | refine W_ret ?_ | refine W_label ?_ | refine W_scope ?_ | refine W_block ?_ | refine W_seq ?_ | ((first | refine tS fun N hNx => ?_ | refine WL_gE rfl rfl (by kernel_rfl) (by kernel_rfl) fun G hGx => ?_ | refine vcOpsS_sound (by kernel_rfl) ?_ | refine W_ifE fun A B hAx hBx => ?_); refine evT ?_; (first | refine hGx _ ?_ | refine hNx _ ?_ | refine hAx ?_ | refine hBx ?_ | skip)))); (try clear fs))
    (first | (show Q .ret _) | (show Q .normal _) | skip); refine hret _ _ (by first | exact .inr rfl | exact .inl rfl) (by first | rfl | assumption | (simp only [put_df, withH_df]; assumption)) ?_; have fs := hdf; refine evT ?_; clear fs
    exact ⟨_, Heap.le_refl _, by rw [decide_eq_true htk]⟩
  have q1 : ((i : Int) < (l.length : Int)) = True := eq_true (by omega)
  have him : i < m.length := by omega
  have hgi := map_get (f := sD) hil
  have hgm := map_get (f := sD) him
  have w3 : IntKind.i64.wrap ((i : Int) + 1) = ((i + 1 : Nat) : Int) := by rw [wrap_i64_of (by omega)]; omega
  have hne : l[i] ≠ m[i] → decide (l = m) = false := fun h => decide_eq_false (by rintro rfl; exact h rfl)
  have hts := take_snocA htk hil him
  obtain ⟨x, hxe⟩ : ∃ x, x = l[i] := ⟨_, rfl⟩
  obtain ⟨y, hye⟩ : ∃ x, x = m[i] := ⟨_, rfl⟩
  rw [← hxe] at hgi hne hts
  rw [← hye] at hgm hne hts
  simp only [sD, strD] at hgi hgm
  (have fs := And.intro f12 (And.intro f13 (And.intro @i64.eq_1 q1)); (repeat (first | refine hGx _ ?_ | refine hNx _ ?_ | refine W_skip ?_ | refine W_exit ?_ | refine W_ret ?_ | refine W_label ?_ | refine W_scope ?_ | refine W_block ?_ | refine W_seq ?_ | ((first | refine tS fun N hNx => ?_ | refine WL_gE rfl rfl (by kernel_rfl) (by kernel_rfl) fun G hGx => ?_ | refine vcOpsS_sound (by kernel_rfl) ?_ | refine W_ifE fun A B hAx hBx => ?_); refine evT ?_; (first | refine hGx _ ?_ | refine hNx _ ?_ | refine hAx ?_ | refine hBx ?_ | skip)))); (try clear fs))
  by_cases c1 : x.toList = y.toList
  case neg =>
    have p1 : (x.toList = y.toList) = False := eq_false c1
    refine W_drawE (fun _ _ _ _ => False) (by kernel_rfl) (by kernel_rfl) (by kernel_rfl) fun N hNx => ?_; (have fs := And.intro f0 (And.intro f1 (And.intro @i64.eq_1 (And.intro hll (And.intro hml (And.intro hgi (And.intro hgm (And.intro hx (And.intro h00 (And.intro hil (And.intro him p1)))))))))); (repeat ((first | refine vcD_g rfl rfl fun G hGx => ?_ | refine vcDS_to ?_); refine evD ?_; (first | refine hGx _ ?_ | refine hNx _ ?_ | skip))); (try clear fs))
    (have fs := And.intro f13 (And.intro @i64.eq_1 w3); (repeat (first | refine hGx _ ?_ | refine hNx _ ?_ | refine W_skip ?_ | refine W_exit ?_ | refine W_ret ?_ | refine W_label ?_ | refine W_scope ?_ | refine W_block ?_ | refine W_seq ?_ | ((first | refine tS fun N hNx => ?_ | refine WL_gE rfl rfl (by kernel_rfl) (by kernel_rfl) fun G hGx => ?_ | refine vcOpsS_sound (by kernel_rfl) ?_ | refine W_ifE fun A B hAx hBx => ?_); refine evT ?_; (first | refine hGx _ ?_ | refine hNx _ ?_ | refine hAx ?_ | refine hBx ?_ | skip)))); (try clear fs))
    (first | (show Q .ret _) | (show Q .normal _) | skip); refine hret _ _ (by first | exact .inr rfl | exact .inl rfl) (by first | rfl | assumption | (simp only [put_df, withH_df]; assumption)) ?_; have fs := hdf; refine evT ?_; clear fs
    exact ⟨_, Heap.le_refl _, by rw [hne fun h => c1 (by rw [h])]⟩
  have p1 : (x.toList = y.toList) = True := eq_true c1
  refine W_drawE (fun _ _ _ _ => False) (by kernel_rfl) (by kernel_rfl) (by kernel_rfl) fun N hNx => ?_; (have fs := And.intro f0 (And.intro f1 (And.intro @i64.eq_1 (And.intro hll (And.intro hml (And.intro hgi (And.intro hgm (And.intro hx (And.intro h00 (And.intro hil (And.intro him p1)))))))))); (repeat ((first | refine vcD_g rfl rfl fun G hGx => ?_ | refine vcDS_to ?_); refine evD ?_; (first | refine hGx _ ?_ | refine hNx _ ?_ | skip))); (try clear fs))
  (have fs := And.intro f13 (And.intro @i64.eq_1 w3); (repeat (first | refine hGx _ ?_ | refine hNx _ ?_ | refine W_skip ?_ | refine W_exit ?_ | refine W_ret ?_ | refine W_label ?_ | refine W_scope ?_ | refine W_block ?_ | refine W_seq ?_ | ((first | refine tS fun N hNx => ?_ | refine WL_gE rfl rfl (by kernel_rfl) (by kernel_rfl) fun G hGx => ?_ | refine vcOpsS_sound (by kernel_rfl) ?_ | refine W_ifE fun A B hAx hBx => ?_); refine evT ?_; (first | refine hGx _ ?_ | refine hNx _ ?_ | refine hAx ?_ | refine hBx ?_ | skip)))); (try clear fs))
  refine ⟨hil, hdf, f0, f1, f12, rfl, hH, ?_⟩
  exact hts (toL_inj.1 c1)
theorem equalS_at (H : Heap) (l m : List ByteArray) (hl : big l.length) : Does Try.prog 19 [.seq 1 (l.map sD), .seq 1 (m.map sD)] H fun d H' => d = .val (.bool (decide (l = m))) ∧ H = H' :=
  pure_D (equalS_N l m hl) rfl (vws2 (vw_refl _ _) (vw_refl _ _))
set_option maxHeartbeats 1000000 in
theorem equalJ_N (l m : List (Int × Int)) (hl : big l.length) : Does Try.prog 113 [.seq 2 (l.map pD), .seq 2 (m.map pD)] .none fun d _ => d = .val (.bool (decide (l = m))) := by
  unfold big at hl
  have hll : (List.map pD l).length = l.length := List.length_map _
  have hml : (List.map pD m).length = m.length := List.length_map _
  have hET := eq_true eqTy_proj
  refine does_of _ _ Try.func113 rfl rfl Try.ntmps113 Try.results113 (by simp only [List.length_cons, List.length_nil]; omega) fun w0 Q hret => ?_
  by_cases hlm : l.length = m.length
  case neg =>
    have q : ((l.length : Int) = (m.length : Int)) = False := eq_false (by omega)
    (have fs := And.intro @i64.eq_1 (And.intro hll (And.intro hml q)); (repeat (first | refine hGx _ ?_ | refine hNx _ ?_ | refine W_skip ?_ | refine W_exit ?_ | refine W_ret ?_ | refine W_label ?_ | refine W_scope ?_ | refine W_block ?_ | refine W_seq ?_ | ((first | refine tS fun N hNx => ?_ | refine WL_gE rfl rfl (by kernel_rfl) (by kernel_rfl) fun G hGx => ?_ | refine vcOpsS_sound (by kernel_rfl) ?_ | refine W_ifE fun A B hAx hBx => ?_); refine evT ?_; (first | refine hGx _ ?_ | refine hNx _ ?_ | refine hAx ?_ | refine hBx ?_ | skip)))); (try clear fs))
    (first | (show Q .ret _) | (show Q .normal _) | skip); refine hret _ _ (by first | exact .inr rfl | exact .inl rfl) (by first | rfl | assumption | (simp only [put_df, withH_df]; assumption)) ?_; have fs := @i64.eq_1; refine evT ?_; clear fs
    exact ⟨_, Heap.le_refl _, by rw [decide_eq_false fun e => hlm (by rw [e])]⟩
  have q : ((l.length : Int) = (m.length : Int)) = True := eq_true (by omega)
  (have fs := And.intro @i64.eq_1 (And.intro hll (And.intro hml q)); (repeat (first | refine hGx _ ?_ | refine hNx _ ?_ | refine W_skip ?_ | refine W_exit ?_ | refine W_ret ?_ | refine W_label ?_ | refine W_scope ?_ | refine W_block ?_ | refine W_seq ?_ | ((first | refine tS fun N hNx => ?_ | refine WL_gE rfl rfl (by kernel_rfl) (by kernel_rfl) fun G hGx => ?_ | refine vcOpsS_sound (by kernel_rfl) ?_ | refine W_ifE fun A B hAx hBx => ?_); refine evT ?_; (first | refine hGx _ ?_ | refine hNx _ ?_ | refine hAx ?_ | refine hBx ?_ | skip)))); (try clear fs))
  refine W_loopN l.length (fun i s => s.df = [] ∧ s.fr 0 = .seq 2 (l.map pD) ∧ s.fr 1 = .seq 2 (m.map pD) ∧ s.fr 12 = i64 l.length ∧ s.fr 13 = i64 i ∧ s.H = Heap.none ∧ l.take i = m.take i) ⟨rfl, rfl, rfl, rfl, rfl, rfl, by simp⟩ ?_
  rintro i s hi ⟨hdf, f0, f1, f12, f13, hH, htk⟩
  have hx : (i : Int).toNat = i := Int.toNat_natCast _
  have h00 : (0 : Int) ≤ (i : Int) := Int.natCast_nonneg _
  by_cases hil : i < l.length
  case neg =>
    have q1 : ((i : Int) < (l.length : Int)) = False := eq_false (by omega)
    rw [List.take_of_length_le (by omega), List.take_of_length_le (by omega)] at htk
    (have fs := And.intro f12 (And.intro f13 (And.intro @i64.eq_1 q1)); (repeat (first | refine hGx _ ?_ | refine hNx _ ?_ | refine W_skip ?_ | refine W_exit ?_ | refine W_ret ?_ | refine W_label ?_ | refine W_scope ?_ | refine W_block ?_ | refine W_seq ?_ | ((first | refine tS fun N hNx => ?_ | refine WL_gE rfl rfl (by kernel_rfl) (by kernel_rfl) fun G hGx => ?_ | refine vcOpsS_sound (by kernel_rfl) ?_ | refine W_ifE fun A B hAx hBx => ?_); refine evT ?_; (first | refine hGx _ ?_ | refine hNx _ ?_ | refine hAx ?_ | refine hBx ?_ | skip)))); (try clear fs))
    (first | (show Q .ret _) | (show Q .normal _) | skip); refine hret _ _ (by first | exact .inr rfl | exact .inl rfl) (by first | rfl | assumption | (simp only [put_df, withH_df]; assumption)) ?_; have fs := hdf; refine evT ?_; clear fs
    exact ⟨_, Heap.le_refl _, by rw [decide_eq_true htk]⟩
  have q1 : ((i : Int) < (l.length : Int)) = True := eq_true (by omega)
  have him : i < m.length := by omega
  have hgi := map_get (f := pD) hil
  have hgm := map_get (f := pD) him
  have w3 : IntKind.i64.wrap ((i : Int) + 1) = ((i + 1 : Nat) : Int) := by rw [wrap_i64_of (by omega)]; omega
  have hne : l[i] ≠ m[i] → decide (l = m) = false := fun h => decide_eq_false (by rintro rfl; exact h rfl)
  have hts := take_snocA htk hil him
  obtain ⟨x, hxe⟩ : ∃ x, x = l[i] := ⟨_, rfl⟩
  obtain ⟨y, hye⟩ : ∃ x, x = m[i] := ⟨_, rfl⟩
  rw [← hxe] at hgi hne hts
  rw [← hye] at hgm hne hts
  simp only [pD, i64] at hgi hgm
  (have fs := And.intro f12 (And.intro f13 (And.intro @i64.eq_1 q1)); (repeat (first | refine hGx _ ?_ | refine hNx _ ?_ | refine W_skip ?_ | refine W_exit ?_ | refine W_ret ?_ | refine W_label ?_ | refine W_scope ?_ | refine W_block ?_ | refine W_seq ?_ | ((first | refine tS fun N hNx => ?_ | refine WL_gE rfl rfl (by kernel_rfl) (by kernel_rfl) fun G hGx => ?_ | refine vcOpsS_sound (by kernel_rfl) ?_ | refine W_ifE fun A B hAx hBx => ?_); refine evT ?_; (first | refine hGx _ ?_ | refine hNx _ ?_ | refine hAx ?_ | refine hBx ?_ | skip)))); (try clear fs))
  by_cases c1 : x.1 = y.1
  case neg =>
    have p1 : (x.1 = y.1) = False := eq_false c1
    refine W_drawE (fun _ _ _ _ => False) (by kernel_rfl) (by kernel_rfl) (by kernel_rfl) fun N hNx => ?_; (have fs := And.intro f0 (And.intro f1 (And.intro @i64.eq_1 (And.intro hll (And.intro hml (And.intro hgi (And.intro hgm (And.intro hx (And.intro h00 (And.intro hil (And.intro him (And.intro p1 (And.intro hET (And.intro @Bool.and_true (And.intro @Bool.and_false (And.intro @Bool.false_and (And.intro @Bool.not_true @Bool.not_false)))))))))))))))); (repeat ((first | refine vcD_g rfl rfl fun G hGx => ?_ | refine vcDS_to ?_); refine evD ?_; (first | refine hGx _ ?_ | refine hNx _ ?_ | skip))); (try clear fs))
    (have fs := And.intro f13 (And.intro @i64.eq_1 w3); (repeat (first | refine hGx _ ?_ | refine hNx _ ?_ | refine W_skip ?_ | refine W_exit ?_ | refine W_ret ?_ | refine W_label ?_ | refine W_scope ?_ | refine W_block ?_ | refine W_seq ?_ | ((first | refine tS fun N hNx => ?_ | refine WL_gE rfl rfl (by kernel_rfl) (by kernel_rfl) fun G hGx => ?_ | refine vcOpsS_sound (by kernel_rfl) ?_ | refine W_ifE fun A B hAx hBx => ?_); refine evT ?_; (first | refine hGx _ ?_ | refine hNx _ ?_ | refine hAx ?_ | refine hBx ?_ | skip)))); (try clear fs))
    (first | (show Q .ret _) | (show Q .normal _) | skip); refine hret _ _ (by first | exact .inr rfl | exact .inl rfl) (by first | rfl | assumption | (simp only [put_df, withH_df]; assumption)) ?_; have fs := hdf; refine evT ?_; clear fs
    exact ⟨_, Heap.le_refl _, by rw [hne fun h => c1 (by rw [h])]⟩
  have p1 : (x.1 = y.1) = True := eq_true c1
  by_cases c2 : x.2 = y.2
  case neg =>
    have p2 : (x.2 = y.2) = False := eq_false c2
    refine W_drawE (fun _ _ _ _ => False) (by kernel_rfl) (by kernel_rfl) (by kernel_rfl) fun N hNx => ?_; (have fs := And.intro f0 (And.intro f1 (And.intro @i64.eq_1 (And.intro hll (And.intro hml (And.intro hgi (And.intro hgm (And.intro hx (And.intro h00 (And.intro hil (And.intro him (And.intro p1 (And.intro p2 (And.intro hET (And.intro @Bool.and_true (And.intro @Bool.and_false (And.intro @Bool.false_and (And.intro @Bool.not_true @Bool.not_false))))))))))))))))); (repeat ((first | refine vcD_g rfl rfl fun G hGx => ?_ | refine vcDS_to ?_); refine evD ?_; (first | refine hGx _ ?_ | refine hNx _ ?_ | skip))); (try clear fs))
    (have fs := And.intro f13 (And.intro @i64.eq_1 w3); (repeat (first | refine hGx _ ?_ | refine hNx _ ?_ | refine W_skip ?_ | refine W_exit ?_ | refine W_ret ?_ | refine W_label ?_ | refine W_scope ?_ | refine W_block ?_ | refine W_seq ?_ | ((first | refine tS fun N hNx => ?_ | refine WL_gE rfl rfl (by kernel_rfl) (by kernel_rfl) fun G hGx => ?_ | refine vcOpsS_sound (by kernel_rfl) ?_ | refine W_ifE fun A B hAx hBx => ?_); refine evT ?_; (first | refine hGx _ ?_ | refine hNx _ ?_ | refine hAx ?_ | refine hBx ?_ | skip)))); (try clear fs))
    (first | (show Q .ret _) | (show Q .normal _) | skip); refine hret _ _ (by first | exact .inr rfl | exact .inl rfl) (by first | rfl | assumption | (simp only [put_df, withH_df]; assumption)) ?_; have fs := hdf; refine evT ?_; clear fs
    exact ⟨_, Heap.le_refl _, by rw [hne fun h => c2 (by rw [h])]⟩
  have p2 : (x.2 = y.2) = True := eq_true c2
  refine W_drawE (fun _ _ _ _ => False) (by kernel_rfl) (by kernel_rfl) (by kernel_rfl) fun N hNx => ?_; (have fs := And.intro f0 (And.intro f1 (And.intro @i64.eq_1 (And.intro hll (And.intro hml (And.intro hgi (And.intro hgm (And.intro hx (And.intro h00 (And.intro hil (And.intro him (And.intro p1 (And.intro p2 (And.intro hET (And.intro @Bool.and_true (And.intro @Bool.and_false (And.intro @Bool.false_and (And.intro @Bool.not_true @Bool.not_false))))))))))))))))); (repeat ((first | refine vcD_g rfl rfl fun G hGx => ?_ | refine vcDS_to ?_); refine evD ?_; (first | refine hGx _ ?_ | refine hNx _ ?_ | skip))); (try clear fs))
  (have fs := And.intro f13 (And.intro @i64.eq_1 w3); (repeat (first | refine hGx _ ?_ | refine hNx _ ?_ | refine W_skip ?_ | refine W_exit ?_ | refine W_ret ?_ | refine W_label ?_ | refine W_scope ?_ | refine W_block ?_ | refine W_seq ?_ | ((first | refine tS fun N hNx => ?_ | refine WL_gE rfl rfl (by kernel_rfl) (by kernel_rfl) fun G hGx => ?_ | refine vcOpsS_sound (by kernel_rfl) ?_ | refine W_ifE fun A B hAx hBx => ?_); refine evT ?_; (first | refine hGx _ ?_ | refine hNx _ ?_ | refine hAx ?_ | refine hBx ?_ | skip)))); (try clear fs))
  refine ⟨hil, hdf, f0, f1, f12, rfl, hH, ?_⟩
  exact hts (Prod.ext c1 c2)
theorem equalJ_at (H : Heap) (l m : List (Int × Int)) (hl : big l.length) : Does Try.prog 113 [.seq 2 (l.map pD), .seq 2 (m.map pD)] H fun d H' => d = .val (.bool (decide (l = m))) ∧ H = H' :=
  pure_D (equalJ_N l m hl) rfl (vws2 (vw_refl _ _) (vw_refl _ _))
set_option maxHeartbeats 1000000 in
theorem equalL_N (l m : List LcS) (hl : big l.length) : Does Try.prog 50 [.seq 2 (l.map lcD), .seq 2 (m.map lcD)] .none fun d _ => d = .val (.bool (decide (l = m))) := by
  unfold big at hl
  have hll : (List.map lcD l).length = l.length := List.length_map _
  have hml : (List.map lcD m).length = m.length := List.length_map _
  have hET := eq_true eqTy_local
  refine does_of _ _ Try.func50 rfl rfl Try.ntmps50 Try.results50 (by simp only [List.length_cons, List.length_nil]; omega) fun w0 Q hret => ?_
  by_cases hlm : l.length = m.length
  case neg =>
    have q : ((l.length : Int) = (m.length : Int)) = False := eq_false (by omega)
    (have fs := And.intro @i64.eq_1 (And.intro hll (And.intro hml q)); (repeat (first | refine hGx _ ?_ | refine hNx _ ?_ | refine W_skip ?_ | refine W_exit ?_ | refine W_ret ?_ | refine W_label ?_ | refine W_scope ?_ | refine W_block ?_ | refine W_seq ?_ | ((first | refine tS fun N hNx => ?_ | refine WL_gE rfl rfl (by kernel_rfl) (by kernel_rfl) fun G hGx => ?_ | refine vcOpsS_sound (by kernel_rfl) ?_ | refine W_ifE fun A B hAx hBx => ?_); refine evT ?_; (first | refine hGx _ ?_ | refine hNx _ ?_ | refine hAx ?_ | refine hBx ?_ | skip)))); (try clear fs))
    (first | (show Q .ret _) | (show Q .normal _) | skip); refine hret _ _ (by first | exact .inr rfl | exact .inl rfl) (by first | rfl | assumption | (simp only [put_df, withH_df]; assumption)) ?_; have fs := @i64.eq_1; refine evT ?_; clear fs
    exact ⟨_, Heap.le_refl _, by rw [decide_eq_false fun e => hlm (by rw [e])]⟩
  have q : ((l.length : Int) = (m.length : Int)) = True := eq_true (by omega)
  (have fs := And.intro @i64.eq_1 (And.intro hll (And.intro hml q)); (repeat (first | refine hGx _ ?_ | refine hNx _ ?_ | refine W_skip ?_ | refine W_exit ?_ | refine W_ret ?_ | refine W_label ?_ | refine W_scope ?_ | refine W_block ?_ | refine W_seq ?_ | ((first | refine tS fun N hNx => ?_ | refine WL_gE rfl rfl (by kernel_rfl) (by kernel_rfl) fun G hGx => ?_ | refine vcOpsS_sound (by kernel_rfl) ?_ | refine W_ifE fun A B hAx hBx => ?_); refine evT ?_; (first | refine hGx _ ?_ | refine hNx _ ?_ | refine hAx ?_ | refine hBx ?_ | skip)))); (try clear fs))
  refine W_loopN l.length (fun i s => s.df = [] ∧ s.fr 0 = .seq 2 (l.map lcD) ∧ s.fr 1 = .seq 2 (m.map lcD) ∧ s.fr 12 = i64 l.length ∧ s.fr 13 = i64 i ∧ s.H = Heap.none ∧ l.take i = m.take i) ⟨rfl, rfl, rfl, rfl, rfl, rfl, by simp⟩ ?_
  rintro i s hi ⟨hdf, f0, f1, f12, f13, hH, htk⟩
  have hx : (i : Int).toNat = i := Int.toNat_natCast _
  have h00 : (0 : Int) ≤ (i : Int) := Int.natCast_nonneg _
  by_cases hil : i < l.length
  case neg =>
    have q1 : ((i : Int) < (l.length : Int)) = False := eq_false (by omega)
    rw [List.take_of_length_le (by omega), List.take_of_length_le (by omega)] at htk
    (have fs := And.intro f12 (And.intro f13 (And.intro @i64.eq_1 q1)); (repeat (first | refine hGx _ ?_ | refine hNx _ ?_ | refine W_skip ?_ | refine W_exit ?_ | refine W_ret ?_ | refine W_label ?_ | refine W_scope ?_ | refine W_block ?_ | refine W_seq ?_ | ((first | refine tS fun N hNx => ?_ | refine WL_gE rfl rfl (by kernel_rfl) (by kernel_rfl) fun G hGx => ?_ | refine vcOpsS_sound (by kernel_rfl) ?_ | refine W_ifE fun A B hAx hBx => ?_); refine evT ?_; (first | refine hGx _ ?_ | refine hNx _ ?_ | refine hAx ?_ | refine hBx ?_ | skip)))); (try clear fs))
    (first | (show Q .ret _) | (show Q .normal _) | skip); refine hret _ _ (by first | exact .inr rfl | exact .inl rfl) (by first | rfl | assumption | (simp only [put_df, withH_df]; assumption)) ?_; have fs := hdf; refine evT ?_; clear fs
    exact ⟨_, Heap.le_refl _, by rw [decide_eq_true htk]⟩
  have q1 : ((i : Int) < (l.length : Int)) = True := eq_true (by omega)
  have him : i < m.length := by omega
  have hgi := map_get (f := lcD) hil
  have hgm := map_get (f := lcD) him
  have w3 : IntKind.i64.wrap ((i : Int) + 1) = ((i + 1 : Nat) : Int) := by rw [wrap_i64_of (by omega)]; omega
  have hne : l[i] ≠ m[i] → decide (l = m) = false := fun h => decide_eq_false (by rintro rfl; exact h rfl)
  have hts := take_snocA htk hil him
  obtain ⟨x, hxe⟩ : ∃ x, x = l[i] := ⟨_, rfl⟩
  obtain ⟨y, hye⟩ : ∃ x, x = m[i] := ⟨_, rfl⟩
  rw [← hxe] at hgi hne hts
  rw [← hye] at hgm hne hts
  simp only [lcD, strD, i64] at hgi hgm
  (have fs := And.intro f12 (And.intro f13 (And.intro @i64.eq_1 q1)); (repeat (first | refine hGx _ ?_ | refine hNx _ ?_ | refine W_skip ?_ | refine W_exit ?_ | refine W_ret ?_ | refine W_label ?_ | refine W_scope ?_ | refine W_block ?_ | refine W_seq ?_ | ((first | refine tS fun N hNx => ?_ | refine WL_gE rfl rfl (by kernel_rfl) (by kernel_rfl) fun G hGx => ?_ | refine vcOpsS_sound (by kernel_rfl) ?_ | refine W_ifE fun A B hAx hBx => ?_); refine evT ?_; (first | refine hGx _ ?_ | refine hNx _ ?_ | refine hAx ?_ | refine hBx ?_ | skip)))); (try clear fs))
  by_cases c1 : x.nm.toList = y.nm.toList
  case neg =>
    have p1 : (x.nm.toList = y.nm.toList) = False := eq_false c1
    refine W_drawE (fun _ _ _ _ => False) (by kernel_rfl) (by kernel_rfl) (by kernel_rfl) fun N hNx => ?_; (have fs := And.intro f0 (And.intro f1 (And.intro @i64.eq_1 (And.intro hll (And.intro hml (And.intro hgi (And.intro hgm (And.intro hx (And.intro h00 (And.intro hil (And.intro him (And.intro p1 (And.intro hET (And.intro @Bool.and_true (And.intro @Bool.and_false (And.intro @Bool.false_and (And.intro @Bool.not_true @Bool.not_false)))))))))))))))); (repeat ((first | refine vcD_g rfl rfl fun G hGx => ?_ | refine vcDS_to ?_); refine evD ?_; (first | refine hGx _ ?_ | refine hNx _ ?_ | skip))); (try clear fs))
    (have fs := And.intro f13 (And.intro @i64.eq_1 w3); (repeat (first | refine hGx _ ?_ | refine hNx _ ?_ | refine W_skip ?_ | refine W_exit ?_ | refine W_ret ?_ | refine W_label ?_ | refine W_scope ?_ | refine W_block ?_ | refine W_seq ?_ | ((first | refine tS fun N hNx => ?_ | refine WL_gE rfl rfl (by kernel_rfl) (by kernel_rfl) fun G hGx => ?_ | refine vcOpsS_sound (by kernel_rfl) ?_ | refine W_ifE fun A B hAx hBx => ?_); refine evT ?_; (first | refine hGx _ ?_ | refine hNx _ ?_ | refine hAx ?_ | refine hBx ?_ | skip)))); (try clear fs))
    (first | (show Q .ret _) | (show Q .normal _) | skip); refine hret _ _ (by first | exact .inr rfl | exact .inl rfl) (by first | rfl | assumption | (simp only [put_df, withH_df]; assumption)) ?_; have fs := hdf; refine evT ?_; clear fs
    exact ⟨_, Heap.le_refl _, by rw [hne fun h => c1 (by rw [h])]⟩
  have p1 : (x.nm.toList = y.nm.toList) = True := eq_true c1
  by_cases c2 : x.ty = y.ty
  case neg =>
    have p2 : (x.ty = y.ty) = False := eq_false c2
    refine W_drawE (fun _ _ _ _ => False) (by kernel_rfl) (by kernel_rfl) (by kernel_rfl) fun N hNx => ?_; (have fs := And.intro f0 (And.intro f1 (And.intro @i64.eq_1 (And.intro hll (And.intro hml (And.intro hgi (And.intro hgm (And.intro hx (And.intro h00 (And.intro hil (And.intro him (And.intro p1 (And.intro p2 (And.intro hET (And.intro @Bool.and_true (And.intro @Bool.and_false (And.intro @Bool.false_and (And.intro @Bool.not_true @Bool.not_false))))))))))))))))); (repeat ((first | refine vcD_g rfl rfl fun G hGx => ?_ | refine vcDS_to ?_); refine evD ?_; (first | refine hGx _ ?_ | refine hNx _ ?_ | skip))); (try clear fs))
    (have fs := And.intro f13 (And.intro @i64.eq_1 w3); (repeat (first | refine hGx _ ?_ | refine hNx _ ?_ | refine W_skip ?_ | refine W_exit ?_ | refine W_ret ?_ | refine W_label ?_ | refine W_scope ?_ | refine W_block ?_ | refine W_seq ?_ | ((first | refine tS fun N hNx => ?_ | refine WL_gE rfl rfl (by kernel_rfl) (by kernel_rfl) fun G hGx => ?_ | refine vcOpsS_sound (by kernel_rfl) ?_ | refine W_ifE fun A B hAx hBx => ?_); refine evT ?_; (first | refine hGx _ ?_ | refine hNx _ ?_ | refine hAx ?_ | refine hBx ?_ | skip)))); (try clear fs))
    (first | (show Q .ret _) | (show Q .normal _) | skip); refine hret _ _ (by first | exact .inr rfl | exact .inl rfl) (by first | rfl | assumption | (simp only [put_df, withH_df]; assumption)) ?_; have fs := hdf; refine evT ?_; clear fs
    exact ⟨_, Heap.le_refl _, by rw [hne fun h => c2 (by rw [h])]⟩
  have p2 : (x.ty = y.ty) = True := eq_true c2
  refine W_drawE (fun _ _ _ _ => False) (by kernel_rfl) (by kernel_rfl) (by kernel_rfl) fun N hNx => ?_; (have fs := And.intro f0 (And.intro f1 (And.intro @i64.eq_1 (And.intro hll (And.intro hml (And.intro hgi (And.intro hgm (And.intro hx (And.intro h00 (And.intro hil (And.intro him (And.intro p1 (And.intro p2 (And.intro hET (And.intro @Bool.and_true (And.intro @Bool.and_false (And.intro @Bool.false_and (And.intro @Bool.not_true @Bool.not_false))))))))))))))))); (repeat ((first | refine vcD_g rfl rfl fun G hGx => ?_ | refine vcDS_to ?_); refine evD ?_; (first | refine hGx _ ?_ | refine hNx _ ?_ | skip))); (try clear fs))
  (have fs := And.intro f13 (And.intro @i64.eq_1 w3); (repeat (first | refine hGx _ ?_ | refine hNx _ ?_ | refine W_skip ?_ | refine W_exit ?_ | refine W_ret ?_ | refine W_label ?_ | refine W_scope ?_ | refine W_block ?_ | refine W_seq ?_ | ((first | refine tS fun N hNx => ?_ | refine WL_gE rfl rfl (by kernel_rfl) (by kernel_rfl) fun G hGx => ?_ | refine vcOpsS_sound (by kernel_rfl) ?_ | refine W_ifE fun A B hAx hBx => ?_); refine evT ?_; (first | refine hGx _ ?_ | refine hNx _ ?_ | refine hAx ?_ | refine hBx ?_ | skip)))); (try clear fs))
  refine ⟨hil, hdf, f0, f1, f12, rfl, hH, ?_⟩
  exact hts ((by cases x; cases y; simp only [LcS.mk.injEq]; exact ⟨toL_inj.1 c1, c2⟩))
theorem equalL_at (H : Heap) (l m : List LcS) (hl : big l.length) : Does Try.prog 50 [.seq 2 (l.map lcD), .seq 2 (m.map lcD)] H fun d H' => d = .val (.bool (decide (l = m))) ∧ H = H' :=
  pure_D (equalL_N l m hl) rfl (vws2 (vw_refl _ _) (vw_refl _ _))
set_option maxHeartbeats 1000000 in
theorem equalP_N (l m : List (Int × Int)) (hl : big l.length) : Does Try.prog 48 [.seq 2 (l.map pD), .seq 2 (m.map pD)] .none fun d _ => d = .val (.bool (decide (l = m))) := by
  unfold big at hl
  have hll : (List.map pD l).length = l.length := List.length_map _
  have hml : (List.map pD m).length = m.length := List.length_map _
  have hET := eq_true eqTy_pair
  refine does_of _ _ Try.func48 rfl rfl Try.ntmps48 Try.results48 (by simp only [List.length_cons, List.length_nil]; omega) fun w0 Q hret => ?_
  by_cases hlm : l.length = m.length
  case neg =>
    have q : ((l.length : Int) = (m.length : Int)) = False := eq_false (by omega)
    (have fs := And.intro @i64.eq_1 (And.intro hll (And.intro hml q)); (repeat (first | refine hGx _ ?_ | refine hNx _ ?_ | refine W_skip ?_ | refine W_exit ?_ | refine W_ret ?_ | refine W_label ?_ | refine W_scope ?_ | refine W_block ?_ | refine W_seq ?_ | ((first | refine tS fun N hNx => ?_ | refine WL_gE rfl rfl (by kernel_rfl) (by kernel_rfl) fun G hGx => ?_ | refine vcOpsS_sound (by kernel_rfl) ?_ | refine W_ifE fun A B hAx hBx => ?_); refine evT ?_; (first | refine hGx _ ?_ | refine hNx _ ?_ | refine hAx ?_ | refine hBx ?_ | skip)))); (try clear fs))
    (first | (show Q .ret _) | (show Q .normal _) | skip); refine hret _ _ (by first | exact .inr rfl | exact .inl rfl) (by first | rfl | assumption | (simp only [put_df, withH_df]; assumption)) ?_; have fs := @i64.eq_1; refine evT ?_; clear fs
    exact ⟨_, Heap.le_refl _, by rw [decide_eq_false fun e => hlm (by rw [e])]⟩
  have q : ((l.length : Int) = (m.length : Int)) = True := eq_true (by omega)
  (have fs := And.intro @i64.eq_1 (And.intro hll (And.intro hml q)); (repeat (first | refine hGx _ ?_ | refine hNx _ ?_ | refine W_skip ?_ | refine W_exit ?_ | refine W_ret ?_ | refine W_label ?_ | refine W_scope ?_ | refine W_block ?_ | refine W_seq ?_ | ((first | refine tS fun N hNx => ?_ | refine WL_gE rfl rfl (by kernel_rfl) (by kernel_rfl) fun G hGx => ?_ | refine vcOpsS_sound (by kernel_rfl) ?_ | refine W_ifE fun A B hAx hBx => ?_); refine evT ?_; (first | refine hGx _ ?_ | refine hNx _ ?_ | refine hAx ?_ | refine hBx ?_ | skip)))); (try clear fs))
  refine W_loopN l.length (fun i s => s.df = [] ∧ s.fr 0 = .seq 2 (l.map pD) ∧ s.fr 1 = .seq 2 (m.map pD) ∧ s.fr 12 = i64 l.length ∧ s.fr 13 = i64 i ∧ s.H = Heap.none ∧ l.take i = m.take i) ⟨rfl, rfl, rfl, rfl, rfl, rfl, by simp⟩ ?_
  rintro i s hi ⟨hdf, f0, f1, f12, f13, hH, htk⟩
  have hx : (i : Int).toNat = i := Int.toNat_natCast _
  have h00 : (0 : Int) ≤ (i : Int) := Int.natCast_nonneg _
  by_cases hil : i < l.length
  case neg =>
    have q1 : ((i : Int) < (l.length : Int)) = False := eq_false (by omega)
    rw [List.take_of_length_le (by omega), List.take_of_length_le (by omega)] at htk
    (have fs := And.intro f12 (And.intro f13 (And.intro @i64.eq_1 q1)); (repeat (first | refine hGx _ ?_ | refine hNx _ ?_ | refine W_skip ?_ | refine W_exit ?_ | refine W_ret ?_ | refine W_label ?_ | refine W_scope ?_ | refine W_block ?_ | refine W_seq ?_ | ((first | refine tS fun N hNx => ?_ | refine WL_gE rfl rfl (by kernel_rfl) (by kernel_rfl) fun G hGx => ?_ | refine vcOpsS_sound (by kernel_rfl) ?_ | refine W_ifE fun A B hAx hBx => ?_); refine evT ?_; (first | refine hGx _ ?_ | refine hNx _ ?_ | refine hAx ?_ | refine hBx ?_ | skip)))); (try clear fs))
    (first | (show Q .ret _) | (show Q .normal _) | skip); refine hret _ _ (by first | exact .inr rfl | exact .inl rfl) (by first | rfl | assumption | (simp only [put_df, withH_df]; assumption)) ?_; have fs := hdf; refine evT ?_; clear fs
    exact ⟨_, Heap.le_refl _, by rw [decide_eq_true htk]⟩
  have q1 : ((i : Int) < (l.length : Int)) = True := eq_true (by omega)
  have him : i < m.length := by omega
  have hgi := map_get (f := pD) hil
  have hgm := map_get (f := pD) him
  have w3 : IntKind.i64.wrap ((i : Int) + 1) = ((i + 1 : Nat) : Int) := by rw [wrap_i64_of (by omega)]; omega
  have hne : l[i] ≠ m[i] → decide (l = m) = false := fun h => decide_eq_false (by rintro rfl; exact h rfl)
  have hts := take_snocA htk hil him
  obtain ⟨x, hxe⟩ : ∃ x, x = l[i] := ⟨_, rfl⟩
  obtain ⟨y, hye⟩ : ∃ x, x = m[i] := ⟨_, rfl⟩
  rw [← hxe] at hgi hne hts
  rw [← hye] at hgm hne hts
  simp only [pD, i64] at hgi hgm
  (have fs := And.intro f12 (And.intro f13 (And.intro @i64.eq_1 q1)); (repeat (first | refine hGx _ ?_ | refine hNx _ ?_ | refine W_skip ?_ | refine W_exit ?_ | refine W_ret ?_ | refine W_label ?_ | refine W_scope ?_ | refine W_block ?_ | refine W_seq ?_ | ((first | refine tS fun N hNx => ?_ | refine WL_gE rfl rfl (by kernel_rfl) (by kernel_rfl) fun G hGx => ?_ | refine vcOpsS_sound (by kernel_rfl) ?_ | refine W_ifE fun A B hAx hBx => ?_); refine evT ?_; (first | refine hGx _ ?_ | refine hNx _ ?_ | refine hAx ?_ | refine hBx ?_ | skip)))); (try clear fs))
  by_cases c1 : x.1 = y.1
  case neg =>
    have p1 : (x.1 = y.1) = False := eq_false c1
    refine W_drawE (fun _ _ _ _ => False) (by kernel_rfl) (by kernel_rfl) (by kernel_rfl) fun N hNx => ?_; (have fs := And.intro f0 (And.intro f1 (And.intro @i64.eq_1 (And.intro hll (And.intro hml (And.intro hgi (And.intro hgm (And.intro hx (And.intro h00 (And.intro hil (And.intro him (And.intro p1 (And.intro hET (And.intro @Bool.and_true (And.intro @Bool.and_false (And.intro @Bool.false_and (And.intro @Bool.not_true @Bool.not_false)))))))))))))))); (repeat ((first | refine vcD_g rfl rfl fun G hGx => ?_ | refine vcDS_to ?_); refine evD ?_; (first | refine hGx _ ?_ | refine hNx _ ?_ | skip))); (try clear fs))
    (have fs := And.intro f13 (And.intro @i64.eq_1 w3); (repeat (first | refine hGx _ ?_ | refine hNx _ ?_ | refine W_skip ?_ | refine W_exit ?_ | refine W_ret ?_ | refine W_label ?_ | refine W_scope ?_ | refine W_block ?_ | refine W_seq ?_ | ((first | refine tS fun N hNx => ?_ | refine WL_gE rfl rfl (by kernel_rfl) (by kernel_rfl) fun G hGx => ?_ | refine vcOpsS_sound (by kernel_rfl) ?_ | refine W_ifE fun A B hAx hBx => ?_); refine evT ?_; (first | refine hGx _ ?_ | refine hNx _ ?_ | refine hAx ?_ | refine hBx ?_ | skip)))); (try clear fs))
    (first | (show Q .ret _) | (show Q .normal _) | skip); refine hret _ _ (by first | exact .inr rfl | exact .inl rfl) (by first | rfl | assumption | (simp only [put_df, withH_df]; assumption)) ?_; have fs := hdf; refine evT ?_; clear fs
    exact ⟨_, Heap.le_refl _, by rw [hne fun h => c1 (by rw [h])]⟩
  have p1 : (x.1 = y.1) = True := eq_true c1
  by_cases c2 : x.2 = y.2
  case neg =>
    have p2 : (x.2 = y.2) = False := eq_false c2
    refine W_drawE (fun _ _ _ _ => False) (by kernel_rfl) (by kernel_rfl) (by kernel_rfl) fun N hNx => ?_; (have fs := And.intro f0 (And.intro f1 (And.intro @i64.eq_1 (And.intro hll (And.intro hml (And.intro hgi (And.intro hgm (And.intro hx (And.intro h00 (And.intro hil (And.intro him (And.intro p1 (And.intro p2 (And.intro hET (And.intro @Bool.and_true (And.intro @Bool.and_false (And.intro @Bool.false_and (And.intro @Bool.not_true @Bool.not_false))))))))))))))))); (repeat ((first | refine vcD_g rfl rfl fun G hGx => ?_ | refine vcDS_to ?_); refine evD ?_; (first | refine hGx _ ?_ | refine hNx _ ?_ | skip))); (try clear fs))
    (have fs := And.intro f13 (And.intro @i64.eq_1 w3); (repeat (first | refine hGx _ ?_ | refine hNx _ ?_ | refine W_skip ?_ | refine W_exit ?_ | refine W_ret ?_ | refine W_label ?_ | refine W_scope ?_ | refine W_block ?_ | refine W_seq ?_ | ((first | refine tS fun N hNx => ?_ | refine WL_gE rfl rfl (by kernel_rfl) (by kernel_rfl) fun G hGx => ?_ | refine vcOpsS_sound (by kernel_rfl) ?_ | refine W_ifE fun A B hAx hBx => ?_); refine evT ?_; (first | refine hGx _ ?_ | refine hNx _ ?_ | refine hAx ?_ | refine hBx ?_ | skip)))); (try clear fs))
    (first | (show Q .ret _) | (show Q .normal _) | skip); refine hret _ _ (by first | exact .inr rfl | exact .inl rfl) (by first | rfl | assumption | (simp only [put_df, withH_df]; assumption)) ?_; have fs := hdf; refine evT ?_; clear fs
    exact ⟨_, Heap.le_refl _, by rw [hne fun h => c2 (by rw [h])]⟩
  have p2 : (x.2 = y.2) = True := eq_true c2
  refine W_drawE (fun _ _ _ _ => False) (by kernel_rfl) (by kernel_rfl) (by kernel_rfl) fun N hNx => ?_; (have fs := And.intro f0 (And.intro f1 (And.intro @i64.eq_1 (And.intro hll (And.intro hml (And.intro hgi (And.intro hgm (And.intro hx (And.intro h00 (And.intro hil (And.intro him (And.intro p1 (And.intro p2 (And.intro hET (And.intro @Bool.and_true (And.intro @Bool.and_false (And.intro @Bool.false_and (And.intro @Bool.not_true @Bool.not_false))))))))))))))))); (repeat ((first | refine vcD_g rfl rfl fun G hGx => ?_ | refine vcDS_to ?_); refine evD ?_; (first | refine hGx _ ?_ | refine hNx _ ?_ | skip))); (try clear fs))
  (have fs := And.intro f13 (And.intro @i64.eq_1 w3); (repeat (first | refine hGx _ ?_ | refine hNx _ ?_ | refine W_skip ?_ | refine W_exit ?_ | refine W_ret ?_ | refine W_label ?_ | refine W_scope ?_ | refine W_block ?_ | refine W_seq ?_ | ((first | refine tS fun N hNx => ?_ | refine WL_gE rfl rfl (by kernel_rfl) (by kernel_rfl) fun G hGx => ?_ | refine vcOpsS_sound (by kernel_rfl) ?_ | refine W_ifE fun A B hAx hBx => ?_); refine evT ?_; (first | refine hGx _ ?_ | refine hNx _ ?_ | refine hAx ?_ | refine hBx ?_ | skip)))); (try clear fs))
  refine ⟨hil, hdf, f0, f1, f12, rfl, hH, ?_⟩
  exact hts (Prod.ext c1 c2)
theorem equalP_at (H : Heap) (l m : List (Int × Int)) (hl : big l.length) : Does Try.prog 48 [.seq 2 (l.map pD), .seq 2 (m.map pD)] H fun d H' => d = .val (.bool (decide (l = m))) ∧ H = H' :=
  pure_D (equalP_N l m hl) rfl (vws2 (vw_refl _ _) (vw_refl _ _))
set_option maxHeartbeats 1000000 in
theorem ksameI_N (l m : List Int) (hl : big l.length) : Does Try.prog 99 [.seq 1 (l.map iD), .seq 1 (m.map iD)] .none fun d _ => d = .val (.bool (decide (l = m))) := by
  unfold big at hl
  have hll : (List.map iD l).length = l.length := List.length_map _
  have hml : (List.map iD m).length = m.length := List.length_map _
  refine does_of _ _ Try.func99 rfl rfl Try.ntmps99 Try.results99 (by simp only [List.length_cons, List.length_nil]; omega) fun w0 Q hret => ?_
  by_cases hlm : l.length = m.length
  case neg =>
    have q : ((l.length : Int) = (m.length : Int)) = False := eq_false (by omega)
    (have fs := And.intro @i64.eq_1 (And.intro hll (And.intro hml q)); (repeat (first | refine hGx _ ?_ | refine hNx _ ?_ | refine W_skip ?_ | refine W_exit ?_ | refine W_ret ?_ | refine W_label ?_ | refine W_scope ?_ | refine W_block ?_ | refine W_seq ?_ | ((first | refine tS fun N hNx => ?_ | refine WL_gE rfl rfl (by kernel_rfl) (by kernel_rfl) fun G hGx => ?_ | refine vcOpsS_sound (by kernel_rfl) ?_ | refine W_ifE fun A B hAx hBx => ?_); refine evT ?_; (first | refine hGx _ ?_ | refine hNx _ ?_ | refine hAx ?_ | refine hBx ?_ | skip)))); (try clear fs))
    (first | (show Q .ret _) | (show Q .normal _) | skip); refine hret _ _ (by first | exact .inr rfl | exact .inl rfl) (by first | rfl | assumption | (simp only [put_df, withH_df]; assumption)) ?_; have fs := @i64.eq_1; refine evT ?_; clear fs
    exact ⟨_, Heap.le_refl _, by rw [decide_eq_false fun e => hlm (by rw [e])]⟩
  have q : ((l.length : Int) = (m.length : Int)) = True := eq_true (by omega)
  (have fs := And.intro @i64.eq_1 (And.intro hll (And.intro hml q)); (repeat (first | refine hGx _ ?_ | refine hNx _ ?_ | refine W_skip ?_ | refine W_exit ?_ | refine W_ret ?_ | refine W_label ?_ | refine W_scope ?_ | refine W_block ?_ | refine W_seq ?_ | ((first | refine tS fun N hNx => ?_ | refine WL_gE rfl rfl (by kernel_rfl) (by kernel_rfl) fun G hGx => ?_ | refine vcOpsS_sound (by kernel_rfl) ?_ | refine W_ifE fun A B hAx hBx => ?_); refine evT ?_; (first | refine hGx _ ?_ | refine hNx _ ?_ | refine hAx ?_ | refine hBx ?_ | skip)))); (try clear fs))
  refine W_loopN l.length (fun i s => s.df = [] ∧ s.fr 0 = .seq 1 (l.map iD) ∧ s.fr 1 = .seq 1 (m.map iD) ∧ s.fr 5 = i64 i ∧ s.H = Heap.none ∧ l.take i = m.take i) ⟨rfl, rfl, rfl, rfl, rfl, by simp⟩ ?_
  rintro i s hi ⟨hdf, f0, f1, f5, hH, htk⟩
  have hx : (i : Int).toNat = i := Int.toNat_natCast _
  have h00 : (0 : Int) ≤ (i : Int) := Int.natCast_nonneg _
  by_cases hil : i < l.length
  case neg =>
    have q1 : ((i : Int) < (l.length : Int)) = False := eq_false (by omega)
    rw [List.take_of_length_le (by omega), List.take_of_length_le (by omega)] at htk
    (have fs := And.intro f0 (And.intro f5 (And.intro @i64.eq_1 (And.intro hll q1))); (repeat (first | refine hGx _ ?_ | refine hNx _ ?_ | refine W_skip ?_ | refine W_exit ?_ | refine W_ret ?_ | refine W_label ?_ | refine W_scope ?_ | refine W_block ?_ | refine W_seq ?_ | ((first | refine tS fun N hNx => ?_ | refine WL_gE rfl rfl (by kernel_rfl) (by kernel_rfl) fun G hGx => ?_ | refine vcOpsS_sound (by kernel_rfl) ?_ | refine W_ifE fun A B hAx hBx => ?_); refine evT ?_; (first | refine hGx _ ?_ | refine hNx _ ?_ | refine hAx ?_ | refine hBx ?_ | skip)))); (try clear fs))
    (first | (show Q .ret _) | (show Q .normal _) | skip); refine hret _ _ (by first | exact .inr rfl | exact .inl rfl) (by first | rfl | assumption | (simp only [put_df, withH_df]; assumption)) ?_; have fs := hdf; refine evT ?_; clear fs
    exact ⟨_, Heap.le_refl _, by rw [decide_eq_true htk]⟩
  have q1 : ((i : Int) < (l.length : Int)) = True := eq_true (by omega)
  have him : i < m.length := by omega
  have hgi := map_get (f := iD) hil
  have hgm := map_get (f := iD) him
  have w3 : IntKind.i64.wrap ((i : Int) + 1) = ((i + 1 : Nat) : Int) := by rw [wrap_i64_of (by omega)]; omega
  have hne : l[i] ≠ m[i] → decide (l = m) = false := fun h => decide_eq_false (by rintro rfl; exact h rfl)
  have hts := take_snocA htk hil him
  obtain ⟨x, hxe⟩ : ∃ x, x = l[i] := ⟨_, rfl⟩
  obtain ⟨y, hye⟩ : ∃ x, x = m[i] := ⟨_, rfl⟩
  rw [← hxe] at hgi hne hts
  rw [← hye] at hgm hne hts
  simp only [iD, i64] at hgi hgm
  (have fs := And.intro f0 (And.intro f5 (And.intro @i64.eq_1 (And.intro hll q1))); (repeat (first | refine hGx _ ?_ | refine hNx _ ?_ | refine W_skip ?_ | refine W_exit ?_ | refine W_ret ?_ | refine W_label ?_ | refine W_scope ?_ | refine W_block ?_ | refine W_seq ?_ | ((first | refine tS fun N hNx => ?_ | refine WL_gE rfl rfl (by kernel_rfl) (by kernel_rfl) fun G hGx => ?_ | refine vcOpsS_sound (by kernel_rfl) ?_ | refine W_ifE fun A B hAx hBx => ?_); refine evT ?_; (first | refine hGx _ ?_ | refine hNx _ ?_ | refine hAx ?_ | refine hBx ?_ | skip)))); (try clear fs))
  by_cases c1 : x = y
  case neg =>
    have p1 : (x = y) = False := eq_false c1
    refine W_drawE (fun _ _ _ _ => False) (by kernel_rfl) (by kernel_rfl) (by kernel_rfl) fun N hNx => ?_; (have fs := And.intro f0 (And.intro f1 (And.intro f5 (And.intro @i64.eq_1 (And.intro hll (And.intro hml (And.intro hgi (And.intro hgm (And.intro hx (And.intro h00 (And.intro hil (And.intro him p1))))))))))); (repeat ((first | refine vcD_g rfl rfl fun G hGx => ?_ | refine vcDS_to ?_); refine evD ?_; (first | refine hGx _ ?_ | refine hNx _ ?_ | skip))); (try clear fs))
    (have fs := And.intro f5 (And.intro @i64.eq_1 w3); (repeat (first | refine hGx _ ?_ | refine hNx _ ?_ | refine W_skip ?_ | refine W_exit ?_ | refine W_ret ?_ | refine W_label ?_ | refine W_scope ?_ | refine W_block ?_ | refine W_seq ?_ | ((first | refine tS fun N hNx => ?_ | refine WL_gE rfl rfl (by kernel_rfl) (by kernel_rfl) fun G hGx => ?_ | refine vcOpsS_sound (by kernel_rfl) ?_ | refine W_ifE fun A B hAx hBx => ?_); refine evT ?_; (first | refine hGx _ ?_ | refine hNx _ ?_ | refine hAx ?_ | refine hBx ?_ | skip)))); (try clear fs))
    (first | (show Q .ret _) | (show Q .normal _) | skip); refine hret _ _ (by first | exact .inr rfl | exact .inl rfl) (by first | rfl | assumption | (simp only [put_df, withH_df]; assumption)) ?_; have fs := hdf; refine evT ?_; clear fs
    exact ⟨_, Heap.le_refl _, by rw [hne fun h => c1 (by rw [h])]⟩
  have p1 : (x = y) = True := eq_true c1
  refine W_drawE (fun _ _ _ _ => False) (by kernel_rfl) (by kernel_rfl) (by kernel_rfl) fun N hNx => ?_; (have fs := And.intro f0 (And.intro f1 (And.intro f5 (And.intro @i64.eq_1 (And.intro hll (And.intro hml (And.intro hgi (And.intro hgm (And.intro hx (And.intro h00 (And.intro hil (And.intro him p1))))))))))); (repeat ((first | refine vcD_g rfl rfl fun G hGx => ?_ | refine vcDS_to ?_); refine evD ?_; (first | refine hGx _ ?_ | refine hNx _ ?_ | skip))); (try clear fs))
  (have fs := And.intro f5 (And.intro @i64.eq_1 w3); (repeat (first | refine hGx _ ?_ | refine hNx _ ?_ | refine W_skip ?_ | refine W_exit ?_ | refine W_ret ?_ | refine W_label ?_ | refine W_scope ?_ | refine W_block ?_ | refine W_seq ?_ | ((first | refine tS fun N hNx => ?_ | refine WL_gE rfl rfl (by kernel_rfl) (by kernel_rfl) fun G hGx => ?_ | refine vcOpsS_sound (by kernel_rfl) ?_ | refine W_ifE fun A B hAx hBx => ?_); refine evT ?_; (first | refine hGx _ ?_ | refine hNx _ ?_ | refine hAx ?_ | refine hBx ?_ | skip)))); (try clear fs))
  refine ⟨hil, hdf, f0, f1, rfl, hH, ?_⟩
  exact hts (c1)
theorem ksameI_at (H : Heap) (l m : List Int) (hl : big l.length) : Does Try.prog 99 [.seq 1 (l.map iD), .seq 1 (m.map iD)] H fun d H' => d = .val (.bool (decide (l = m))) ∧ H = H' :=
  pure_D (ksameI_N l m hl) rfl (vws2 (vw_refl _ _) (vw_refl _ _))
set_option maxHeartbeats 1000000 in
theorem ksameS_N (l m : List ByteArray) (hl : big l.length) : Does Try.prog 53 [.seq 1 (l.map sD), .seq 1 (m.map sD)] .none fun d _ => d = .val (.bool (decide (l = m))) := by
  unfold big at hl
  have hll : (List.map sD l).length = l.length := List.length_map _
  have hml : (List.map sD m).length = m.length := List.length_map _
  refine does_of _ _ Try.func53 rfl rfl Try.ntmps53 Try.results53 (by simp only [List.length_cons, List.length_nil]; omega) fun w0 Q hret => ?_
  by_cases hlm : l.length = m.length
  case neg =>
    have q : ((l.length : Int) = (m.length : Int)) = False := eq_false (by omega)
    (have fs := And.intro @i64.eq_1 (And.intro hll (And.intro hml q)); (repeat (first | refine hGx _ ?_ | refine hNx _ ?_ | refine W_skip ?_ | refine W_exit ?_ | refine W_ret ?_ | refine W_label ?_ | refine W_scope ?_ | refine W_block ?_ | refine W_seq ?_ | ((first | refine tS fun N hNx => ?_ | refine WL_gE rfl rfl (by kernel_rfl) (by kernel_rfl) fun G hGx => ?_ | refine vcOpsS_sound (by kernel_rfl) ?_ | refine W_ifE fun A B hAx hBx => ?_); refine evT ?_; (first | refine hGx _ ?_ | refine hNx _ ?_ | refine hAx ?_ | refine hBx ?_ | skip)))); (try clear fs))
    (first | (show Q .ret _) | (show Q .normal _) | skip); refine hret _ _ (by first | exact .inr rfl | exact .inl rfl) (by first | rfl | assumption | (simp only [put_df, withH_df]; assumption)) ?_; have fs := @i64.eq_1; refine evT ?_; clear fs
    exact ⟨_, Heap.le_refl _, by rw [decide_eq_false fun e => hlm (by rw [e])]⟩
  have q : ((l.length : Int) = (m.length : Int)) = True := eq_true (by omega)
  (have fs := And.intro @i64.eq_1 (And.intro hll (And.intro hml q)); (repeat (first | refine hGx _ ?_ | refine hNx _ ?_ | refine W_skip ?_ | refine W_exit ?_ | refine W_ret ?_ | refine W_label ?_ | refine W_scope ?_ | refine W_block ?_ | refine W_seq ?_ | ((first | refine tS fun N hNx => ?_ | refine WL_gE rfl rfl (by kernel_rfl) (by kernel_rfl) fun G hGx => ?_ | refine vcOpsS_sound (by kernel_rfl) ?_ | refine W_ifE fun A B hAx hBx => ?_); refine evT ?_; (first | refine hGx _ ?_ | refine hNx _ ?_ | refine hAx ?_ | refine hBx ?_ | skip)))); (try clear fs))
  refine W_loopN l.length (fun i s => s.df = [] ∧ s.fr 0 = .seq 1 (l.map sD) ∧ s.fr 1 = .seq 1 (m.map sD) ∧ s.fr 5 = i64 i ∧ s.H = Heap.none ∧ l.take i = m.take i) ⟨rfl, rfl, rfl, rfl, rfl, by simp⟩ ?_
  rintro i s hi ⟨hdf, f0, f1, f5, hH, htk⟩
  have hx : (i : Int).toNat = i := Int.toNat_natCast _
  have h00 : (0 : Int) ≤ (i : Int) := Int.natCast_nonneg _
  by_cases hil : i < l.length
  case neg =>
    have q1 : ((i : Int) < (l.length : Int)) = False := eq_false (by omega)
    rw [List.take_of_length_le (by omega), List.take_of_length_le (by omega)] at htk
    (have fs := And.intro f0 (And.intro f5 (And.intro @i64.eq_1 (And.intro hll q1))); (repeat (first | refine hGx _ ?_ | refine hNx _ ?_ | refine W_skip ?_ | refine W_exit ?_ | refine W_ret ?_ | refine W_label ?_ | refine W_scope ?_ | refine W_block ?_ | refine W_seq ?_ | ((first | refine tS fun N hNx => ?_ | refine WL_gE rfl rfl (by kernel_rfl) (by kernel_rfl) fun G hGx => ?_ | refine vcOpsS_sound (by kernel_rfl) ?_ | refine W_ifE fun A B hAx hBx => ?_); refine evT ?_; (first | refine hGx _ ?_ | refine hNx _ ?_ | refine hAx ?_ | refine hBx ?_ | skip)))); (try clear fs))
    (first | (show Q .ret _) | (show Q .normal _) | skip); refine hret _ _ (by first | exact .inr rfl | exact .inl rfl) (by first | rfl | assumption | (simp only [put_df, withH_df]; assumption)) ?_; have fs := hdf; refine evT ?_; clear fs
    exact ⟨_, Heap.le_refl _, by rw [decide_eq_true htk]⟩
  have q1 : ((i : Int) < (l.length : Int)) = True := eq_true (by omega)
  have him : i < m.length := by omega
  have hgi := map_get (f := sD) hil
  have hgm := map_get (f := sD) him
  have w3 : IntKind.i64.wrap ((i : Int) + 1) = ((i + 1 : Nat) : Int) := by rw [wrap_i64_of (by omega)]; omega
  have hne : l[i] ≠ m[i] → decide (l = m) = false := fun h => decide_eq_false (by rintro rfl; exact h rfl)
  have hts := take_snocA htk hil him
  obtain ⟨x, hxe⟩ : ∃ x, x = l[i] := ⟨_, rfl⟩
  obtain ⟨y, hye⟩ : ∃ x, x = m[i] := ⟨_, rfl⟩
  rw [← hxe] at hgi hne hts
  rw [← hye] at hgm hne hts
  simp only [sD, strD] at hgi hgm
  (have fs := And.intro f0 (And.intro f5 (And.intro @i64.eq_1 (And.intro hll q1))); (repeat (first | refine hGx _ ?_ | refine hNx _ ?_ | refine W_skip ?_ | refine W_exit ?_ | refine W_ret ?_ | refine W_label ?_ | refine W_scope ?_ | refine W_block ?_ | refine W_seq ?_ | ((first | refine tS fun N hNx => ?_ | refine WL_gE rfl rfl (by kernel_rfl) (by kernel_rfl) fun G hGx => ?_ | refine vcOpsS_sound (by kernel_rfl) ?_ | refine W_ifE fun A B hAx hBx => ?_); refine evT ?_; (first | refine hGx _ ?_ | refine hNx _ ?_ | refine hAx ?_ | refine hBx ?_ | skip)))); (try clear fs))
  by_cases c1 : x.toList = y.toList
  case neg =>
    have p1 : (x.toList = y.toList) = False := eq_false c1
    refine W_drawE (fun _ _ _ _ => False) (by kernel_rfl) (by kernel_rfl) (by kernel_rfl) fun N hNx => ?_; (have fs := And.intro f0 (And.intro f1 (And.intro f5 (And.intro @i64.eq_1 (And.intro hll (And.intro hml (And.intro hgi (And.intro hgm (And.intro hx (And.intro h00 (And.intro hil (And.intro him p1))))))))))); (repeat ((first | refine vcD_g rfl rfl fun G hGx => ?_ | refine vcDS_to ?_); refine evD ?_; (first | refine hGx _ ?_ | refine hNx _ ?_ | skip))); (try clear fs))
    (have fs := And.intro f5 (And.intro @i64.eq_1 w3); (repeat (first | refine hGx _ ?_ | refine hNx _ ?_ | refine W_skip ?_ | refine W_exit ?_ | refine W_ret ?_ | refine W_label ?_ | refine W_scope ?_ | refine W_block ?_ | refine W_seq ?_ | ((first | refine tS fun N hNx => ?_ | refine WL_gE rfl rfl (by kernel_rfl) (by kernel_rfl) fun G hGx => ?_ | refine vcOpsS_sound (by kernel_rfl) ?_ | refine W_ifE fun A B hAx hBx => ?_); refine evT ?_; (first | refine hGx _ ?_ | refine hNx _ ?_ | refine hAx ?_ | refine hBx ?_ | skip)))); (try clear fs))
    (first | (show Q .ret _) | (show Q .normal _) | skip); refine hret _ _ (by first | exact .inr rfl | exact .inl rfl) (by first | rfl | assumption | (simp only [put_df, withH_df]; assumption)) ?_; have fs := hdf; refine evT ?_; clear fs
    exact ⟨_, Heap.le_refl _, by rw [hne fun h => c1 (by rw [h])]⟩
  have p1 : (x.toList = y.toList) = True := eq_true c1
  refine W_drawE (fun _ _ _ _ => False) (by kernel_rfl) (by kernel_rfl) (by kernel_rfl) fun N hNx => ?_; (have fs := And.intro f0 (And.intro f1 (And.intro f5 (And.intro @i64.eq_1 (And.intro hll (And.intro hml (And.intro hgi (And.intro hgm (And.intro hx (And.intro h00 (And.intro hil (And.intro him p1))))))))))); (repeat ((first | refine vcD_g rfl rfl fun G hGx => ?_ | refine vcDS_to ?_); refine evD ?_; (first | refine hGx _ ?_ | refine hNx _ ?_ | skip))); (try clear fs))
  (have fs := And.intro f5 (And.intro @i64.eq_1 w3); (repeat (first | refine hGx _ ?_ | refine hNx _ ?_ | refine W_skip ?_ | refine W_exit ?_ | refine W_ret ?_ | refine W_label ?_ | refine W_scope ?_ | refine W_block ?_ | refine W_seq ?_ | ((first | refine tS fun N hNx => ?_ | refine WL_gE rfl rfl (by kernel_rfl) (by kernel_rfl) fun G hGx => ?_ | refine vcOpsS_sound (by kernel_rfl) ?_ | refine W_ifE fun A B hAx hBx => ?_); refine evT ?_; (first | refine hGx _ ?_ | refine hNx _ ?_ | refine hAx ?_ | refine hBx ?_ | skip)))); (try clear fs))
  refine ⟨hil, hdf, f0, f1, rfl, hH, ?_⟩
  exact hts (toL_inj.1 c1)
theorem ksameS_at (H : Heap) (l m : List ByteArray) (hl : big l.length) : Does Try.prog 53 [.seq 1 (l.map sD), .seq 1 (m.map sD)] H fun d H' => d = .val (.bool (decide (l = m))) ∧ H = H' :=
  pure_D (ksameS_N l m hl) rfl (vws2 (vw_refl _ _) (vw_refl _ _))
set_option maxHeartbeats 1000000 in
theorem ksameP_N (l m : List (Int × Int)) (hl : big l.length) : Does Try.prog 54 [.seq 2 (l.map pD), .seq 2 (m.map pD)] .none fun d _ => d = .val (.bool (decide (l = m))) := by
  unfold big at hl
  have hll : (List.map pD l).length = l.length := List.length_map _
  have hml : (List.map pD m).length = m.length := List.length_map _
  have hET := eq_true eqTy_pair
  refine does_of _ _ Try.func54 rfl rfl Try.ntmps54 Try.results54 (by simp only [List.length_cons, List.length_nil]; omega) fun w0 Q hret => ?_
  by_cases hlm : l.length = m.length
  case neg =>
    have q : ((l.length : Int) = (m.length : Int)) = False := eq_false (by omega)
    (have fs := And.intro @i64.eq_1 (And.intro hll (And.intro hml q)); (repeat (first | refine hGx _ ?_ | refine hNx _ ?_ | refine W_skip ?_ | refine W_exit ?_ | refine W_ret ?_ | refine W_label ?_ | refine W_scope ?_ | refine W_block ?_ | refine W_seq ?_ | ((first | refine tS fun N hNx => ?_ | refine WL_gE rfl rfl (by kernel_rfl) (by kernel_rfl) fun G hGx => ?_ | refine vcOpsS_sound (by kernel_rfl) ?_ | refine W_ifE fun A B hAx hBx => ?_); refine evT ?_; (first | refine hGx _ ?_ | refine hNx _ ?_ | refine hAx ?_ | refine hBx ?_ | skip)))); (try clear fs))
    (first | (show Q .ret _) | (show Q .normal _) | skip); refine hret _ _ (by first | exact .inr rfl | exact .inl rfl) (by first | rfl | assumption | (simp only [put_df, withH_df]; assumption)) ?_; have fs := @i64.eq_1; refine evT ?_; clear fs
    exact ⟨_, Heap.le_refl _, by rw [decide_eq_false fun e => hlm (by rw [e])]⟩
  have q : ((l.length : Int) = (m.length : Int)) = True := eq_true (by omega)
  (have fs := And.intro @i64.eq_1 (And.intro hll (And.intro hml q)); (repeat (first | refine hGx _ ?_ | refine hNx _ ?_ | refine W_skip ?_ | refine W_exit ?_ | refine W_ret ?_ | refine W_label ?_ | refine W_scope ?_ | refine W_block ?_ | refine W_seq ?_ | ((first | refine tS fun N hNx => ?_ | refine WL_gE rfl rfl (by kernel_rfl) (by kernel_rfl) fun G hGx => ?_ | refine vcOpsS_sound (by kernel_rfl) ?_ | refine W_ifE fun A B hAx hBx => ?_); refine evT ?_; (first | refine hGx _ ?_ | refine hNx _ ?_ | refine hAx ?_ | refine hBx ?_ | skip)))); (try clear fs))
  refine W_loopN l.length (fun i s => s.df = [] ∧ s.fr 0 = .seq 2 (l.map pD) ∧ s.fr 1 = .seq 2 (m.map pD) ∧ s.fr 5 = i64 i ∧ s.H = Heap.none ∧ l.take i = m.take i) ⟨rfl, rfl, rfl, rfl, rfl, by simp⟩ ?_
  rintro i s hi ⟨hdf, f0, f1, f5, hH, htk⟩
  have hx : (i : Int).toNat = i := Int.toNat_natCast _
  have h00 : (0 : Int) ≤ (i : Int) := Int.natCast_nonneg _
  by_cases hil : i < l.length
  case neg =>
    have q1 : ((i : Int) < (l.length : Int)) = False := eq_false (by omega)
    rw [List.take_of_length_le (by omega), List.take_of_length_le (by omega)] at htk
    (have fs := And.intro f0 (And.intro f5 (And.intro @i64.eq_1 (And.intro hll q1))); (repeat (first | refine hGx _ ?_ | refine hNx _ ?_ | refine W_skip ?_ | refine W_exit ?_ | refine W_ret ?_ | refine W_label ?_ | refine W_scope ?_ | refine W_block ?_ | refine W_seq ?_ | ((first | refine tS fun N hNx => ?_ | refine WL_gE rfl rfl (by kernel_rfl) (by kernel_rfl) fun G hGx => ?_ | refine vcOpsS_sound (by kernel_rfl) ?_ | refine W_ifE fun A B hAx hBx => ?_); refine evT ?_; (first | refine hGx _ ?_ | refine hNx _ ?_ | refine hAx ?_ | refine hBx ?_ | skip)))); (try clear fs))
    (first | (show Q .ret _) | (show Q .normal _) | skip); refine hret _ _ (by first | exact .inr rfl | exact .inl rfl) (by first | rfl | assumption | (simp only [put_df, withH_df]; assumption)) ?_; have fs := hdf; refine evT ?_; clear fs
    exact ⟨_, Heap.le_refl _, by rw [decide_eq_true htk]⟩
  have q1 : ((i : Int) < (l.length : Int)) = True := eq_true (by omega)
  have him : i < m.length := by omega
  have hgi := map_get (f := pD) hil
  have hgm := map_get (f := pD) him
  have w3 : IntKind.i64.wrap ((i : Int) + 1) = ((i + 1 : Nat) : Int) := by rw [wrap_i64_of (by omega)]; omega
  have hne : l[i] ≠ m[i] → decide (l = m) = false := fun h => decide_eq_false (by rintro rfl; exact h rfl)
  have hts := take_snocA htk hil him
  obtain ⟨x, hxe⟩ : ∃ x, x = l[i] := ⟨_, rfl⟩
  obtain ⟨y, hye⟩ : ∃ x, x = m[i] := ⟨_, rfl⟩
  rw [← hxe] at hgi hne hts
  rw [← hye] at hgm hne hts
  simp only [pD, i64] at hgi hgm
  (have fs := And.intro f0 (And.intro f5 (And.intro @i64.eq_1 (And.intro hll q1))); (repeat (first | refine hGx _ ?_ | refine hNx _ ?_ | refine W_skip ?_ | refine W_exit ?_ | refine W_ret ?_ | refine W_label ?_ | refine W_scope ?_ | refine W_block ?_ | refine W_seq ?_ | ((first | refine tS fun N hNx => ?_ | refine WL_gE rfl rfl (by kernel_rfl) (by kernel_rfl) fun G hGx => ?_ | refine vcOpsS_sound (by kernel_rfl) ?_ | refine W_ifE fun A B hAx hBx => ?_); refine evT ?_; (first | refine hGx _ ?_ | refine hNx _ ?_ | refine hAx ?_ | refine hBx ?_ | skip)))); (try clear fs))
  by_cases c1 : x.1 = y.1
  case neg =>
    have p1 : (x.1 = y.1) = False := eq_false c1
    refine W_drawE (fun _ _ _ _ => False) (by kernel_rfl) (by kernel_rfl) (by kernel_rfl) fun N hNx => ?_; (have fs := And.intro f0 (And.intro f1 (And.intro f5 (And.intro @i64.eq_1 (And.intro hll (And.intro hml (And.intro hgi (And.intro hgm (And.intro hx (And.intro h00 (And.intro hil (And.intro him (And.intro p1 (And.intro hET (And.intro @Bool.and_true (And.intro @Bool.and_false (And.intro @Bool.false_and (And.intro @Bool.not_true @Bool.not_false))))))))))))))))); (repeat ((first | refine vcD_g rfl rfl fun G hGx => ?_ | refine vcDS_to ?_); refine evD ?_; (first | refine hGx _ ?_ | refine hNx _ ?_ | skip))); (try clear fs))
    (have fs := And.intro f5 (And.intro @i64.eq_1 w3); (repeat (first | refine hGx _ ?_ | refine hNx _ ?_ | refine W_skip ?_ | refine W_exit ?_ | refine W_ret ?_ | refine W_label ?_ | refine W_scope ?_ | refine W_block ?_ | refine W_seq ?_ | ((first | refine tS fun N hNx => ?_ | refine WL_gE rfl rfl (by kernel_rfl) (by kernel_rfl) fun G hGx => ?_ | refine vcOpsS_sound (by kernel_rfl) ?_ | refine W_ifE fun A B hAx hBx => ?_); refine evT ?_; (first | refine hGx _ ?_ | refine hNx _ ?_ | refine hAx ?_ | refine hBx ?_ | skip)))); (try clear fs))
    (first | (show Q .ret _) | (show Q .normal _) | skip); refine hret _ _ (by first | exact .inr rfl | exact .inl rfl) (by first | rfl | assumption | (simp only [put_df, withH_df]; assumption)) ?_; have fs := hdf; refine evT ?_; clear fs
    exact ⟨_, Heap.le_refl _, by rw [hne fun h => c1 (by rw [h])]⟩
  have p1 : (x.1 = y.1) = True := eq_true c1
  by_cases c2 : x.2 = y.2
  case neg =>
    have p2 : (x.2 = y.2) = False := eq_false c2
    refine W_drawE (fun _ _ _ _ => False) (by kernel_rfl) (by kernel_rfl) (by kernel_rfl) fun N hNx => ?_; (have fs := And.intro f0 (And.intro f1 (And.intro f5 (And.intro @i64.eq_1 (And.intro hll (And.intro hml (And.intro hgi (And.intro hgm (And.intro hx (And.intro h00 (And.intro hil (And.intro him (And.intro p1 (And.intro p2 (And.intro hET (And.intro @Bool.and_true (And.intro @Bool.and_false (And.intro @Bool.false_and (And.intro @Bool.not_true @Bool.not_false)))))))))))))))))); (repeat ((first | refine vcD_g rfl rfl fun G hGx => ?_ | refine vcDS_to ?_); refine evD ?_; (first | refine hGx _ ?_ | refine hNx _ ?_ | skip))); (try clear fs))
    (have fs := And.intro f5 (And.intro @i64.eq_1 w3); (repeat (first | refine hGx _ ?_ | refine hNx _ ?_ | refine W_skip ?_ | refine W_exit ?_ | refine W_ret ?_ | refine W_label ?_ | refine W_scope ?_ | refine W_block ?_ | refine W_seq ?_ | ((first | refine tS fun N hNx => ?_ | refine WL_gE rfl rfl (by kernel_rfl) (by kernel_rfl) fun G hGx => ?_ | refine vcOpsS_sound (by kernel_rfl) ?_ | refine W_ifE fun A B hAx hBx => ?_); refine evT ?_; (first | refine hGx _ ?_ | refine hNx _ ?_ | refine hAx ?_ | refine hBx ?_ | skip)))); (try clear fs))
    (first | (show Q .ret _) | (show Q .normal _) | skip); refine hret _ _ (by first | exact .inr rfl | exact .inl rfl) (by first | rfl | assumption | (simp only [put_df, withH_df]; assumption)) ?_; have fs := hdf; refine evT ?_; clear fs
    exact ⟨_, Heap.le_refl _, by rw [hne fun h => c2 (by rw [h])]⟩
  have p2 : (x.2 = y.2) = True := eq_true c2
  refine W_drawE (fun _ _ _ _ => False) (by kernel_rfl) (by kernel_rfl) (by kernel_rfl) fun N hNx => ?_; (have fs := And.intro f0 (And.intro f1 (And.intro f5 (And.intro @i64.eq_1 (And.intro hll (And.intro hml (And.intro hgi (And.intro hgm (And.intro hx (And.intro h00 (And.intro hil (And.intro him (And.intro p1 (And.intro p2 (And.intro hET (And.intro @Bool.and_true (And.intro @Bool.and_false (And.intro @Bool.false_and (And.intro @Bool.not_true @Bool.not_false)))))))))))))))))); (repeat ((first | refine vcD_g rfl rfl fun G hGx => ?_ | refine vcDS_to ?_); refine evD ?_; (first | refine hGx _ ?_ | refine hNx _ ?_ | skip))); (try clear fs))
  (have fs := And.intro f5 (And.intro @i64.eq_1 w3); (repeat (first | refine hGx _ ?_ | refine hNx _ ?_ | refine W_skip ?_ | refine W_exit ?_ | refine W_ret ?_ | refine W_label ?_ | refine W_scope ?_ | refine W_block ?_ | refine W_seq ?_ | ((first | refine tS fun N hNx => ?_ | refine WL_gE rfl rfl (by kernel_rfl) (by kernel_rfl) fun G hGx => ?_ | refine vcOpsS_sound (by kernel_rfl) ?_ | refine W_ifE fun A B hAx hBx => ?_); refine evT ?_; (first | refine hGx _ ?_ | refine hNx _ ?_ | refine hAx ?_ | refine hBx ?_ | skip)))); (try clear fs))
  refine ⟨hil, hdf, f0, f1, rfl, hH, ?_⟩
  exact hts (Prod.ext c1 c2)
theorem ksameP_at (H : Heap) (l m : List (Int × Int)) (hl : big l.length) : Does Try.prog 54 [.seq 2 (l.map pD), .seq 2 (m.map pD)] H fun d H' => d = .val (.bool (decide (l = m))) ∧ H = H' :=
  pure_D (ksameP_N l m hl) rfl (vws2 (vw_refl _ _) (vw_refl _ _))
set_option maxHeartbeats 1000000 in
theorem eqfType_N (l m : List TyS) (f : FuncId) (H : Heap) (hl : big l.length) (hlx : ∀ x ∈ l, big x.ar.length) (hf : ∀ x y H, (big x.ar.length) → Does Try.prog f [.agg (tyD x), .agg (tyD y)] H fun d H' => d = .val (.bool (decide (x = y))) ∧ H = H') :
    Does Try.prog 91 [.seq 5 (l.map tyD), .seq 5 (m.map tyD), .fn f []] H fun d H' => d = .val (.bool (decide (l = m))) ∧ H = H' := by
  unfold big at hl
  have hll : (List.map tyD l).length = l.length := List.length_map _
  have hml : (List.map tyD m).length = m.length := List.length_map _
  refine does_of _ _ Try.func91 rfl rfl Try.ntmps91 Try.results91 (by simp only [List.length_cons, List.length_nil]; omega) fun w0 Q hret => ?_
  by_cases hlm : l.length = m.length
  case neg =>
    have q : ((l.length : Int) = (m.length : Int)) = False := eq_false (by omega)
    (have fs := And.intro @i64.eq_1 (And.intro hll (And.intro hml q)); (repeat (first | refine hGx _ ?_ | refine hNx _ ?_ | refine W_skip ?_ | refine W_exit ?_ | refine W_ret ?_ | refine W_label ?_ | refine W_scope ?_ | refine W_block ?_ | refine W_seq ?_ | ((first | refine tS fun N hNx => ?_ | refine WL_gE rfl rfl (by kernel_rfl) (by kernel_rfl) fun G hGx => ?_ | refine vcOpsS_sound (by kernel_rfl) ?_ | refine W_ifE fun A B hAx hBx => ?_); refine evT ?_; (first | refine hGx _ ?_ | refine hNx _ ?_ | refine hAx ?_ | refine hBx ?_ | skip)))); (try clear fs))
    (first | (show Q .ret _) | (show Q .normal _) | skip); refine hret _ _ (by first | exact .inr rfl | exact .inl rfl) (by first | rfl | assumption | (simp only [put_df, withH_df]; assumption)) ?_; have fs := @i64.eq_1; refine evT ?_; clear fs
    exact ⟨_, Heap.le_refl _, by rw [decide_eq_false fun e => hlm (by rw [e])], rfl⟩
  have q : ((l.length : Int) = (m.length : Int)) = True := eq_true (by omega)
  (have fs := And.intro @i64.eq_1 (And.intro hll (And.intro hml q)); (repeat (first | refine hGx _ ?_ | refine hNx _ ?_ | refine W_skip ?_ | refine W_exit ?_ | refine W_ret ?_ | refine W_label ?_ | refine W_scope ?_ | refine W_block ?_ | refine W_seq ?_ | ((first | refine tS fun N hNx => ?_ | refine WL_gE rfl rfl (by kernel_rfl) (by kernel_rfl) fun G hGx => ?_ | refine vcOpsS_sound (by kernel_rfl) ?_ | refine W_ifE fun A B hAx hBx => ?_); refine evT ?_; (first | refine hGx _ ?_ | refine hNx _ ?_ | refine hAx ?_ | refine hBx ?_ | skip)))); (try clear fs))
  refine W_loopN l.length (fun i s => s.df = [] ∧ s.fr 1 = .seq 5 (m.map tyD) ∧ s.fr 2 = .fn f [] ∧ s.fr 15 = .seq 5 (l.map tyD) ∧ s.fr 16 = i64 l.length ∧ s.fr 17 = i64 i ∧ s.H = H ∧ l.take i = m.take i) ⟨rfl, rfl, rfl, rfl, rfl, rfl, rfl, by simp⟩ ?_
  rintro i s hi ⟨hdf, f1, f2, f15, f16, f17, hH, htk⟩
  have hx : (i : Int).toNat = i := Int.toNat_natCast _
  have h00 : (0 : Int) ≤ (i : Int) := Int.natCast_nonneg _
  by_cases hil : i < l.length
  case neg =>
    have q1 : ((i : Int) < (l.length : Int)) = False := eq_false (by omega)
    rw [List.take_of_length_le (by omega), List.take_of_length_le (by omega)] at htk
    (have fs := And.intro f16 (And.intro f17 (And.intro @i64.eq_1 q1)); (repeat (first | refine hGx _ ?_ | refine hNx _ ?_ | refine W_skip ?_ | refine W_exit ?_ | refine W_ret ?_ | refine W_label ?_ | refine W_scope ?_ | refine W_block ?_ | refine W_seq ?_ | ((first | refine tS fun N hNx => ?_ | refine WL_gE rfl rfl (by kernel_rfl) (by kernel_rfl) fun G hGx => ?_ | refine vcOpsS_sound (by kernel_rfl) ?_ | refine W_ifE fun A B hAx hBx => ?_); refine evT ?_; (first | refine hGx _ ?_ | refine hNx _ ?_ | refine hAx ?_ | refine hBx ?_ | skip)))); (try clear fs))
    (first | (show Q .ret _) | (show Q .normal _) | skip); refine hret _ _ (by first | exact .inr rfl | exact .inl rfl) (by first | rfl | assumption | (simp only [put_df, withH_df]; assumption)) ?_; have fs := hdf; refine evT ?_; clear fs
    exact ⟨_, Heap.le_refl _, by rw [decide_eq_true htk], hH.symm⟩
  have q1 : ((i : Int) < (l.length : Int)) = True := eq_true (by omega)
  have him : i < m.length := by omega
  have hgi := map_get (f := tyD) hil
  have hgm := map_get (f := tyD) him
  have w3 : IntKind.i64.wrap ((i : Int) + 1) = ((i + 1 : Nat) : Int) := by rw [wrap_i64_of (by omega)]; omega
  have hne : l[i] ≠ m[i] → decide (l = m) = false := fun h => decide_eq_false (by rintro rfl; exact h rfl)
  have hts := take_snocA htk hil him
  have hox := hlx l[i] (List.getElem_mem hil)
  obtain ⟨x, hxe⟩ : ∃ x, x = l[i] := ⟨_, rfl⟩
  obtain ⟨y, hye⟩ : ∃ x, x = m[i] := ⟨_, rfl⟩
  rw [← hxe] at hgi hne hts hox
  rw [← hye] at hgm hne hts
  have hcall := hf x y s.H hox
  simp only [tyD] at hgi hgm hcall
  (have fs := And.intro f15 (And.intro f16 (And.intro f17 (And.intro @i64.eq_1 (And.intro q1 (And.intro hll (And.intro hgi (And.intro hx (And.intro h00 hil)))))))); (repeat (first | refine hGx _ ?_ | refine hNx _ ?_ | refine W_skip ?_ | refine W_exit ?_ | refine W_ret ?_ | refine W_label ?_ | refine W_scope ?_ | refine W_block ?_ | refine W_seq ?_ | ((first | refine tS fun N hNx => ?_ | refine WL_gE rfl rfl (by kernel_rfl) (by kernel_rfl) fun G hGx => ?_ | refine vcOpsS_sound (by kernel_rfl) ?_ | refine W_ifE fun A B hAx hBx => ?_); refine evT ?_; (first | refine hGx _ ?_ | refine hNx _ ?_ | refine hAx ?_ | refine hBx ?_ | skip)))); (try clear fs))
  intro c8 hc8
  refine hNx _ ?_
  refine W_frzp 8 rfl (Heap.upd_same _ _ _) rfl ?_; simp only [St.frzp, put_H, wdf_H, withH_H, withH_put, wdf_withH, withH_withH, init_H, init_withH, Heap.del_upd_same, Heap.del_none hc8, withH_self]
  (have fs := And.intro f1 (And.intro @i64.eq_1 (And.intro hml (And.intro hgm (And.intro hx (And.intro h00 him))))); (repeat (first | refine hGx _ ?_ | refine hNx _ ?_ | refine W_skip ?_ | refine W_exit ?_ | refine W_ret ?_ | refine W_label ?_ | refine W_scope ?_ | refine W_block ?_ | refine W_seq ?_ | ((first | refine tS fun N hNx => ?_ | refine WL_gE rfl rfl (by kernel_rfl) (by kernel_rfl) fun G hGx => ?_ | refine vcOpsS_sound (by kernel_rfl) ?_ | refine W_ifE fun A B hAx hBx => ?_); refine evT ?_; (first | refine hGx _ ?_ | refine hNx _ ?_ | refine hAx ?_ | refine hBx ?_ | skip)))); (try clear fs))
  intro c9 hc9
  refine hNx _ ?_
  refine W_frzp 9 rfl (Heap.upd_same _ _ _) rfl ?_; simp only [St.frzp, put_H, wdf_H, withH_H, withH_put, wdf_withH, withH_withH, init_H, init_withH, Heap.del_upd_same, Heap.del_none hc9, withH_self]
  (have fs := And.intro f2 @i64.eq_1; (repeat (first | refine hGx _ ?_ | refine hNx _ ?_ | refine W_skip ?_ | refine W_exit ?_ | refine W_ret ?_ | refine W_label ?_ | refine W_scope ?_ | refine W_block ?_ | refine W_seq ?_ | ((first | refine tS fun N hNx => ?_ | refine WL_gE rfl rfl (by kernel_rfl) (by kernel_rfl) fun G hGx => ?_ | refine vcOpsS_sound (by kernel_rfl) ?_ | refine W_ifE fun A B hAx hBx => ?_); refine evT ?_; (first | refine hGx _ ?_ | refine hNx _ ?_ | refine hAx ?_ | refine hBx ?_ | skip)))); (try clear fs))
  refine hcall.mono ?_
  rintro d _ ⟨rfl, rfl⟩
  by_cases he : x = y
  · rw [decide_eq_true he]
    (have fs := And.intro f17 (And.intro @i64.eq_1 w3); (repeat (first | refine hGx _ ?_ | refine hNx _ ?_ | refine W_skip ?_ | refine W_exit ?_ | refine W_ret ?_ | refine W_label ?_ | refine W_scope ?_ | refine W_block ?_ | refine W_seq ?_ | ((first | refine tS fun N hNx => ?_ | refine WL_gE rfl rfl (by kernel_rfl) (by kernel_rfl) fun G hGx => ?_ | refine vcOpsS_sound (by kernel_rfl) ?_ | refine W_ifE fun A B hAx hBx => ?_); refine evT ?_; (first | refine hGx _ ?_ | refine hNx _ ?_ | refine hAx ?_ | refine hBx ?_ | skip)))); (try clear fs))
    exact ⟨hil, hdf, f1, f2, f15, f16, rfl, hH, hts he⟩
  · rw [decide_eq_false he]
    (have fs := And.intro f17 (And.intro @i64.eq_1 w3); (repeat (first | refine hGx _ ?_ | refine hNx _ ?_ | refine W_skip ?_ | refine W_exit ?_ | refine W_ret ?_ | refine W_label ?_ | refine W_scope ?_ | refine W_block ?_ | refine W_seq ?_ | ((first | refine tS fun N hNx => ?_ | refine WL_gE rfl rfl (by kernel_rfl) (by kernel_rfl) fun G hGx => ?_ | refine vcOpsS_sound (by kernel_rfl) ?_ | refine W_ifE fun A B hAx hBx => ?_); refine evT ?_; (first | refine hGx _ ?_ | refine hNx _ ?_ | refine hAx ?_ | refine hBx ?_ | skip)))); (try clear fs))
    (first | (show Q .ret _) | (show Q .normal _) | skip); refine hret _ _ (by first | exact .inr rfl | exact .inl rfl) (by first | rfl | assumption | (simp only [put_df, withH_df]; assumption)) ?_; have fs := hdf; refine evT ?_; clear fs
    exact ⟨_, Heap.le_refl _, by rw [hne he], hH.symm⟩
theorem sameType_N (l m : List TyS) (f : FuncId) (H : Heap) (hl : big l.length) (hlx : ∀ x ∈ l, big x.ar.length) (hf : ∀ x y H, (big x.ar.length) → Does Try.prog f [.agg (tyD x), .agg (tyD y)] H fun d H' => d = .val (.bool (decide (x = y))) ∧ H = H') :
    Does Try.prog 49 [.agg [.fn f []], .seq 5 (l.map tyD), .seq 5 (m.map tyD)] H fun d H' => d = .val (.bool (decide (l = m))) ∧ H = H' := by
  refine does_of _ _ Try.func49 rfl rfl Try.ntmps49 Try.results49 (by simp only [List.length_cons, List.length_nil]; omega) fun w0 Q hret => ?_
  (have fs := @i64.eq_1; (repeat (first | refine hGx _ ?_ | refine hNx _ ?_ | refine W_skip ?_ | refine W_exit ?_ | refine W_ret ?_ | refine W_label ?_ | refine W_scope ?_ | refine W_block ?_ | refine W_seq ?_ | ((first | refine tS fun N hNx => ?_ | refine WL_gE rfl rfl (by kernel_rfl) (by kernel_rfl) fun G hGx => ?_ | refine vcOpsS_sound (by kernel_rfl) ?_ | refine W_ifE fun A B hAx hBx => ?_); refine evT ?_; (first | refine hGx _ ?_ | refine hNx _ ?_ | refine hAx ?_ | refine hBx ?_ | skip)))); (try clear fs))
  intro c3 hc3
  refine hNx _ ?_
  refine W_frzp 3 rfl (Heap.upd_same _ _ _) rfl ?_; simp only [St.frzp, put_H, wdf_H, withH_H, withH_put, wdf_withH, withH_withH, init_H, init_withH, Heap.del_upd_same, Heap.del_none hc3, withH_self]
  (have fs := @i64.eq_1; (repeat (first | refine hGx _ ?_ | refine hNx _ ?_ | refine W_skip ?_ | refine W_exit ?_ | refine W_ret ?_ | refine W_label ?_ | refine W_scope ?_ | refine W_block ?_ | refine W_seq ?_ | ((first | refine tS fun N hNx => ?_ | refine WL_gE rfl rfl (by kernel_rfl) (by kernel_rfl) fun G hGx => ?_ | refine vcOpsS_sound (by kernel_rfl) ?_ | refine W_ifE fun A B hAx hBx => ?_); refine evT ?_; (first | refine hGx _ ?_ | refine hNx _ ?_ | refine hAx ?_ | refine hBx ?_ | skip)))); (try clear fs))
  refine (eqfType_N l m f _ hl hlx hf).mono ?_
  rintro d _ ⟨rfl, rfl⟩
  (have fs := @i64.eq_1; (repeat (first | refine hGx _ ?_ | refine hNx _ ?_ | refine W_skip ?_ | refine W_exit ?_ | refine W_ret ?_ | refine W_label ?_ | refine W_scope ?_ | refine W_block ?_ | refine W_seq ?_ | ((first | refine tS fun N hNx => ?_ | refine WL_gE rfl rfl (by kernel_rfl) (by kernel_rfl) fun G hGx => ?_ | refine vcOpsS_sound (by kernel_rfl) ?_ | refine W_ifE fun A B hAx hBx => ?_); refine evT ?_; (first | refine hGx _ ?_ | refine hNx _ ?_ | refine hAx ?_ | refine hBx ?_ | skip)))); (try clear fs))
  (first | (show Q .ret _) | (show Q .normal _) | skip); refine hret _ _ (by first | exact .inr rfl | exact .inl rfl) (by first | rfl | assumption | (simp only [put_df, withH_df]; assumption)) ?_; have fs := @i64.eq_1; refine evT ?_; clear fs
  exact ⟨_, Heap.le_refl _, rfl⟩
set_option maxHeartbeats 1000000 in
theorem eqfOperand_N (l m : List OpS) (f : FuncId) (H : Heap) (hl : big l.length) (hlx : ∀ x ∈ l, okOp x) (hf : ∀ x y H, (okOp x) → Does Try.prog f [.agg (opD x), .agg (opD y)] H fun d H' => d = .val (.bool (decide (x = y))) ∧ H = H') :
    Does Try.prog 112 [.seq 4 (l.map opD), .seq 4 (m.map opD), .fn f []] H fun d H' => d = .val (.bool (decide (l = m))) ∧ H = H' := by
  unfold big at hl
  have hll : (List.map opD l).length = l.length := List.length_map _
  have hml : (List.map opD m).length = m.length := List.length_map _
  refine does_of _ _ Try.func112 rfl rfl Try.ntmps112 Try.results112 (by simp only [List.length_cons, List.length_nil]; omega) fun w0 Q hret => ?_
  by_cases hlm : l.length = m.length
  case neg =>
    have q : ((l.length : Int) = (m.length : Int)) = False := eq_false (by omega)
    (have fs := And.intro @i64.eq_1 (And.intro hll (And.intro hml q)); (repeat (first | refine hGx _ ?_ | refine hNx _ ?_ | refine W_skip ?_ | refine W_exit ?_ | refine W_ret ?_ | refine W_label ?_ | refine W_scope ?_ | refine W_block ?_ | refine W_seq ?_ | ((first | refine tS fun N hNx => ?_ | refine WL_gE rfl rfl (by kernel_rfl) (by kernel_rfl) fun G hGx => ?_ | refine vcOpsS_sound (by kernel_rfl) ?_ | refine W_ifE fun A B hAx hBx => ?_); refine evT ?_; (first | refine hGx _ ?_ | refine hNx _ ?_ | refine hAx ?_ | refine hBx ?_ | skip)))); (try clear fs))
    (first | (show Q .ret _) | (show Q .normal _) | skip); refine hret _ _ (by first | exact .inr rfl | exact .inl rfl) (by first | rfl | assumption | (simp only [put_df, withH_df]; assumption)) ?_; have fs := @i64.eq_1; refine evT ?_; clear fs
    exact ⟨_, Heap.le_refl _, by rw [decide_eq_false fun e => hlm (by rw [e])], rfl⟩
  have q : ((l.length : Int) = (m.length : Int)) = True := eq_true (by omega)
  (have fs := And.intro @i64.eq_1 (And.intro hll (And.intro hml q)); (repeat (first | refine hGx _ ?_ | refine hNx _ ?_ | refine W_skip ?_ | refine W_exit ?_ | refine W_ret ?_ | refine W_label ?_ | refine W_scope ?_ | refine W_block ?_ | refine W_seq ?_ | ((first | refine tS fun N hNx => ?_ | refine WL_gE rfl rfl (by kernel_rfl) (by kernel_rfl) fun G hGx => ?_ | refine vcOpsS_sound (by kernel_rfl) ?_ | refine W_ifE fun A B hAx hBx => ?_); refine evT ?_; (first | refine hGx _ ?_ | refine hNx _ ?_ | refine hAx ?_ | refine hBx ?_ | skip)))); (try clear fs))
  refine W_loopN l.length (fun i s => s.df = [] ∧ s.fr 1 = .seq 4 (m.map opD) ∧ s.fr 2 = .fn f [] ∧ s.fr 15 = .seq 4 (l.map opD) ∧ s.fr 16 = i64 l.length ∧ s.fr 17 = i64 i ∧ s.H = H ∧ l.take i = m.take i) ⟨rfl, rfl, rfl, rfl, rfl, rfl, rfl, by simp⟩ ?_
  rintro i s hi ⟨hdf, f1, f2, f15, f16, f17, hH, htk⟩
  have hx : (i : Int).toNat = i := Int.toNat_natCast _
  have h00 : (0 : Int) ≤ (i : Int) := Int.natCast_nonneg _
  by_cases hil : i < l.length
  case neg =>
    have q1 : ((i : Int) < (l.length : Int)) = False := eq_false (by omega)
    rw [List.take_of_length_le (by omega), List.take_of_length_le (by omega)] at htk
    (have fs := And.intro f16 (And.intro f17 (And.intro @i64.eq_1 q1)); (repeat (first | refine hGx _ ?_ | refine hNx _ ?_ | refine W_skip ?_ | refine W_exit ?_ | refine W_ret ?_ | refine W_label ?_ | refine W_scope ?_ | refine W_block ?_ | refine W_seq ?_ | ((first | refine tS fun N hNx => ?_ | refine WL_gE rfl rfl (by kernel_rfl) (by kernel_rfl) fun G hGx => ?_ | refine vcOpsS_sound (by kernel_rfl) ?_ | refine W_ifE fun A B hAx hBx => ?_); refine evT ?_; (first | refine hGx _ ?_ | refine hNx _ ?_ | refine hAx ?_ | refine hBx ?_ | skip)))); (try clear fs))
    (first | (show Q .ret _) | (show Q .normal _) | skip); refine hret _ _ (by first | exact .inr rfl | exact .inl rfl) (by first | rfl | assumption | (simp only [put_df, withH_df]; assumption)) ?_; have fs := hdf; refine evT ?_; clear fs
    exact ⟨_, Heap.le_refl _, by rw [decide_eq_true htk], hH.symm⟩
  have q1 : ((i : Int) < (l.length : Int)) = True := eq_true (by omega)
  have him : i < m.length := by omega
  have hgi := map_get (f := opD) hil
  have hgm := map_get (f := opD) him
  have w3 : IntKind.i64.wrap ((i : Int) + 1) = ((i + 1 : Nat) : Int) := by rw [wrap_i64_of (by omega)]; omega
  have hne : l[i] ≠ m[i] → decide (l = m) = false := fun h => decide_eq_false (by rintro rfl; exact h rfl)
  have hts := take_snocA htk hil him
  have hox := hlx l[i] (List.getElem_mem hil)
  obtain ⟨x, hxe⟩ : ∃ x, x = l[i] := ⟨_, rfl⟩
  obtain ⟨y, hye⟩ : ∃ x, x = m[i] := ⟨_, rfl⟩
  rw [← hxe] at hgi hne hts hox
  rw [← hye] at hgm hne hts
  have hcall := hf x y s.H hox
  simp only [opD] at hgi hgm hcall
  (have fs := And.intro f15 (And.intro f16 (And.intro f17 (And.intro @i64.eq_1 (And.intro q1 (And.intro hll (And.intro hgi (And.intro hx (And.intro h00 hil)))))))); (repeat (first | refine hGx _ ?_ | refine hNx _ ?_ | refine W_skip ?_ | refine W_exit ?_ | refine W_ret ?_ | refine W_label ?_ | refine W_scope ?_ | refine W_block ?_ | refine W_seq ?_ | ((first | refine tS fun N hNx => ?_ | refine WL_gE rfl rfl (by kernel_rfl) (by kernel_rfl) fun G hGx => ?_ | refine vcOpsS_sound (by kernel_rfl) ?_ | refine W_ifE fun A B hAx hBx => ?_); refine evT ?_; (first | refine hGx _ ?_ | refine hNx _ ?_ | refine hAx ?_ | refine hBx ?_ | skip)))); (try clear fs))
  intro c8 hc8
  refine hNx _ ?_
  refine W_frzp 8 rfl (Heap.upd_same _ _ _) rfl ?_; simp only [St.frzp, put_H, wdf_H, withH_H, withH_put, wdf_withH, withH_withH, init_H, init_withH, Heap.del_upd_same, Heap.del_none hc8, withH_self]
  (have fs := And.intro f1 (And.intro @i64.eq_1 (And.intro hml (And.intro hgm (And.intro hx (And.intro h00 him))))); (repeat (first | refine hGx _ ?_ | refine hNx _ ?_ | refine W_skip ?_ | refine W_exit ?_ | refine W_ret ?_ | refine W_label ?_ | refine W_scope ?_ | refine W_block ?_ | refine W_seq ?_ | ((first | refine tS fun N hNx => ?_ | refine WL_gE rfl rfl (by kernel_rfl) (by kernel_rfl) fun G hGx => ?_ | refine vcOpsS_sound (by kernel_rfl) ?_ | refine W_ifE fun A B hAx hBx => ?_); refine evT ?_; (first | refine hGx _ ?_ | refine hNx _ ?_ | refine hAx ?_ | refine hBx ?_ | skip)))); (try clear fs))
  intro c9 hc9
  refine hNx _ ?_
  refine W_frzp 9 rfl (Heap.upd_same _ _ _) rfl ?_; simp only [St.frzp, put_H, wdf_H, withH_H, withH_put, wdf_withH, withH_withH, init_H, init_withH, Heap.del_upd_same, Heap.del_none hc9, withH_self]
  (have fs := And.intro f2 @i64.eq_1; (repeat (first | refine hGx _ ?_ | refine hNx _ ?_ | refine W_skip ?_ | refine W_exit ?_ | refine W_ret ?_ | refine W_label ?_ | refine W_scope ?_ | refine W_block ?_ | refine W_seq ?_ | ((first | refine tS fun N hNx => ?_ | refine WL_gE rfl rfl (by kernel_rfl) (by kernel_rfl) fun G hGx => ?_ | refine vcOpsS_sound (by kernel_rfl) ?_ | refine W_ifE fun A B hAx hBx => ?_); refine evT ?_; (first | refine hGx _ ?_ | refine hNx _ ?_ | refine hAx ?_ | refine hBx ?_ | skip)))); (try clear fs))
  refine hcall.mono ?_
  rintro d _ ⟨rfl, rfl⟩
  by_cases he : x = y
  · rw [decide_eq_true he]
    (have fs := And.intro f17 (And.intro @i64.eq_1 w3); (repeat (first | refine hGx _ ?_ | refine hNx _ ?_ | refine W_skip ?_ | refine W_exit ?_ | refine W_ret ?_ | refine W_label ?_ | refine W_scope ?_ | refine W_block ?_ | refine W_seq ?_ | ((first | refine tS fun N hNx => ?_ | refine WL_gE rfl rfl (by kernel_rfl) (by kernel_rfl) fun G hGx => ?_ | refine vcOpsS_sound (by kernel_rfl) ?_ | refine W_ifE fun A B hAx hBx => ?_); refine evT ?_; (first | refine hGx _ ?_ | refine hNx _ ?_ | refine hAx ?_ | refine hBx ?_ | skip)))); (try clear fs))
    exact ⟨hil, hdf, f1, f2, f15, f16, rfl, hH, hts he⟩
  · rw [decide_eq_false he]
    (have fs := And.intro f17 (And.intro @i64.eq_1 w3); (repeat (first | refine hGx _ ?_ | refine hNx _ ?_ | refine W_skip ?_ | refine W_exit ?_ | refine W_ret ?_ | refine W_label ?_ | refine W_scope ?_ | refine W_block ?_ | refine W_seq ?_ | ((first | refine tS fun N hNx => ?_ | refine WL_gE rfl rfl (by kernel_rfl) (by kernel_rfl) fun G hGx => ?_ | refine vcOpsS_sound (by kernel_rfl) ?_ | refine W_ifE fun A B hAx hBx => ?_); refine evT ?_; (first | refine hGx _ ?_ | refine hNx _ ?_ | refine hAx ?_ | refine hBx ?_ | skip)))); (try clear fs))
    (first | (show Q .ret _) | (show Q .normal _) | skip); refine hret _ _ (by first | exact .inr rfl | exact .inl rfl) (by first | rfl | assumption | (simp only [put_df, withH_df]; assumption)) ?_; have fs := hdf; refine evT ?_; clear fs
    exact ⟨_, Heap.le_refl _, by rw [hne he], hH.symm⟩
theorem sameOperand_N (l m : List OpS) (f : FuncId) (H : Heap) (hl : big l.length) (hlx : ∀ x ∈ l, okOp x) (hf : ∀ x y H, (okOp x) → Does Try.prog f [.agg (opD x), .agg (opD y)] H fun d H' => d = .val (.bool (decide (x = y))) ∧ H = H') :
    Does Try.prog 95 [.agg [.fn f []], .seq 4 (l.map opD), .seq 4 (m.map opD)] H fun d H' => d = .val (.bool (decide (l = m))) ∧ H = H' := by
  refine does_of _ _ Try.func95 rfl rfl Try.ntmps95 Try.results95 (by simp only [List.length_cons, List.length_nil]; omega) fun w0 Q hret => ?_
  (have fs := @i64.eq_1; (repeat (first | refine hGx _ ?_ | refine hNx _ ?_ | refine W_skip ?_ | refine W_exit ?_ | refine W_ret ?_ | refine W_label ?_ | refine W_scope ?_ | refine W_block ?_ | refine W_seq ?_ | ((first | refine tS fun N hNx => ?_ | refine WL_gE rfl rfl (by kernel_rfl) (by kernel_rfl) fun G hGx => ?_ | refine vcOpsS_sound (by kernel_rfl) ?_ | refine W_ifE fun A B hAx hBx => ?_); refine evT ?_; (first | refine hGx _ ?_ | refine hNx _ ?_ | refine hAx ?_ | refine hBx ?_ | skip)))); (try clear fs))
  intro c3 hc3
  refine hNx _ ?_
  refine W_frzp 3 rfl (Heap.upd_same _ _ _) rfl ?_; simp only [St.frzp, put_H, wdf_H, withH_H, withH_put, wdf_withH, withH_withH, init_H, init_withH, Heap.del_upd_same, Heap.del_none hc3, withH_self]
  (have fs := @i64.eq_1; (repeat (first | refine hGx _ ?_ | refine hNx _ ?_ | refine W_skip ?_ | refine W_exit ?_ | refine W_ret ?_ | refine W_label ?_ | refine W_scope ?_ | refine W_block ?_ | refine W_seq ?_ | ((first | refine tS fun N hNx => ?_ | refine WL_gE rfl rfl (by kernel_rfl) (by kernel_rfl) fun G hGx => ?_ | refine vcOpsS_sound (by kernel_rfl) ?_ | refine W_ifE fun A B hAx hBx => ?_); refine evT ?_; (first | refine hGx _ ?_ | refine hNx _ ?_ | refine hAx ?_ | refine hBx ?_ | skip)))); (try clear fs))
  refine (eqfOperand_N l m f _ hl hlx hf).mono ?_
  rintro d _ ⟨rfl, rfl⟩
  (have fs := @i64.eq_1; (repeat (first | refine hGx _ ?_ | refine hNx _ ?_ | refine W_skip ?_ | refine W_exit ?_ | refine W_ret ?_ | refine W_label ?_ | refine W_scope ?_ | refine W_block ?_ | refine W_seq ?_ | ((first | refine tS fun N hNx => ?_ | refine WL_gE rfl rfl (by kernel_rfl) (by kernel_rfl) fun G hGx => ?_ | refine vcOpsS_sound (by kernel_rfl) ?_ | refine W_ifE fun A B hAx hBx => ?_); refine evT ?_; (first | refine hGx _ ?_ | refine hNx _ ?_ | refine hAx ?_ | refine hBx ?_ | skip)))); (try clear fs))
  (first | (show Q .ret _) | (show Q .normal _) | skip); refine hret _ _ (by first | exact .inr rfl | exact .inl rfl) (by first | rfl | assumption | (simp only [put_df, withH_df]; assumption)) ?_; have fs := @i64.eq_1; refine evT ?_; clear fs
  exact ⟨_, Heap.le_refl _, rfl⟩
set_option maxHeartbeats 1000000 in
theorem eqfStmt_N (l m : List StS) (f : FuncId) (H : Heap) (hl : big l.length) (hlx : ∀ x ∈ l, okSt x) (hf : ∀ x y H, (okSt x) → Does Try.prog f [.agg (stD x), .agg (stD y)] H fun d H' => d = .val (.bool (decide (x = y))) ∧ H = H') :
    Does Try.prog 110 [.seq 11 (l.map stD), .seq 11 (m.map stD), .fn f []] H fun d H' => d = .val (.bool (decide (l = m))) ∧ H = H' := by
  unfold big at hl
  have hll : (List.map stD l).length = l.length := List.length_map _
  have hml : (List.map stD m).length = m.length := List.length_map _
  refine does_of _ _ Try.func110 rfl rfl Try.ntmps110 Try.results110 (by simp only [List.length_cons, List.length_nil]; omega) fun w0 Q hret => ?_
  by_cases hlm : l.length = m.length
  case neg =>
    have q : ((l.length : Int) = (m.length : Int)) = False := eq_false (by omega)
    (have fs := And.intro @i64.eq_1 (And.intro hll (And.intro hml q)); (repeat (first | refine hGx _ ?_ | refine hNx _ ?_ | refine W_skip ?_ | refine W_exit ?_ | refine W_ret ?_ | refine W_label ?_ | refine W_scope ?_ | refine W_block ?_ | refine W_seq ?_ | ((first | refine tS fun N hNx => ?_ | refine WL_gE rfl rfl (by kernel_rfl) (by kernel_rfl) fun G hGx => ?_ | refine vcOpsS_sound (by kernel_rfl) ?_ | refine W_ifE fun A B hAx hBx => ?_); refine evT ?_; (first | refine hGx _ ?_ | refine hNx _ ?_ | refine hAx ?_ | refine hBx ?_ | skip)))); (try clear fs))
    (first | (show Q .ret _) | (show Q .normal _) | skip); refine hret _ _ (by first | exact .inr rfl | exact .inl rfl) (by first | rfl | assumption | (simp only [put_df, withH_df]; assumption)) ?_; have fs := @i64.eq_1; refine evT ?_; clear fs
    exact ⟨_, Heap.le_refl _, by rw [decide_eq_false fun e => hlm (by rw [e])], rfl⟩
  have q : ((l.length : Int) = (m.length : Int)) = True := eq_true (by omega)
  (have fs := And.intro @i64.eq_1 (And.intro hll (And.intro hml q)); (repeat (first | refine hGx _ ?_ | refine hNx _ ?_ | refine W_skip ?_ | refine W_exit ?_ | refine W_ret ?_ | refine W_label ?_ | refine W_scope ?_ | refine W_block ?_ | refine W_seq ?_ | ((first | refine tS fun N hNx => ?_ | refine WL_gE rfl rfl (by kernel_rfl) (by kernel_rfl) fun G hGx => ?_ | refine vcOpsS_sound (by kernel_rfl) ?_ | refine W_ifE fun A B hAx hBx => ?_); refine evT ?_; (first | refine hGx _ ?_ | refine hNx _ ?_ | refine hAx ?_ | refine hBx ?_ | skip)))); (try clear fs))
  refine W_loopN l.length (fun i s => s.df = [] ∧ s.fr 1 = .seq 11 (m.map stD) ∧ s.fr 2 = .fn f [] ∧ s.fr 15 = .seq 11 (l.map stD) ∧ s.fr 16 = i64 l.length ∧ s.fr 17 = i64 i ∧ s.H = H ∧ l.take i = m.take i) ⟨rfl, rfl, rfl, rfl, rfl, rfl, rfl, by simp⟩ ?_
  rintro i s hi ⟨hdf, f1, f2, f15, f16, f17, hH, htk⟩
  have hx : (i : Int).toNat = i := Int.toNat_natCast _
  have h00 : (0 : Int) ≤ (i : Int) := Int.natCast_nonneg _
  by_cases hil : i < l.length
  case neg =>
    have q1 : ((i : Int) < (l.length : Int)) = False := eq_false (by omega)
    rw [List.take_of_length_le (by omega), List.take_of_length_le (by omega)] at htk
    (have fs := And.intro f16 (And.intro f17 (And.intro @i64.eq_1 q1)); (repeat (first | refine hGx _ ?_ | refine hNx _ ?_ | refine W_skip ?_ | refine W_exit ?_ | refine W_ret ?_ | refine W_label ?_ | refine W_scope ?_ | refine W_block ?_ | refine W_seq ?_ | ((first | refine tS fun N hNx => ?_ | refine WL_gE rfl rfl (by kernel_rfl) (by kernel_rfl) fun G hGx => ?_ | refine vcOpsS_sound (by kernel_rfl) ?_ | refine W_ifE fun A B hAx hBx => ?_); refine evT ?_; (first | refine hGx _ ?_ | refine hNx _ ?_ | refine hAx ?_ | refine hBx ?_ | skip)))); (try clear fs))
    (first | (show Q .ret _) | (show Q .normal _) | skip); refine hret _ _ (by first | exact .inr rfl | exact .inl rfl) (by first | rfl | assumption | (simp only [put_df, withH_df]; assumption)) ?_; have fs := hdf; refine evT ?_; clear fs
    exact ⟨_, Heap.le_refl _, by rw [decide_eq_true htk], hH.symm⟩
  have q1 : ((i : Int) < (l.length : Int)) = True := eq_true (by omega)
  have him : i < m.length := by omega
  have hgi := map_get (f := stD) hil
  have hgm := map_get (f := stD) him
  have w3 : IntKind.i64.wrap ((i : Int) + 1) = ((i + 1 : Nat) : Int) := by rw [wrap_i64_of (by omega)]; omega
  have hne : l[i] ≠ m[i] → decide (l = m) = false := fun h => decide_eq_false (by rintro rfl; exact h rfl)
  have hts := take_snocA htk hil him
  have hox := hlx l[i] (List.getElem_mem hil)
  obtain ⟨x, hxe⟩ : ∃ x, x = l[i] := ⟨_, rfl⟩
  obtain ⟨y, hye⟩ : ∃ x, x = m[i] := ⟨_, rfl⟩
  rw [← hxe] at hgi hne hts hox
  rw [← hye] at hgm hne hts
  have hcall := hf x y s.H hox
  simp only [stD] at hgi hgm hcall
  (have fs := And.intro f15 (And.intro f16 (And.intro f17 (And.intro @i64.eq_1 (And.intro q1 (And.intro hll (And.intro hgi (And.intro hx (And.intro h00 hil)))))))); (repeat (first | refine hGx _ ?_ | refine hNx _ ?_ | refine W_skip ?_ | refine W_exit ?_ | refine W_ret ?_ | refine W_label ?_ | refine W_scope ?_ | refine W_block ?_ | refine W_seq ?_ | ((first | refine tS fun N hNx => ?_ | refine WL_gE rfl rfl (by kernel_rfl) (by kernel_rfl) fun G hGx => ?_ | refine vcOpsS_sound (by kernel_rfl) ?_ | refine W_ifE fun A B hAx hBx => ?_); refine evT ?_; (first | refine hGx _ ?_ | refine hNx _ ?_ | refine hAx ?_ | refine hBx ?_ | skip)))); (try clear fs))
  intro c8 hc8
  refine hNx _ ?_
  refine W_frzp 8 rfl (Heap.upd_same _ _ _) rfl ?_; simp only [St.frzp, put_H, wdf_H, withH_H, withH_put, wdf_withH, withH_withH, init_H, init_withH, Heap.del_upd_same, Heap.del_none hc8, withH_self]
  (have fs := And.intro f1 (And.intro @i64.eq_1 (And.intro hml (And.intro hgm (And.intro hx (And.intro h00 him))))); (repeat (first | refine hGx _ ?_ | refine hNx _ ?_ | refine W_skip ?_ | refine W_exit ?_ | refine W_ret ?_ | refine W_label ?_ | refine W_scope ?_ | refine W_block ?_ | refine W_seq ?_ | ((first | refine tS fun N hNx => ?_ | refine WL_gE rfl rfl (by kernel_rfl) (by kernel_rfl) fun G hGx => ?_ | refine vcOpsS_sound (by kernel_rfl) ?_ | refine W_ifE fun A B hAx hBx => ?_); refine evT ?_; (first | refine hGx _ ?_ | refine hNx _ ?_ | refine hAx ?_ | refine hBx ?_ | skip)))); (try clear fs))
  intro c9 hc9
  refine hNx _ ?_
  refine W_frzp 9 rfl (Heap.upd_same _ _ _) rfl ?_; simp only [St.frzp, put_H, wdf_H, withH_H, withH_put, wdf_withH, withH_withH, init_H, init_withH, Heap.del_upd_same, Heap.del_none hc9, withH_self]
  (have fs := And.intro f2 @i64.eq_1; (repeat (first | refine hGx _ ?_ | refine hNx _ ?_ | refine W_skip ?_ | refine W_exit ?_ | refine W_ret ?_ | refine W_label ?_ | refine W_scope ?_ | refine W_block ?_ | refine W_seq ?_ | ((first | refine tS fun N hNx => ?_ | refine WL_gE rfl rfl (by kernel_rfl) (by kernel_rfl) fun G hGx => ?_ | refine vcOpsS_sound (by kernel_rfl) ?_ | refine W_ifE fun A B hAx hBx => ?_); refine evT ?_; (first | refine hGx _ ?_ | refine hNx _ ?_ | refine hAx ?_ | refine hBx ?_ | skip)))); (try clear fs))
  refine hcall.mono ?_
  rintro d _ ⟨rfl, rfl⟩
  by_cases he : x = y
  · rw [decide_eq_true he]
    (have fs := And.intro f17 (And.intro @i64.eq_1 w3); (repeat (first | refine hGx _ ?_ | refine hNx _ ?_ | refine W_skip ?_ | refine W_exit ?_ | refine W_ret ?_ | refine W_label ?_ | refine W_scope ?_ | refine W_block ?_ | refine W_seq ?_ | ((first | refine tS fun N hNx => ?_ | refine WL_gE rfl rfl (by kernel_rfl) (by kernel_rfl) fun G hGx => ?_ | refine vcOpsS_sound (by kernel_rfl) ?_ | refine W_ifE fun A B hAx hBx => ?_); refine evT ?_; (first | refine hGx _ ?_ | refine hNx _ ?_ | refine hAx ?_ | refine hBx ?_ | skip)))); (try clear fs))
    exact ⟨hil, hdf, f1, f2, f15, f16, rfl, hH, hts he⟩
  · rw [decide_eq_false he]
    (have fs := And.intro f17 (And.intro @i64.eq_1 w3); (repeat (first | refine hGx _ ?_ | refine hNx _ ?_ | refine W_skip ?_ | refine W_exit ?_ | refine W_ret ?_ | refine W_label ?_ | refine W_scope ?_ | refine W_block ?_ | refine W_seq ?_ | ((first | refine tS fun N hNx => ?_ | refine WL_gE rfl rfl (by kernel_rfl) (by kernel_rfl) fun G hGx => ?_ | refine vcOpsS_sound (by kernel_rfl) ?_ | refine W_ifE fun A B hAx hBx => ?_); refine evT ?_; (first | refine hGx _ ?_ | refine hNx _ ?_ | refine hAx ?_ | refine hBx ?_ | skip)))); (try clear fs))
    (first | (show Q .ret _) | (show Q .normal _) | skip); refine hret _ _ (by first | exact .inr rfl | exact .inl rfl) (by first | rfl | assumption | (simp only [put_df, withH_df]; assumption)) ?_; have fs := hdf; refine evT ?_; clear fs
    exact ⟨_, Heap.le_refl _, by rw [hne he], hH.symm⟩
theorem sameStmt_N (l m : List StS) (f : FuncId) (H : Heap) (hl : big l.length) (hlx : ∀ x ∈ l, okSt x) (hf : ∀ x y H, (okSt x) → Does Try.prog f [.agg (stD x), .agg (stD y)] H fun d H' => d = .val (.bool (decide (x = y))) ∧ H = H') :
    Does Try.prog 93 [.agg [.fn f []], .seq 11 (l.map stD), .seq 11 (m.map stD)] H fun d H' => d = .val (.bool (decide (l = m))) ∧ H = H' := by
  refine does_of _ _ Try.func93 rfl rfl Try.ntmps93 Try.results93 (by simp only [List.length_cons, List.length_nil]; omega) fun w0 Q hret => ?_
  (have fs := @i64.eq_1; (repeat (first | refine hGx _ ?_ | refine hNx _ ?_ | refine W_skip ?_ | refine W_exit ?_ | refine W_ret ?_ | refine W_label ?_ | refine W_scope ?_ | refine W_block ?_ | refine W_seq ?_ | ((first | refine tS fun N hNx => ?_ | refine WL_gE rfl rfl (by kernel_rfl) (by kernel_rfl) fun G hGx => ?_ | refine vcOpsS_sound (by kernel_rfl) ?_ | refine W_ifE fun A B hAx hBx => ?_); refine evT ?_; (first | refine hGx _ ?_ | refine hNx _ ?_ | refine hAx ?_ | refine hBx ?_ | skip)))); (try clear fs))
  intro c3 hc3
  refine hNx _ ?_
  refine W_frzp 3 rfl (Heap.upd_same _ _ _) rfl ?_; simp only [St.frzp, put_H, wdf_H, withH_H, withH_put, wdf_withH, withH_withH, init_H, init_withH, Heap.del_upd_same, Heap.del_none hc3, withH_self]
  (have fs := @i64.eq_1; (repeat (first | refine hGx _ ?_ | refine hNx _ ?_ | refine W_skip ?_ | refine W_exit ?_ | refine W_ret ?_ | refine W_label ?_ | refine W_scope ?_ | refine W_block ?_ | refine W_seq ?_ | ((first | refine tS fun N hNx => ?_ | refine WL_gE rfl rfl (by kernel_rfl) (by kernel_rfl) fun G hGx => ?_ | refine vcOpsS_sound (by kernel_rfl) ?_ | refine W_ifE fun A B hAx hBx => ?_); refine evT ?_; (first | refine hGx _ ?_ | refine hNx _ ?_ | refine hAx ?_ | refine hBx ?_ | skip)))); (try clear fs))
  refine (eqfStmt_N l m f _ hl hlx hf).mono ?_
  rintro d _ ⟨rfl, rfl⟩
  (have fs := @i64.eq_1; (repeat (first | refine hGx _ ?_ | refine hNx _ ?_ | refine W_skip ?_ | refine W_exit ?_ | refine W_ret ?_ | refine W_label ?_ | refine W_scope ?_ | refine W_block ?_ | refine W_seq ?_ | ((first | refine tS fun N hNx => ?_ | refine WL_gE rfl rfl (by kernel_rfl) (by kernel_rfl) fun G hGx => ?_ | refine vcOpsS_sound (by kernel_rfl) ?_ | refine W_ifE fun A B hAx hBx => ?_); refine evT ?_; (first | refine hGx _ ?_ | refine hNx _ ?_ | refine hAx ?_ | refine hBx ?_ | skip)))); (try clear fs))
  (first | (show Q .ret _) | (show Q .normal _) | skip); refine hret _ _ (by first | exact .inr rfl | exact .inl rfl) (by first | rfl | assumption | (simp only [put_df, withH_df]; assumption)) ?_; have fs := @i64.eq_1; refine evT ?_; clear fs
  exact ⟨_, Heap.le_refl _, rfl⟩
set_option maxHeartbeats 1000000 in
theorem eqfBlock_N (l m : List BkS) (f : FuncId) (H : Heap) (hl : big l.length) (hlx : ∀ x ∈ l, okBk x) (hf : ∀ x y H, (okBk x) → Does Try.prog f [.agg (bkD x), .agg (bkD y)] H fun d H' => d = .val (.bool (decide (x = y))) ∧ H = H') :
    Does Try.prog 97 [.seq 7 (l.map bkD), .seq 7 (m.map bkD), .fn f []] H fun d H' => d = .val (.bool (decide (l = m))) ∧ H = H' := by
  unfold big at hl
  have hll : (List.map bkD l).length = l.length := List.length_map _
  have hml : (List.map bkD m).length = m.length := List.length_map _
  refine does_of _ _ Try.func97 rfl rfl Try.ntmps97 Try.results97 (by simp only [List.length_cons, List.length_nil]; omega) fun w0 Q hret => ?_
  by_cases hlm : l.length = m.length
  case neg =>
    have q : ((l.length : Int) = (m.length : Int)) = False := eq_false (by omega)
    (have fs := And.intro @i64.eq_1 (And.intro hll (And.intro hml q)); (repeat (first | refine hGx _ ?_ | refine hNx _ ?_ | refine W_skip ?_ | refine W_exit ?_ | refine W_ret ?_ | refine W_label ?_ | refine W_scope ?_ | refine W_block ?_ | refine W_seq ?_ | ((first | refine tS fun N hNx => ?_ | refine WL_gE rfl rfl (by kernel_rfl) (by kernel_rfl) fun G hGx => ?_ | refine vcOpsS_sound (by kernel_rfl) ?_ | refine W_ifE fun A B hAx hBx => ?_); refine evT ?_; (first | refine hGx _ ?_ | refine hNx _ ?_ | refine hAx ?_ | refine hBx ?_ | skip)))); (try clear fs))
    (first | (show Q .ret _) | (show Q .normal _) | skip); refine hret _ _ (by first | exact .inr rfl | exact .inl rfl) (by first | rfl | assumption | (simp only [put_df, withH_df]; assumption)) ?_; have fs := @i64.eq_1; refine evT ?_; clear fs
    exact ⟨_, Heap.le_refl _, by rw [decide_eq_false fun e => hlm (by rw [e])], rfl⟩
  have q : ((l.length : Int) = (m.length : Int)) = True := eq_true (by omega)
  (have fs := And.intro @i64.eq_1 (And.intro hll (And.intro hml q)); (repeat (first | refine hGx _ ?_ | refine hNx _ ?_ | refine W_skip ?_ | refine W_exit ?_ | refine W_ret ?_ | refine W_label ?_ | refine W_scope ?_ | refine W_block ?_ | refine W_seq ?_ | ((first | refine tS fun N hNx => ?_ | refine WL_gE rfl rfl (by kernel_rfl) (by kernel_rfl) fun G hGx => ?_ | refine vcOpsS_sound (by kernel_rfl) ?_ | refine W_ifE fun A B hAx hBx => ?_); refine evT ?_; (first | refine hGx _ ?_ | refine hNx _ ?_ | refine hAx ?_ | refine hBx ?_ | skip)))); (try clear fs))
  refine W_loopN l.length (fun i s => s.df = [] ∧ s.fr 1 = .seq 7 (m.map bkD) ∧ s.fr 2 = .fn f [] ∧ s.fr 15 = .seq 7 (l.map bkD) ∧ s.fr 16 = i64 l.length ∧ s.fr 17 = i64 i ∧ s.H = H ∧ l.take i = m.take i) ⟨rfl, rfl, rfl, rfl, rfl, rfl, rfl, by simp⟩ ?_
  rintro i s hi ⟨hdf, f1, f2, f15, f16, f17, hH, htk⟩
  have hx : (i : Int).toNat = i := Int.toNat_natCast _
  have h00 : (0 : Int) ≤ (i : Int) := Int.natCast_nonneg _
  by_cases hil : i < l.length
  case neg =>
    have q1 : ((i : Int) < (l.length : Int)) = False := eq_false (by omega)
    rw [List.take_of_length_le (by omega), List.take_of_length_le (by omega)] at htk
    (have fs := And.intro f16 (And.intro f17 (And.intro @i64.eq_1 q1)); (repeat (first | refine hGx _ ?_ | refine hNx _ ?_ | refine W_skip ?_ | refine W_exit ?_ | refine W_ret ?_ | refine W_label ?_ | refine W_scope ?_ | refine W_block ?_ | refine W_seq ?_ | ((first | refine tS fun N hNx => ?_ | refine WL_gE rfl rfl (by kernel_rfl) (by kernel_rfl) fun G hGx => ?_ | refine vcOpsS_sound (by kernel_rfl) ?_ | refine W_ifE fun A B hAx hBx => ?_); refine evT ?_; (first | refine hGx _ ?_ | refine hNx _ ?_ | refine hAx ?_ | refine hBx ?_ | skip)))); (try clear fs))
    (first | (show Q .ret _) | (show Q .normal _) | skip); refine hret _ _ (by first | exact .inr rfl | exact .inl rfl) (by first | rfl | assumption | (simp only [put_df, withH_df]; assumption)) ?_; have fs := hdf; refine evT ?_; clear fs
    exact ⟨_, Heap.le_refl _, by rw [decide_eq_true htk], hH.symm⟩
  have q1 : ((i : Int) < (l.length : Int)) = True := eq_true (by omega)
  have him : i < m.length := by omega
  have hgi := map_get (f := bkD) hil
  have hgm := map_get (f := bkD) him
  have w3 : IntKind.i64.wrap ((i : Int) + 1) = ((i + 1 : Nat) : Int) := by rw [wrap_i64_of (by omega)]; omega
  have hne : l[i] ≠ m[i] → decide (l = m) = false := fun h => decide_eq_false (by rintro rfl; exact h rfl)
  have hts := take_snocA htk hil him
  have hox := hlx l[i] (List.getElem_mem hil)
  obtain ⟨x, hxe⟩ : ∃ x, x = l[i] := ⟨_, rfl⟩
  obtain ⟨y, hye⟩ : ∃ x, x = m[i] := ⟨_, rfl⟩
  rw [← hxe] at hgi hne hts hox
  rw [← hye] at hgm hne hts
  have hcall := hf x y s.H hox
  simp only [bkD] at hgi hgm hcall
  (have fs := And.intro f15 (And.intro f16 (And.intro f17 (And.intro @i64.eq_1 (And.intro q1 (And.intro hll (And.intro hgi (And.intro hx (And.intro h00 hil)))))))); (repeat (first | refine hGx _ ?_ | refine hNx _ ?_ | refine W_skip ?_ | refine W_exit ?_ | refine W_ret ?_ | refine W_label ?_ | refine W_scope ?_ | refine W_block ?_ | refine W_seq ?_ | ((first | refine tS fun N hNx => ?_ | refine WL_gE rfl rfl (by kernel_rfl) (by kernel_rfl) fun G hGx => ?_ | refine vcOpsS_sound (by kernel_rfl) ?_ | refine W_ifE fun A B hAx hBx => ?_); refine evT ?_; (first | refine hGx _ ?_ | refine hNx _ ?_ | refine hAx ?_ | refine hBx ?_ | skip)))); (try clear fs))
  intro c8 hc8
  refine hNx _ ?_
  refine W_frzp 8 rfl (Heap.upd_same _ _ _) rfl ?_; simp only [St.frzp, put_H, wdf_H, withH_H, withH_put, wdf_withH, withH_withH, init_H, init_withH, Heap.del_upd_same, Heap.del_none hc8, withH_self]
  (have fs := And.intro f1 (And.intro @i64.eq_1 (And.intro hml (And.intro hgm (And.intro hx (And.intro h00 him))))); (repeat (first | refine hGx _ ?_ | refine hNx _ ?_ | refine W_skip ?_ | refine W_exit ?_ | refine W_ret ?_ | refine W_label ?_ | refine W_scope ?_ | refine W_block ?_ | refine W_seq ?_ | ((first | refine tS fun N hNx => ?_ | refine WL_gE rfl rfl (by kernel_rfl) (by kernel_rfl) fun G hGx => ?_ | refine vcOpsS_sound (by kernel_rfl) ?_ | refine W_ifE fun A B hAx hBx => ?_); refine evT ?_; (first | refine hGx _ ?_ | refine hNx _ ?_ | refine hAx ?_ | refine hBx ?_ | skip)))); (try clear fs))
  intro c9 hc9
  refine hNx _ ?_
  refine W_frzp 9 rfl (Heap.upd_same _ _ _) rfl ?_; simp only [St.frzp, put_H, wdf_H, withH_H, withH_put, wdf_withH, withH_withH, init_H, init_withH, Heap.del_upd_same, Heap.del_none hc9, withH_self]
  (have fs := And.intro f2 @i64.eq_1; (repeat (first | refine hGx _ ?_ | refine hNx _ ?_ | refine W_skip ?_ | refine W_exit ?_ | refine W_ret ?_ | refine W_label ?_ | refine W_scope ?_ | refine W_block ?_ | refine W_seq ?_ | ((first | refine tS fun N hNx => ?_ | refine WL_gE rfl rfl (by kernel_rfl) (by kernel_rfl) fun G hGx => ?_ | refine vcOpsS_sound (by kernel_rfl) ?_ | refine W_ifE fun A B hAx hBx => ?_); refine evT ?_; (first | refine hGx _ ?_ | refine hNx _ ?_ | refine hAx ?_ | refine hBx ?_ | skip)))); (try clear fs))
  refine hcall.mono ?_
  rintro d _ ⟨rfl, rfl⟩
  by_cases he : x = y
  · rw [decide_eq_true he]
    (have fs := And.intro f17 (And.intro @i64.eq_1 w3); (repeat (first | refine hGx _ ?_ | refine hNx _ ?_ | refine W_skip ?_ | refine W_exit ?_ | refine W_ret ?_ | refine W_label ?_ | refine W_scope ?_ | refine W_block ?_ | refine W_seq ?_ | ((first | refine tS fun N hNx => ?_ | refine WL_gE rfl rfl (by kernel_rfl) (by kernel_rfl) fun G hGx => ?_ | refine vcOpsS_sound (by kernel_rfl) ?_ | refine W_ifE fun A B hAx hBx => ?_); refine evT ?_; (first | refine hGx _ ?_ | refine hNx _ ?_ | refine hAx ?_ | refine hBx ?_ | skip)))); (try clear fs))
    exact ⟨hil, hdf, f1, f2, f15, f16, rfl, hH, hts he⟩
  · rw [decide_eq_false he]
    (have fs := And.intro f17 (And.intro @i64.eq_1 w3); (repeat (first | refine hGx _ ?_ | refine hNx _ ?_ | refine W_skip ?_ | refine W_exit ?_ | refine W_ret ?_ | refine W_label ?_ | refine W_scope ?_ | refine W_block ?_ | refine W_seq ?_ | ((first | refine tS fun N hNx => ?_ | refine WL_gE rfl rfl (by kernel_rfl) (by kernel_rfl) fun G hGx => ?_ | refine vcOpsS_sound (by kernel_rfl) ?_ | refine W_ifE fun A B hAx hBx => ?_); refine evT ?_; (first | refine hGx _ ?_ | refine hNx _ ?_ | refine hAx ?_ | refine hBx ?_ | skip)))); (try clear fs))
    (first | (show Q .ret _) | (show Q .normal _) | skip); refine hret _ _ (by first | exact .inr rfl | exact .inl rfl) (by first | rfl | assumption | (simp only [put_df, withH_df]; assumption)) ?_; have fs := hdf; refine evT ?_; clear fs
    exact ⟨_, Heap.le_refl _, by rw [hne he], hH.symm⟩
theorem sameBlock_N (l m : List BkS) (f : FuncId) (H : Heap) (hl : big l.length) (hlx : ∀ x ∈ l, okBk x) (hf : ∀ x y H, (okBk x) → Does Try.prog f [.agg (bkD x), .agg (bkD y)] H fun d H' => d = .val (.bool (decide (x = y))) ∧ H = H') :
    Does Try.prog 52 [.agg [.fn f []], .seq 7 (l.map bkD), .seq 7 (m.map bkD)] H fun d H' => d = .val (.bool (decide (l = m))) ∧ H = H' := by
  refine does_of _ _ Try.func52 rfl rfl Try.ntmps52 Try.results52 (by simp only [List.length_cons, List.length_nil]; omega) fun w0 Q hret => ?_
  (have fs := @i64.eq_1; (repeat (first | refine hGx _ ?_ | refine hNx _ ?_ | refine W_skip ?_ | refine W_exit ?_ | refine W_ret ?_ | refine W_label ?_ | refine W_scope ?_ | refine W_block ?_ | refine W_seq ?_ | ((first | refine tS fun N hNx => ?_ | refine WL_gE rfl rfl (by kernel_rfl) (by kernel_rfl) fun G hGx => ?_ | refine vcOpsS_sound (by kernel_rfl) ?_ | refine W_ifE fun A B hAx hBx => ?_); refine evT ?_; (first | refine hGx _ ?_ | refine hNx _ ?_ | refine hAx ?_ | refine hBx ?_ | skip)))); (try clear fs))
  intro c3 hc3
  refine hNx _ ?_
  refine W_frzp 3 rfl (Heap.upd_same _ _ _) rfl ?_; simp only [St.frzp, put_H, wdf_H, withH_H, withH_put, wdf_withH, withH_withH, init_H, init_withH, Heap.del_upd_same, Heap.del_none hc3, withH_self]
  (have fs := @i64.eq_1; (repeat (first | refine hGx _ ?_ | refine hNx _ ?_ | refine W_skip ?_ | refine W_exit ?_ | refine W_ret ?_ | refine W_label ?_ | refine W_scope ?_ | refine W_block ?_ | refine W_seq ?_ | ((first | refine tS fun N hNx => ?_ | refine WL_gE rfl rfl (by kernel_rfl) (by kernel_rfl) fun G hGx => ?_ | refine vcOpsS_sound (by kernel_rfl) ?_ | refine W_ifE fun A B hAx hBx => ?_); refine evT ?_; (first | refine hGx _ ?_ | refine hNx _ ?_ | refine hAx ?_ | refine hBx ?_ | skip)))); (try clear fs))
  refine (eqfBlock_N l m f _ hl hlx hf).mono ?_
  rintro d _ ⟨rfl, rfl⟩
  (have fs := @i64.eq_1; (repeat (first | refine hGx _ ?_ | refine hNx _ ?_ | refine W_skip ?_ | refine W_exit ?_ | refine W_ret ?_ | refine W_label ?_ | refine W_scope ?_ | refine W_block ?_ | refine W_seq ?_ | ((first | refine tS fun N hNx => ?_ | refine WL_gE rfl rfl (by kernel_rfl) (by kernel_rfl) fun G hGx => ?_ | refine vcOpsS_sound (by kernel_rfl) ?_ | refine W_ifE fun A B hAx hBx => ?_); refine evT ?_; (first | refine hGx _ ?_ | refine hNx _ ?_ | refine hAx ?_ | refine hBx ?_ | skip)))); (try clear fs))
  (first | (show Q .ret _) | (show Q .normal _) | skip); refine hret _ _ (by first | exact .inr rfl | exact .inl rfl) (by first | rfl | assumption | (simp only [put_df, withH_df]; assumption)) ?_; have fs := @i64.eq_1; refine evT ?_; clear fs
  exact ⟨_, Heap.le_refl _, rfl⟩
theorem frz2_le {H : Heap} {a b : Nat} {x y : HObj} (ha : H a = none) (hb : H b = none) : H.le ((((H.upd a x).upd b y).del a).del b) := fun c z hz => by
  have e1 : c ≠ a := fun e => by rw [e, ha] at hz; cases hz
  have e2 : c ≠ b := fun e => by rw [e, hb] at hz; cases hz
  rw [Heap.del_ne e2, Heap.del_ne e1, Heap.upd_ne e2, Heap.upd_ne e1]
  exact hz
set_option maxHeartbeats 2000000 in
theorem peq_N (a b : PlS) (H : Heap) (ha : okPl a) : Does Try.prog 96 [.agg (plD a), .agg (plD b)] H fun d H' => d = .val (.bool (decide (a = b))) ∧ H = H' := by
  have hc := fun H => equalJ_at H a.pr b.pr ha
  refine does_of _ _ Try.func96 rfl rfl Try.ntmps96 Try.results96 (by simp only [List.length_cons, List.length_nil]; omega) fun w0 Q hret => ?_
  (have fs := And.intro @i64.eq_1 @plD.eq_1; (repeat (first | refine hGx _ ?_ | refine hNx _ ?_ | refine W_skip ?_ | refine W_exit ?_ | refine W_ret ?_ | refine W_label ?_ | refine W_scope ?_ | refine W_block ?_ | refine W_seq ?_ | ((first | refine tS fun N hNx => ?_ | refine WL_gE rfl rfl (by kernel_rfl) (by kernel_rfl) fun G hGx => ?_ | refine vcOpsS_sound (by kernel_rfl) ?_ | refine W_ifE fun A B hAx hBx => ?_); refine evT ?_; (first | refine hGx _ ?_ | refine hNx _ ?_ | refine hAx ?_ | refine hBx ?_ | skip)))); (try clear fs))
  intro c2 hc2 c3 hc3
  refine hNx _ ?_
  have hne : c2 ≠ c3 := Heap.ne_of (Heap.upd_same _ _ _) hc3; have hb0 := (Heap.upd_none.1 hc3).2; refine W_frzp 2 rfl ((Heap.upd_ne hne).trans (Heap.upd_same _ _ _)) rfl ?_; refine W_frzp 3 rfl ((Heap.del_ne hne.symm).trans (Heap.upd_same _ _ _)) rfl ?_; refine W_less H (frz2_le hc2 hb0) ?_; simp only [St.frzp, List.drop]
  by_cases g1 : a.lo = b.lo
  case neg =>
    have q1 : (a.lo = b.lo) = False := eq_false g1
    (have fs := And.intro @i64.eq_1 q1; (repeat (first | refine hGx _ ?_ | refine hNx _ ?_ | refine W_skip ?_ | refine W_exit ?_ | refine W_ret ?_ | refine W_label ?_ | refine W_scope ?_ | refine W_block ?_ | refine W_seq ?_ | ((first | refine tS fun N hNx => ?_ | refine WL_gE rfl rfl (by kernel_rfl) (by kernel_rfl) fun G hGx => ?_ | refine vcOpsS_sound (by kernel_rfl) ?_ | refine W_ifE fun A B hAx hBx => ?_); refine evT ?_; (first | refine hGx _ ?_ | refine hNx _ ?_ | refine hAx ?_ | refine hBx ?_ | skip)))); (try clear fs))
    (first | (show Q .ret _) | (show Q .normal _) | skip); refine hret _ _ (by first | exact .inr rfl | exact .inl rfl) (by first | rfl | assumption | (simp only [put_df, withH_df]; assumption)) ?_; have fs := @i64.eq_1; refine evT ?_; clear fs
    exact ⟨_, Heap.le_refl _, by rw [decide_eq_false fun h => g1 (pls_ext.1 h).1], rfl⟩
  have q1 : (a.lo = b.lo) = True := eq_true g1
  (have fs := And.intro @i64.eq_1 q1; (repeat (first | refine hGx _ ?_ | refine hNx _ ?_ | refine W_skip ?_ | refine W_exit ?_ | refine W_ret ?_ | refine W_label ?_ | refine W_scope ?_ | refine W_block ?_ | refine W_seq ?_ | ((first | refine tS fun N hNx => ?_ | refine WL_gE rfl rfl (by kernel_rfl) (by kernel_rfl) fun G hGx => ?_ | refine vcOpsS_sound (by kernel_rfl) ?_ | refine W_ifE fun A B hAx hBx => ?_); refine evT ?_; (first | refine hGx _ ?_ | refine hNx _ ?_ | refine hAx ?_ | refine hBx ?_ | skip)))); (try clear fs))
  refine (hc _).mono ?_
  rintro d _ ⟨rfl, rfl⟩
  by_cases g2 : a.pr = b.pr
  case neg =>
    rw [decide_eq_false g2]
    (have fs := And.intro @i64.eq_1 q1; (repeat (first | refine hGx _ ?_ | refine hNx _ ?_ | refine W_skip ?_ | refine W_exit ?_ | refine W_ret ?_ | refine W_label ?_ | refine W_scope ?_ | refine W_block ?_ | refine W_seq ?_ | ((first | refine tS fun N hNx => ?_ | refine WL_gE rfl rfl (by kernel_rfl) (by kernel_rfl) fun G hGx => ?_ | refine vcOpsS_sound (by kernel_rfl) ?_ | refine W_ifE fun A B hAx hBx => ?_); refine evT ?_; (first | refine hGx _ ?_ | refine hNx _ ?_ | refine hAx ?_ | refine hBx ?_ | skip)))); (try clear fs))
    (first | (show Q .ret _) | (show Q .normal _) | skip); refine hret _ _ (by first | exact .inr rfl | exact .inl rfl) (by first | rfl | assumption | (simp only [put_df, withH_df]; assumption)) ?_; have fs := @i64.eq_1; refine evT ?_; clear fs
    exact ⟨_, Heap.le_refl _, by rw [decide_eq_false fun h => g2 (pls_ext.1 h).2], rfl⟩
  rw [decide_eq_true g2]
  (have fs := And.intro @i64.eq_1 q1; (repeat (first | refine hGx _ ?_ | refine hNx _ ?_ | refine W_skip ?_ | refine W_exit ?_ | refine W_ret ?_ | refine W_label ?_ | refine W_scope ?_ | refine W_block ?_ | refine W_seq ?_ | ((first | refine tS fun N hNx => ?_ | refine WL_gE rfl rfl (by kernel_rfl) (by kernel_rfl) fun G hGx => ?_ | refine vcOpsS_sound (by kernel_rfl) ?_ | refine W_ifE fun A B hAx hBx => ?_); refine evT ?_; (first | refine hGx _ ?_ | refine hNx _ ?_ | refine hAx ?_ | refine hBx ?_ | skip)))); (try clear fs))
  (first | (show Q .ret _) | (show Q .normal _) | skip); refine hret _ _ (by first | exact .inr rfl | exact .inl rfl) (by first | rfl | assumption | (simp only [put_df, withH_df]; assumption)) ?_; have fs := @i64.eq_1; refine evT ?_; clear fs
  exact ⟨_, Heap.le_refl _, by rw [decide_eq_true (pls_ext.2 ⟨g1, g2⟩)], rfl⟩
def preB (a b : PlS) : Bool := decide (a.lo = b.lo ∧ a.pr.length ≤ b.pr.length ∧ a.pr = b.pr.take a.pr.length)
set_option maxHeartbeats 2000000 in
theorem kpre_N (a b : PlS) (H : Heap) (ha : okPl a) : Does Try.prog 103 [.agg (plD a), .agg (plD b)] H fun d H' => d = .val (.bool (preB a b)) ∧ H = H' := by
  unfold okPl big at ha
  have hll : (List.map pD a.pr).length = a.pr.length := List.length_map _
  have hml : (List.map pD b.pr).length = b.pr.length := List.length_map _
  have hET := eq_true eqTy_proj
  refine does_of _ _ Try.func103 rfl rfl Try.ntmps103 Try.results103 (by simp only [List.length_cons, List.length_nil]; omega) fun w0 Q hret => ?_
  (have fs := And.intro @i64.eq_1 @plD.eq_1; (repeat (first | refine hGx _ ?_ | refine hNx _ ?_ | refine W_skip ?_ | refine W_exit ?_ | refine W_ret ?_ | refine W_label ?_ | refine W_scope ?_ | refine W_block ?_ | refine W_seq ?_ | ((first | refine tS fun N hNx => ?_ | refine WL_gE rfl rfl (by kernel_rfl) (by kernel_rfl) fun G hGx => ?_ | refine vcOpsS_sound (by kernel_rfl) ?_ | refine W_ifE fun A B hAx hBx => ?_); refine evT ?_; (first | refine hGx _ ?_ | refine hNx _ ?_ | refine hAx ?_ | refine hBx ?_ | skip)))); (try clear fs))
  intro c2 hc2 c3 hc3
  refine hNx _ ?_
  have hne : c2 ≠ c3 := Heap.ne_of (Heap.upd_same _ _ _) hc3; have hb0 := (Heap.upd_none.1 hc3).2; refine W_frzp 2 rfl ((Heap.upd_ne hne).trans (Heap.upd_same _ _ _)) rfl ?_; refine W_frzp 3 rfl ((Heap.del_ne hne.symm).trans (Heap.upd_same _ _ _)) rfl ?_; refine W_less H (frz2_le hc2 hb0) ?_; simp only [St.frzp, List.drop]
  by_cases g1 : a.lo = b.lo
  case neg =>
    have q1 : (a.lo = b.lo) = False := eq_false g1
    (have fs := And.intro @i64.eq_1 q1; (repeat (first | refine hGx _ ?_ | refine hNx _ ?_ | refine W_skip ?_ | refine W_exit ?_ | refine W_ret ?_ | refine W_label ?_ | refine W_scope ?_ | refine W_block ?_ | refine W_seq ?_ | ((first | refine tS fun N hNx => ?_ | refine WL_gE rfl rfl (by kernel_rfl) (by kernel_rfl) fun G hGx => ?_ | refine vcOpsS_sound (by kernel_rfl) ?_ | refine W_ifE fun A B hAx hBx => ?_); refine evT ?_; (first | refine hGx _ ?_ | refine hNx _ ?_ | refine hAx ?_ | refine hBx ?_ | skip)))); (try clear fs))
    (first | (show Q .ret _) | (show Q .normal _) | skip); refine hret _ _ (by first | exact .inr rfl | exact .inl rfl) (by first | rfl | assumption | (simp only [put_df, withH_df]; assumption)) ?_; have fs := @i64.eq_1; refine evT ?_; clear fs
    exact ⟨_, Heap.le_refl _, by unfold preB; rw [decide_eq_false fun h => g1 h.1], rfl⟩
  have q1 : (a.lo = b.lo) = True := eq_true g1
  by_cases g2 : a.pr.length ≤ b.pr.length
  case neg =>
    have q2 : ((b.pr.length : Int) < (a.pr.length : Int)) = True := eq_true (by omega)
    (have fs := And.intro @i64.eq_1 (And.intro q1 (And.intro q2 (And.intro hll hml))); (repeat (first | refine hGx _ ?_ | refine hNx _ ?_ | refine W_skip ?_ | refine W_exit ?_ | refine W_ret ?_ | refine W_label ?_ | refine W_scope ?_ | refine W_block ?_ | refine W_seq ?_ | ((first | refine tS fun N hNx => ?_ | refine WL_gE rfl rfl (by kernel_rfl) (by kernel_rfl) fun G hGx => ?_ | refine vcOpsS_sound (by kernel_rfl) ?_ | refine W_ifE fun A B hAx hBx => ?_); refine evT ?_; (first | refine hGx _ ?_ | refine hNx _ ?_ | refine hAx ?_ | refine hBx ?_ | skip)))); (try clear fs))
    (first | (show Q .ret _) | (show Q .normal _) | skip); refine hret _ _ (by first | exact .inr rfl | exact .inl rfl) (by first | rfl | assumption | (simp only [put_df, withH_df]; assumption)) ?_; have fs := @i64.eq_1; refine evT ?_; clear fs
    exact ⟨_, Heap.le_refl _, by unfold preB; rw [decide_eq_false fun h => g2 h.2.1], rfl⟩
  have q2 : ((b.pr.length : Int) < (a.pr.length : Int)) = False := eq_false (by omega)
  (have fs := And.intro @i64.eq_1 (And.intro q1 (And.intro q2 (And.intro hll hml))); (repeat (first | refine hGx _ ?_ | refine hNx _ ?_ | refine W_skip ?_ | refine W_exit ?_ | refine W_ret ?_ | refine W_label ?_ | refine W_scope ?_ | refine W_block ?_ | refine W_seq ?_ | ((first | refine tS fun N hNx => ?_ | refine WL_gE rfl rfl (by kernel_rfl) (by kernel_rfl) fun G hGx => ?_ | refine vcOpsS_sound (by kernel_rfl) ?_ | refine W_ifE fun A B hAx hBx => ?_); refine evT ?_; (first | refine hGx _ ?_ | refine hNx _ ?_ | refine hAx ?_ | refine hBx ?_ | skip)))); (try clear fs))
  refine W_loopN a.pr.length (fun i s => s.df = [] ∧ s.fr 2 = .rp (plD a) ∧ s.fr 3 = .rp (plD b) ∧ s.fr 5 = i64 i ∧ s.H = H ∧ a.pr.take i = b.pr.take i) ⟨rfl, rfl, rfl, rfl, rfl, by simp⟩ ?_
  rintro i s hi ⟨hdf, f2, f3, f5, hH, htk⟩
  simp only [plD] at f2 f3
  have hx : (i : Int).toNat = i := Int.toNat_natCast _
  have h00 : (0 : Int) ≤ (i : Int) := Int.natCast_nonneg _
  by_cases hil : i < a.pr.length
  case neg =>
    have q3 : ((i : Int) < (a.pr.length : Int)) = False := eq_false (by omega)
    have e : i = a.pr.length := by omega
    rw [List.take_of_length_le (by omega), e] at htk
    (have fs := And.intro f2 (And.intro f5 (And.intro @i64.eq_1 (And.intro hll q3))); (repeat (first | refine hGx _ ?_ | refine hNx _ ?_ | refine W_skip ?_ | refine W_exit ?_ | refine W_ret ?_ | refine W_label ?_ | refine W_scope ?_ | refine W_block ?_ | refine W_seq ?_ | ((first | refine tS fun N hNx => ?_ | refine WL_gE rfl rfl (by kernel_rfl) (by kernel_rfl) fun G hGx => ?_ | refine vcOpsS_sound (by kernel_rfl) ?_ | refine W_ifE fun A B hAx hBx => ?_); refine evT ?_; (first | refine hGx _ ?_ | refine hNx _ ?_ | refine hAx ?_ | refine hBx ?_ | skip)))); (try clear fs))
    (first | (show Q .ret _) | (show Q .normal _) | skip); refine hret _ _ (by first | exact .inr rfl | exact .inl rfl) (by first | rfl | assumption | (simp only [put_df, withH_df]; assumption)) ?_; have fs := hdf; refine evT ?_; clear fs
    exact ⟨_, Heap.le_refl _, by unfold preB; rw [decide_eq_true ⟨g1, g2, htk⟩], hH.symm⟩
  have q3 : ((i : Int) < (a.pr.length : Int)) = True := eq_true (by omega)
  have him : i < b.pr.length := by omega
  have hgi := map_get (f := pD) hil
  have hgm := map_get (f := pD) him
  have w3 : IntKind.i64.wrap ((i : Int) + 1) = ((i + 1 : Nat) : Int) := by rw [wrap_i64_of (by omega)]; omega
  have hne : a.pr[i] ≠ b.pr[i] → preB a b = false := fun h => decide_eq_false (by
    rintro ⟨_, _, h3⟩
    apply h
    have h4 : (b.pr.take a.pr.length)[i]'(by rw [List.length_take]; omega) = b.pr[i] := List.getElem_take
    rw [← h4]
    congr 1)
  have hts := take_snocA htk hil him
  obtain ⟨x, hxe⟩ : ∃ x, x = a.pr[i] := ⟨_, rfl⟩
  obtain ⟨y, hye⟩ : ∃ x, x = b.pr[i] := ⟨_, rfl⟩
  rw [← hxe] at hgi hne hts
  rw [← hye] at hgm hne hts
  simp only [pD, i64] at hgi hgm
  (have fs := And.intro f2 (And.intro f5 (And.intro @i64.eq_1 (And.intro hll q3))); (repeat (first | refine hGx _ ?_ | refine hNx _ ?_ | refine W_skip ?_ | refine W_exit ?_ | refine W_ret ?_ | refine W_label ?_ | refine W_scope ?_ | refine W_block ?_ | refine W_seq ?_ | ((first | refine tS fun N hNx => ?_ | refine WL_gE rfl rfl (by kernel_rfl) (by kernel_rfl) fun G hGx => ?_ | refine vcOpsS_sound (by kernel_rfl) ?_ | refine W_ifE fun A B hAx hBx => ?_); refine evT ?_; (first | refine hGx _ ?_ | refine hNx _ ?_ | refine hAx ?_ | refine hBx ?_ | skip)))); (try clear fs))
  by_cases c1 : x.1 = y.1
  case neg =>
    have p1 : (x.1 = y.1) = False := eq_false c1
    refine W_drawE (fun _ _ _ _ => False) (by kernel_rfl) (by kernel_rfl) (by kernel_rfl) fun N hNx => ?_; (have fs := And.intro f2 (And.intro f3 (And.intro f5 (And.intro @i64.eq_1 (And.intro hll (And.intro hml (And.intro hgi (And.intro hgm (And.intro hx (And.intro h00 (And.intro hil (And.intro him (And.intro p1 (And.intro hET (And.intro @Bool.and_true (And.intro @Bool.and_false (And.intro @Bool.false_and (And.intro @Bool.not_true @Bool.not_false))))))))))))))))); (repeat ((first | refine vcD_g rfl rfl fun G hGx => ?_ | refine vcDS_to ?_); refine evD ?_; (first | refine hGx _ ?_ | refine hNx _ ?_ | skip))); (try clear fs))
    (have fs := And.intro f5 (And.intro @i64.eq_1 w3); (repeat (first | refine hGx _ ?_ | refine hNx _ ?_ | refine W_skip ?_ | refine W_exit ?_ | refine W_ret ?_ | refine W_label ?_ | refine W_scope ?_ | refine W_block ?_ | refine W_seq ?_ | ((first | refine tS fun N hNx => ?_ | refine WL_gE rfl rfl (by kernel_rfl) (by kernel_rfl) fun G hGx => ?_ | refine vcOpsS_sound (by kernel_rfl) ?_ | refine W_ifE fun A B hAx hBx => ?_); refine evT ?_; (first | refine hGx _ ?_ | refine hNx _ ?_ | refine hAx ?_ | refine hBx ?_ | skip)))); (try clear fs))
    (first | (show Q .ret _) | (show Q .normal _) | skip); refine hret _ _ (by first | exact .inr rfl | exact .inl rfl) (by first | rfl | assumption | (simp only [put_df, withH_df]; assumption)) ?_; have fs := hdf; refine evT ?_; clear fs
    exact ⟨_, Heap.le_refl _, by rw [hne fun h => c1 (by rw [h])], hH.symm⟩
  have p1 : (x.1 = y.1) = True := eq_true c1
  by_cases c2 : x.2 = y.2
  case neg =>
    have p2 : (x.2 = y.2) = False := eq_false c2
    refine W_drawE (fun _ _ _ _ => False) (by kernel_rfl) (by kernel_rfl) (by kernel_rfl) fun N hNx => ?_; (have fs := And.intro f2 (And.intro f3 (And.intro f5 (And.intro @i64.eq_1 (And.intro hll (And.intro hml (And.intro hgi (And.intro hgm (And.intro hx (And.intro h00 (And.intro hil (And.intro him (And.intro p1 (And.intro p2 (And.intro hET (And.intro @Bool.and_true (And.intro @Bool.and_false (And.intro @Bool.false_and (And.intro @Bool.not_true @Bool.not_false)))))))))))))))))); (repeat ((first | refine vcD_g rfl rfl fun G hGx => ?_ | refine vcDS_to ?_); refine evD ?_; (first | refine hGx _ ?_ | refine hNx _ ?_ | skip))); (try clear fs))
    (have fs := And.intro f5 (And.intro @i64.eq_1 w3); (repeat (first | refine hGx _ ?_ | refine hNx _ ?_ | refine W_skip ?_ | refine W_exit ?_ | refine W_ret ?_ | refine W_label ?_ | refine W_scope ?_ | refine W_block ?_ | refine W_seq ?_ | ((first | refine tS fun N hNx => ?_ | refine WL_gE rfl rfl (by kernel_rfl) (by kernel_rfl) fun G hGx => ?_ | refine vcOpsS_sound (by kernel_rfl) ?_ | refine W_ifE fun A B hAx hBx => ?_); refine evT ?_; (first | refine hGx _ ?_ | refine hNx _ ?_ | refine hAx ?_ | refine hBx ?_ | skip)))); (try clear fs))
    (first | (show Q .ret _) | (show Q .normal _) | skip); refine hret _ _ (by first | exact .inr rfl | exact .inl rfl) (by first | rfl | assumption | (simp only [put_df, withH_df]; assumption)) ?_; have fs := hdf; refine evT ?_; clear fs
    exact ⟨_, Heap.le_refl _, by rw [hne fun h => c2 (by rw [h])], hH.symm⟩
  have p2 : (x.2 = y.2) = True := eq_true c2
  refine W_drawE (fun _ _ _ _ => False) (by kernel_rfl) (by kernel_rfl) (by kernel_rfl) fun N hNx => ?_; (have fs := And.intro f2 (And.intro f3 (And.intro f5 (And.intro @i64.eq_1 (And.intro hll (And.intro hml (And.intro hgi (And.intro hgm (And.intro hx (And.intro h00 (And.intro hil (And.intro him (And.intro p1 (And.intro p2 (And.intro hET (And.intro @Bool.and_true (And.intro @Bool.and_false (And.intro @Bool.false_and (And.intro @Bool.not_true @Bool.not_false)))))))))))))))))); (repeat ((first | refine vcD_g rfl rfl fun G hGx => ?_ | refine vcDS_to ?_); refine evD ?_; (first | refine hGx _ ?_ | refine hNx _ ?_ | skip))); (try clear fs))
  (have fs := And.intro f5 (And.intro @i64.eq_1 w3); (repeat (first | refine hGx _ ?_ | refine hNx _ ?_ | refine W_skip ?_ | refine W_exit ?_ | refine W_ret ?_ | refine W_label ?_ | refine W_scope ?_ | refine W_block ?_ | refine W_seq ?_ | ((first | refine tS fun N hNx => ?_ | refine WL_gE rfl rfl (by kernel_rfl) (by kernel_rfl) fun G hGx => ?_ | refine vcOpsS_sound (by kernel_rfl) ?_ | refine W_ifE fun A B hAx hBx => ?_); refine evT ?_; (first | refine hGx _ ?_ | refine hNx _ ?_ | refine hAx ?_ | refine hBx ?_ | skip)))); (try clear fs))
  exact ⟨hil, hdf, f2, f3, rfl, hH, hts (Prod.ext c1 c2)⟩
theorem pre_eq {a b : PlS} : a = b ↔ a.pr.length = b.pr.length ∧ preB a b = true := by
  unfold preB
  rw [pls_ext]
  simp only [decide_eq_true_eq]
  constructor
  · rintro ⟨h1, h2⟩; exact ⟨by rw [h2], h1, by rw [h2]; exact Nat.le_refl _, by rw [h2, List.take_length]⟩
  · rintro ⟨h1, h2, _, h3⟩; rw [h1, List.take_length] at h3; exact ⟨h2, h3⟩
set_option maxHeartbeats 2000000 in
theorem kpeq_N (a b : PlS) (H : Heap) (ha : okPl a) : Does Try.prog 65 [.agg (plD a), .agg (plD b)] H fun d H' => d = .val (.bool (decide (a = b))) ∧ H = H' := by
  have hll : (List.map pD a.pr).length = a.pr.length := List.length_map _
  have hml : (List.map pD b.pr).length = b.pr.length := List.length_map _
  have hc := fun H => kpre_N a b H ha
  refine does_of _ _ Try.func65 rfl rfl Try.ntmps65 Try.results65 (by simp only [List.length_cons, List.length_nil]; omega) fun w0 Q hret => ?_
  (have fs := And.intro @i64.eq_1 @plD.eq_1; (repeat (first | refine hGx _ ?_ | refine hNx _ ?_ | refine W_skip ?_ | refine W_exit ?_ | refine W_ret ?_ | refine W_label ?_ | refine W_scope ?_ | refine W_block ?_ | refine W_seq ?_ | ((first | refine tS fun N hNx => ?_ | refine WL_gE rfl rfl (by kernel_rfl) (by kernel_rfl) fun G hGx => ?_ | refine vcOpsS_sound (by kernel_rfl) ?_ | refine W_ifE fun A B hAx hBx => ?_); refine evT ?_; (first | refine hGx _ ?_ | refine hNx _ ?_ | refine hAx ?_ | refine hBx ?_ | skip)))); (try clear fs))
  intro c2 hc2 c3 hc3
  refine hNx _ ?_
  have hne : c2 ≠ c3 := Heap.ne_of (Heap.upd_same _ _ _) hc3; have hb0 := (Heap.upd_none.1 hc3).2; refine W_frzp 2 rfl ((Heap.upd_ne hne).trans (Heap.upd_same _ _ _)) rfl ?_; refine W_frzp 3 rfl ((Heap.del_ne hne.symm).trans (Heap.upd_same _ _ _)) rfl ?_; refine W_less H (frz2_le hc2 hb0) ?_; simp only [St.frzp, List.drop]
  by_cases g1 : a.pr.length = b.pr.length
  case neg =>
    have q1 : ((a.pr.length : Int) = (b.pr.length : Int)) = False := eq_false (by omega)
    (have fs := And.intro @i64.eq_1 (And.intro hll (And.intro hml q1)); (repeat (first | refine hGx _ ?_ | refine hNx _ ?_ | refine W_skip ?_ | refine W_exit ?_ | refine W_ret ?_ | refine W_label ?_ | refine W_scope ?_ | refine W_block ?_ | refine W_seq ?_ | ((first | refine tS fun N hNx => ?_ | refine WL_gE rfl rfl (by kernel_rfl) (by kernel_rfl) fun G hGx => ?_ | refine vcOpsS_sound (by kernel_rfl) ?_ | refine W_ifE fun A B hAx hBx => ?_); refine evT ?_; (first | refine hGx _ ?_ | refine hNx _ ?_ | refine hAx ?_ | refine hBx ?_ | skip)))); (try clear fs))
    (first | (show Q .ret _) | (show Q .normal _) | skip); refine hret _ _ (by first | exact .inr rfl | exact .inl rfl) (by first | rfl | assumption | (simp only [put_df, withH_df]; assumption)) ?_; have fs := @i64.eq_1; refine evT ?_; clear fs
    exact ⟨_, Heap.le_refl _, by rw [decide_eq_false fun h => g1 (pre_eq.1 h).1], rfl⟩
  have q1 : ((a.pr.length : Int) = (b.pr.length : Int)) = True := eq_true (by omega)
  (have fs := And.intro @i64.eq_1 (And.intro hll (And.intro hml q1)); (repeat (first | refine hGx _ ?_ | refine hNx _ ?_ | refine W_skip ?_ | refine W_exit ?_ | refine W_ret ?_ | refine W_label ?_ | refine W_scope ?_ | refine W_block ?_ | refine W_seq ?_ | ((first | refine tS fun N hNx => ?_ | refine WL_gE rfl rfl (by kernel_rfl) (by kernel_rfl) fun G hGx => ?_ | refine vcOpsS_sound (by kernel_rfl) ?_ | refine W_ifE fun A B hAx hBx => ?_); refine evT ?_; (first | refine hGx _ ?_ | refine hNx _ ?_ | refine hAx ?_ | refine hBx ?_ | skip)))); (try clear fs))
  refine (hc _).mono ?_
  rintro d _ ⟨rfl, rfl⟩
  have e : preB a b = decide (a = b) := by
    cases h : preB a b with
    | true => rw [decide_eq_true (pre_eq.2 ⟨g1, h⟩)]
    | false => rw [decide_eq_false fun e => by rw [(pre_eq.1 e).2] at h; cases h]
  rw [e]
  (have fs := @i64.eq_1; (repeat (first | refine hGx _ ?_ | refine hNx _ ?_ | refine W_skip ?_ | refine W_exit ?_ | refine W_ret ?_ | refine W_label ?_ | refine W_scope ?_ | refine W_block ?_ | refine W_seq ?_ | ((first | refine tS fun N hNx => ?_ | refine WL_gE rfl rfl (by kernel_rfl) (by kernel_rfl) fun G hGx => ?_ | refine vcOpsS_sound (by kernel_rfl) ?_ | refine W_ifE fun A B hAx hBx => ?_); refine evT ?_; (first | refine hGx _ ?_ | refine hNx _ ?_ | refine hAx ?_ | refine hBx ?_ | skip)))); (try clear fs))
  (first | (show Q .ret _) | (show Q .normal _) | skip); refine hret _ _ (by first | exact .inr rfl | exact .inl rfl) (by first | rfl | assumption | (simp only [put_df, withH_df]; assumption)) ?_; have fs := @i64.eq_1; refine evT ?_; clear fs
  exact ⟨_, Heap.le_refl _, rfl⟩
set_option maxHeartbeats 2000000 in
theorem opeq_N (a b : OpS) (H : Heap) (ha : okOp a) : Does Try.prog 111 [.agg (opD a), .agg (opD b)] H fun d H' => d = .val (.bool (decide (a = b))) ∧ H = H' := by
  have hc := fun H => peq_N a.pl b.pl H ha
  refine does_of _ _ Try.func111 rfl rfl Try.ntmps111 Try.results111 (by simp only [List.length_cons, List.length_nil]; omega) fun w0 Q hret => ?_
  (have fs := And.intro @i64.eq_1 @opD.eq_1; (repeat (first | refine hGx _ ?_ | refine hNx _ ?_ | refine W_skip ?_ | refine W_exit ?_ | refine W_ret ?_ | refine W_label ?_ | refine W_scope ?_ | refine W_block ?_ | refine W_seq ?_ | ((first | refine tS fun N hNx => ?_ | refine WL_gE rfl rfl (by kernel_rfl) (by kernel_rfl) fun G hGx => ?_ | refine vcOpsS_sound (by kernel_rfl) ?_ | refine W_ifE fun A B hAx hBx => ?_); refine evT ?_; (first | refine hGx _ ?_ | refine hNx _ ?_ | refine hAx ?_ | refine hBx ?_ | skip)))); (try clear fs))
  intro c2 hc2 c3 hc3
  refine hNx _ ?_
  have hne : c2 ≠ c3 := Heap.ne_of (Heap.upd_same _ _ _) hc3; have hb0 := (Heap.upd_none.1 hc3).2; refine W_frzp 2 rfl ((Heap.upd_ne hne).trans (Heap.upd_same _ _ _)) rfl ?_; refine W_frzp 3 rfl ((Heap.del_ne hne.symm).trans (Heap.upd_same _ _ _)) rfl ?_; refine W_less H (frz2_le hc2 hb0) ?_; simp only [St.frzp, List.drop]
  by_cases g1 : a.k = b.k
  case neg =>
    have q1 : (a.k = b.k) = False := eq_false g1
    (have fs := And.intro @i64.eq_1 q1; (repeat (first | refine hGx _ ?_ | refine hNx _ ?_ | refine W_skip ?_ | refine W_exit ?_ | refine W_ret ?_ | refine W_label ?_ | refine W_scope ?_ | refine W_block ?_ | refine W_seq ?_ | ((first | refine tS fun N hNx => ?_ | refine WL_gE rfl rfl (by kernel_rfl) (by kernel_rfl) fun G hGx => ?_ | refine vcOpsS_sound (by kernel_rfl) ?_ | refine W_ifE fun A B hAx hBx => ?_); refine evT ?_; (first | refine hGx _ ?_ | refine hNx _ ?_ | refine hAx ?_ | refine hBx ?_ | skip)))); (try clear fs))
    (first | (show Q .ret _) | (show Q .normal _) | skip); refine hret _ _ (by first | exact .inr rfl | exact .inl rfl) (by first | rfl | assumption | (simp only [put_df, withH_df]; assumption)) ?_; have fs := @i64.eq_1; refine evT ?_; clear fs
    exact ⟨_, Heap.le_refl _, by rw [decide_eq_false fun h => g1 (ops_ext.1 h).1], rfl⟩
  have q1 : (a.k = b.k) = True := eq_true g1
  by_cases g2 : a.n = b.n
  case neg =>
    have q2 : (a.n = b.n) = False := eq_false g2
    (have fs := And.intro @i64.eq_1 (And.intro q1 q2); (repeat (first | refine hGx _ ?_ | refine hNx _ ?_ | refine W_skip ?_ | refine W_exit ?_ | refine W_ret ?_ | refine W_label ?_ | refine W_scope ?_ | refine W_block ?_ | refine W_seq ?_ | ((first | refine tS fun N hNx => ?_ | refine WL_gE rfl rfl (by kernel_rfl) (by kernel_rfl) fun G hGx => ?_ | refine vcOpsS_sound (by kernel_rfl) ?_ | refine W_ifE fun A B hAx hBx => ?_); refine evT ?_; (first | refine hGx _ ?_ | refine hNx _ ?_ | refine hAx ?_ | refine hBx ?_ | skip)))); (try clear fs))
    (first | (show Q .ret _) | (show Q .normal _) | skip); refine hret _ _ (by first | exact .inr rfl | exact .inl rfl) (by first | rfl | assumption | (simp only [put_df, withH_df]; assumption)) ?_; have fs := @i64.eq_1; refine evT ?_; clear fs
    exact ⟨_, Heap.le_refl _, by rw [decide_eq_false fun h => g2 (ops_ext.1 h).2.1], rfl⟩
  have q2 : (a.n = b.n) = True := eq_true g2
  (have fs := And.intro @i64.eq_1 (And.intro q1 q2); (repeat (first | refine hGx _ ?_ | refine hNx _ ?_ | refine W_skip ?_ | refine W_exit ?_ | refine W_ret ?_ | refine W_label ?_ | refine W_scope ?_ | refine W_block ?_ | refine W_seq ?_ | ((first | refine tS fun N hNx => ?_ | refine WL_gE rfl rfl (by kernel_rfl) (by kernel_rfl) fun G hGx => ?_ | refine vcOpsS_sound (by kernel_rfl) ?_ | refine W_ifE fun A B hAx hBx => ?_); refine evT ?_; (first | refine hGx _ ?_ | refine hNx _ ?_ | refine hAx ?_ | refine hBx ?_ | skip)))); (try clear fs))
  refine (hc _).mono ?_
  rintro d _ ⟨rfl, rfl⟩
  by_cases g3 : a.pl = b.pl
  case neg =>
    rw [decide_eq_false g3]
    (have fs := And.intro @i64.eq_1 (And.intro q1 q2); (repeat (first | refine hGx _ ?_ | refine hNx _ ?_ | refine W_skip ?_ | refine W_exit ?_ | refine W_ret ?_ | refine W_label ?_ | refine W_scope ?_ | refine W_block ?_ | refine W_seq ?_ | ((first | refine tS fun N hNx => ?_ | refine WL_gE rfl rfl (by kernel_rfl) (by kernel_rfl) fun G hGx => ?_ | refine vcOpsS_sound (by kernel_rfl) ?_ | refine W_ifE fun A B hAx hBx => ?_); refine evT ?_; (first | refine hGx _ ?_ | refine hNx _ ?_ | refine hAx ?_ | refine hBx ?_ | skip)))); (try clear fs))
    (first | (show Q .ret _) | (show Q .normal _) | skip); refine hret _ _ (by first | exact .inr rfl | exact .inl rfl) (by first | rfl | assumption | (simp only [put_df, withH_df]; assumption)) ?_; have fs := @i64.eq_1; refine evT ?_; clear fs
    exact ⟨_, Heap.le_refl _, by rw [decide_eq_false fun h => g3 (ops_ext.1 h).2.2], rfl⟩
  rw [decide_eq_true g3]
  (have fs := And.intro @i64.eq_1 (And.intro q1 q2); (repeat (first | refine hGx _ ?_ | refine hNx _ ?_ | refine W_skip ?_ | refine W_exit ?_ | refine W_ret ?_ | refine W_label ?_ | refine W_scope ?_ | refine W_block ?_ | refine W_seq ?_ | ((first | refine tS fun N hNx => ?_ | refine WL_gE rfl rfl (by kernel_rfl) (by kernel_rfl) fun G hGx => ?_ | refine vcOpsS_sound (by kernel_rfl) ?_ | refine W_ifE fun A B hAx hBx => ?_); refine evT ?_; (first | refine hGx _ ?_ | refine hNx _ ?_ | refine hAx ?_ | refine hBx ?_ | skip)))); (try clear fs))
  (first | (show Q .ret _) | (show Q .normal _) | skip); refine hret _ _ (by first | exact .inr rfl | exact .inl rfl) (by first | rfl | assumption | (simp only [put_df, withH_df]; assumption)) ?_; have fs := @i64.eq_1; refine evT ?_; clear fs
  exact ⟨_, Heap.le_refl _, by rw [decide_eq_true (ops_ext.2 ⟨g1, g2, g3⟩)], rfl⟩
set_option maxHeartbeats 2000000 in
theorem kops_N (l m : List OpS) (H : Heap) (hl : big l.length) (hlx : ∀ x ∈ l, okOp x) : Does Try.prog 27 [.seq 4 (l.map opD), .seq 4 (m.map opD)] H fun d H' => d = .val (.bool (decide (l = m))) ∧ H = H' := by
  unfold big at hl
  have hll : (List.map opD l).length = l.length := List.length_map _
  have hml : (List.map opD m).length = m.length := List.length_map _
  refine does_of _ _ Try.func27 rfl rfl Try.ntmps27 Try.results27 (by simp only [List.length_cons, List.length_nil]; omega) fun w0 Q hret => ?_
  by_cases hlm : l.length = m.length
  case neg =>
    have q : ((l.length : Int) = (m.length : Int)) = False := eq_false (by omega)
    (have fs := And.intro @i64.eq_1 (And.intro hll (And.intro hml q)); (repeat (first | refine hGx _ ?_ | refine hNx _ ?_ | refine W_skip ?_ | refine W_exit ?_ | refine W_ret ?_ | refine W_label ?_ | refine W_scope ?_ | refine W_block ?_ | refine W_seq ?_ | ((first | refine tS fun N hNx => ?_ | refine WL_gE rfl rfl (by kernel_rfl) (by kernel_rfl) fun G hGx => ?_ | refine vcOpsS_sound (by kernel_rfl) ?_ | refine W_ifE fun A B hAx hBx => ?_); refine evT ?_; (first | refine hGx _ ?_ | refine hNx _ ?_ | refine hAx ?_ | refine hBx ?_ | skip)))); (try clear fs))
    (first | (show Q .ret _) | (show Q .normal _) | skip); refine hret _ _ (by first | exact .inr rfl | exact .inl rfl) (by first | rfl | assumption | (simp only [put_df, withH_df]; assumption)) ?_; have fs := @i64.eq_1; refine evT ?_; clear fs
    exact ⟨_, Heap.le_refl _, by rw [decide_eq_false fun e => hlm (by rw [e])], rfl⟩
  have q : ((l.length : Int) = (m.length : Int)) = True := eq_true (by omega)
  (have fs := And.intro @i64.eq_1 (And.intro hll (And.intro hml q)); (repeat (first | refine hGx _ ?_ | refine hNx _ ?_ | refine W_skip ?_ | refine W_exit ?_ | refine W_ret ?_ | refine W_label ?_ | refine W_scope ?_ | refine W_block ?_ | refine W_seq ?_ | ((first | refine tS fun N hNx => ?_ | refine WL_gE rfl rfl (by kernel_rfl) (by kernel_rfl) fun G hGx => ?_ | refine vcOpsS_sound (by kernel_rfl) ?_ | refine W_ifE fun A B hAx hBx => ?_); refine evT ?_; (first | refine hGx _ ?_ | refine hNx _ ?_ | refine hAx ?_ | refine hBx ?_ | skip)))); (try clear fs))
  refine W_loopN l.length (fun i s => s.df = [] ∧ s.fr 0 = .seq 4 (l.map opD) ∧ s.fr 1 = .seq 4 (m.map opD) ∧ s.fr 5 = i64 i ∧ s.H = H ∧ l.take i = m.take i) ⟨rfl, rfl, rfl, rfl, rfl, by simp⟩ ?_
  rintro i s hi ⟨hdf, f0, f1, f5, hH, htk⟩
  have hx : (i : Int).toNat = i := Int.toNat_natCast _
  have h00 : (0 : Int) ≤ (i : Int) := Int.natCast_nonneg _
  by_cases hil : i < l.length
  case neg =>
    have q1 : ((i : Int) < (l.length : Int)) = False := eq_false (by omega)
    rw [List.take_of_length_le (by omega), List.take_of_length_le (by omega)] at htk
    (have fs := And.intro f0 (And.intro f5 (And.intro @i64.eq_1 (And.intro hll q1))); (repeat (first | refine hGx _ ?_ | refine hNx _ ?_ | refine W_skip ?_ | refine W_exit ?_ | refine W_ret ?_ | refine W_label ?_ | refine W_scope ?_ | refine W_block ?_ | refine W_seq ?_ | ((first | refine tS fun N hNx => ?_ | refine WL_gE rfl rfl (by kernel_rfl) (by kernel_rfl) fun G hGx => ?_ | refine vcOpsS_sound (by kernel_rfl) ?_ | refine W_ifE fun A B hAx hBx => ?_); refine evT ?_; (first | refine hGx _ ?_ | refine hNx _ ?_ | refine hAx ?_ | refine hBx ?_ | skip)))); (try clear fs))
    (first | (show Q .ret _) | (show Q .normal _) | skip); refine hret _ _ (by first | exact .inr rfl | exact .inl rfl) (by first | rfl | assumption | (simp only [put_df, withH_df]; assumption)) ?_; have fs := hdf; refine evT ?_; clear fs
    exact ⟨_, Heap.le_refl _, by rw [decide_eq_true htk], hH.symm⟩
  have q1 : ((i : Int) < (l.length : Int)) = True := eq_true (by omega)
  have him : i < m.length := by omega
  have hgi := map_get (f := opD) hil
  have hgm := map_get (f := opD) him
  have w3 : IntKind.i64.wrap ((i : Int) + 1) = ((i + 1 : Nat) : Int) := by rw [wrap_i64_of (by omega)]; omega
  have hne : l[i] ≠ m[i] → decide (l = m) = false := fun h => decide_eq_false (by rintro rfl; exact h rfl)
  have hts := take_snocA htk hil him
  have hox := hlx l[i] (List.getElem_mem hil)
  obtain ⟨x, hxe⟩ : ∃ x, x = l[i] := ⟨_, rfl⟩
  obtain ⟨y, hye⟩ : ∃ x, x = m[i] := ⟨_, rfl⟩
  rw [← hxe] at hgi hne hts hox
  rw [← hye] at hgm hne hts
  simp only [opD] at hgi hgm
  (have fs := And.intro f0 (And.intro f5 (And.intro @i64.eq_1 (And.intro hll q1))); (repeat (first | refine hGx _ ?_ | refine hNx _ ?_ | refine W_skip ?_ | refine W_exit ?_ | refine W_ret ?_ | refine W_label ?_ | refine W_scope ?_ | refine W_block ?_ | refine W_seq ?_ | ((first | refine tS fun N hNx => ?_ | refine WL_gE rfl rfl (by kernel_rfl) (by kernel_rfl) fun G hGx => ?_ | refine vcOpsS_sound (by kernel_rfl) ?_ | refine W_ifE fun A B hAx hBx => ?_); refine evT ?_; (first | refine hGx _ ?_ | refine hNx _ ?_ | refine hAx ?_ | refine hBx ?_ | skip)))); (try clear fs))
  by_cases c1 : x.k = y.k
  case neg =>
    have p1 : (x.k = y.k) = False := eq_false c1
    refine W_drawE (fun _ _ _ _ => False) (by kernel_rfl) (by kernel_rfl) (by kernel_rfl) fun N hNx => ?_; (have fs := And.intro f0 (And.intro f1 (And.intro f5 (And.intro @i64.eq_1 (And.intro hll (And.intro hml (And.intro hgi (And.intro hgm (And.intro hx (And.intro h00 (And.intro hil (And.intro him p1))))))))))); (repeat ((first | refine vcD_g rfl rfl fun G hGx => ?_ | refine vcDS_to ?_); refine evD ?_; (first | refine hGx _ ?_ | refine hNx _ ?_ | skip))); (try clear fs))
    (have fs := And.intro f5 (And.intro @i64.eq_1 w3); (repeat (first | refine hGx _ ?_ | refine hNx _ ?_ | refine W_skip ?_ | refine W_exit ?_ | refine W_ret ?_ | refine W_label ?_ | refine W_scope ?_ | refine W_block ?_ | refine W_seq ?_ | ((first | refine tS fun N hNx => ?_ | refine WL_gE rfl rfl (by kernel_rfl) (by kernel_rfl) fun G hGx => ?_ | refine vcOpsS_sound (by kernel_rfl) ?_ | refine W_ifE fun A B hAx hBx => ?_); refine evT ?_; (first | refine hGx _ ?_ | refine hNx _ ?_ | refine hAx ?_ | refine hBx ?_ | skip)))); (try clear fs))
    (first | (show Q .ret _) | (show Q .normal _) | skip); refine hret _ _ (by first | exact .inr rfl | exact .inl rfl) (by first | rfl | assumption | (simp only [put_df, withH_df]; assumption)) ?_; have fs := hdf; refine evT ?_; clear fs
    exact ⟨_, Heap.le_refl _, by rw [hne fun h => c1 (by rw [h])], hH.symm⟩
  have p1 : (x.k = y.k) = True := eq_true c1
  by_cases c2 : x.n = y.n
  case neg =>
    have p2 : (x.n = y.n) = False := eq_false c2
    refine W_drawE (fun _ _ _ _ => False) (by kernel_rfl) (by kernel_rfl) (by kernel_rfl) fun N hNx => ?_; (have fs := And.intro f0 (And.intro f1 (And.intro f5 (And.intro @i64.eq_1 (And.intro hll (And.intro hml (And.intro hgi (And.intro hgm (And.intro hx (And.intro h00 (And.intro hil (And.intro him (And.intro p1 p2)))))))))))); (repeat ((first | refine vcD_g rfl rfl fun G hGx => ?_ | refine vcDS_to ?_); refine evD ?_; (first | refine hGx _ ?_ | refine hNx _ ?_ | skip))); (try clear fs))
    (have fs := And.intro f5 (And.intro @i64.eq_1 w3); (repeat (first | refine hGx _ ?_ | refine hNx _ ?_ | refine W_skip ?_ | refine W_exit ?_ | refine W_ret ?_ | refine W_label ?_ | refine W_scope ?_ | refine W_block ?_ | refine W_seq ?_ | ((first | refine tS fun N hNx => ?_ | refine WL_gE rfl rfl (by kernel_rfl) (by kernel_rfl) fun G hGx => ?_ | refine vcOpsS_sound (by kernel_rfl) ?_ | refine W_ifE fun A B hAx hBx => ?_); refine evT ?_; (first | refine hGx _ ?_ | refine hNx _ ?_ | refine hAx ?_ | refine hBx ?_ | skip)))); (try clear fs))
    (first | (show Q .ret _) | (show Q .normal _) | skip); refine hret _ _ (by first | exact .inr rfl | exact .inl rfl) (by first | rfl | assumption | (simp only [put_df, withH_df]; assumption)) ?_; have fs := hdf; refine evT ?_; clear fs
    exact ⟨_, Heap.le_refl _, by rw [hne fun h => c2 (by rw [h])], hH.symm⟩
  have p2 : (x.n = y.n) = True := eq_true c2
  have hcall : ∀ v, decide (x.pl = y.pl) = v → CallOK Try.prog 65 [.agg (plD x.pl), .agg (plD y.pl)] s.H fun d A => A = Heap.none ∧ d = .val (.bool v) := fun v hv => callOK_eq fun H'' hle'' => by rw [← hv]; exact kpeq_N x.pl y.pl H'' hox
  simp only [plD] at hcall
  by_cases c3 : x.pl = y.pl
  case neg =>
    refine W_drawE (fun _ _ d A => A = .none ∧ d = .val (.bool false)) (by kernel_rfl) (by kernel_rfl) (by kernel_rfl) fun N hNx => ?_; (have fs := And.intro f0 (And.intro f1 (And.intro f5 (And.intro @i64.eq_1 (And.intro hll (And.intro hml (And.intro hgi (And.intro hgm (And.intro hx (And.intro h00 (And.intro hil (And.intro him (And.intro p1 p2)))))))))))); (repeat ((first | refine vcD_g rfl rfl fun G hGx => ?_ | refine vcDS_to ?_); refine evD ?_; (first | refine hGx _ ?_ | refine hNx _ ?_ | skip))); (try clear fs))
    refine ⟨hcall _ (decide_eq_false c3), ?_⟩
    (first | refine hGx _ ?_ | refine hNx _ ?_ | skip)
    (have fs := @i64.eq_1; (repeat ((first | refine vcD_g rfl rfl fun G hGx => ?_ | refine vcDS_to ?_); refine evD ?_; (first | refine hGx _ ?_ | refine hNx _ ?_ | skip))); (try clear fs))
    (have fs := And.intro f5 (And.intro @i64.eq_1 w3); (repeat (first | refine hGx _ ?_ | refine hNx _ ?_ | refine W_skip ?_ | refine W_exit ?_ | refine W_ret ?_ | refine W_label ?_ | refine W_scope ?_ | refine W_block ?_ | refine W_seq ?_ | ((first | refine tS fun N hNx => ?_ | refine WL_gE rfl rfl (by kernel_rfl) (by kernel_rfl) fun G hGx => ?_ | refine vcOpsS_sound (by kernel_rfl) ?_ | refine W_ifE fun A B hAx hBx => ?_); refine evT ?_; (first | refine hGx _ ?_ | refine hNx _ ?_ | refine hAx ?_ | refine hBx ?_ | skip)))); (try clear fs))
    (first | (show Q .ret _) | (show Q .normal _) | skip); refine hret _ _ (by first | exact .inr rfl | exact .inl rfl) (by first | rfl | assumption | (simp only [put_df, withH_df]; assumption)) ?_; have fs := hdf; refine evT ?_; clear fs
    exact ⟨_, Heap.le_refl _, by rw [hne fun h => c3 (by rw [h])], hH.symm⟩
  · refine W_drawE (fun _ _ d A => A = .none ∧ d = .val (.bool true)) (by kernel_rfl) (by kernel_rfl) (by kernel_rfl) fun N hNx => ?_; (have fs := And.intro f0 (And.intro f1 (And.intro f5 (And.intro @i64.eq_1 (And.intro hll (And.intro hml (And.intro hgi (And.intro hgm (And.intro hx (And.intro h00 (And.intro hil (And.intro him (And.intro p1 p2)))))))))))); (repeat ((first | refine vcD_g rfl rfl fun G hGx => ?_ | refine vcDS_to ?_); refine evD ?_; (first | refine hGx _ ?_ | refine hNx _ ?_ | skip))); (try clear fs))
    refine ⟨hcall _ (decide_eq_true c3), ?_⟩
    (first | refine hGx _ ?_ | refine hNx _ ?_ | skip)
    (have fs := @i64.eq_1; (repeat ((first | refine vcD_g rfl rfl fun G hGx => ?_ | refine vcDS_to ?_); refine evD ?_; (first | refine hGx _ ?_ | refine hNx _ ?_ | skip))); (try clear fs))
    (have fs := And.intro f5 (And.intro @i64.eq_1 w3); (repeat (first | refine hGx _ ?_ | refine hNx _ ?_ | refine W_skip ?_ | refine W_exit ?_ | refine W_ret ?_ | refine W_label ?_ | refine W_scope ?_ | refine W_block ?_ | refine W_seq ?_ | ((first | refine tS fun N hNx => ?_ | refine WL_gE rfl rfl (by kernel_rfl) (by kernel_rfl) fun G hGx => ?_ | refine vcOpsS_sound (by kernel_rfl) ?_ | refine W_ifE fun A B hAx hBx => ?_); refine evT ?_; (first | refine hGx _ ?_ | refine hNx _ ?_ | refine hAx ?_ | refine hBx ?_ | skip)))); (try clear fs))
    exact ⟨hil, hdf, f0, f1, rfl, hH, hts (ops_ext.2 ⟨c1, c2, c3⟩)⟩
theorem bops_N (H : Heap) : Does Try.prog 94 [] H fun d H' => d = .agg [.fn 111 []] ∧ H = H' := by
  refine does_of _ _ Try.func94 rfl rfl Try.ntmps94 Try.results94 (by simp only [List.length_cons, List.length_nil]; omega) fun w0 Q hret => ?_
  (have fs := @i64.eq_1; (repeat (first | refine hGx _ ?_ | refine hNx _ ?_ | refine W_skip ?_ | refine W_exit ?_ | refine W_ret ?_ | refine W_label ?_ | refine W_scope ?_ | refine W_block ?_ | refine W_seq ?_ | ((first | refine tS fun N hNx => ?_ | refine WL_gE rfl rfl (by kernel_rfl) (by kernel_rfl) fun G hGx => ?_ | refine vcOpsS_sound (by kernel_rfl) ?_ | refine W_ifE fun A B hAx hBx => ?_); refine evT ?_; (first | refine hGx _ ?_ | refine hNx _ ?_ | refine hAx ?_ | refine hBx ?_ | skip)))); (try clear fs))
  intro c0 hc0
  refine hNx _ ?_
  (have fs := @i64.eq_1; (repeat (first | refine hGx _ ?_ | refine hNx _ ?_ | refine W_skip ?_ | refine W_exit ?_ | refine W_ret ?_ | refine W_label ?_ | refine W_scope ?_ | refine W_block ?_ | refine W_seq ?_ | ((first | refine tS fun N hNx => ?_ | refine WL_gE rfl rfl (by kernel_rfl) (by kernel_rfl) fun G hGx => ?_ | refine vcOpsS_sound (by kernel_rfl) ?_ | refine W_ifE fun A B hAx hBx => ?_); refine evT ?_; (first | refine hGx _ ?_ | refine hNx _ ?_ | refine hAx ?_ | refine hBx ?_ | skip)))); (try clear fs))
  (first | (show Q .ret _) | (show Q .normal _) | skip); refine hret _ _ (by first | exact .inr rfl | exact .inl rfl) (by first | rfl | assumption | (simp only [put_df, withH_df]; assumption)) ?_; have fs := trivial; refine evT ?_; clear fs
  exact ⟨H, Heap.le_put (Heap.le_refl _) hc0, rfl⟩
set_option maxHeartbeats 2000000 in
theorem rveq_N (a b : RvS) (H : Heap) (ha : okRv a) : Does Try.prog 109 [.agg (rvD a), .agg (rvD b)] H fun d H' => d = .val (.bool (decide (a = b))) ∧ H = H' := by
  have h1 : ∀ H v, decide (a.pl = b.pl) = v → CallOK Try.prog 96 [.agg (plD a.pl), .agg (plD b.pl)] H fun d A => A = Heap.none ∧ d = .val (.bool v) := fun H v hv => callOK_eq fun H'' hle'' => by rw [← hv]; exact peq_N a.pl b.pl H'' ha.1
  have h2 : ∀ H, CallOK Try.prog 94 [] H fun d A => A = Heap.none ∧ d = .agg [.fn 111 []] := fun H => callOK_eq fun H'' hle'' => bops_N H''
  have h3 : ∀ H v, decide (a.ar = b.ar) = v → CallOK Try.prog 95 [.agg [.fn 111 []], .seq 4 (a.ar.map opD), .seq 4 (b.ar.map opD)] H fun d A => A = Heap.none ∧ d = .val (.bool v) := fun H v hv => callOK_eq fun H'' hle'' => by rw [← hv]; exact sameOperand_N a.ar b.ar _ H'' ha.2.1 ha.2.2 fun x y H hx => opeq_N x y H hx
  simp only [plD] at h1
  refine does_of _ _ Try.func109 rfl rfl Try.ntmps109 Try.results109 (by simp only [List.length_cons, List.length_nil]; omega) fun w0 Q hret => ?_
  (have fs := And.intro @i64.eq_1 @rvD.eq_1; (repeat (first | refine hGx _ ?_ | refine hNx _ ?_ | refine W_skip ?_ | refine W_exit ?_ | refine W_ret ?_ | refine W_label ?_ | refine W_scope ?_ | refine W_block ?_ | refine W_seq ?_ | ((first | refine tS fun N hNx => ?_ | refine WL_gE rfl rfl (by kernel_rfl) (by kernel_rfl) fun G hGx => ?_ | refine vcOpsS_sound (by kernel_rfl) ?_ | refine W_ifE fun A B hAx hBx => ?_); refine evT ?_; (first | refine hGx _ ?_ | refine hNx _ ?_ | refine hAx ?_ | refine hBx ?_ | skip)))); (try clear fs))
  intro c2 hc2 c3 hc3
  refine hNx _ ?_
  have hne : c2 ≠ c3 := Heap.ne_of (Heap.upd_same _ _ _) hc3; have hb0 := (Heap.upd_none.1 hc3).2; refine W_frzp 2 rfl ((Heap.upd_ne hne).trans (Heap.upd_same _ _ _)) rfl ?_; refine W_frzp 3 rfl ((Heap.del_ne hne.symm).trans (Heap.upd_same _ _ _)) rfl ?_; refine W_less H (frz2_le hc2 hb0) ?_; simp only [St.frzp, List.drop]
  (have fs := @i64.eq_1; (repeat (first | refine hGx _ ?_ | refine hNx _ ?_ | refine W_skip ?_ | refine W_exit ?_ | refine W_ret ?_ | refine W_label ?_ | refine W_scope ?_ | refine W_block ?_ | refine W_seq ?_ | ((first | refine tS fun N hNx => ?_ | refine WL_gE rfl rfl (by kernel_rfl) (by kernel_rfl) fun G hGx => ?_ | refine vcOpsS_sound (by kernel_rfl) ?_ | refine W_ifE fun A B hAx hBx => ?_); refine evT ?_; (first | refine hGx _ ?_ | refine hNx _ ?_ | refine hAx ?_ | refine hBx ?_ | skip)))); (try clear fs))
  by_cases g1 : a.k = b.k
  case neg =>
    have q1 : (a.k = b.k) = False := eq_false g1
    refine W_drawE (fun _ _ _ _ => False) (by kernel_rfl) (by kernel_rfl) (by kernel_rfl) fun N hNx => ?_; (have fs := And.intro @i64.eq_1 q1; (repeat ((first | refine vcD_g rfl rfl fun G hGx => ?_ | refine vcDS_to ?_); refine evD ?_; (first | refine hGx _ ?_ | refine hNx _ ?_ | skip))); (try clear fs))
    (have fs := @i64.eq_1; (repeat (first | refine hGx _ ?_ | refine hNx _ ?_ | refine W_skip ?_ | refine W_exit ?_ | refine W_ret ?_ | refine W_label ?_ | refine W_scope ?_ | refine W_block ?_ | refine W_seq ?_ | ((first | refine tS fun N hNx => ?_ | refine WL_gE rfl rfl (by kernel_rfl) (by kernel_rfl) fun G hGx => ?_ | refine vcOpsS_sound (by kernel_rfl) ?_ | refine W_ifE fun A B hAx hBx => ?_); refine evT ?_; (first | refine hGx _ ?_ | refine hNx _ ?_ | refine hAx ?_ | refine hBx ?_ | skip)))); (try clear fs))
    (first | (show Q .ret _) | (show Q .normal _) | skip); refine hret _ _ (by first | exact .inr rfl | exact .inl rfl) (by first | rfl | assumption | (simp only [put_df, withH_df]; assumption)) ?_; have fs := @i64.eq_1; refine evT ?_; clear fs
    exact ⟨_, Heap.le_refl _, by rw [decide_eq_false fun h => g1 (rvs_ext.1 h).1], rfl⟩
  have q1 : (a.k = b.k) = True := eq_true g1
  by_cases g2 : a.op = b.op
  case neg =>
    have q2 : (a.op = b.op) = False := eq_false g2
    refine W_drawE (fun _ _ _ _ => False) (by kernel_rfl) (by kernel_rfl) (by kernel_rfl) fun N hNx => ?_; (have fs := And.intro @i64.eq_1 (And.intro q1 q2); (repeat ((first | refine vcD_g rfl rfl fun G hGx => ?_ | refine vcDS_to ?_); refine evD ?_; (first | refine hGx _ ?_ | refine hNx _ ?_ | skip))); (try clear fs))
    (have fs := @i64.eq_1; (repeat (first | refine hGx _ ?_ | refine hNx _ ?_ | refine W_skip ?_ | refine W_exit ?_ | refine W_ret ?_ | refine W_label ?_ | refine W_scope ?_ | refine W_block ?_ | refine W_seq ?_ | ((first | refine tS fun N hNx => ?_ | refine WL_gE rfl rfl (by kernel_rfl) (by kernel_rfl) fun G hGx => ?_ | refine vcOpsS_sound (by kernel_rfl) ?_ | refine W_ifE fun A B hAx hBx => ?_); refine evT ?_; (first | refine hGx _ ?_ | refine hNx _ ?_ | refine hAx ?_ | refine hBx ?_ | skip)))); (try clear fs))
    (first | (show Q .ret _) | (show Q .normal _) | skip); refine hret _ _ (by first | exact .inr rfl | exact .inl rfl) (by first | rfl | assumption | (simp only [put_df, withH_df]; assumption)) ?_; have fs := @i64.eq_1; refine evT ?_; clear fs
    exact ⟨_, Heap.le_refl _, by rw [decide_eq_false fun h => g2 (rvs_ext.1 h).2.1], rfl⟩
  have q2 : (a.op = b.op) = True := eq_true g2
  by_cases g3 : a.rg = b.rg
  case neg =>
    have q3 : (a.rg = b.rg) = False := eq_false g3
    refine W_drawE (fun _ _ _ _ => False) (by kernel_rfl) (by kernel_rfl) (by kernel_rfl) fun N hNx => ?_; (have fs := And.intro @i64.eq_1 (And.intro q1 (And.intro q2 q3)); (repeat ((first | refine vcD_g rfl rfl fun G hGx => ?_ | refine vcDS_to ?_); refine evD ?_; (first | refine hGx _ ?_ | refine hNx _ ?_ | skip))); (try clear fs))
    (have fs := @i64.eq_1; (repeat (first | refine hGx _ ?_ | refine hNx _ ?_ | refine W_skip ?_ | refine W_exit ?_ | refine W_ret ?_ | refine W_label ?_ | refine W_scope ?_ | refine W_block ?_ | refine W_seq ?_ | ((first | refine tS fun N hNx => ?_ | refine WL_gE rfl rfl (by kernel_rfl) (by kernel_rfl) fun G hGx => ?_ | refine vcOpsS_sound (by kernel_rfl) ?_ | refine W_ifE fun A B hAx hBx => ?_); refine evT ?_; (first | refine hGx _ ?_ | refine hNx _ ?_ | refine hAx ?_ | refine hBx ?_ | skip)))); (try clear fs))
    (first | (show Q .ret _) | (show Q .normal _) | skip); refine hret _ _ (by first | exact .inr rfl | exact .inl rfl) (by first | rfl | assumption | (simp only [put_df, withH_df]; assumption)) ?_; have fs := @i64.eq_1; refine evT ?_; clear fs
    exact ⟨_, Heap.le_refl _, by rw [decide_eq_false fun h => g3 (rvs_ext.1 h).2.2.1], rfl⟩
  have q3 : (a.rg = b.rg) = True := eq_true g3
  by_cases g4 : a.mu = b.mu
  case neg =>
    have q4 : (a.mu = b.mu) = False := eq_false g4
    refine W_drawE (fun _ _ _ _ => False) (by kernel_rfl) (by kernel_rfl) (by kernel_rfl) fun N hNx => ?_; (have fs := And.intro @i64.eq_1 (And.intro q1 (And.intro q2 (And.intro q3 q4))); (repeat ((first | refine vcD_g rfl rfl fun G hGx => ?_ | refine vcDS_to ?_); refine evD ?_; (first | refine hGx _ ?_ | refine hNx _ ?_ | skip))); (try clear fs))
    (have fs := @i64.eq_1; (repeat (first | refine hGx _ ?_ | refine hNx _ ?_ | refine W_skip ?_ | refine W_exit ?_ | refine W_ret ?_ | refine W_label ?_ | refine W_scope ?_ | refine W_block ?_ | refine W_seq ?_ | ((first | refine tS fun N hNx => ?_ | refine WL_gE rfl rfl (by kernel_rfl) (by kernel_rfl) fun G hGx => ?_ | refine vcOpsS_sound (by kernel_rfl) ?_ | refine W_ifE fun A B hAx hBx => ?_); refine evT ?_; (first | refine hGx _ ?_ | refine hNx _ ?_ | refine hAx ?_ | refine hBx ?_ | skip)))); (try clear fs))
    (first | (show Q .ret _) | (show Q .normal _) | skip); refine hret _ _ (by first | exact .inr rfl | exact .inl rfl) (by first | rfl | assumption | (simp only [put_df, withH_df]; assumption)) ?_; have fs := @i64.eq_1; refine evT ?_; clear fs
    exact ⟨_, Heap.le_refl _, by rw [decide_eq_false fun h => g4 (rvs_ext.1 h).2.2.2.1], rfl⟩
  have q4 : (a.mu = b.mu) = True := eq_true g4
  by_cases g5 : a.pl = b.pl
  case neg =>
    refine W_drawE (fun t _ d A => A = .none ∧ d = (.val (.bool false))) (by kernel_rfl) (by kernel_rfl) (by kernel_rfl) fun N hNx => ?_; (have fs := And.intro @i64.eq_1 (And.intro q1 (And.intro q2 (And.intro q3 q4))); (repeat ((first | refine vcD_g rfl rfl fun G hGx => ?_ | refine vcDS_to ?_); refine evD ?_; (first | refine hGx _ ?_ | refine hNx _ ?_ | skip))); (try clear fs))
    refine ⟨(h1 _ _ (decide_eq_false g5)), ?_⟩
    (first | refine hGx _ ?_ | refine hNx _ ?_ | skip)
    (have fs := And.intro @i64.eq_1 (And.intro q1 (And.intro q2 (And.intro q3 q4))); (repeat ((first | refine vcD_g rfl rfl fun G hGx => ?_ | refine vcDS_to ?_); refine evD ?_; (first | refine hGx _ ?_ | refine hNx _ ?_ | skip))); (try clear fs))
    (have fs := @i64.eq_1; (repeat (first | refine hGx _ ?_ | refine hNx _ ?_ | refine W_skip ?_ | refine W_exit ?_ | refine W_ret ?_ | refine W_label ?_ | refine W_scope ?_ | refine W_block ?_ | refine W_seq ?_ | ((first | refine tS fun N hNx => ?_ | refine WL_gE rfl rfl (by kernel_rfl) (by kernel_rfl) fun G hGx => ?_ | refine vcOpsS_sound (by kernel_rfl) ?_ | refine W_ifE fun A B hAx hBx => ?_); refine evT ?_; (first | refine hGx _ ?_ | refine hNx _ ?_ | refine hAx ?_ | refine hBx ?_ | skip)))); (try clear fs))
    (first | (show Q .ret _) | (show Q .normal _) | skip); refine hret _ _ (by first | exact .inr rfl | exact .inl rfl) (by first | rfl | assumption | (simp only [put_df, withH_df]; assumption)) ?_; have fs := @i64.eq_1; refine evT ?_; clear fs
    exact ⟨_, Heap.le_refl _, by rw [decide_eq_false fun h => g5 (rvs_ext.1 h).2.2.2.2.1], rfl⟩
  by_cases g6 : a.ar = b.ar
  case neg =>
    refine W_drawE (fun t _ d A => A = .none ∧ d = (if t = some 36 then .val (.bool true) else if t = some 39 then .agg [.fn 111 []] else .val (.bool false))) (by kernel_rfl) (by kernel_rfl) (by kernel_rfl) fun N hNx => ?_; (have fs := And.intro @i64.eq_1 (And.intro q1 (And.intro q2 (And.intro q3 q4))); (repeat ((first | refine vcD_g rfl rfl fun G hGx => ?_ | refine vcDS_to ?_); refine evD ?_; (first | refine hGx _ ?_ | refine hNx _ ?_ | skip))); (try clear fs))
    refine ⟨(h1 _ _ (decide_eq_true g5)), ?_⟩
    (first | refine hGx _ ?_ | refine hNx _ ?_ | skip)
    (have fs := And.intro @i64.eq_1 (And.intro q1 (And.intro q2 (And.intro q3 q4))); (repeat ((first | refine vcD_g rfl rfl fun G hGx => ?_ | refine vcDS_to ?_); refine evD ?_; (first | refine hGx _ ?_ | refine hNx _ ?_ | skip))); (try clear fs))
    refine ⟨h2 _, ?_⟩
    (first | refine hGx _ ?_ | refine hNx _ ?_ | skip)
    (have fs := And.intro @i64.eq_1 (And.intro q1 (And.intro q2 (And.intro q3 q4))); (repeat ((first | refine vcD_g rfl rfl fun G hGx => ?_ | refine vcDS_to ?_); refine evD ?_; (first | refine hGx _ ?_ | refine hNx _ ?_ | skip))); (try clear fs))
    refine ⟨(h3 _ _ (decide_eq_false g6)), ?_⟩
    (first | refine hGx _ ?_ | refine hNx _ ?_ | skip)
    (have fs := And.intro @i64.eq_1 (And.intro q1 (And.intro q2 (And.intro q3 q4))); (repeat ((first | refine vcD_g rfl rfl fun G hGx => ?_ | refine vcDS_to ?_); refine evD ?_; (first | refine hGx _ ?_ | refine hNx _ ?_ | skip))); (try clear fs))
    (have fs := @i64.eq_1; (repeat (first | refine hGx _ ?_ | refine hNx _ ?_ | refine W_skip ?_ | refine W_exit ?_ | refine W_ret ?_ | refine W_label ?_ | refine W_scope ?_ | refine W_block ?_ | refine W_seq ?_ | ((first | refine tS fun N hNx => ?_ | refine WL_gE rfl rfl (by kernel_rfl) (by kernel_rfl) fun G hGx => ?_ | refine vcOpsS_sound (by kernel_rfl) ?_ | refine W_ifE fun A B hAx hBx => ?_); refine evT ?_; (first | refine hGx _ ?_ | refine hNx _ ?_ | refine hAx ?_ | refine hBx ?_ | skip)))); (try clear fs))
    (first | (show Q .ret _) | (show Q .normal _) | skip); refine hret _ _ (by first | exact .inr rfl | exact .inl rfl) (by first | rfl | assumption | (simp only [put_df, withH_df]; assumption)) ?_; have fs := @i64.eq_1; refine evT ?_; clear fs
    exact ⟨_, Heap.le_refl _, by rw [decide_eq_false fun h => g6 (rvs_ext.1 h).2.2.2.2.2], rfl⟩
  · skip
    refine W_drawE (fun t _ d A => A = .none ∧ d = (if t = some 36 then .val (.bool true) else if t = some 39 then .agg [.fn 111 []] else .val (.bool true))) (by kernel_rfl) (by kernel_rfl) (by kernel_rfl) fun N hNx => ?_; (have fs := And.intro @i64.eq_1 (And.intro q1 (And.intro q2 (And.intro q3 q4))); (repeat ((first | refine vcD_g rfl rfl fun G hGx => ?_ | refine vcDS_to ?_); refine evD ?_; (first | refine hGx _ ?_ | refine hNx _ ?_ | skip))); (try clear fs))
    refine ⟨(h1 _ _ (decide_eq_true g5)), ?_⟩
    (first | refine hGx _ ?_ | refine hNx _ ?_ | skip)
    (have fs := And.intro @i64.eq_1 (And.intro q1 (And.intro q2 (And.intro q3 q4))); (repeat ((first | refine vcD_g rfl rfl fun G hGx => ?_ | refine vcDS_to ?_); refine evD ?_; (first | refine hGx _ ?_ | refine hNx _ ?_ | skip))); (try clear fs))
    refine ⟨h2 _, ?_⟩
    (first | refine hGx _ ?_ | refine hNx _ ?_ | skip)
    (have fs := And.intro @i64.eq_1 (And.intro q1 (And.intro q2 (And.intro q3 q4))); (repeat ((first | refine vcD_g rfl rfl fun G hGx => ?_ | refine vcDS_to ?_); refine evD ?_; (first | refine hGx _ ?_ | refine hNx _ ?_ | skip))); (try clear fs))
    refine ⟨(h3 _ _ (decide_eq_true g6)), ?_⟩
    (first | refine hGx _ ?_ | refine hNx _ ?_ | skip)
    (have fs := And.intro @i64.eq_1 (And.intro q1 (And.intro q2 (And.intro q3 q4))); (repeat ((first | refine vcD_g rfl rfl fun G hGx => ?_ | refine vcDS_to ?_); refine evD ?_; (first | refine hGx _ ?_ | refine hNx _ ?_ | skip))); (try clear fs))
    (have fs := @i64.eq_1; (repeat (first | refine hGx _ ?_ | refine hNx _ ?_ | refine W_skip ?_ | refine W_exit ?_ | refine W_ret ?_ | refine W_label ?_ | refine W_scope ?_ | refine W_block ?_ | refine W_seq ?_ | ((first | refine tS fun N hNx => ?_ | refine WL_gE rfl rfl (by kernel_rfl) (by kernel_rfl) fun G hGx => ?_ | refine vcOpsS_sound (by kernel_rfl) ?_ | refine W_ifE fun A B hAx hBx => ?_); refine evT ?_; (first | refine hGx _ ?_ | refine hNx _ ?_ | refine hAx ?_ | refine hBx ?_ | skip)))); (try clear fs))
    (first | (show Q .ret _) | (show Q .normal _) | skip); refine hret _ _ (by first | exact .inr rfl | exact .inl rfl) (by first | rfl | assumption | (simp only [put_df, withH_df]; assumption)) ?_; have fs := @i64.eq_1; refine evT ?_; clear fs
    exact ⟨_, Heap.le_refl _, by rw [decide_eq_true (rvs_ext.2 ⟨g1, g2, g3, g4, g5, g6⟩)], rfl⟩
set_option maxHeartbeats 2000000 in
theorem steq_N (a b : StS) (H : Heap) (ha : okSt a) : Does Try.prog 92 [.agg (stD a), .agg (stD b)] H fun d H' => d = .val (.bool (decide (a = b))) ∧ H = H' := by
  have h1 := fun H => peq_N a.pl b.pl H ha.1
  have h2 := fun H => rveq_N a.rv b.rv H ha.2
  refine does_of _ _ Try.func92 rfl rfl Try.ntmps92 Try.results92 (by simp only [List.length_cons, List.length_nil]; omega) fun w0 Q hret => ?_
  (have fs := And.intro @i64.eq_1 @stD.eq_1; (repeat (first | refine hGx _ ?_ | refine hNx _ ?_ | refine W_skip ?_ | refine W_exit ?_ | refine W_ret ?_ | refine W_label ?_ | refine W_scope ?_ | refine W_block ?_ | refine W_seq ?_ | ((first | refine tS fun N hNx => ?_ | refine WL_gE rfl rfl (by kernel_rfl) (by kernel_rfl) fun G hGx => ?_ | refine vcOpsS_sound (by kernel_rfl) ?_ | refine W_ifE fun A B hAx hBx => ?_); refine evT ?_; (first | refine hGx _ ?_ | refine hNx _ ?_ | refine hAx ?_ | refine hBx ?_ | skip)))); (try clear fs))
  intro c2 hc2 c3 hc3
  refine hNx _ ?_
  have hne : c2 ≠ c3 := Heap.ne_of (Heap.upd_same _ _ _) hc3; have hb0 := (Heap.upd_none.1 hc3).2; refine W_frzp 2 rfl ((Heap.upd_ne hne).trans (Heap.upd_same _ _ _)) rfl ?_; refine W_frzp 3 rfl ((Heap.del_ne hne.symm).trans (Heap.upd_same _ _ _)) rfl ?_; refine W_less H (frz2_le hc2 hb0) ?_; simp only [St.frzp, List.drop]
  by_cases g1 : a.k = b.k
  case neg =>
    have q1 : (a.k = b.k) = False := eq_false g1
    (have fs := And.intro @i64.eq_1 q1; (repeat (first | refine hGx _ ?_ | refine hNx _ ?_ | refine W_skip ?_ | refine W_exit ?_ | refine W_ret ?_ | refine W_label ?_ | refine W_scope ?_ | refine W_block ?_ | refine W_seq ?_ | ((first | refine tS fun N hNx => ?_ | refine WL_gE rfl rfl (by kernel_rfl) (by kernel_rfl) fun G hGx => ?_ | refine vcOpsS_sound (by kernel_rfl) ?_ | refine W_ifE fun A B hAx hBx => ?_); refine evT ?_; (first | refine hGx _ ?_ | refine hNx _ ?_ | refine hAx ?_ | refine hBx ?_ | skip)))); (try clear fs))
    (first | (show Q .ret _) | (show Q .normal _) | skip); refine hret _ _ (by first | exact .inr rfl | exact .inl rfl) (by first | rfl | assumption | (simp only [put_df, withH_df]; assumption)) ?_; have fs := @i64.eq_1; refine evT ?_; clear fs
    exact ⟨_, Heap.le_refl _, by rw [decide_eq_false fun h => g1 (sts_ext.1 h).1], rfl⟩
  have q1 : (a.k = b.k) = True := eq_true g1
  by_cases g2 : a.lo = b.lo
  case neg =>
    have q2 : (a.lo = b.lo) = False := eq_false g2
    (have fs := And.intro @i64.eq_1 (And.intro q1 q2); (repeat (first | refine hGx _ ?_ | refine hNx _ ?_ | refine W_skip ?_ | refine W_exit ?_ | refine W_ret ?_ | refine W_label ?_ | refine W_scope ?_ | refine W_block ?_ | refine W_seq ?_ | ((first | refine tS fun N hNx => ?_ | refine WL_gE rfl rfl (by kernel_rfl) (by kernel_rfl) fun G hGx => ?_ | refine vcOpsS_sound (by kernel_rfl) ?_ | refine W_ifE fun A B hAx hBx => ?_); refine evT ?_; (first | refine hGx _ ?_ | refine hNx _ ?_ | refine hAx ?_ | refine hBx ?_ | skip)))); (try clear fs))
    (first | (show Q .ret _) | (show Q .normal _) | skip); refine hret _ _ (by first | exact .inr rfl | exact .inl rfl) (by first | rfl | assumption | (simp only [put_df, withH_df]; assumption)) ?_; have fs := @i64.eq_1; refine evT ?_; clear fs
    exact ⟨_, Heap.le_refl _, by rw [decide_eq_false fun h => g2 (sts_ext.1 h).2.1], rfl⟩
  have q2 : (a.lo = b.lo) = True := eq_true g2
  (have fs := And.intro @i64.eq_1 (And.intro q1 q2); (repeat (first | refine hGx _ ?_ | refine hNx _ ?_ | refine W_skip ?_ | refine W_exit ?_ | refine W_ret ?_ | refine W_label ?_ | refine W_scope ?_ | refine W_block ?_ | refine W_seq ?_ | ((first | refine tS fun N hNx => ?_ | refine WL_gE rfl rfl (by kernel_rfl) (by kernel_rfl) fun G hGx => ?_ | refine vcOpsS_sound (by kernel_rfl) ?_ | refine W_ifE fun A B hAx hBx => ?_); refine evT ?_; (first | refine hGx _ ?_ | refine hNx _ ?_ | refine hAx ?_ | refine hBx ?_ | skip)))); (try clear fs))
  refine (h1 _).mono ?_
  rintro d _ ⟨rfl, rfl⟩
  by_cases g3 : a.pl = b.pl
  case neg =>
    rw [decide_eq_false g3]
    (have fs := And.intro @i64.eq_1 (And.intro q1 q2); (repeat (first | refine hGx _ ?_ | refine hNx _ ?_ | refine W_skip ?_ | refine W_exit ?_ | refine W_ret ?_ | refine W_label ?_ | refine W_scope ?_ | refine W_block ?_ | refine W_seq ?_ | ((first | refine tS fun N hNx => ?_ | refine WL_gE rfl rfl (by kernel_rfl) (by kernel_rfl) fun G hGx => ?_ | refine vcOpsS_sound (by kernel_rfl) ?_ | refine W_ifE fun A B hAx hBx => ?_); refine evT ?_; (first | refine hGx _ ?_ | refine hNx _ ?_ | refine hAx ?_ | refine hBx ?_ | skip)))); (try clear fs))
    (first | (show Q .ret _) | (show Q .normal _) | skip); refine hret _ _ (by first | exact .inr rfl | exact .inl rfl) (by first | rfl | assumption | (simp only [put_df, withH_df]; assumption)) ?_; have fs := @i64.eq_1; refine evT ?_; clear fs
    exact ⟨_, Heap.le_refl _, by rw [decide_eq_false fun h => g3 (sts_ext.1 h).2.2.1], rfl⟩
  rw [decide_eq_true g3]
  (have fs := And.intro @i64.eq_1 (And.intro q1 q2); (repeat (first | refine hGx _ ?_ | refine hNx _ ?_ | refine W_skip ?_ | refine W_exit ?_ | refine W_ret ?_ | refine W_label ?_ | refine W_scope ?_ | refine W_block ?_ | refine W_seq ?_ | ((first | refine tS fun N hNx => ?_ | refine WL_gE rfl rfl (by kernel_rfl) (by kernel_rfl) fun G hGx => ?_ | refine vcOpsS_sound (by kernel_rfl) ?_ | refine W_ifE fun A B hAx hBx => ?_); refine evT ?_; (first | refine hGx _ ?_ | refine hNx _ ?_ | refine hAx ?_ | refine hBx ?_ | skip)))); (try clear fs))
  refine (h2 _).mono ?_
  rintro d _ ⟨rfl, rfl⟩
  by_cases g4 : a.rv = b.rv
  case neg =>
    rw [decide_eq_false g4]
    (have fs := And.intro @i64.eq_1 (And.intro q1 q2); (repeat (first | refine hGx _ ?_ | refine hNx _ ?_ | refine W_skip ?_ | refine W_exit ?_ | refine W_ret ?_ | refine W_label ?_ | refine W_scope ?_ | refine W_block ?_ | refine W_seq ?_ | ((first | refine tS fun N hNx => ?_ | refine WL_gE rfl rfl (by kernel_rfl) (by kernel_rfl) fun G hGx => ?_ | refine vcOpsS_sound (by kernel_rfl) ?_ | refine W_ifE fun A B hAx hBx => ?_); refine evT ?_; (first | refine hGx _ ?_ | refine hNx _ ?_ | refine hAx ?_ | refine hBx ?_ | skip)))); (try clear fs))
    (first | (show Q .ret _) | (show Q .normal _) | skip); refine hret _ _ (by first | exact .inr rfl | exact .inl rfl) (by first | rfl | assumption | (simp only [put_df, withH_df]; assumption)) ?_; have fs := @i64.eq_1; refine evT ?_; clear fs
    exact ⟨_, Heap.le_refl _, by rw [decide_eq_false fun h => g4 (sts_ext.1 h).2.2.2], rfl⟩
  rw [decide_eq_true g4]
  (have fs := And.intro @i64.eq_1 (And.intro q1 q2); (repeat (first | refine hGx _ ?_ | refine hNx _ ?_ | refine W_skip ?_ | refine W_exit ?_ | refine W_ret ?_ | refine W_label ?_ | refine W_scope ?_ | refine W_block ?_ | refine W_seq ?_ | ((first | refine tS fun N hNx => ?_ | refine WL_gE rfl rfl (by kernel_rfl) (by kernel_rfl) fun G hGx => ?_ | refine vcOpsS_sound (by kernel_rfl) ?_ | refine W_ifE fun A B hAx hBx => ?_); refine evT ?_; (first | refine hGx _ ?_ | refine hNx _ ?_ | refine hAx ?_ | refine hBx ?_ | skip)))); (try clear fs))
  (first | (show Q .ret _) | (show Q .normal _) | skip); refine hret _ _ (by first | exact .inr rfl | exact .inl rfl) (by first | rfl | assumption | (simp only [put_df, withH_df]; assumption)) ?_; have fs := @i64.eq_1; refine evT ?_; clear fs
  exact ⟨_, Heap.le_refl _, by rw [decide_eq_true (sts_ext.2 ⟨g1, g2, g3, g4⟩)], rfl⟩
end Go.Proofs.Ytbcghjcakincoaa
