/- Lemmas and contracts of functions, several texts in one: RJ RK. -/
import Derived.Test.YtdggkophnlldoaaGW
import Derived.Test.YtdggkophnlldoaaGY
import Derived.Test.YtdggkophnlldoaaGYB
/- The laws RegionsNil, RegionsIsPreorder: the walks. -/
namespace Go.Proofs.Ytdggkophnlldoaa
open Go.RowKit
set_option linter.unusedVariables false
set_option maxRecDepth 100000
set_option linter.unusedSimpArgs false
theorem out0_N (a b : Int) (H : Heap) : Does Try.prog 38 [.val (.pointer none), i64 a, i64 b] H fun d H' => d = .val (.bool false) ∧ H = H' := by
  refine Does.frz (K := fun d => d = .val (.bool false)) ?_
  refine does_of _ _ Try.func38 rfl rfl Try.ntmps38 Try.results38 (by simp only [List.length_cons, List.length_nil]; omega) fun w0 Q hret => ?_
  (have fs := @i64.eq_1; (repeat (first | refine hGx _ ?_ | refine hNx _ ?_ | refine W_skip ?_ | refine W_exit ?_ | refine W_ret ?_ | refine W_label ?_ | refine W_scope ?_ | refine W_block ?_ | refine W_seq ?_ | ((first | refine tS fun N hNx => ?_ | refine WL_gE rfl rfl (by kernel_rfl) (by kernel_rfl) fun G hGx => ?_ | refine vcOpsS_sound (by kernel_rfl) ?_ | refine W_ifE fun A B hAx hBx => ?_); refine evT ?_; (first | refine hGx _ ?_ | refine hNx _ ?_ | refine hAx ?_ | refine hBx ?_ | skip)))); (try clear fs))
  refine (has0_N a _).mono ?_
  rintro d _ ⟨rfl, rfl⟩
  (have fs := @i64.eq_1; (repeat (first | refine hGx _ ?_ | refine hNx _ ?_ | refine W_skip ?_ | refine W_exit ?_ | refine W_ret ?_ | refine W_label ?_ | refine W_scope ?_ | refine W_block ?_ | refine W_seq ?_ | ((first | refine tS fun N hNx => ?_ | refine WL_gE rfl rfl (by kernel_rfl) (by kernel_rfl) fun G hGx => ?_ | refine vcOpsS_sound (by kernel_rfl) ?_ | refine W_ifE fun A B hAx hBx => ?_); refine evT ?_; (first | refine hGx _ ?_ | refine hNx _ ?_ | refine hAx ?_ | refine hBx ?_ | skip)))); (try clear fs))
  (first | (show Q .ret _) | (show Q .normal _) | skip); refine hret _ _ (by first | exact .inr rfl | exact .inl rfl) (by first | rfl | assumption | (simp only [put_df, withH_df]; assumption)) ?_; have fs := @i64.eq_1; refine evT ?_; clear fs
  exact ⟨_, Heap.le_refl _, Heap.le_refl _, _, frz_refl (Heap.le_refl _), rfl⟩
theorem sub0_N (ts : List TyS) (a b : Int) (H : Heap) : Does Try.prog 45 [.val (.pointer none), .seq 5 (ts.map tyD), i64 a, i64 b] H fun d H' => d = .val (.bool false) ∧ H = H' := by
  refine Does.frz (K := fun d => d = .val (.bool false)) ?_
  refine does_of _ _ Try.func45 rfl rfl Try.ntmps45 Try.results45 (by simp only [List.length_cons, List.length_nil]; omega) fun w0 Q hret => ?_
  (have fs := @i64.eq_1; (repeat (first | refine hGx _ ?_ | refine hNx _ ?_ | refine W_skip ?_ | refine W_exit ?_ | refine W_ret ?_ | refine W_label ?_ | refine W_scope ?_ | refine W_block ?_ | refine W_seq ?_ | ((first | refine tS fun N hNx => ?_ | refine WL_gE rfl rfl (by kernel_rfl) (by kernel_rfl) fun G hGx => ?_ | refine vcOpsS_sound (by kernel_rfl) ?_ | refine W_ifE fun A B hAx hBx => ?_); refine evT ?_; (first | refine hGx _ ?_ | refine hNx _ ?_ | refine hAx ?_ | refine hBx ?_ | skip)))); (try clear fs))
  intro c4 hc4 c5 hc5
  have hne : c4 ≠ c5 := Heap.ne_of (Heap.upd_same _ _ _) hc5
  have hc50 : H c5 = none := (Heap.upd_none.1 hc5).2
  refine hNx _ ?_
  refine W_frzp 4 rfl ((Heap.upd_ne hne).trans (Heap.upd_same _ _ _)) rfl ?_
  refine W_frzp 5 rfl ((Heap.del_ne hne.symm).trans (Heap.upd_same _ _ _)) rfl ?_
  refine W_less H (fun x z hz => ?_) ?_
  · have e1 : x ≠ c4 := fun e => by rw [e, hc4] at hz; cases hz
    have e2 : x ≠ c5 := fun e => by rw [e, hc50] at hz; cases hz
    show ((((H.upd c4 _).upd c5 _).del c4).del c5) x = _
    rw [Heap.del_ne e2, Heap.del_ne e1, Heap.upd_ne e2, Heap.upd_ne e1]
    exact hz
  simp only [St.frzp, List.drop]
  (have fs := @i64.eq_1; (repeat (first | refine hGx _ ?_ | refine hNx _ ?_ | refine W_skip ?_ | refine W_exit ?_ | refine W_ret ?_ | refine W_label ?_ | refine W_scope ?_ | refine W_block ?_ | refine W_seq ?_ | ((first | refine tS fun N hNx => ?_ | refine WL_gE rfl rfl (by kernel_rfl) (by kernel_rfl) fun G hGx => ?_ | refine vcOpsS_sound (by kernel_rfl) ?_ | refine W_ifE fun A B hAx hBx => ?_); refine evT ?_; (first | refine hGx _ ?_ | refine hNx _ ?_ | refine hAx ?_ | refine hBx ?_ | skip)))); (try clear fs))
  (first | (show Q .ret _) | (show Q .normal _) | skip); refine hret _ _ (by first | exact .inr rfl | exact .inl rfl) (by first | rfl | assumption | (simp only [put_df, withH_df]; assumption)) ?_; have fs := @i64.eq_1; refine evT ?_; clear fs
  exact ⟨_, Heap.le_refl _, Heap.le_refl _, _, frz_refl (Heap.le_refl _), rfl⟩
set_option maxHeartbeats 1000000 in
theorem clos0_N (o : List Int) (H : Heap) (ho : o.length ≤ 140737488351232) : Does Try.prog 40 [.val (.pointer none), .seq 1 (o.map iD)] H fun d H' => d = .seq 1 [] ∧ H = H' := by
  refine Does.frz (K := fun d => d = .seq 1 []) ?_
  have hol : (List.map iD o).length = o.length := List.length_map _
  refine does_of _ _ Try.func40 rfl rfl Try.ntmps40 Try.results40 (by simp only [List.length_cons, List.length_nil]; omega) fun w0 Q hret => ?_
  (have fs := @i64.eq_1; (repeat (first | refine hGx _ ?_ | refine hNx _ ?_ | refine W_skip ?_ | refine W_exit ?_ | refine W_ret ?_ | refine W_label ?_ | refine W_scope ?_ | refine W_block ?_ | refine W_seq ?_ | ((first | refine tT fun N hNx => ?_ | refine WL_gO rfl rfl (by kernel_rfl) (by kernel_rfl) fun G hGx => ?_ | refine vcOpsT_sound (by kernel_rfl) ?_ | refine W_ifE fun A B hAx hBx => ?_); refine evT ?_; (first | refine hGx _ ?_ | refine hNx _ ?_ | refine hAx ?_ | refine hBx ?_ | skip)))); (try clear fs))
  intro bm hbm
  (have fs := And.intro @i64.eq_1 hol; (repeat (first | refine hGx _ ?_ | refine hNx _ ?_ | refine W_skip ?_ | refine W_exit ?_ | refine W_ret ?_ | refine W_label ?_ | refine W_scope ?_ | refine W_block ?_ | refine W_seq ?_ | ((first | refine tS fun N hNx => ?_ | refine WL_gE rfl rfl (by kernel_rfl) (by kernel_rfl) fun G hGx => ?_ | refine vcOpsS_sound (by kernel_rfl) ?_ | refine W_ifE fun A B hAx hBx => ?_); refine evT ?_; (first | refine hGx _ ?_ | refine hNx _ ?_ | refine hAx ?_ | refine hBx ?_ | skip)))); (try clear fs))
  refine W_loopN o.length (fun i s => s.df = [] ∧ s.fr 0 = .val (.pointer none) ∧ s.fr 6 = .val (.slice none 0 0) ∧ s.fr 13 = .seq 1 (o.map iD) ∧ s.fr 14 = i64 o.length ∧ s.fr 15 = i64 i ∧ H.le s.H) ⟨rfl, rfl, rfl, rfl, rfl, rfl, Heap.le_put (Heap.le_refl _) hbm⟩ ?_
  rintro i s hi ⟨hdf, f0, f6, f13, f14, f15, hle⟩
  have hx : (i : Int).toNat = i := Int.toNat_natCast _
  have h00 : (0 : Int) ≤ (i : Int) := Int.natCast_nonneg _
  by_cases hil : i < o.length
  case pos =>
    have q1 : ((i : Int) < (o.length : Int)) = True := eq_true (by omega)
    have hgi := get_ints hil
    have w3 : IntKind.i64.wrap ((i : Int) + 1) = ((i + 1 : Nat) : Int) := by rw [wrap_i64_of (by omega)]; omega
    obtain ⟨x, hxe⟩ : ∃ x, x = o[i] := ⟨_, rfl⟩
    rw [← hxe] at hgi
    (have fs := And.intro f0 (And.intro f13 (And.intro f14 (And.intro f15 (And.intro @i64.eq_1 (And.intro q1 (And.intro hgi (And.intro hx (And.intro h00 (And.intro hil hol))))))))); (repeat (first | refine hGx _ ?_ | refine hNx _ ?_ | refine W_skip ?_ | refine W_exit ?_ | refine W_ret ?_ | refine W_label ?_ | refine W_scope ?_ | refine W_block ?_ | refine W_seq ?_ | ((first | refine tS fun N hNx => ?_ | refine WL_gE rfl rfl (by kernel_rfl) (by kernel_rfl) fun G hGx => ?_ | refine vcOpsS_sound (by kernel_rfl) ?_ | refine W_ifE fun A B hAx hBx => ?_); refine evT ?_; (first | refine hGx _ ?_ | refine hNx _ ?_ | refine hAx ?_ | refine hBx ?_ | skip)))); (try clear fs))
    refine (has0_N x _).mono ?_
    rintro d _ ⟨rfl, rfl⟩
    (have fs := And.intro f15 (And.intro @i64.eq_1 w3); (repeat (first | refine hGx _ ?_ | refine hNx _ ?_ | refine W_skip ?_ | refine W_exit ?_ | refine W_ret ?_ | refine W_label ?_ | refine W_scope ?_ | refine W_block ?_ | refine W_seq ?_ | ((first | refine tS fun N hNx => ?_ | refine WL_gE rfl rfl (by kernel_rfl) (by kernel_rfl) fun G hGx => ?_ | refine vcOpsS_sound (by kernel_rfl) ?_ | refine W_ifE fun A B hAx hBx => ?_); refine evT ?_; (first | refine hGx _ ?_ | refine hNx _ ?_ | refine hAx ?_ | refine hBx ?_ | skip)))); (try clear fs))
    exact ⟨hil, hdf, f0, f6, f13, f14, rfl, hle⟩
  have q1 : ((i : Int) < (o.length : Int)) = False := eq_false (by omega)
  (have fs := And.intro f0 (And.intro f14 (And.intro f15 (And.intro @i64.eq_1 q1))); (repeat (first | refine hGx _ ?_ | refine hNx _ ?_ | refine W_skip ?_ | refine W_exit ?_ | refine W_ret ?_ | refine W_label ?_ | refine W_scope ?_ | refine W_block ?_ | refine W_seq ?_ | ((first | refine tS fun N hNx => ?_ | refine WL_gE rfl rfl (by kernel_rfl) (by kernel_rfl) fun G hGx => ?_ | refine vcOpsS_sound (by kernel_rfl) ?_ | refine W_ifE fun A B hAx hBx => ?_); refine evT ?_; (first | refine hGx _ ?_ | refine hNx _ ?_ | refine hAx ?_ | refine hBx ?_ | skip)))); (try clear fs))
  refine W_loopN 1 (fun i s => s.df = [] ∧ s.fr 6 = .val (.slice none 0 0) ∧ s.fr 9 = i64 0 ∧ H.le s.H) ⟨hdf, f6, rfl, hle⟩ ?_
  rintro i s hi ⟨hdf, f6, f9, hle⟩
  (have fs := And.intro f6 (And.intro f9 @i64.eq_1); (repeat (first | refine hGx _ ?_ | refine hNx _ ?_ | refine W_skip ?_ | refine W_exit ?_ | refine W_ret ?_ | refine W_label ?_ | refine W_scope ?_ | refine W_block ?_ | refine W_seq ?_ | ((first | refine tS fun N hNx => ?_ | refine WL_gE rfl rfl (by kernel_rfl) (by kernel_rfl) fun G hGx => ?_ | refine vcOpsS_sound (by kernel_rfl) ?_ | refine W_ifE fun A B hAx hBx => ?_); refine evT ?_; (first | refine hGx _ ?_ | refine hNx _ ?_ | refine hAx ?_ | refine hBx ?_ | skip)))); (try clear fs))
  refine (sort_nil _).mono ?_
  rintro d _ ⟨rfl, rfl⟩
  (have fs := And.intro f6 @i64.eq_1; (repeat (first | refine hGx _ ?_ | refine hNx _ ?_ | refine W_skip ?_ | refine W_exit ?_ | refine W_ret ?_ | refine W_label ?_ | refine W_scope ?_ | refine W_block ?_ | refine W_seq ?_ | ((first | refine tS fun N hNx => ?_ | refine WL_gE rfl rfl (by kernel_rfl) (by kernel_rfl) fun G hGx => ?_ | refine vcOpsS_sound (by kernel_rfl) ?_ | refine W_ifE fun A B hAx hBx => ?_); refine evT ?_; (first | refine hGx _ ?_ | refine hNx _ ?_ | refine hAx ?_ | refine hBx ?_ | skip)))); (try clear fs))
  (first | (show Q .ret _) | (show Q .normal _) | skip); refine hret _ _ (by first | exact .inr rfl | exact .inl rfl) (by first | rfl | assumption | (simp only [put_df, withH_df]; assumption)) ?_; have fs := hdf; refine evT ?_; clear fs
  exact ⟨_, Heap.le_refl _, hle, _, frz_nil, rfl⟩
theorem chk_same (a b : Int) : checkR [(a, a)] b ≠ 0 := by
  unfold checkR
  rw [if_neg (by simp)]
  unfold chkF
  split
  · simp
  · simp
set_option maxHeartbeats 1000000 in
theorem rnil_N (a b : Int) (ts : List TyS) : Does Try.prog 16 [i64 a, i64 b, .seq 5 (ts.map tyD)] .none fun d _ => d = .val (.bool true) := by
  refine does_of _ _ Try.func16 rfl rfl Try.ntmps16 Try.results16 (by simp only [List.length_cons, List.length_nil]; omega) fun w0 Q hret => ?_
  (have fs := @i64.eq_1; (repeat (first | refine hGx _ ?_ | refine hNx _ ?_ | refine W_skip ?_ | refine W_exit ?_ | refine W_ret ?_ | refine W_label ?_ | refine W_scope ?_ | refine W_block ?_ | refine W_seq ?_ | ((first | refine tS fun N hNx => ?_ | refine WL_gE rfl rfl (by kernel_rfl) (by kernel_rfl) fun G hGx => ?_ | refine vcOpsS_sound (by kernel_rfl) ?_ | refine W_ifE fun A B hAx hBx => ?_); refine evT ?_; (first | refine hGx _ ?_ | refine hNx _ ?_ | refine hAx ?_ | refine hBx ?_ | skip)))); (try clear fs))
  refine (newE_N [(a, a)] b _ (by simp) (chk_same a b)).mono ?_
  rintro d _ ⟨rfl, rfl⟩
  have q : ((checkR [(a, a)] b : Int) = 0) = False := eq_false (by have := chk_same a b; omega)
  (have fs := @i64.eq_1; (repeat (first | refine hGx _ ?_ | refine hNx _ ?_ | refine W_skip ?_ | refine W_exit ?_ | refine W_ret ?_ | refine W_label ?_ | refine W_scope ?_ | refine W_block ?_ | refine W_seq ?_ | ((first | refine tS fun N hNx => ?_ | refine WL_gE rfl rfl (by kernel_rfl) (by kernel_rfl) fun G hGx => ?_ | refine vcOpsS_sound (by kernel_rfl) ?_ | refine W_ifE fun A B hAx hBx => ?_); refine evT ?_; (first | refine hGx _ ?_ | refine hNx _ ?_ | refine hAx ?_ | refine hBx ?_ | skip)))); (try clear fs))
  refine (alive7_at _).mono ?_; rintro d _ ⟨rfl, rfl⟩
  (have fs := @i64.eq_1; (repeat (first | refine hGx _ ?_ | refine hNx _ ?_ | refine W_skip ?_ | refine W_exit ?_ | refine W_ret ?_ | refine W_label ?_ | refine W_scope ?_ | refine W_block ?_ | refine W_seq ?_ | ((first | refine tS fun N hNx => ?_ | refine WL_gE rfl rfl (by kernel_rfl) (by kernel_rfl) fun G hGx => ?_ | refine vcOpsS_sound (by kernel_rfl) ?_ | refine W_ifE fun A B hAx hBx => ?_); refine evT ?_; (first | refine hGx _ ?_ | refine hNx _ ?_ | refine hAx ?_ | refine hBx ?_ | skip)))); (try clear fs))
  refine (out0_N a b _).mono ?_
  rintro d _ ⟨rfl, rfl⟩
  (have fs := @i64.eq_1; (repeat (first | refine hGx _ ?_ | refine hNx _ ?_ | refine W_skip ?_ | refine W_exit ?_ | refine W_ret ?_ | refine W_label ?_ | refine W_scope ?_ | refine W_block ?_ | refine W_seq ?_ | ((first | refine tS fun N hNx => ?_ | refine WL_gE rfl rfl (by kernel_rfl) (by kernel_rfl) fun G hGx => ?_ | refine vcOpsS_sound (by kernel_rfl) ?_ | refine W_ifE fun A B hAx hBx => ?_); refine evT ?_; (first | refine hGx _ ?_ | refine hNx _ ?_ | refine hAx ?_ | refine hBx ?_ | skip)))); (try clear fs))
  refine (clos0_N [a, b] _ (by simp)).mono ?_
  rintro d _ ⟨rfl, rfl⟩
  (have fs := @i64.eq_1; (repeat (first | refine hGx _ ?_ | refine hNx _ ?_ | refine W_skip ?_ | refine W_exit ?_ | refine W_ret ?_ | refine W_label ?_ | refine W_scope ?_ | refine W_block ?_ | refine W_seq ?_ | ((first | refine tS fun N hNx => ?_ | refine WL_gE rfl rfl (by kernel_rfl) (by kernel_rfl) fun G hGx => ?_ | refine vcOpsS_sound (by kernel_rfl) ?_ | refine W_ifE fun A B hAx hBx => ?_); refine evT ?_; (first | refine hGx _ ?_ | refine hNx _ ?_ | refine hAx ?_ | refine hBx ?_ | skip)))); (try clear fs))
  refine (sub0_N ts a b _).mono ?_
  rintro d _ ⟨rfl, rfl⟩
  (have fs := And.intro @i64.eq_1 q; (repeat (first | refine hGx _ ?_ | refine hNx _ ?_ | refine W_skip ?_ | refine W_exit ?_ | refine W_ret ?_ | refine W_label ?_ | refine W_scope ?_ | refine W_block ?_ | refine W_seq ?_ | ((first | refine tS fun N hNx => ?_ | refine WL_gE rfl rfl (by kernel_rfl) (by kernel_rfl) fun G hGx => ?_ | refine vcOpsS_sound (by kernel_rfl) ?_ | refine W_ifE fun A B hAx hBx => ?_); refine evT ?_; (first | refine hGx _ ?_ | refine hNx _ ?_ | refine hAx ?_ | refine hBx ?_ | skip)))); (try clear fs))
  (first | (show Q .ret _) | (show Q .normal _) | skip); refine hret _ _ (by first | exact .inr rfl | exact .inl rfl) (by first | rfl | assumption | (simp only [put_df, withH_df]; assumption)) ?_; have fs := @i64.eq_1; refine evT ?_; clear fs
  exact ⟨_, Heap.le_refl _⟩
set_option maxHeartbeats 1000000 in
theorem rpre_N (l : List (Int × Int)) (n : Int) (c1 c2 c3 : UInt8) (hl : l.length ≤ 140737488351232) : Does Try.prog 12 [.seq 2 (l.map pD), i64 n, .agg [.val (.int .u8 c1.toNat), .val (.int .u8 c2.toNat), .val (.int .u8 c3.toNat)]] .none fun d _ => d = .val (.bool true) := by
  have hll : (List.map pD l).length = l.length := List.length_map _
  refine does_of _ _ Try.func12 rfl rfl Try.ntmps12 Try.results12 (by simp only [List.length_cons, List.length_nil]; omega) fun w0 Q hret => ?_
  (have fs := @i64.eq_1; (repeat (first | refine hGx _ ?_ | refine hNx _ ?_ | refine W_skip ?_ | refine W_exit ?_ | refine W_ret ?_ | refine W_label ?_ | refine W_scope ?_ | refine W_block ?_ | refine W_seq ?_ | ((first | refine tS fun N hNx => ?_ | refine WL_gE rfl rfl (by kernel_rfl) (by kernel_rfl) fun G hGx => ?_ | refine vcOpsS_sound (by kernel_rfl) ?_ | refine W_ifE fun A B hAx hBx => ?_); refine evT ?_; (first | refine hGx _ ?_ | refine hNx _ ?_ | refine hAx ?_ | refine hBx ?_ | skip)))); (try clear fs))
  intro b5 hb5
  refine hNx _ ?_
  refine W_frzp 5 rfl (Heap.upd_same _ _ _) rfl ?_; simp only [St.frzp, put_H, wdf_H, withH_H, withH_put, wdf_withH, withH_withH, init_H, init_withH, Heap.del_upd_same, Heap.del_none hb5, withH_self]
  (have fs := @i64.eq_1; (repeat (first | refine hGx _ ?_ | refine hNx _ ?_ | refine W_skip ?_ | refine W_exit ?_ | refine W_ret ?_ | refine W_label ?_ | refine W_scope ?_ | refine W_block ?_ | refine W_seq ?_ | ((first | refine tS fun N hNx => ?_ | refine WL_gE rfl rfl (by kernel_rfl) (by kernel_rfl) fun G hGx => ?_ | refine vcOpsS_sound (by kernel_rfl) ?_ | refine W_ifE fun A B hAx hBx => ?_); refine evT ?_; (first | refine hGx _ ?_ | refine hNx _ ?_ | refine hAx ?_ | refine hBx ?_ | skip)))); (try clear fs))
  refine (large7_N l n _).mono ?_
  rintro d _ ⟨rfl, rfl⟩
  by_cases h1 : 40 < l.length ∨ 40 < n
  · rw [decide_eq_true h1]
    (have fs := @i64.eq_1; (repeat (first | refine hGx _ ?_ | refine hNx _ ?_ | refine W_skip ?_ | refine W_exit ?_ | refine W_ret ?_ | refine W_label ?_ | refine W_scope ?_ | refine W_block ?_ | refine W_seq ?_ | ((first | refine tS fun N hNx => ?_ | refine WL_gE rfl rfl (by kernel_rfl) (by kernel_rfl) fun G hGx => ?_ | refine vcOpsS_sound (by kernel_rfl) ?_ | refine W_ifE fun A B hAx hBx => ?_); refine evT ?_; (first | refine hGx _ ?_ | refine hNx _ ?_ | refine hAx ?_ | refine hBx ?_ | skip)))); (try clear fs))
    refine (alive7_at _).mono ?_; rintro d _ ⟨rfl, rfl⟩
    (have fs := @i64.eq_1; (repeat (first | refine hGx _ ?_ | refine hNx _ ?_ | refine W_skip ?_ | refine W_exit ?_ | refine W_ret ?_ | refine W_label ?_ | refine W_scope ?_ | refine W_block ?_ | refine W_seq ?_ | ((first | refine tS fun N hNx => ?_ | refine WL_gE rfl rfl (by kernel_rfl) (by kernel_rfl) fun G hGx => ?_ | refine vcOpsS_sound (by kernel_rfl) ?_ | refine W_ifE fun A B hAx hBx => ?_); refine evT ?_; (first | refine hGx _ ?_ | refine hNx _ ?_ | refine hAx ?_ | refine hBx ?_ | skip)))); (try clear fs))
    (first | (show Q .ret _) | (show Q .normal _) | skip); refine hret _ _ (by first | exact .inr rfl | exact .inl rfl) (by first | rfl | assumption | (simp only [put_df, withH_df]; assumption)) ?_; have fs := @i64.eq_1; refine evT ?_; clear fs
    exact ⟨_, Heap.le_refl _⟩
  rw [decide_eq_false h1]
  by_cases h2 : n < 1
  · have q2 : (n < 1) = True := eq_true h2
    (have fs := And.intro @i64.eq_1 q2; (repeat (first | refine hGx _ ?_ | refine hNx _ ?_ | refine W_skip ?_ | refine W_exit ?_ | refine W_ret ?_ | refine W_label ?_ | refine W_scope ?_ | refine W_block ?_ | refine W_seq ?_ | ((first | refine tS fun N hNx => ?_ | refine WL_gE rfl rfl (by kernel_rfl) (by kernel_rfl) fun G hGx => ?_ | refine vcOpsS_sound (by kernel_rfl) ?_ | refine W_ifE fun A B hAx hBx => ?_); refine evT ?_; (first | refine hGx _ ?_ | refine hNx _ ?_ | refine hAx ?_ | refine hBx ?_ | skip)))); (try clear fs))
    refine (alive7_at _).mono ?_; rintro d _ ⟨rfl, rfl⟩
    (have fs := @i64.eq_1; (repeat (first | refine hGx _ ?_ | refine hNx _ ?_ | refine W_skip ?_ | refine W_exit ?_ | refine W_ret ?_ | refine W_label ?_ | refine W_scope ?_ | refine W_block ?_ | refine W_seq ?_ | ((first | refine tS fun N hNx => ?_ | refine WL_gE rfl rfl (by kernel_rfl) (by kernel_rfl) fun G hGx => ?_ | refine vcOpsS_sound (by kernel_rfl) ?_ | refine W_ifE fun A B hAx hBx => ?_); refine evT ?_; (first | refine hGx _ ?_ | refine hNx _ ?_ | refine hAx ?_ | refine hBx ?_ | skip)))); (try clear fs))
    (first | (show Q .ret _) | (show Q .normal _) | skip); refine hret _ _ (by first | exact .inr rfl | exact .inl rfl) (by first | rfl | assumption | (simp only [put_df, withH_df]; assumption)) ?_; have fs := @i64.eq_1; refine evT ?_; clear fs
    exact ⟨_, Heap.le_refl _⟩
  have q2 : (n < 1) = False := eq_false h2
  (have fs := And.intro @i64.eq_1 q2; (repeat (first | refine hGx _ ?_ | refine hNx _ ?_ | refine W_skip ?_ | refine W_exit ?_ | refine W_ret ?_ | refine W_label ?_ | refine W_scope ?_ | refine W_block ?_ | refine W_seq ?_ | ((first | refine tS fun N hNx => ?_ | refine WL_gE rfl rfl (by kernel_rfl) (by kernel_rfl) fun G hGx => ?_ | refine vcOpsS_sound (by kernel_rfl) ?_ | refine W_ifE fun A B hAx hBx => ?_); refine evT ?_; (first | refine hGx _ ?_ | refine hNx _ ?_ | refine hAx ?_ | refine hBx ?_ | skip)))); (try clear fs))
  refine (kcheck_N l n _ hl).mono ?_
  rintro d _ ⟨rfl, rfl⟩
  by_cases hc : checkR l n = 0
  case neg =>
    have q : ((checkR l n : Int) = 0) = False := eq_false (by omega)
    (have fs := And.intro @i64.eq_1 q; (repeat (first | refine hGx _ ?_ | refine hNx _ ?_ | refine W_skip ?_ | refine W_exit ?_ | refine W_ret ?_ | refine W_label ?_ | refine W_scope ?_ | refine W_block ?_ | refine W_seq ?_ | ((first | refine tS fun N hNx => ?_ | refine WL_gE rfl rfl (by kernel_rfl) (by kernel_rfl) fun G hGx => ?_ | refine vcOpsS_sound (by kernel_rfl) ?_ | refine W_ifE fun A B hAx hBx => ?_); refine evT ?_; (first | refine hGx _ ?_ | refine hNx _ ?_ | refine hAx ?_ | refine hBx ?_ | skip)))); (try clear fs))
    refine (alive7_at _).mono ?_; rintro d _ ⟨rfl, rfl⟩
    (have fs := @i64.eq_1; (repeat (first | refine hGx _ ?_ | refine hNx _ ?_ | refine W_skip ?_ | refine W_exit ?_ | refine W_ret ?_ | refine W_label ?_ | refine W_scope ?_ | refine W_block ?_ | refine W_seq ?_ | ((first | refine tS fun N hNx => ?_ | refine WL_gE rfl rfl (by kernel_rfl) (by kernel_rfl) fun G hGx => ?_ | refine vcOpsS_sound (by kernel_rfl) ?_ | refine W_ifE fun A B hAx hBx => ?_); refine evT ?_; (first | refine hGx _ ?_ | refine hNx _ ?_ | refine hAx ?_ | refine hBx ?_ | skip)))); (try clear fs))
    (first | (show Q .ret _) | (show Q .normal _) | skip); refine hret _ _ (by first | exact .inr rfl | exact .inl rfl) (by first | rfl | assumption | (simp only [put_df, withH_df]; assumption)) ?_; have fs := @i64.eq_1; refine evT ?_; clear fs
    exact ⟨_, Heap.le_refl _⟩
  rw [hc]
  (have fs := @i64.eq_1; (repeat (first | refine hGx _ ?_ | refine hNx _ ?_ | refine W_skip ?_ | refine W_exit ?_ | refine W_ret ?_ | refine W_label ?_ | refine W_scope ?_ | refine W_block ?_ | refine W_seq ?_ | ((first | refine tS fun N hNx => ?_ | refine WL_gE rfl rfl (by kernel_rfl) (by kernel_rfl) fun G hGx => ?_ | refine vcOpsS_sound (by kernel_rfl) ?_ | refine W_ifE fun A B hAx hBx => ?_); refine evT ?_; (first | refine hGx _ ?_ | refine hNx _ ?_ | refine hAx ?_ | refine hBx ?_ | skip)))); (try clear fs))
  refine (new_N l n _ (by omega) hc).mono ?_
  rintro d H1 ⟨b1, b2, m1, m2, rfl, hb1, hb2, hne, hH1, hR, hle1⟩
  have hin := (checkR_in hc).2
  (have fs := And.intro @i64.eq_1 hll; (repeat (first | refine hGx _ ?_ | refine hNx _ ?_ | refine W_skip ?_ | refine W_exit ?_ | refine W_ret ?_ | refine W_label ?_ | refine W_scope ?_ | refine W_block ?_ | refine W_seq ?_ | ((first | refine tS fun N hNx => ?_ | refine WL_gE rfl rfl (by kernel_rfl) (by kernel_rfl) fun G hGx => ?_ | refine vcOpsS_sound (by kernel_rfl) ?_ | refine W_ifE fun A B hAx hBx => ?_); refine evT ?_; (first | refine hGx _ ?_ | refine hNx _ ?_ | refine hAx ?_ | refine hBx ?_ | skip)))); (try clear fs))
  refine W_loopN l.length (fun i s => s.df = [] ∧ s.fr 1 = i64 n ∧ s.fr 7 = relD n b1 b2 ∧ s.fr 5 = .rp [.val (.int .u8 c1.toNat), .val (.int .u8 c2.toNat), .val (.int .u8 c3.toNat)] ∧ s.fr 36 = .seq 2 (l.map pD) ∧ s.fr 37 = i64 l.length ∧ s.fr 38 = i64 i ∧ s.H = H1) ⟨rfl, rfl, rfl, rfl, rfl, rfl, rfl, rfl⟩ ?_
  rintro i s hi ⟨hdf, f1, f7, f5, f36, f37, f38, hH⟩
  have hx : (i : Int).toNat = i := Int.toNat_natCast _
  have h00 : (0 : Int) ≤ (i : Int) := Int.natCast_nonneg _
  by_cases hil : i < l.length
  case pos =>
    have q1 : ((i : Int) < (l.length : Int)) = True := eq_true (by omega)
    have hgi := get_pairs hil
    have w3 : IntKind.i64.wrap ((i : Int) + 1) = ((i + 1 : Nat) : Int) := by rw [wrap_i64_of (by omega)]; omega
    have hm : l[i] ∈ l := List.getElem_mem hil
    obtain ⟨u, hu⟩ : ∃ u, u = l[i].1 := ⟨_, rfl⟩
    obtain ⟨v, hv⟩ : ∃ v, v = l[i].2 := ⟨_, rfl⟩
    have hR2 := hin _ hm
    have huv : outlB l n u v = true := outlB_t (by rw [hu, hv]; exact ⟨hR2.1, hR2.2, (Reach.refl _).step hm⟩)
    rw [← hu, ← hv] at hgi
    (have fs := And.intro f7 (And.intro f36 (And.intro f37 (And.intro f38 (And.intro @i64.eq_1 (And.intro q1 (And.intro hgi (And.intro hx (And.intro h00 (And.intro hil (And.intro hll hH)))))))))); (repeat (first | refine hGx _ ?_ | refine hNx _ ?_ | refine W_skip ?_ | refine W_exit ?_ | refine W_ret ?_ | refine W_label ?_ | refine W_scope ?_ | refine W_block ?_ | refine W_seq ?_ | ((first | refine tS fun N hNx => ?_ | refine WL_gE rfl rfl (by kernel_rfl) (by kernel_rfl) fun G hGx => ?_ | refine vcOpsS_sound (by kernel_rfl) ?_ | refine W_ifE fun A B hAx hBx => ?_); refine evT ?_; (first | refine hGx _ ?_ | refine hNx _ ?_ | refine hAx ?_ | refine hBx ?_ | skip)))); (try clear fs))
    intro b10 hb10
    refine hNx _ ?_
    refine W_frzp 10 rfl (Heap.upd_same _ _ _) rfl ?_; simp only [St.frzp, put_H, wdf_H, withH_H, withH_put, wdf_withH, withH_withH, init_H, init_withH, Heap.del_upd_same, Heap.del_none hb10, withH_self]
    (have fs := And.intro f7 (And.intro @i64.eq_1 @relD.eq_1); (repeat (first | refine hGx _ ?_ | refine hNx _ ?_ | refine W_skip ?_ | refine W_exit ?_ | refine W_ret ?_ | refine W_label ?_ | refine W_scope ?_ | refine W_block ?_ | refine W_seq ?_ | ((first | refine tS fun N hNx => ?_ | refine WL_gE rfl rfl (by kernel_rfl) (by kernel_rfl) fun G hGx => ?_ | refine vcOpsS_sound (by kernel_rfl) ?_ | refine W_ifE fun A B hAx hBx => ?_); refine evT ?_; (first | refine hGx _ ?_ | refine hNx _ ?_ | refine hAx ?_ | refine hBx ?_ | skip)))); (try clear fs))
    refine (outl_N l n u v b1 b2 _ hR hin (by omega) (by omega)).mono ?_
    rintro d _ ⟨rfl, rfl⟩
    rw [huv]
    (have fs := And.intro f38 (And.intro @i64.eq_1 w3); (repeat (first | refine hGx _ ?_ | refine hNx _ ?_ | refine W_skip ?_ | refine W_exit ?_ | refine W_ret ?_ | refine W_label ?_ | refine W_scope ?_ | refine W_block ?_ | refine W_seq ?_ | ((first | refine tS fun N hNx => ?_ | refine WL_gE rfl rfl (by kernel_rfl) (by kernel_rfl) fun G hGx => ?_ | refine vcOpsS_sound (by kernel_rfl) ?_ | refine W_ifE fun A B hAx hBx => ?_); refine evT ?_; (first | refine hGx _ ?_ | refine hNx _ ?_ | refine hAx ?_ | refine hBx ?_ | skip)))); (try clear fs))
    exact ⟨hil, hdf, f1, f7, f5, f36, f37, rfl, rfl⟩
  have q1 : ((i : Int) < (l.length : Int)) = False := eq_false (by omega)
  (have fs := And.intro f5 (And.intro f37 (And.intro f38 (And.intro @i64.eq_1 q1))); (repeat (first | refine hGx _ ?_ | refine hNx _ ?_ | refine W_skip ?_ | refine W_exit ?_ | refine W_ret ?_ | refine W_label ?_ | refine W_scope ?_ | refine W_block ?_ | refine W_seq ?_ | ((first | refine tS fun N hNx => ?_ | refine WL_gE rfl rfl (by kernel_rfl) (by kernel_rfl) fun G hGx => ?_ | refine vcOpsS_sound (by kernel_rfl) ?_ | refine W_ifE fun A B hAx hBx => ?_); refine evT ?_; (first | refine hGx _ ?_ | refine hNx _ ?_ | refine hAx ?_ | refine hBx ?_ | skip)))); (try clear fs))
  have n0 : (n = 0) = False := eq_false (by omega)
  have wa : IntKind.i64.wrap (c1.toNat : Int) = c1.toNat := wrap_i64_of (by have := c1.toNat_lt; omega)
  have wb : IntKind.i64.wrap (c2.toNat : Int) = c2.toNat := wrap_i64_of (by have := c2.toNat_lt; omega)
  have wc : IntKind.i64.wrap (c3.toNat : Int) = c3.toNat := wrap_i64_of (by have := c3.toNat_lt; omega)
  obtain ⟨a, ha⟩ : ∃ a, (c1.toNat : Int).tmod n = a := ⟨_, rfl⟩
  obtain ⟨b, hb⟩ : ∃ b, (c2.toNat : Int).tmod n = b := ⟨_, rfl⟩
  obtain ⟨c, hc⟩ : ∃ c, (c3.toNat : Int).tmod n = c := ⟨_, rfl⟩
  have haR : InR n a := ha ▸ tmod_in _ (by omega)
  have hbR : InR n b := hb ▸ tmod_in _ (by omega)
  have hcR : InR n c := hc ▸ tmod_in _ (by omega)
  refine W_drawE (fun _ _ _ _ => False) (by kernel_rfl) (by kernel_rfl) (by kernel_rfl) fun N hNx => ?_; (have fs := And.intro f1 (And.intro f5 (And.intro @i64.eq_1 (And.intro n0 (And.intro wa (And.intro wb (And.intro wc (And.intro ha (And.intro hb hc)))))))); (repeat ((first | refine vcD_g rfl rfl fun G hGx => ?_ | refine vcDS_to ?_); refine evD ?_; (first | refine hGx _ ?_ | refine hNx _ ?_ | skip))); (try clear fs))
  (have fs := @i64.eq_1; (repeat (first | refine hGx _ ?_ | refine hNx _ ?_ | refine W_skip ?_ | refine W_exit ?_ | refine W_ret ?_ | refine W_label ?_ | refine W_scope ?_ | refine W_block ?_ | refine W_seq ?_ | ((first | refine tS fun N hNx => ?_ | refine WL_gE rfl rfl (by kernel_rfl) (by kernel_rfl) fun G hGx => ?_ | refine vcOpsS_sound (by kernel_rfl) ?_ | refine W_ifE fun A B hAx hBx => ?_); refine evT ?_; (first | refine hGx _ ?_ | refine hNx _ ?_ | refine hAx ?_ | refine hBx ?_ | skip)))); (try clear fs))
  refine (alive7_at _).mono ?_; rintro d _ ⟨rfl, rfl⟩
  have hR' : RelH l b1 b2 s.H := by rw [hH]; exact hR
  (have fs := And.intro f7 @i64.eq_1; (repeat (first | refine hGx _ ?_ | refine hNx _ ?_ | refine W_skip ?_ | refine W_exit ?_ | refine W_ret ?_ | refine W_label ?_ | refine W_scope ?_ | refine W_block ?_ | refine W_seq ?_ | ((first | refine tS fun N hNx => ?_ | refine WL_gE rfl rfl (by kernel_rfl) (by kernel_rfl) fun G hGx => ?_ | refine vcOpsS_sound (by kernel_rfl) ?_ | refine W_ifE fun A B hAx hBx => ?_); refine evT ?_; (first | refine hGx _ ?_ | refine hNx _ ?_ | refine hAx ?_ | refine hBx ?_ | skip)))); (try clear fs))
  refine (outl_N l n a a b1 b2 _ hR' hin (by omega) (by omega)).mono ?_
  rintro d _ ⟨rfl, rfl⟩
  rw [outlB_t ⟨haR, haR, .refl a⟩]
  (have fs := And.intro f7 @i64.eq_1; (repeat (first | refine hGx _ ?_ | refine hNx _ ?_ | refine W_skip ?_ | refine W_exit ?_ | refine W_ret ?_ | refine W_label ?_ | refine W_scope ?_ | refine W_block ?_ | refine W_seq ?_ | ((first | refine tS fun N hNx => ?_ | refine WL_gE rfl rfl (by kernel_rfl) (by kernel_rfl) fun G hGx => ?_ | refine vcOpsS_sound (by kernel_rfl) ?_ | refine W_ifE fun A B hAx hBx => ?_); refine evT ?_; (first | refine hGx _ ?_ | refine hNx _ ?_ | refine hAx ?_ | refine hBx ?_ | skip)))); (try clear fs))
  refine (outl_N l n a b b1 b2 _ hR' hin (by omega) (by omega)).mono ?_
  rintro d _ ⟨rfl, rfl⟩
  by_cases g1 : Reach l a b
  case neg =>
    rw [outlB_f fun h => g1 h.2.2]
    (have fs := And.intro f7 @i64.eq_1; (repeat (first | refine hGx _ ?_ | refine hNx _ ?_ | refine W_skip ?_ | refine W_exit ?_ | refine W_ret ?_ | refine W_label ?_ | refine W_scope ?_ | refine W_block ?_ | refine W_seq ?_ | ((first | refine tS fun N hNx => ?_ | refine WL_gE rfl rfl (by kernel_rfl) (by kernel_rfl) fun G hGx => ?_ | refine vcOpsS_sound (by kernel_rfl) ?_ | refine W_ifE fun A B hAx hBx => ?_); refine evT ?_; (first | refine hGx _ ?_ | refine hNx _ ?_ | refine hAx ?_ | refine hBx ?_ | skip)))); (try clear fs))
    (first | (show Q .ret _) | (show Q .normal _) | skip); refine hret _ _ (by first | exact .inr rfl | exact .inl rfl) (by first | rfl | assumption | (simp only [put_df, withH_df]; assumption)) ?_; have fs := hdf; refine evT ?_; clear fs
    exact ⟨_, Heap.le_refl _⟩
  rw [outlB_t ⟨haR, hbR, g1⟩]
  (have fs := And.intro f7 @i64.eq_1; (repeat (first | refine hGx _ ?_ | refine hNx _ ?_ | refine W_skip ?_ | refine W_exit ?_ | refine W_ret ?_ | refine W_label ?_ | refine W_scope ?_ | refine W_block ?_ | refine W_seq ?_ | ((first | refine tS fun N hNx => ?_ | refine WL_gE rfl rfl (by kernel_rfl) (by kernel_rfl) fun G hGx => ?_ | refine vcOpsS_sound (by kernel_rfl) ?_ | refine W_ifE fun A B hAx hBx => ?_); refine evT ?_; (first | refine hGx _ ?_ | refine hNx _ ?_ | refine hAx ?_ | refine hBx ?_ | skip)))); (try clear fs))
  refine (outl_N l n b c b1 b2 _ hR' hin (by omega) (by omega)).mono ?_
  rintro d _ ⟨rfl, rfl⟩
  by_cases g2 : Reach l b c
  case neg =>
    rw [outlB_f fun h => g2 h.2.2]
    (have fs := And.intro f7 @i64.eq_1; (repeat (first | refine hGx _ ?_ | refine hNx _ ?_ | refine W_skip ?_ | refine W_exit ?_ | refine W_ret ?_ | refine W_label ?_ | refine W_scope ?_ | refine W_block ?_ | refine W_seq ?_ | ((first | refine tS fun N hNx => ?_ | refine WL_gE rfl rfl (by kernel_rfl) (by kernel_rfl) fun G hGx => ?_ | refine vcOpsS_sound (by kernel_rfl) ?_ | refine W_ifE fun A B hAx hBx => ?_); refine evT ?_; (first | refine hGx _ ?_ | refine hNx _ ?_ | refine hAx ?_ | refine hBx ?_ | skip)))); (try clear fs))
    (first | (show Q .ret _) | (show Q .normal _) | skip); refine hret _ _ (by first | exact .inr rfl | exact .inl rfl) (by first | rfl | assumption | (simp only [put_df, withH_df]; assumption)) ?_; have fs := hdf; refine evT ?_; clear fs
    exact ⟨_, Heap.le_refl _⟩
  rw [outlB_t ⟨hbR, hcR, g2⟩]
  (have fs := And.intro f7 @i64.eq_1; (repeat (first | refine hGx _ ?_ | refine hNx _ ?_ | refine W_skip ?_ | refine W_exit ?_ | refine W_ret ?_ | refine W_label ?_ | refine W_scope ?_ | refine W_block ?_ | refine W_seq ?_ | ((first | refine tS fun N hNx => ?_ | refine WL_gE rfl rfl (by kernel_rfl) (by kernel_rfl) fun G hGx => ?_ | refine vcOpsS_sound (by kernel_rfl) ?_ | refine W_ifE fun A B hAx hBx => ?_); refine evT ?_; (first | refine hGx _ ?_ | refine hNx _ ?_ | refine hAx ?_ | refine hBx ?_ | skip)))); (try clear fs))
  refine (outl_N l n a c b1 b2 _ hR' hin (by omega) (by omega)).mono ?_
  rintro d _ ⟨rfl, rfl⟩
  rw [outlB_t ⟨haR, hcR, g1.trans g2⟩]
  (have fs := And.intro f7 @i64.eq_1; (repeat (first | refine hGx _ ?_ | refine hNx _ ?_ | refine W_skip ?_ | refine W_exit ?_ | refine W_ret ?_ | refine W_label ?_ | refine W_scope ?_ | refine W_block ?_ | refine W_seq ?_ | ((first | refine tS fun N hNx => ?_ | refine WL_gE rfl rfl (by kernel_rfl) (by kernel_rfl) fun G hGx => ?_ | refine vcOpsS_sound (by kernel_rfl) ?_ | refine W_ifE fun A B hAx hBx => ?_); refine evT ?_; (first | refine hGx _ ?_ | refine hNx _ ?_ | refine hAx ?_ | refine hBx ?_ | skip)))); (try clear fs))
  (first | (show Q .ret _) | (show Q .normal _) | skip); refine hret _ _ (by first | exact .inr rfl | exact .inl rfl) (by first | rfl | assumption | (simp only [put_df, withH_df]; assumption)) ?_; have fs := hdf; refine evT ?_; clear fs
  exact ⟨_, Heap.le_refl _⟩
theorem RegionsNil_walk (x0 : X) (v0 : Value) (x1 : X) (v1 : Value) (x2 : X) (v2 : Value) (w : World) (o0 : DT.ok (DT.int .i64) x0) (i0 : D.is w Heap.none.others x0.d v0) (o1 : DT.ok (DT.int .i64) x1) (i1 : D.is w Heap.none.others x1.d v1) (o2 : DT.ok (DT.slice 5 56 (DT.struct [DT.int .i64, DT.bool, DT.int .i64, DT.int .i64, DT.slice 1 8 (DT.int .i64)])) x2) (i2 : D.is w Heap.none.others x2.d v2) :
    Calls Try.prog 16 #[v0, v1, v2] w fun e w' => e = .returned (.bool true) ∧ Below w.heap.size w w' := by
  obtain ⟨a, rfl, ha⟩ := ok_i64 o0
  obtain ⟨b, rfl, hb⟩ := ok_i64 o1
  obtain ⟨ts, hx, hok, hl⟩ := ok_tys o2
  rw [hx] at i2
  exact walk_of (rnil_N a b ts) ⟨_, _, rfl, i0, _, _, rfl, i1, _, _, rfl, i2, rfl⟩
theorem RegionsIsPreorder_walk (x0 : X) (v0 : Value) (x1 : X) (v1 : Value) (x2 : X) (v2 : Value) (w : World) (o0 : DT.ok (DT.slice 2 16 (DT.array 2 (DT.int .i64))) x0) (i0 : D.is w Heap.none.others x0.d v0) (o1 : DT.ok (DT.int .i64) x1) (i1 : D.is w Heap.none.others x1.d v1) (o2 : DT.ok (DT.array 3 (DT.int .u8)) x2) (i2 : D.is w Heap.none.others x2.d v2) :
    Calls Try.prog 12 #[v0, v1, v2] w fun e w' => e = .returned (.bool true) ∧ Below w.heap.size w w' := by
  obtain ⟨l, hx, hok, hl⟩ := ok_pairs o0
  obtain ⟨n, rfl, hn⟩ := ok_i64 o1
  obtain ⟨c1, c2, c3, rfl⟩ := ok_u8s3 o2
  rw [hx] at i0
  exact walk_of (rpre_N l n c1 c2 c3 (by omega)) ⟨_, _, rfl, i0, _, _, rfl, i1, _, _, rfl, i2, rfl⟩
end Go.Proofs.Ytdggkophnlldoaa
/- Subtypes: a preorder, and like depths; in plain Lean. -/
namespace Go.Proofs.Ytdggkophnlldoaa
open Go.RowKit
set_option linter.unusedVariables false
set_option linter.unusedSimpArgs false
theorem subT_iff {l : List (Int × Int)} {n : Int} {ts : List TyS} (hw : wfT ts) {a b : Int} (ha : InR ts.length a) (hb : InR ts.length b) :
    subT l n ts a b = true ↔ (tyAt ts a).k = (tyAt ts b).k ∧ (tyAt ts a).m = (tyAt ts b).m ∧ (tyAt ts a).ar.length = (tyAt ts b).ar.length ∧
      ((tyAt ts a).k = 3 → outlB l n (tyAt ts a).r (tyAt ts b).r = true ∧ subT l n ts (tyAt ts a).e (tyAt ts b).e = true ∧ ((tyAt ts a).m = true → subT l n ts (tyAt ts b).e (tyAt ts a).e = true)) ∧
      ∀ j (h : j < (tyAt ts a).ar.length) (h' : j < (tyAt ts b).ar.length), subT l n ts (tyAt ts a).ar[j] (tyAt ts b).ar[j] = true := by
  rw [subT_eq hw ha hb]
  simp only [Bool.and_eq_true, decide_eq_true_eq]
  refine and_congr_right fun _ => and_congr_right fun _ => and_congr_right fun hlen => ?_
  refine and_congr ?_ ?_
  · by_cases h3 : (tyAt ts a).k = 3
    · rw [if_pos h3]
      simp only [Bool.and_eq_true, Bool.or_eq_true, Bool.not_eq_true']
      constructor
      · rintro ⟨h1, h2, h4⟩ _
        refine ⟨h1, h2, fun hm => ?_⟩
        rcases h4 with h4 | h4
        · rw [hm] at h4; cases h4
        · exact h4
      · intro h
        obtain ⟨h1, h2, h4⟩ := h h3
        refine ⟨h1, h2, ?_⟩
        cases hm : (tyAt ts a).m with
        | false => exact .inl rfl
        | true => exact .inr (h4 hm)
    · rw [if_neg h3]
      exact ⟨fun _ h => absurd h h3, fun _ => rfl⟩
  · rw [List.all_eq_true]
    constructor
    · intro h j h1 h2
      have h3 := h ((tyAt ts a).ar[j], (tyAt ts b).ar[j]) (by
        have hz : j < ((tyAt ts a).ar.zip (tyAt ts b).ar).length := by rw [List.length_zip]; omega
        have := List.getElem_mem hz
        rwa [List.getElem_zip] at this)
      exact h3
    · intro h p hp
      obtain ⟨j, hj, rfl⟩ := List.getElem_of_mem hp
      rw [List.length_zip] at hj
      rw [List.getElem_zip]
      exact h j (by omega) (by omega)
/-- The regions of references are regions. -/
def rrT (ts : List TyS) (n : Int) : Prop := ∀ t ∈ ts, t.k = 3 → InR n t.r
theorem tyAt_mem {ts : List TyS} {a : Int} (h : InR ts.length a) : tyAt ts a ∈ ts := by
  obtain ⟨h', he⟩ := tyAt_get h
  rw [he]; exact List.getElem_mem h'
theorem subT_refl {l : List (Int × Int)} {n : Int} {ts : List TyS} (hw : wfT ts) (hr : rrT ts n) : ∀ (k : Nat) (a : Int), a < k → InR ts.length a → subT l n ts a a = true
  | 0, a, hk, ha => by unfold InR at ha; omega
  | k + 1, a, hk, ha => by
    have wa := wfT_at hw ha
    rw [subT_iff hw ha ha]
    refine ⟨rfl, rfl, rfl, fun h3 => ?_, fun j h h' => ?_⟩
    · have he := wa.1 h3
      have hs := subT_refl (l := l) hw hr k _ (by omega) ⟨he.1, by unfold InR at ha; omega⟩
      exact ⟨outlB_t ⟨hr _ (tyAt_mem ha) h3, hr _ (tyAt_mem ha) h3, .refl _⟩, hs, fun _ => hs⟩
    · have hf := wa.2 _ (List.getElem_mem h)
      exact subT_refl hw hr k _ (by omega) ⟨hf.1, by unfold InR at ha; omega⟩
theorem outlB_p {l : List (Int × Int)} {n a b : Int} (h : outlB l n a b = true) : InR n a ∧ InR n b ∧ Reach l a b := Classical.byContradiction fun hn => by rw [outlB_f hn] at h; cases h
theorem outlB_tr {l : List (Int × Int)} {n a b c : Int} (h1 : outlB l n a b = true) (h2 : outlB l n b c = true) : outlB l n a c = true :=
  outlB_t ⟨(outlB_p h1).1, (outlB_p h2).2.1, (outlB_p h1).2.2.trans (outlB_p h2).2.2⟩
theorem subT_trans {l : List (Int × Int)} {n : Int} {ts : List TyS} (hw : wfT ts) : ∀ (k : Nat) (a b c : Int), a < k → b < k → c < k → InR ts.length a → InR ts.length b → InR ts.length c → subT l n ts a b = true → subT l n ts b c = true → subT l n ts a c = true
  | 0, a, b, c, hk, _, _, ha, _, _, _, _ => by unfold InR at ha; omega
  | k + 1, a, b, c, ka, kb, kc, ha, hb, hc, h1, h2 => by
    have wa := wfT_at hw ha
    have wb := wfT_at hw hb
    have wc := wfT_at hw hc
    rw [subT_iff hw ha hb] at h1
    rw [subT_iff hw hb hc] at h2
    rw [subT_iff hw ha hc]
    obtain ⟨p1, p2, p3, p4, p5⟩ := h1
    obtain ⟨q1, q2, q3, q4, q5⟩ := h2
    unfold InR at ha hb hc
    refine ⟨p1.trans q1, p2.trans q2, p3.trans q3, fun h3 => ?_, fun j h h' => ?_⟩
    · have hb3 := p1.symm.trans h3
      have hc3 := q1.symm.trans hb3
      have ea := wa.1 h3
      have eb := wb.1 hb3
      have ec := wc.1 hc3
      obtain ⟨p6, p7, p8⟩ := p4 h3
      obtain ⟨q6, q7, q8⟩ := q4 hb3
      exact ⟨outlB_tr p6 q6, subT_trans hw k _ _ _ (by omega) (by omega) (by omega) ⟨ea.1, by omega⟩ ⟨eb.1, by omega⟩ ⟨ec.1, by omega⟩ p7 q7,
        fun hm => subT_trans hw k _ _ _ (by omega) (by omega) (by omega) ⟨ec.1, by omega⟩ ⟨eb.1, by omega⟩ ⟨ea.1, by omega⟩ (q8 (p2 ▸ hm)) (p8 hm)⟩
    · have h'' : j < (tyAt ts b).ar.length := by omega
      have fa := wa.2 _ (List.getElem_mem h)
      have fb := wb.2 _ (List.getElem_mem h'')
      have fc := wc.2 _ (List.getElem_mem h')
      exact subT_trans hw k _ _ _ (by omega) (by omega) (by omega) ⟨fa.1, by omega⟩ ⟨fb.1, by omega⟩ ⟨fc.1, by omega⟩ (p5 j h h'') (q5 j h'' h')
theorem fold_same {g : Int → Int} : ∀ {x y : List Int} {k : Int}, x.length = y.length → (∀ j (h : j < x.length) (h' : j < y.length), g x[j] = g y[j]) → x.foldl (fun k f => max k (g f)) k = y.foldl (fun k f => max k (g f)) k
  | [], [], _, _, _ => rfl
  | a :: x, b :: y, k, hl, h => by
    rw [List.foldl_cons, List.foldl_cons]
    have h0 : g a = g b := h 0 (by simp) (by simp)
    rw [h0]
    exact fold_same (by simpa using hl) fun j h1 h2 => h (j + 1) (by simpa using h1) (by simpa using h2)
theorem fold_cong {g g' : Int → Int} : ∀ {x : List Int} {k : Int}, (∀ f ∈ x, g f = g' f) → x.foldl (fun k f => max k (g f)) k = x.foldl (fun k f => max k (g' f)) k
  | [], _, _ => rfl
  | a :: x, k, h => by
    rw [List.foldl_cons, List.foldl_cons, h a (by simp)]
    exact fold_cong fun f hf => h f (List.mem_cons_of_mem _ hf)
theorem depAt_of {ts : List TyS} {i n : Nat} (hi : i < n) (hn : n ≤ ts.length) : (depL (ts.take n)).getD i 0 = depAt ts i := by
  unfold depAt
  rw [if_pos (show InR ts.length i from ⟨by omega, by omega⟩), List.getD_eq_getElem?_getD, List.getD_eq_getElem?_getD, depL_get hi hn, Int.toNat_natCast]
theorem depAt_eq {ts : List TyS} (hw : wfT ts) {a : Int} (ha : InR ts.length a) : depAt ts a = (tyAt ts a).ar.foldl (fun k f => max k (depAt ts f)) (if (tyAt ts a).k = 3 then depAt ts (tyAt ts a).e else 0) + 1 := by
  have wa := wfT_at hw ha
  obtain ⟨h', he⟩ := tyAt_get ha
  unfold InR at ha
  obtain ⟨i, rfl⟩ : ∃ i : Nat, a = i := ⟨a.toNat, by omega⟩
  rw [Int.toNat_natCast] at h'
  have he2 : tyAt ts i = ts[i] := he
  rw [← depAt_of (show i < i + 1 by omega) (by omega), depL_take h']
  rw [List.getD_eq_getElem?_getD, List.getElem?_append_right (by rw [depL_len, List.length_take]; omega), depL_len, List.length_take, Nat.min_eq_left (by omega), Nat.sub_self]
  simp only [List.getElem?_cons_zero, Option.getD_some]
  rw [he2] at wa ⊢
  congr 1
  unfold kidM
  have h1 : (if ts[i].k = 3 then (depL (ts.take i)).getD ts[i].e.toNat 0 else 0) = (if ts[i].k = 3 then depAt ts ts[i].e else 0) := by
    by_cases h3 : ts[i].k = 3
    · rw [if_pos h3, if_pos h3]
      have := wa.1 h3
      rw [depAt_of (by omega) (by omega)]
      congr 1; omega
    · rw [if_neg h3, if_neg h3]
  rw [h1]
  exact fold_cong (g := fun f => (depL (ts.take i)).getD f.toNat 0) fun f hf => by
    have := wa.2 f hf
    show (depL (ts.take i)).getD f.toNat 0 = _
    rw [depAt_of (by omega) (by omega)]
    congr 1; omega
theorem subT_dep {l : List (Int × Int)} {n : Int} {ts : List TyS} (hw : wfT ts) : ∀ (k : Nat) (a b : Int), a < k → b < k → InR ts.length a → InR ts.length b → subT l n ts a b = true → depAt ts a = depAt ts b
  | 0, a, b, hk, _, ha, _, _ => by unfold InR at ha; omega
  | k + 1, a, b, ka, kb, ha, hb, h1 => by
    have wa := wfT_at hw ha
    have wb := wfT_at hw hb
    rw [subT_iff hw ha hb] at h1
    obtain ⟨p1, p2, p3, p4, p5⟩ := h1
    rw [depAt_eq hw ha, depAt_eq hw hb]
    unfold InR at ha hb
    have h0 : (if (tyAt ts a).k = 3 then depAt ts (tyAt ts a).e else 0) = (if (tyAt ts b).k = 3 then depAt ts (tyAt ts b).e else 0) := by
      by_cases h3 : (tyAt ts a).k = 3
      · have hb3 := p1.symm.trans h3
        have ea := wa.1 h3
        have eb := wb.1 hb3
        rw [if_pos h3, if_pos hb3]
        exact subT_dep hw k _ _ (by omega) (by omega) ⟨ea.1, by omega⟩ ⟨eb.1, by omega⟩ (p4 h3).2.1
      · rw [if_neg h3, if_neg (fun h => h3 (p1.trans h))]
    rw [h0, fold_same (g := depAt ts) p3 fun j h h' => ?_]
    have fa := wa.2 _ (List.getElem_mem h)
    have fb := wb.2 _ (List.getElem_mem h')
    exact subT_dep hw k _ _ (by omega) (by omega) ⟨fa.1, by omega⟩ ⟨fb.1, by omega⟩ (p5 j h h')
end Go.Proofs.Ytdggkophnlldoaa
