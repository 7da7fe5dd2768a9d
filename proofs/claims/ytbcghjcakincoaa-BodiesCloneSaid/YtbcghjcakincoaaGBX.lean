/- Lemmas and contracts of functions, several texts in one: B5 B6. -/
import Derived.Test.YtbcghjcakincoaaGBW
import Derived.Test.YtbcghjcakincoaaGBU
/- Comparisons of structures, field by field: statements, blocks, bodies. (written by gen_bod2.py) -/
namespace Go.Proofs.Ytbcghjcakincoaa
open Go.RowKit
set_option linter.unusedVariables false
set_option maxRecDepth 100000
set_option linter.unusedSimpArgs false
theorem sts_ext2 {a b : StS} : a = b ↔ a.k = b.k ∧ a.lo = b.lo ∧ a.pl = b.pl ∧ a.rv.k = b.rv.k ∧ a.rv.op = b.rv.op ∧ a.rv.rg = b.rv.rg ∧ a.rv.mu = b.rv.mu ∧ a.rv.pl = b.rv.pl ∧ a.rv.ar = b.rv.ar := by
  rw [sts_ext, rvs_ext]
theorem bks_ext2 {a b : BkS} : a = b ↔ a.st = b.st ∧ a.tm.k = b.tm.k ∧ a.tm.nm = b.tm.nm ∧ a.tm.tg = b.tm.tg ∧ a.tm.ar = b.tm.ar ∧ a.tm.pl = b.tm.pl := by
  rw [bks_ext, tms_ext]
set_option maxHeartbeats 2000000 in
theorem ksteq_N (a b : StS) (H : Heap) (ha : okSt a) : Does Try.prog 98 [.agg (stD a), .agg (stD b)] H fun d H' => d = .val (.bool (decide (a = b))) ∧ H = H' := by
  have h1 := fun H => kpeq_N a.pl b.pl H ha.1
  have h2 := fun H => kpeq_N a.rv.pl b.rv.pl H ha.2.1
  have h3 := fun H => kops_N a.rv.ar b.rv.ar H ha.2.2.1 ha.2.2.2
  refine does_of _ _ Try.func98 rfl rfl Try.ntmps98 Try.results98 (by simp only [List.length_cons, List.length_nil]; omega) fun w0 Q hret => ?_
  (have fs := And.intro @i64.eq_1 @stD.eq_1; (repeat (first | refine hGx _ ?_ | refine hNx _ ?_ | refine W_skip ?_ | refine W_exit ?_ | refine W_ret ?_ | refine W_label ?_ | refine W_scope ?_ | refine W_block ?_ | refine W_seq ?_ | ((first | refine tS fun N hNx => ?_ | refine WL_gE rfl rfl (by kernel_rfl) (by kernel_rfl) fun G hGx => ?_ | refine vcOpsS_sound (by kernel_rfl) ?_ | refine W_ifE fun A B hAx hBx => ?_); refine evT ?_; (first | refine hGx _ ?_ | refine hNx _ ?_ | refine hAx ?_ | refine hBx ?_ | skip)))); (try clear fs))
  intro c2 hc2 c3 hc3
  refine hNx _ ?_
  have hne : c2 ≠ c3 := Heap.ne_of (Heap.upd_same _ _ _) hc3; have hb0 := (Heap.upd_none.1 hc3).2; refine W_frzp 2 rfl ((Heap.upd_ne hne).trans (Heap.upd_same _ _ _)) rfl ?_; refine W_frzp 3 rfl ((Heap.del_ne hne.symm).trans (Heap.upd_same _ _ _)) rfl ?_; refine W_less H (frz2_le hc2 hb0) ?_; simp only [St.frzp, List.drop]
  (have fs := @i64.eq_1; (repeat (first | refine hGx _ ?_ | refine hNx _ ?_ | refine W_skip ?_ | refine W_exit ?_ | refine W_ret ?_ | refine W_label ?_ | refine W_scope ?_ | refine W_block ?_ | refine W_seq ?_ | ((first | refine tS fun N hNx => ?_ | refine WL_gE rfl rfl (by kernel_rfl) (by kernel_rfl) fun G hGx => ?_ | refine vcOpsS_sound (by kernel_rfl) ?_ | refine W_ifE fun A B hAx hBx => ?_); refine evT ?_; (first | refine hGx _ ?_ | refine hNx _ ?_ | refine hAx ?_ | refine hBx ?_ | skip)))); (try clear fs))
  intro c5 hc5
  refine hNx _ ?_
  refine W_frzp 5 rfl (Heap.upd_same _ _ _) rfl ?_; simp only [St.frzp, put_H, wdf_H, withH_H, withH_put, wdf_withH, withH_withH, init_H, init_withH, Heap.del_upd_same, Heap.del_none hc5, withH_self]
  (have fs := @i64.eq_1; (repeat (first | refine hGx _ ?_ | refine hNx _ ?_ | refine W_skip ?_ | refine W_exit ?_ | refine W_ret ?_ | refine W_label ?_ | refine W_scope ?_ | refine W_block ?_ | refine W_seq ?_ | ((first | refine tS fun N hNx => ?_ | refine WL_gE rfl rfl (by kernel_rfl) (by kernel_rfl) fun G hGx => ?_ | refine vcOpsS_sound (by kernel_rfl) ?_ | refine W_ifE fun A B hAx hBx => ?_); refine evT ?_; (first | refine hGx _ ?_ | refine hNx _ ?_ | refine hAx ?_ | refine hBx ?_ | skip)))); (try clear fs))
  intro c6 hc6
  refine hNx _ ?_
  refine W_frzp 6 rfl (Heap.upd_same _ _ _) rfl ?_; simp only [St.frzp, put_H, wdf_H, withH_H, withH_put, wdf_withH, withH_withH, init_H, init_withH, Heap.del_upd_same, Heap.del_none hc6, withH_self]
  by_cases g1 : a.k = b.k
  case neg =>
    have q1 : (a.k = b.k) = False := eq_false g1
    (have fs := And.intro @i64.eq_1 q1; (repeat (first | refine hGx _ ?_ | refine hNx _ ?_ | refine W_skip ?_ | refine W_exit ?_ | refine W_ret ?_ | refine W_label ?_ | refine W_scope ?_ | refine W_block ?_ | refine W_seq ?_ | ((first | refine tS fun N hNx => ?_ | refine WL_gE rfl rfl (by kernel_rfl) (by kernel_rfl) fun G hGx => ?_ | refine vcOpsS_sound (by kernel_rfl) ?_ | refine W_ifE fun A B hAx hBx => ?_); refine evT ?_; (first | refine hGx _ ?_ | refine hNx _ ?_ | refine hAx ?_ | refine hBx ?_ | skip)))); (try clear fs))
    (first | (show Q .ret _) | (show Q .normal _) | skip); refine hret _ _ (by first | exact .inr rfl | exact .inl rfl) (by first | rfl | assumption | (simp only [put_df, withH_df]; assumption)) ?_; have fs := @i64.eq_1; refine evT ?_; clear fs
    exact ⟨_, Heap.le_refl _, by rw [decide_eq_false fun h => g1 (sts_ext2.1 h).1], rfl⟩
  have q1 : (a.k = b.k) = True := eq_true g1
  by_cases g2 : a.lo = b.lo
  case neg =>
    have q2 : (a.lo = b.lo) = False := eq_false g2
    (have fs := And.intro @i64.eq_1 (And.intro q1 q2); (repeat (first | refine hGx _ ?_ | refine hNx _ ?_ | refine W_skip ?_ | refine W_exit ?_ | refine W_ret ?_ | refine W_label ?_ | refine W_scope ?_ | refine W_block ?_ | refine W_seq ?_ | ((first | refine tS fun N hNx => ?_ | refine WL_gE rfl rfl (by kernel_rfl) (by kernel_rfl) fun G hGx => ?_ | refine vcOpsS_sound (by kernel_rfl) ?_ | refine W_ifE fun A B hAx hBx => ?_); refine evT ?_; (first | refine hGx _ ?_ | refine hNx _ ?_ | refine hAx ?_ | refine hBx ?_ | skip)))); (try clear fs))
    (first | (show Q .ret _) | (show Q .normal _) | skip); refine hret _ _ (by first | exact .inr rfl | exact .inl rfl) (by first | rfl | assumption | (simp only [put_df, withH_df]; assumption)) ?_; have fs := @i64.eq_1; refine evT ?_; clear fs
    exact ⟨_, Heap.le_refl _, by rw [decide_eq_false fun h => g2 (sts_ext2.1 h).2.1], rfl⟩
  have q2 : (a.lo = b.lo) = True := eq_true g2
  (have fs := And.intro @i64.eq_1 (And.intro q1 q2); (repeat (first | refine hGx _ ?_ | refine hNx _ ?_ | refine W_skip ?_ | refine W_exit ?_ | refine W_ret ?_ | refine W_label ?_ | refine W_scope ?_ | refine W_block ?_ | refine W_seq ?_ | ((first | refine tS fun N hNx => ?_ | refine WL_gE rfl rfl (by kernel_rfl) (by kernel_rfl) fun G hGx => ?_ | refine vcOpsS_sound (by kernel_rfl) ?_ | refine W_ifE fun A B hAx hBx => ?_); refine evT ?_; (first | refine hGx _ ?_ | refine hNx _ ?_ | refine hAx ?_ | refine hBx ?_ | skip)))); (try clear fs))
  refine (h1 _).mono ?_
  rintro d _ ⟨rfl, rfl⟩
  by_cases g3 : a.pl = b.pl
  case neg =>
    rw [decide_eq_false g3]
    (have fs := And.intro @i64.eq_1 (And.intro q1 q2); (repeat (first | refine hGx _ ?_ | refine hNx _ ?_ | refine W_skip ?_ | refine W_exit ?_ | refine W_ret ?_ | refine W_label ?_ | refine W_scope ?_ | refine W_block ?_ | refine W_seq ?_ | ((first | refine tS fun N hNx => ?_ | refine WL_gE rfl rfl (by kernel_rfl) (by kernel_rfl) fun G hGx => ?_ | refine vcOpsS_sound (by kernel_rfl) ?_ | refine W_ifE fun A B hAx hBx => ?_); refine evT ?_; (first | refine hGx _ ?_ | refine hNx _ ?_ | refine hAx ?_ | refine hBx ?_ | skip)))); (try clear fs))
    (first | (show Q .ret _) | (show Q .normal _) | skip); refine hret _ _ (by first | exact .inr rfl | exact .inl rfl) (by first | rfl | assumption | (simp only [put_df, withH_df]; assumption)) ?_; have fs := @i64.eq_1; refine evT ?_; clear fs
    exact ⟨_, Heap.le_refl _, by rw [decide_eq_false fun h => g3 (sts_ext2.1 h).2.2.1], rfl⟩
  rw [decide_eq_true g3]
  by_cases g4 : a.rv.k = b.rv.k
  case neg =>
    have q4 : (a.rv.k = b.rv.k) = False := eq_false g4
    (have fs := And.intro @i64.eq_1 (And.intro q1 (And.intro q2 q4)); (repeat (first | refine hGx _ ?_ | refine hNx _ ?_ | refine W_skip ?_ | refine W_exit ?_ | refine W_ret ?_ | refine W_label ?_ | refine W_scope ?_ | refine W_block ?_ | refine W_seq ?_ | ((first | refine tS fun N hNx => ?_ | refine WL_gE rfl rfl (by kernel_rfl) (by kernel_rfl) fun G hGx => ?_ | refine vcOpsS_sound (by kernel_rfl) ?_ | refine W_ifE fun A B hAx hBx => ?_); refine evT ?_; (first | refine hGx _ ?_ | refine hNx _ ?_ | refine hAx ?_ | refine hBx ?_ | skip)))); (try clear fs))
    (first | (show Q .ret _) | (show Q .normal _) | skip); refine hret _ _ (by first | exact .inr rfl | exact .inl rfl) (by first | rfl | assumption | (simp only [put_df, withH_df]; assumption)) ?_; have fs := @i64.eq_1; refine evT ?_; clear fs
    exact ⟨_, Heap.le_refl _, by rw [decide_eq_false fun h => g4 (sts_ext2.1 h).2.2.2.1], rfl⟩
  have q4 : (a.rv.k = b.rv.k) = True := eq_true g4
  by_cases g5 : a.rv.op = b.rv.op
  case neg =>
    have q5 : (a.rv.op = b.rv.op) = False := eq_false g5
    (have fs := And.intro @i64.eq_1 (And.intro q1 (And.intro q2 (And.intro q4 q5))); (repeat (first | refine hGx _ ?_ | refine hNx _ ?_ | refine W_skip ?_ | refine W_exit ?_ | refine W_ret ?_ | refine W_label ?_ | refine W_scope ?_ | refine W_block ?_ | refine W_seq ?_ | ((first | refine tS fun N hNx => ?_ | refine WL_gE rfl rfl (by kernel_rfl) (by kernel_rfl) fun G hGx => ?_ | refine vcOpsS_sound (by kernel_rfl) ?_ | refine W_ifE fun A B hAx hBx => ?_); refine evT ?_; (first | refine hGx _ ?_ | refine hNx _ ?_ | refine hAx ?_ | refine hBx ?_ | skip)))); (try clear fs))
    (first | (show Q .ret _) | (show Q .normal _) | skip); refine hret _ _ (by first | exact .inr rfl | exact .inl rfl) (by first | rfl | assumption | (simp only [put_df, withH_df]; assumption)) ?_; have fs := @i64.eq_1; refine evT ?_; clear fs
    exact ⟨_, Heap.le_refl _, by rw [decide_eq_false fun h => g5 (sts_ext2.1 h).2.2.2.2.1], rfl⟩
  have q5 : (a.rv.op = b.rv.op) = True := eq_true g5
  by_cases g6 : a.rv.rg = b.rv.rg
  case neg =>
    have q6 : (a.rv.rg = b.rv.rg) = False := eq_false g6
    (have fs := And.intro @i64.eq_1 (And.intro q1 (And.intro q2 (And.intro q4 (And.intro q5 q6)))); (repeat (first | refine hGx _ ?_ | refine hNx _ ?_ | refine W_skip ?_ | refine W_exit ?_ | refine W_ret ?_ | refine W_label ?_ | refine W_scope ?_ | refine W_block ?_ | refine W_seq ?_ | ((first | refine tS fun N hNx => ?_ | refine WL_gE rfl rfl (by kernel_rfl) (by kernel_rfl) fun G hGx => ?_ | refine vcOpsS_sound (by kernel_rfl) ?_ | refine W_ifE fun A B hAx hBx => ?_); refine evT ?_; (first | refine hGx _ ?_ | refine hNx _ ?_ | refine hAx ?_ | refine hBx ?_ | skip)))); (try clear fs))
    (first | (show Q .ret _) | (show Q .normal _) | skip); refine hret _ _ (by first | exact .inr rfl | exact .inl rfl) (by first | rfl | assumption | (simp only [put_df, withH_df]; assumption)) ?_; have fs := @i64.eq_1; refine evT ?_; clear fs
    exact ⟨_, Heap.le_refl _, by rw [decide_eq_false fun h => g6 (sts_ext2.1 h).2.2.2.2.2.1], rfl⟩
  have q6 : (a.rv.rg = b.rv.rg) = True := eq_true g6
  by_cases g7 : a.rv.mu = b.rv.mu
  case neg =>
    have q7 : (a.rv.mu = b.rv.mu) = False := eq_false g7
    (have fs := And.intro @i64.eq_1 (And.intro q1 (And.intro q2 (And.intro q4 (And.intro q5 (And.intro q6 q7))))); (repeat (first | refine hGx _ ?_ | refine hNx _ ?_ | refine W_skip ?_ | refine W_exit ?_ | refine W_ret ?_ | refine W_label ?_ | refine W_scope ?_ | refine W_block ?_ | refine W_seq ?_ | ((first | refine tS fun N hNx => ?_ | refine WL_gE rfl rfl (by kernel_rfl) (by kernel_rfl) fun G hGx => ?_ | refine vcOpsS_sound (by kernel_rfl) ?_ | refine W_ifE fun A B hAx hBx => ?_); refine evT ?_; (first | refine hGx _ ?_ | refine hNx _ ?_ | refine hAx ?_ | refine hBx ?_ | skip)))); (try clear fs))
    (first | (show Q .ret _) | (show Q .normal _) | skip); refine hret _ _ (by first | exact .inr rfl | exact .inl rfl) (by first | rfl | assumption | (simp only [put_df, withH_df]; assumption)) ?_; have fs := @i64.eq_1; refine evT ?_; clear fs
    exact ⟨_, Heap.le_refl _, by rw [decide_eq_false fun h => g7 (sts_ext2.1 h).2.2.2.2.2.2.1], rfl⟩
  have q7 : (a.rv.mu = b.rv.mu) = True := eq_true g7
  (have fs := And.intro @i64.eq_1 (And.intro q1 (And.intro q2 (And.intro q4 (And.intro q5 (And.intro q6 q7))))); (repeat (first | refine hGx _ ?_ | refine hNx _ ?_ | refine W_skip ?_ | refine W_exit ?_ | refine W_ret ?_ | refine W_label ?_ | refine W_scope ?_ | refine W_block ?_ | refine W_seq ?_ | ((first | refine tS fun N hNx => ?_ | refine WL_gE rfl rfl (by kernel_rfl) (by kernel_rfl) fun G hGx => ?_ | refine vcOpsS_sound (by kernel_rfl) ?_ | refine W_ifE fun A B hAx hBx => ?_); refine evT ?_; (first | refine hGx _ ?_ | refine hNx _ ?_ | refine hAx ?_ | refine hBx ?_ | skip)))); (try clear fs))
  refine (h2 _).mono ?_
  rintro d _ ⟨rfl, rfl⟩
  by_cases g8 : a.rv.pl = b.rv.pl
  case neg =>
    rw [decide_eq_false g8]
    (have fs := And.intro @i64.eq_1 (And.intro q1 (And.intro q2 (And.intro q4 (And.intro q5 (And.intro q6 q7))))); (repeat (first | refine hGx _ ?_ | refine hNx _ ?_ | refine W_skip ?_ | refine W_exit ?_ | refine W_ret ?_ | refine W_label ?_ | refine W_scope ?_ | refine W_block ?_ | refine W_seq ?_ | ((first | refine tS fun N hNx => ?_ | refine WL_gE rfl rfl (by kernel_rfl) (by kernel_rfl) fun G hGx => ?_ | refine vcOpsS_sound (by kernel_rfl) ?_ | refine W_ifE fun A B hAx hBx => ?_); refine evT ?_; (first | refine hGx _ ?_ | refine hNx _ ?_ | refine hAx ?_ | refine hBx ?_ | skip)))); (try clear fs))
    (first | (show Q .ret _) | (show Q .normal _) | skip); refine hret _ _ (by first | exact .inr rfl | exact .inl rfl) (by first | rfl | assumption | (simp only [put_df, withH_df]; assumption)) ?_; have fs := @i64.eq_1; refine evT ?_; clear fs
    exact ⟨_, Heap.le_refl _, by rw [decide_eq_false fun h => g8 (sts_ext2.1 h).2.2.2.2.2.2.2.1], rfl⟩
  rw [decide_eq_true g8]
  (have fs := And.intro @i64.eq_1 (And.intro q1 (And.intro q2 (And.intro q4 (And.intro q5 (And.intro q6 q7))))); (repeat (first | refine hGx _ ?_ | refine hNx _ ?_ | refine W_skip ?_ | refine W_exit ?_ | refine W_ret ?_ | refine W_label ?_ | refine W_scope ?_ | refine W_block ?_ | refine W_seq ?_ | ((first | refine tS fun N hNx => ?_ | refine WL_gE rfl rfl (by kernel_rfl) (by kernel_rfl) fun G hGx => ?_ | refine vcOpsS_sound (by kernel_rfl) ?_ | refine W_ifE fun A B hAx hBx => ?_); refine evT ?_; (first | refine hGx _ ?_ | refine hNx _ ?_ | refine hAx ?_ | refine hBx ?_ | skip)))); (try clear fs))
  refine (h3 _).mono ?_
  rintro d _ ⟨rfl, rfl⟩
  by_cases g9 : a.rv.ar = b.rv.ar
  case neg =>
    rw [decide_eq_false g9]
    (have fs := And.intro @i64.eq_1 (And.intro q1 (And.intro q2 (And.intro q4 (And.intro q5 (And.intro q6 q7))))); (repeat (first | refine hGx _ ?_ | refine hNx _ ?_ | refine W_skip ?_ | refine W_exit ?_ | refine W_ret ?_ | refine W_label ?_ | refine W_scope ?_ | refine W_block ?_ | refine W_seq ?_ | ((first | refine tS fun N hNx => ?_ | refine WL_gE rfl rfl (by kernel_rfl) (by kernel_rfl) fun G hGx => ?_ | refine vcOpsS_sound (by kernel_rfl) ?_ | refine W_ifE fun A B hAx hBx => ?_); refine evT ?_; (first | refine hGx _ ?_ | refine hNx _ ?_ | refine hAx ?_ | refine hBx ?_ | skip)))); (try clear fs))
    (first | (show Q .ret _) | (show Q .normal _) | skip); refine hret _ _ (by first | exact .inr rfl | exact .inl rfl) (by first | rfl | assumption | (simp only [put_df, withH_df]; assumption)) ?_; have fs := @i64.eq_1; refine evT ?_; clear fs
    exact ⟨_, Heap.le_refl _, by rw [decide_eq_false fun h => g9 (sts_ext2.1 h).2.2.2.2.2.2.2.2], rfl⟩
  rw [decide_eq_true g9]
  (have fs := And.intro @i64.eq_1 (And.intro q1 (And.intro q2 (And.intro q4 (And.intro q5 (And.intro q6 q7))))); (repeat (first | refine hGx _ ?_ | refine hNx _ ?_ | refine W_skip ?_ | refine W_exit ?_ | refine W_ret ?_ | refine W_label ?_ | refine W_scope ?_ | refine W_block ?_ | refine W_seq ?_ | ((first | refine tS fun N hNx => ?_ | refine WL_gE rfl rfl (by kernel_rfl) (by kernel_rfl) fun G hGx => ?_ | refine vcOpsS_sound (by kernel_rfl) ?_ | refine W_ifE fun A B hAx hBx => ?_); refine evT ?_; (first | refine hGx _ ?_ | refine hNx _ ?_ | refine hAx ?_ | refine hBx ?_ | skip)))); (try clear fs))
  (first | (show Q .ret _) | (show Q .normal _) | skip); refine hret _ _ (by first | exact .inr rfl | exact .inl rfl) (by first | rfl | assumption | (simp only [put_df, withH_df]; assumption)) ?_; have fs := @i64.eq_1; refine evT ?_; clear fs
  exact ⟨_, Heap.le_refl _, by rw [decide_eq_true (sts_ext2.2 ⟨g1, g2, g3, g4, g5, g6, g7, g8, g9⟩)], rfl⟩
set_option maxHeartbeats 2000000 in
theorem kbkeq_N (a b : BkS) (H : Heap) (ha : okBk a) : Does Try.prog 55 [.agg (bkD a), .agg (bkD b)] H fun d H' => d = .val (.bool (decide (a = b))) ∧ H = H' := by
  obtain ⟨⟨hl, hlx⟩, htg, ⟨har, harx⟩, hpl⟩ := ha
  unfold big at hl
  have h1 := fun H => ksameI_at H a.tm.tg b.tm.tg htg
  have h2 := fun H => kops_N a.tm.ar b.tm.ar H har harx
  have h3 := fun H => kpeq_N a.tm.pl b.tm.pl H hpl
  have hll : (List.map stD a.st).length = a.st.length := List.length_map _
  have hml : (List.map stD b.st).length = b.st.length := List.length_map _
  refine does_of _ _ Try.func55 rfl rfl Try.ntmps55 Try.results55 (by simp only [List.length_cons, List.length_nil]; omega) fun w0 Q hret => ?_
  (have fs := And.intro @i64.eq_1 @bkD.eq_1; (repeat (first | refine hGx _ ?_ | refine hNx _ ?_ | refine W_skip ?_ | refine W_exit ?_ | refine W_ret ?_ | refine W_label ?_ | refine W_scope ?_ | refine W_block ?_ | refine W_seq ?_ | ((first | refine tS fun N hNx => ?_ | refine WL_gE rfl rfl (by kernel_rfl) (by kernel_rfl) fun G hGx => ?_ | refine vcOpsS_sound (by kernel_rfl) ?_ | refine W_ifE fun A B hAx hBx => ?_); refine evT ?_; (first | refine hGx _ ?_ | refine hNx _ ?_ | refine hAx ?_ | refine hBx ?_ | skip)))); (try clear fs))
  intro c2 hc2 c3 hc3
  refine hNx _ ?_
  have hne : c2 ≠ c3 := Heap.ne_of (Heap.upd_same _ _ _) hc3; have hb0 := (Heap.upd_none.1 hc3).2; refine W_frzp 2 rfl ((Heap.upd_ne hne).trans (Heap.upd_same _ _ _)) rfl ?_; refine W_frzp 3 rfl ((Heap.del_ne hne.symm).trans (Heap.upd_same _ _ _)) rfl ?_; refine W_less H (frz2_le hc2 hb0) ?_; simp only [St.frzp, List.drop]
  by_cases hlm : a.st.length = b.st.length
  case neg =>
    have q : ((a.st.length : Int) = (b.st.length : Int)) = False := eq_false (by omega)
    (have fs := And.intro @i64.eq_1 (And.intro hll (And.intro hml q)); (repeat (first | refine hGx _ ?_ | refine hNx _ ?_ | refine W_skip ?_ | refine W_exit ?_ | refine W_ret ?_ | refine W_label ?_ | refine W_scope ?_ | refine W_block ?_ | refine W_seq ?_ | ((first | refine tS fun N hNx => ?_ | refine WL_gE rfl rfl (by kernel_rfl) (by kernel_rfl) fun G hGx => ?_ | refine vcOpsS_sound (by kernel_rfl) ?_ | refine W_ifE fun A B hAx hBx => ?_); refine evT ?_; (first | refine hGx _ ?_ | refine hNx _ ?_ | refine hAx ?_ | refine hBx ?_ | skip)))); (try clear fs))
    (first | (show Q .ret _) | (show Q .normal _) | skip); refine hret _ _ (by first | exact .inr rfl | exact .inl rfl) (by first | rfl | assumption | (simp only [put_df, withH_df]; assumption)) ?_; have fs := @i64.eq_1; refine evT ?_; clear fs
    exact ⟨_, Heap.le_refl _, by rw [decide_eq_false fun e => hlm (by rw [e])], rfl⟩
  have q : ((a.st.length : Int) = (b.st.length : Int)) = True := eq_true (by omega)
  (have fs := And.intro @i64.eq_1 (And.intro hll (And.intro hml q)); (repeat (first | refine hGx _ ?_ | refine hNx _ ?_ | refine W_skip ?_ | refine W_exit ?_ | refine W_ret ?_ | refine W_label ?_ | refine W_scope ?_ | refine W_block ?_ | refine W_seq ?_ | ((first | refine tS fun N hNx => ?_ | refine WL_gE rfl rfl (by kernel_rfl) (by kernel_rfl) fun G hGx => ?_ | refine vcOpsS_sound (by kernel_rfl) ?_ | refine W_ifE fun A B hAx hBx => ?_); refine evT ?_; (first | refine hGx _ ?_ | refine hNx _ ?_ | refine hAx ?_ | refine hBx ?_ | skip)))); (try clear fs))
  refine W_loopN a.st.length (fun i s => s.df = [] ∧ s.fr 2 = .rp (bkD a) ∧ s.fr 3 = .rp (bkD b) ∧ s.fr 5 = i64 i ∧ s.H = H ∧ a.st.take i = b.st.take i) ⟨rfl, rfl, rfl, rfl, rfl, by simp⟩ ?_
  rintro i s hi ⟨hdf, f2, f3, f5, hH, htk⟩
  simp only [bkD] at f2 f3
  have hx : (i : Int).toNat = i := Int.toNat_natCast _
  have h00 : (0 : Int) ≤ (i : Int) := Int.natCast_nonneg _
  by_cases hil : i < a.st.length
  case neg =>
    have q1 : ((i : Int) < (a.st.length : Int)) = False := eq_false (by omega)
    rw [List.take_of_length_le (by omega), List.take_of_length_le (by omega)] at htk
    (have fs := And.intro f2 (And.intro f3 (And.intro f5 (And.intro @i64.eq_1 (And.intro hll q1)))); (repeat (first | refine hGx _ ?_ | refine hNx _ ?_ | refine W_skip ?_ | refine W_exit ?_ | refine W_ret ?_ | refine W_label ?_ | refine W_scope ?_ | refine W_block ?_ | refine W_seq ?_ | ((first | refine tS fun N hNx => ?_ | refine WL_gE rfl rfl (by kernel_rfl) (by kernel_rfl) fun G hGx => ?_ | refine vcOpsS_sound (by kernel_rfl) ?_ | refine W_ifE fun A B hAx hBx => ?_); refine evT ?_; (first | refine hGx _ ?_ | refine hNx _ ?_ | refine hAx ?_ | refine hBx ?_ | skip)))); (try clear fs))
    intro c6 hc6
    refine hNx _ ?_
    refine W_frzp 6 rfl (Heap.upd_same _ _ _) rfl ?_; simp only [St.frzp, put_H, wdf_H, withH_H, withH_put, wdf_withH, withH_withH, init_H, init_withH, Heap.del_upd_same, Heap.del_none hc6, withH_self]
    (have fs := And.intro f3 @i64.eq_1; (repeat (first | refine hGx _ ?_ | refine hNx _ ?_ | refine W_skip ?_ | refine W_exit ?_ | refine W_ret ?_ | refine W_label ?_ | refine W_scope ?_ | refine W_block ?_ | refine W_seq ?_ | ((first | refine tS fun N hNx => ?_ | refine WL_gE rfl rfl (by kernel_rfl) (by kernel_rfl) fun G hGx => ?_ | refine vcOpsS_sound (by kernel_rfl) ?_ | refine W_ifE fun A B hAx hBx => ?_); refine evT ?_; (first | refine hGx _ ?_ | refine hNx _ ?_ | refine hAx ?_ | refine hBx ?_ | skip)))); (try clear fs))
    intro c7 hc7
    refine hNx _ ?_
    refine W_frzp 7 rfl (Heap.upd_same _ _ _) rfl ?_; simp only [St.frzp, put_H, wdf_H, withH_H, withH_put, wdf_withH, withH_withH, init_H, init_withH, Heap.del_upd_same, Heap.del_none hc7, withH_self]
    by_cases g1 : a.tm.k = b.tm.k
    case neg =>
      have q1 : (a.tm.k = b.tm.k) = False := eq_false g1
      (have fs := And.intro @i64.eq_1 q1; (repeat (first | refine hGx _ ?_ | refine hNx _ ?_ | refine W_skip ?_ | refine W_exit ?_ | refine W_ret ?_ | refine W_label ?_ | refine W_scope ?_ | refine W_block ?_ | refine W_seq ?_ | ((first | refine tS fun N hNx => ?_ | refine WL_gE rfl rfl (by kernel_rfl) (by kernel_rfl) fun G hGx => ?_ | refine vcOpsS_sound (by kernel_rfl) ?_ | refine W_ifE fun A B hAx hBx => ?_); refine evT ?_; (first | refine hGx _ ?_ | refine hNx _ ?_ | refine hAx ?_ | refine hBx ?_ | skip)))); (try clear fs))
      (first | (show Q .ret _) | (show Q .normal _) | skip); refine hret _ _ (by first | exact .inr rfl | exact .inl rfl) (by first | rfl | assumption | (simp only [put_df, withH_df]; assumption)) ?_; have fs := hdf; refine evT ?_; clear fs
      exact ⟨_, Heap.le_refl _, by rw [decide_eq_false fun h => g1 (tms_ext.1 (bks_ext.1 h).2).1], hH.symm⟩
    have q1 : (a.tm.k = b.tm.k) = True := eq_true g1
    by_cases g2 : a.tm.nm = b.tm.nm
    case neg =>
      have q2 : (a.tm.nm.toList = b.tm.nm.toList) = False := eq_false fun h => g2 (toL_inj.1 h)
      (have fs := And.intro @i64.eq_1 (And.intro q1 q2); (repeat (first | refine hGx _ ?_ | refine hNx _ ?_ | refine W_skip ?_ | refine W_exit ?_ | refine W_ret ?_ | refine W_label ?_ | refine W_scope ?_ | refine W_block ?_ | refine W_seq ?_ | ((first | refine tS fun N hNx => ?_ | refine WL_gE rfl rfl (by kernel_rfl) (by kernel_rfl) fun G hGx => ?_ | refine vcOpsS_sound (by kernel_rfl) ?_ | refine W_ifE fun A B hAx hBx => ?_); refine evT ?_; (first | refine hGx _ ?_ | refine hNx _ ?_ | refine hAx ?_ | refine hBx ?_ | skip)))); (try clear fs))
      (first | (show Q .ret _) | (show Q .normal _) | skip); refine hret _ _ (by first | exact .inr rfl | exact .inl rfl) (by first | rfl | assumption | (simp only [put_df, withH_df]; assumption)) ?_; have fs := hdf; refine evT ?_; clear fs
      exact ⟨_, Heap.le_refl _, by rw [decide_eq_false fun h => g2 (tms_ext.1 (bks_ext.1 h).2).2.1], hH.symm⟩
    have q2 : (a.tm.nm.toList = b.tm.nm.toList) = True := eq_true (toL_inj.2 g2)
    (have fs := And.intro @i64.eq_1 (And.intro q1 q2); (repeat (first | refine hGx _ ?_ | refine hNx _ ?_ | refine W_skip ?_ | refine W_exit ?_ | refine W_ret ?_ | refine W_label ?_ | refine W_scope ?_ | refine W_block ?_ | refine W_seq ?_ | ((first | refine tS fun N hNx => ?_ | refine WL_gE rfl rfl (by kernel_rfl) (by kernel_rfl) fun G hGx => ?_ | refine vcOpsS_sound (by kernel_rfl) ?_ | refine W_ifE fun A B hAx hBx => ?_); refine evT ?_; (first | refine hGx _ ?_ | refine hNx _ ?_ | refine hAx ?_ | refine hBx ?_ | skip)))); (try clear fs))
    refine (h1 _).mono ?_
    rintro d _ ⟨rfl, rfl⟩
    by_cases g3 : a.tm.tg = b.tm.tg
    case neg =>
      rw [decide_eq_false g3]
      (have fs := And.intro @i64.eq_1 (And.intro q1 q2); (repeat (first | refine hGx _ ?_ | refine hNx _ ?_ | refine W_skip ?_ | refine W_exit ?_ | refine W_ret ?_ | refine W_label ?_ | refine W_scope ?_ | refine W_block ?_ | refine W_seq ?_ | ((first | refine tS fun N hNx => ?_ | refine WL_gE rfl rfl (by kernel_rfl) (by kernel_rfl) fun G hGx => ?_ | refine vcOpsS_sound (by kernel_rfl) ?_ | refine W_ifE fun A B hAx hBx => ?_); refine evT ?_; (first | refine hGx _ ?_ | refine hNx _ ?_ | refine hAx ?_ | refine hBx ?_ | skip)))); (try clear fs))
      (first | (show Q .ret _) | (show Q .normal _) | skip); refine hret _ _ (by first | exact .inr rfl | exact .inl rfl) (by first | rfl | assumption | (simp only [put_df, withH_df]; assumption)) ?_; have fs := hdf; refine evT ?_; clear fs
      exact ⟨_, Heap.le_refl _, by rw [decide_eq_false fun h => g3 (tms_ext.1 (bks_ext.1 h).2).2.2.1], hH.symm⟩
    rw [decide_eq_true g3]
    (have fs := And.intro @i64.eq_1 (And.intro q1 q2); (repeat (first | refine hGx _ ?_ | refine hNx _ ?_ | refine W_skip ?_ | refine W_exit ?_ | refine W_ret ?_ | refine W_label ?_ | refine W_scope ?_ | refine W_block ?_ | refine W_seq ?_ | ((first | refine tS fun N hNx => ?_ | refine WL_gE rfl rfl (by kernel_rfl) (by kernel_rfl) fun G hGx => ?_ | refine vcOpsS_sound (by kernel_rfl) ?_ | refine W_ifE fun A B hAx hBx => ?_); refine evT ?_; (first | refine hGx _ ?_ | refine hNx _ ?_ | refine hAx ?_ | refine hBx ?_ | skip)))); (try clear fs))
    refine (h2 _).mono ?_
    rintro d _ ⟨rfl, rfl⟩
    by_cases g4 : a.tm.ar = b.tm.ar
    case neg =>
      rw [decide_eq_false g4]
      (have fs := And.intro @i64.eq_1 (And.intro q1 q2); (repeat (first | refine hGx _ ?_ | refine hNx _ ?_ | refine W_skip ?_ | refine W_exit ?_ | refine W_ret ?_ | refine W_label ?_ | refine W_scope ?_ | refine W_block ?_ | refine W_seq ?_ | ((first | refine tS fun N hNx => ?_ | refine WL_gE rfl rfl (by kernel_rfl) (by kernel_rfl) fun G hGx => ?_ | refine vcOpsS_sound (by kernel_rfl) ?_ | refine W_ifE fun A B hAx hBx => ?_); refine evT ?_; (first | refine hGx _ ?_ | refine hNx _ ?_ | refine hAx ?_ | refine hBx ?_ | skip)))); (try clear fs))
      (first | (show Q .ret _) | (show Q .normal _) | skip); refine hret _ _ (by first | exact .inr rfl | exact .inl rfl) (by first | rfl | assumption | (simp only [put_df, withH_df]; assumption)) ?_; have fs := hdf; refine evT ?_; clear fs
      exact ⟨_, Heap.le_refl _, by rw [decide_eq_false fun h => g4 (tms_ext.1 (bks_ext.1 h).2).2.2.2.1], hH.symm⟩
    rw [decide_eq_true g4]
    (have fs := And.intro @i64.eq_1 (And.intro q1 q2); (repeat (first | refine hGx _ ?_ | refine hNx _ ?_ | refine W_skip ?_ | refine W_exit ?_ | refine W_ret ?_ | refine W_label ?_ | refine W_scope ?_ | refine W_block ?_ | refine W_seq ?_ | ((first | refine tS fun N hNx => ?_ | refine WL_gE rfl rfl (by kernel_rfl) (by kernel_rfl) fun G hGx => ?_ | refine vcOpsS_sound (by kernel_rfl) ?_ | refine W_ifE fun A B hAx hBx => ?_); refine evT ?_; (first | refine hGx _ ?_ | refine hNx _ ?_ | refine hAx ?_ | refine hBx ?_ | skip)))); (try clear fs))
    refine (h3 _).mono ?_
    rintro d _ ⟨rfl, rfl⟩
    by_cases g5 : a.tm.pl = b.tm.pl
    case neg =>
      rw [decide_eq_false g5]
      (have fs := And.intro @i64.eq_1 (And.intro q1 q2); (repeat (first | refine hGx _ ?_ | refine hNx _ ?_ | refine W_skip ?_ | refine W_exit ?_ | refine W_ret ?_ | refine W_label ?_ | refine W_scope ?_ | refine W_block ?_ | refine W_seq ?_ | ((first | refine tS fun N hNx => ?_ | refine WL_gE rfl rfl (by kernel_rfl) (by kernel_rfl) fun G hGx => ?_ | refine vcOpsS_sound (by kernel_rfl) ?_ | refine W_ifE fun A B hAx hBx => ?_); refine evT ?_; (first | refine hGx _ ?_ | refine hNx _ ?_ | refine hAx ?_ | refine hBx ?_ | skip)))); (try clear fs))
      (first | (show Q .ret _) | (show Q .normal _) | skip); refine hret _ _ (by first | exact .inr rfl | exact .inl rfl) (by first | rfl | assumption | (simp only [put_df, withH_df]; assumption)) ?_; have fs := hdf; refine evT ?_; clear fs
      exact ⟨_, Heap.le_refl _, by rw [decide_eq_false fun h => g5 (tms_ext.1 (bks_ext.1 h).2).2.2.2.2], hH.symm⟩
    rw [decide_eq_true g5]
    (have fs := And.intro @i64.eq_1 (And.intro q1 q2); (repeat (first | refine hGx _ ?_ | refine hNx _ ?_ | refine W_skip ?_ | refine W_exit ?_ | refine W_ret ?_ | refine W_label ?_ | refine W_scope ?_ | refine W_block ?_ | refine W_seq ?_ | ((first | refine tS fun N hNx => ?_ | refine WL_gE rfl rfl (by kernel_rfl) (by kernel_rfl) fun G hGx => ?_ | refine vcOpsS_sound (by kernel_rfl) ?_ | refine W_ifE fun A B hAx hBx => ?_); refine evT ?_; (first | refine hGx _ ?_ | refine hNx _ ?_ | refine hAx ?_ | refine hBx ?_ | skip)))); (try clear fs))
    (first | (show Q .ret _) | (show Q .normal _) | skip); refine hret _ _ (by first | exact .inr rfl | exact .inl rfl) (by first | rfl | assumption | (simp only [put_df, withH_df]; assumption)) ?_; have fs := hdf; refine evT ?_; clear fs
    exact ⟨_, Heap.le_refl _, by rw [decide_eq_true (bks_ext.2 ⟨htk, tms_ext.2 ⟨g1, g2, g3, g4, g5⟩⟩)], hH.symm⟩
  have q1 : ((i : Int) < (a.st.length : Int)) = True := eq_true (by omega)
  have him : i < b.st.length := by omega
  have hgi := map_get (f := stD) hil
  have hgm := map_get (f := stD) him
  have w3 : IntKind.i64.wrap ((i : Int) + 1) = ((i + 1 : Nat) : Int) := by rw [wrap_i64_of (by omega)]; omega
  have hne : a.st[i] ≠ b.st[i] → decide (a = b) = false := fun h => decide_eq_false (by rintro rfl; exact h rfl)
  have hts := take_snocA htk hil him
  have hox := hlx a.st[i] (List.getElem_mem hil)
  obtain ⟨x, hxe⟩ : ∃ x, x = a.st[i] := ⟨_, rfl⟩
  obtain ⟨y, hye⟩ : ∃ x, x = b.st[i] := ⟨_, rfl⟩
  rw [← hxe] at hgi hne hts hox
  rw [← hye] at hgm hne hts
  have hcall : ∀ v, decide (x = y) = v → CallOK Try.prog 98 [.agg (stD x), .agg (stD y)] s.H fun d A => A = Heap.none ∧ d = .val (.bool v) := fun v hv => callOK_eq fun H'' hle'' => by rw [← hv]; exact ksteq_N x y H'' hox
  simp only [stD] at hgi hgm hcall
  (have fs := And.intro f2 (And.intro f5 (And.intro @i64.eq_1 (And.intro hll q1))); (repeat (first | refine hGx _ ?_ | refine hNx _ ?_ | refine W_skip ?_ | refine W_exit ?_ | refine W_ret ?_ | refine W_label ?_ | refine W_scope ?_ | refine W_block ?_ | refine W_seq ?_ | ((first | refine tS fun N hNx => ?_ | refine WL_gE rfl rfl (by kernel_rfl) (by kernel_rfl) fun G hGx => ?_ | refine vcOpsS_sound (by kernel_rfl) ?_ | refine W_ifE fun A B hAx hBx => ?_); refine evT ?_; (first | refine hGx _ ?_ | refine hNx _ ?_ | refine hAx ?_ | refine hBx ?_ | skip)))); (try clear fs))
  by_cases he : x = y
  · refine W_drawE (fun _ _ d A => A = .none ∧ d = .val (.bool true)) (by kernel_rfl) (by kernel_rfl) (by kernel_rfl) fun N hNx => ?_; (have fs := And.intro f2 (And.intro f3 (And.intro f5 (And.intro @i64.eq_1 (And.intro hll (And.intro hml (And.intro hgi (And.intro hgm (And.intro hx (And.intro h00 (And.intro hil him)))))))))); (repeat ((first | refine vcD_g rfl rfl fun G hGx => ?_ | refine vcDS_to ?_); refine evD ?_; (first | refine hGx _ ?_ | refine hNx _ ?_ | skip))); (try clear fs))
    refine ⟨hcall _ (decide_eq_true he), ?_⟩
    (first | refine hGx _ ?_ | refine hNx _ ?_ | skip)
    (have fs := @i64.eq_1; (repeat ((first | refine vcD_g rfl rfl fun G hGx => ?_ | refine vcDS_to ?_); refine evD ?_; (first | refine hGx _ ?_ | refine hNx _ ?_ | skip))); (try clear fs))
    (have fs := And.intro f5 (And.intro @i64.eq_1 w3); (repeat (first | refine hGx _ ?_ | refine hNx _ ?_ | refine W_skip ?_ | refine W_exit ?_ | refine W_ret ?_ | refine W_label ?_ | refine W_scope ?_ | refine W_block ?_ | refine W_seq ?_ | ((first | refine tS fun N hNx => ?_ | refine WL_gE rfl rfl (by kernel_rfl) (by kernel_rfl) fun G hGx => ?_ | refine vcOpsS_sound (by kernel_rfl) ?_ | refine W_ifE fun A B hAx hBx => ?_); refine evT ?_; (first | refine hGx _ ?_ | refine hNx _ ?_ | refine hAx ?_ | refine hBx ?_ | skip)))); (try clear fs))
    exact ⟨hil, hdf, f2, f3, rfl, hH, hts he⟩
  · refine W_drawE (fun _ _ d A => A = .none ∧ d = .val (.bool false)) (by kernel_rfl) (by kernel_rfl) (by kernel_rfl) fun N hNx => ?_; (have fs := And.intro f2 (And.intro f3 (And.intro f5 (And.intro @i64.eq_1 (And.intro hll (And.intro hml (And.intro hgi (And.intro hgm (And.intro hx (And.intro h00 (And.intro hil him)))))))))); (repeat ((first | refine vcD_g rfl rfl fun G hGx => ?_ | refine vcDS_to ?_); refine evD ?_; (first | refine hGx _ ?_ | refine hNx _ ?_ | skip))); (try clear fs))
    refine ⟨hcall _ (decide_eq_false he), ?_⟩
    (first | refine hGx _ ?_ | refine hNx _ ?_ | skip)
    (have fs := @i64.eq_1; (repeat ((first | refine vcD_g rfl rfl fun G hGx => ?_ | refine vcDS_to ?_); refine evD ?_; (first | refine hGx _ ?_ | refine hNx _ ?_ | skip))); (try clear fs))
    (have fs := And.intro f5 (And.intro @i64.eq_1 w3); (repeat (first | refine hGx _ ?_ | refine hNx _ ?_ | refine W_skip ?_ | refine W_exit ?_ | refine W_ret ?_ | refine W_label ?_ | refine W_scope ?_ | refine W_block ?_ | refine W_seq ?_ | ((first | refine tS fun N hNx => ?_ | refine WL_gE rfl rfl (by kernel_rfl) (by kernel_rfl) fun G hGx => ?_ | refine vcOpsS_sound (by kernel_rfl) ?_ | refine W_ifE fun A B hAx hBx => ?_); refine evT ?_; (first | refine hGx _ ?_ | refine hNx _ ?_ | refine hAx ?_ | refine hBx ?_ | skip)))); (try clear fs))
    (first | (show Q .ret _) | (show Q .normal _) | skip); refine hret _ _ (by first | exact .inr rfl | exact .inl rfl) (by first | rfl | assumption | (simp only [put_df, withH_df]; assumption)) ?_; have fs := hdf; refine evT ?_; clear fs
    exact ⟨_, Heap.le_refl _, by rw [hne he], hH.symm⟩
set_option maxHeartbeats 2000000 in
theorem bkeq_N (a b : BkS) (H : Heap) (ha : okBk a) : Does Try.prog 51 [.agg (bkD a), .agg (bkD b)] H fun d H' => d = .val (.bool (decide (a = b))) ∧ H = H' := by
  obtain ⟨⟨hl, hlx⟩, htg, ⟨har, harx⟩, hpl⟩ := ha
  have h1 : ∀ H v, decide (a.st = b.st) = v → CallOK Try.prog 93 [.agg [.fn 92 []], .seq 11 (a.st.map stD), .seq 11 (b.st.map stD)] H fun d A => A = Heap.none ∧ d = .val (.bool v) := fun H v hv => callOK_eq fun H'' hle'' => by rw [← hv]; exact sameStmt_N a.st b.st _ H'' hl hlx fun x y H hx => steq_N x y H hx
  have h2 : ∀ H v, decide (a.tm.tg = b.tm.tg) = v → CallOK Try.prog 42 [.seq 1 (a.tm.tg.map iD), .seq 1 (b.tm.tg.map iD)] H fun d A => A = Heap.none ∧ d = .val (.bool v) := fun H v hv => callOK_eq fun H'' hle'' => by rw [← hv]; exact equalI_at H'' a.tm.tg b.tm.tg htg
  have h3 : ∀ H, CallOK Try.prog 94 [] H fun d A => A = Heap.none ∧ d = .agg [.fn 111 []] := fun H => callOK_eq fun H'' hle'' => bops_N H''
  have h4 : ∀ H v, decide (a.tm.ar = b.tm.ar) = v → CallOK Try.prog 95 [.agg [.fn 111 []], .seq 4 (a.tm.ar.map opD), .seq 4 (b.tm.ar.map opD)] H fun d A => A = Heap.none ∧ d = .val (.bool v) := fun H v hv => callOK_eq fun H'' hle'' => by rw [← hv]; exact sameOperand_N a.tm.ar b.tm.ar _ H'' har harx fun x y H hx => opeq_N x y H hx
  have h5 : ∀ H v, decide (a.tm.pl = b.tm.pl) = v → CallOK Try.prog 96 [.agg (plD a.tm.pl), .agg (plD b.tm.pl)] H fun d A => A = Heap.none ∧ d = .val (.bool v) := fun H v hv => callOK_eq fun H'' hle'' => by rw [← hv]; exact peq_N a.tm.pl b.tm.pl H'' hpl
  simp only [plD] at h5
  refine does_of _ _ Try.func51 rfl rfl Try.ntmps51 Try.results51 (by simp only [List.length_cons, List.length_nil]; omega) fun w0 Q hret => ?_
  (have fs := And.intro @i64.eq_1 @bkD.eq_1; (repeat (first | refine hGx _ ?_ | refine hNx _ ?_ | refine W_skip ?_ | refine W_exit ?_ | refine W_ret ?_ | refine W_label ?_ | refine W_scope ?_ | refine W_block ?_ | refine W_seq ?_ | ((first | refine tS fun N hNx => ?_ | refine WL_gE rfl rfl (by kernel_rfl) (by kernel_rfl) fun G hGx => ?_ | refine vcOpsS_sound (by kernel_rfl) ?_ | refine W_ifE fun A B hAx hBx => ?_); refine evT ?_; (first | refine hGx _ ?_ | refine hNx _ ?_ | refine hAx ?_ | refine hBx ?_ | skip)))); (try clear fs))
  intro c2 hc2 c3 hc3
  refine hNx _ ?_
  have hne : c2 ≠ c3 := Heap.ne_of (Heap.upd_same _ _ _) hc3; have hb0 := (Heap.upd_none.1 hc3).2; refine W_frzp 2 rfl ((Heap.upd_ne hne).trans (Heap.upd_same _ _ _)) rfl ?_; refine W_frzp 3 rfl ((Heap.del_ne hne.symm).trans (Heap.upd_same _ _ _)) rfl ?_; refine W_less H (frz2_le hc2 hb0) ?_; simp only [St.frzp, List.drop]
  (have fs := @i64.eq_1; (repeat (first | refine hGx _ ?_ | refine hNx _ ?_ | refine W_skip ?_ | refine W_exit ?_ | refine W_ret ?_ | refine W_label ?_ | refine W_scope ?_ | refine W_block ?_ | refine W_seq ?_ | ((first | refine tS fun N hNx => ?_ | refine WL_gE rfl rfl (by kernel_rfl) (by kernel_rfl) fun G hGx => ?_ | refine vcOpsS_sound (by kernel_rfl) ?_ | refine W_ifE fun A B hAx hBx => ?_); refine evT ?_; (first | refine hGx _ ?_ | refine hNx _ ?_ | refine hAx ?_ | refine hBx ?_ | skip)))); (try clear fs))
  refine W_wildE (fun t => t == some 8 || t == some 10) (fun _ => false) (fun _ _ _ _ => False) (fun _ _ _ _ _ => False) (by kernel_rfl) (by kernel_rfl) (by kernel_rfl) (by kernel_rfl) (by kernel_rfl) fun N hNx => ?_; refine vcWS_to ?_; have fs := @i64.eq_1; refine evD ?_; (first | refine hGx _ ?_ | refine hNx _ ?_ | skip); (try clear fs)
  intro c5 hc5 c6 hc6
  have n65 : c6 ≠ c5 := (Heap.upd_none.1 hc6).1
  have hc60 := (Heap.upd_none.1 hc6).2
  have e5 : ∀ x y, ((H.upd c5 x).upd c6 y) c5 = some x := fun x y => (Heap.upd_ne n65.symm).trans (Heap.upd_same _ _ _)
  have e6 : ∀ x y z, (((H.upd c5 x).upd c6 y).upd c5 z) c6 = some y := fun x y z => (Heap.upd_ne n65).trans (Heap.upd_same _ _ _)
  (have fs := And.intro @i64.eq_1 (And.intro e5 e6); refine evT ?_; try clear fs); (first | refine hGx _ ?_ | refine hNx _ ?_ | skip)
  simp only [thenQ_n]
  refine W_frzp 5 rfl (b := c5) ((Heap.upd_ne n65.symm).trans (Heap.upd_same _ _ _)) rfl ?_
  refine W_frzp 6 rfl (b := c6) ((Heap.del_ne n65).trans (Heap.upd_same _ _ _)) rfl ?_
  refine W_less H (fun x z hz => ?_) ?_
  · have e1 : x ≠ c5 := fun e => by rw [e, hc5] at hz; cases hz
    have e2 : x ≠ c6 := fun e => by rw [e, hc60] at hz; cases hz
    show ((((((H.upd c5 _).upd c6 _).upd c5 _).upd c6 _).del c5).del c6) x = _
    rw [Heap.del_ne e2, Heap.del_ne e1, Heap.upd_ne e2, Heap.upd_ne e1, Heap.upd_ne e2, Heap.upd_ne e1]
    exact hz
  simp only [St.frzp, List.drop]
  (have fs := @i64.eq_1; (repeat (first | refine hGx _ ?_ | refine hNx _ ?_ | refine W_skip ?_ | refine W_exit ?_ | refine W_ret ?_ | refine W_label ?_ | refine W_scope ?_ | refine W_block ?_ | refine W_seq ?_ | ((first | refine tS fun N hNx => ?_ | refine WL_gE rfl rfl (by kernel_rfl) (by kernel_rfl) fun G hGx => ?_ | refine vcOpsS_sound (by kernel_rfl) ?_ | refine W_ifE fun A B hAx hBx => ?_); refine evT ?_; (first | refine hGx _ ?_ | refine hNx _ ?_ | refine hAx ?_ | refine hBx ?_ | skip)))); (try clear fs))
  by_cases g1 : a.st = b.st
  case neg =>
    refine W_drawE (fun t _ d A => A = .none ∧ d = (.val (.bool false))) (by kernel_rfl) (by kernel_rfl) (by kernel_rfl) fun N hNx => ?_; (have fs := @i64.eq_1; (repeat ((first | refine vcD_g rfl rfl fun G hGx => ?_ | refine vcDS_to ?_); refine evD ?_; (first | refine hGx _ ?_ | refine hNx _ ?_ | skip))); (try clear fs))
    refine ⟨(h1 _ _ (decide_eq_false g1)), ?_⟩
    (first | refine hGx _ ?_ | refine hNx _ ?_ | skip)
    (have fs := @i64.eq_1; (repeat ((first | refine vcD_g rfl rfl fun G hGx => ?_ | refine vcDS_to ?_); refine evD ?_; (first | refine hGx _ ?_ | refine hNx _ ?_ | skip))); (try clear fs))
    (have fs := @i64.eq_1; (repeat (first | refine hGx _ ?_ | refine hNx _ ?_ | refine W_skip ?_ | refine W_exit ?_ | refine W_ret ?_ | refine W_label ?_ | refine W_scope ?_ | refine W_block ?_ | refine W_seq ?_ | ((first | refine tS fun N hNx => ?_ | refine WL_gE rfl rfl (by kernel_rfl) (by kernel_rfl) fun G hGx => ?_ | refine vcOpsS_sound (by kernel_rfl) ?_ | refine W_ifE fun A B hAx hBx => ?_); refine evT ?_; (first | refine hGx _ ?_ | refine hNx _ ?_ | refine hAx ?_ | refine hBx ?_ | skip)))); (try clear fs))
    (first | (show Q .ret _) | (show Q .normal _) | skip); refine hret _ _ (by first | exact .inr rfl | exact .inl rfl) (by first | rfl | assumption | (simp only [put_df, withH_df]; assumption)) ?_; have fs := @i64.eq_1; refine evT ?_; clear fs
    exact ⟨_, Heap.le_refl _, by rw [decide_eq_false fun h => g1 (bks_ext2.1 h).1], rfl⟩
  by_cases g2 : a.tm.k = b.tm.k
  case neg =>
    have q2 : (a.tm.k = b.tm.k) = False := eq_false g2
    refine W_drawE (fun t _ d A => A = .none ∧ d = (.val (.bool true))) (by kernel_rfl) (by kernel_rfl) (by kernel_rfl) fun N hNx => ?_; (have fs := And.intro @i64.eq_1 q2; (repeat ((first | refine vcD_g rfl rfl fun G hGx => ?_ | refine vcDS_to ?_); refine evD ?_; (first | refine hGx _ ?_ | refine hNx _ ?_ | skip))); (try clear fs))
    refine ⟨(h1 _ _ (decide_eq_true g1)), ?_⟩
    (first | refine hGx _ ?_ | refine hNx _ ?_ | skip)
    (have fs := And.intro @i64.eq_1 q2; (repeat ((first | refine vcD_g rfl rfl fun G hGx => ?_ | refine vcDS_to ?_); refine evD ?_; (first | refine hGx _ ?_ | refine hNx _ ?_ | skip))); (try clear fs))
    (have fs := @i64.eq_1; (repeat (first | refine hGx _ ?_ | refine hNx _ ?_ | refine W_skip ?_ | refine W_exit ?_ | refine W_ret ?_ | refine W_label ?_ | refine W_scope ?_ | refine W_block ?_ | refine W_seq ?_ | ((first | refine tS fun N hNx => ?_ | refine WL_gE rfl rfl (by kernel_rfl) (by kernel_rfl) fun G hGx => ?_ | refine vcOpsS_sound (by kernel_rfl) ?_ | refine W_ifE fun A B hAx hBx => ?_); refine evT ?_; (first | refine hGx _ ?_ | refine hNx _ ?_ | refine hAx ?_ | refine hBx ?_ | skip)))); (try clear fs))
    (first | (show Q .ret _) | (show Q .normal _) | skip); refine hret _ _ (by first | exact .inr rfl | exact .inl rfl) (by first | rfl | assumption | (simp only [put_df, withH_df]; assumption)) ?_; have fs := @i64.eq_1; refine evT ?_; clear fs
    exact ⟨_, Heap.le_refl _, by rw [decide_eq_false fun h => g2 (bks_ext2.1 h).2.1], rfl⟩
  have q2 : (a.tm.k = b.tm.k) = True := eq_true g2
  by_cases g3 : a.tm.nm = b.tm.nm
  case neg =>
    have q3 : (a.tm.nm.toList = b.tm.nm.toList) = False := eq_false fun h => g3 (toL_inj.1 h)
    refine W_drawE (fun t _ d A => A = .none ∧ d = (.val (.bool true))) (by kernel_rfl) (by kernel_rfl) (by kernel_rfl) fun N hNx => ?_; (have fs := And.intro @i64.eq_1 (And.intro q2 q3); (repeat ((first | refine vcD_g rfl rfl fun G hGx => ?_ | refine vcDS_to ?_); refine evD ?_; (first | refine hGx _ ?_ | refine hNx _ ?_ | skip))); (try clear fs))
    refine ⟨(h1 _ _ (decide_eq_true g1)), ?_⟩
    (first | refine hGx _ ?_ | refine hNx _ ?_ | skip)
    (have fs := And.intro @i64.eq_1 (And.intro q2 q3); (repeat ((first | refine vcD_g rfl rfl fun G hGx => ?_ | refine vcDS_to ?_); refine evD ?_; (first | refine hGx _ ?_ | refine hNx _ ?_ | skip))); (try clear fs))
    (have fs := @i64.eq_1; (repeat (first | refine hGx _ ?_ | refine hNx _ ?_ | refine W_skip ?_ | refine W_exit ?_ | refine W_ret ?_ | refine W_label ?_ | refine W_scope ?_ | refine W_block ?_ | refine W_seq ?_ | ((first | refine tS fun N hNx => ?_ | refine WL_gE rfl rfl (by kernel_rfl) (by kernel_rfl) fun G hGx => ?_ | refine vcOpsS_sound (by kernel_rfl) ?_ | refine W_ifE fun A B hAx hBx => ?_); refine evT ?_; (first | refine hGx _ ?_ | refine hNx _ ?_ | refine hAx ?_ | refine hBx ?_ | skip)))); (try clear fs))
    (first | (show Q .ret _) | (show Q .normal _) | skip); refine hret _ _ (by first | exact .inr rfl | exact .inl rfl) (by first | rfl | assumption | (simp only [put_df, withH_df]; assumption)) ?_; have fs := @i64.eq_1; refine evT ?_; clear fs
    exact ⟨_, Heap.le_refl _, by rw [decide_eq_false fun h => g3 (bks_ext2.1 h).2.2.1], rfl⟩
  have q3 : (a.tm.nm.toList = b.tm.nm.toList) = True := eq_true (toL_inj.2 g3)
  by_cases g4 : a.tm.tg = b.tm.tg
  case neg =>
    refine W_drawE (fun t _ d A => A = .none ∧ d = (if t = some 16 then .val (.bool true) else .val (.bool false))) (by kernel_rfl) (by kernel_rfl) (by kernel_rfl) fun N hNx => ?_; (have fs := And.intro @i64.eq_1 (And.intro q2 q3); (repeat ((first | refine vcD_g rfl rfl fun G hGx => ?_ | refine vcDS_to ?_); refine evD ?_; (first | refine hGx _ ?_ | refine hNx _ ?_ | skip))); (try clear fs))
    refine ⟨(h1 _ _ (decide_eq_true g1)), ?_⟩
    (first | refine hGx _ ?_ | refine hNx _ ?_ | skip)
    (have fs := And.intro @i64.eq_1 (And.intro q2 q3); (repeat ((first | refine vcD_g rfl rfl fun G hGx => ?_ | refine vcDS_to ?_); refine evD ?_; (first | refine hGx _ ?_ | refine hNx _ ?_ | skip))); (try clear fs))
    refine ⟨(h2 _ _ (decide_eq_false g4)), ?_⟩
    (first | refine hGx _ ?_ | refine hNx _ ?_ | skip)
    (have fs := And.intro @i64.eq_1 (And.intro q2 q3); (repeat ((first | refine vcD_g rfl rfl fun G hGx => ?_ | refine vcDS_to ?_); refine evD ?_; (first | refine hGx _ ?_ | refine hNx _ ?_ | skip))); (try clear fs))
    (have fs := @i64.eq_1; (repeat (first | refine hGx _ ?_ | refine hNx _ ?_ | refine W_skip ?_ | refine W_exit ?_ | refine W_ret ?_ | refine W_label ?_ | refine W_scope ?_ | refine W_block ?_ | refine W_seq ?_ | ((first | refine tS fun N hNx => ?_ | refine WL_gE rfl rfl (by kernel_rfl) (by kernel_rfl) fun G hGx => ?_ | refine vcOpsS_sound (by kernel_rfl) ?_ | refine W_ifE fun A B hAx hBx => ?_); refine evT ?_; (first | refine hGx _ ?_ | refine hNx _ ?_ | refine hAx ?_ | refine hBx ?_ | skip)))); (try clear fs))
    (first | (show Q .ret _) | (show Q .normal _) | skip); refine hret _ _ (by first | exact .inr rfl | exact .inl rfl) (by first | rfl | assumption | (simp only [put_df, withH_df]; assumption)) ?_; have fs := @i64.eq_1; refine evT ?_; clear fs
    exact ⟨_, Heap.le_refl _, by rw [decide_eq_false fun h => g4 (bks_ext2.1 h).2.2.2.1], rfl⟩
  by_cases g5 : a.tm.ar = b.tm.ar
  case neg =>
    refine W_drawE (fun t _ d A => A = .none ∧ d = (if t = some 16 then .val (.bool true) else if t = some 36 then .val (.bool true) else if t = some 39 then .agg [.fn 111 []] else .val (.bool false))) (by kernel_rfl) (by kernel_rfl) (by kernel_rfl) fun N hNx => ?_; (have fs := And.intro @i64.eq_1 (And.intro q2 q3); (repeat ((first | refine vcD_g rfl rfl fun G hGx => ?_ | refine vcDS_to ?_); refine evD ?_; (first | refine hGx _ ?_ | refine hNx _ ?_ | skip))); (try clear fs))
    refine ⟨(h1 _ _ (decide_eq_true g1)), ?_⟩
    (first | refine hGx _ ?_ | refine hNx _ ?_ | skip)
    (have fs := And.intro @i64.eq_1 (And.intro q2 q3); (repeat ((first | refine vcD_g rfl rfl fun G hGx => ?_ | refine vcDS_to ?_); refine evD ?_; (first | refine hGx _ ?_ | refine hNx _ ?_ | skip))); (try clear fs))
    refine ⟨(h2 _ _ (decide_eq_true g4)), ?_⟩
    (first | refine hGx _ ?_ | refine hNx _ ?_ | skip)
    (have fs := And.intro @i64.eq_1 (And.intro q2 q3); (repeat ((first | refine vcD_g rfl rfl fun G hGx => ?_ | refine vcDS_to ?_); refine evD ?_; (first | refine hGx _ ?_ | refine hNx _ ?_ | skip))); (try clear fs))
    refine ⟨h3 _, ?_⟩
    (first | refine hGx _ ?_ | refine hNx _ ?_ | skip)
    (have fs := And.intro @i64.eq_1 (And.intro q2 q3); (repeat ((first | refine vcD_g rfl rfl fun G hGx => ?_ | refine vcDS_to ?_); refine evD ?_; (first | refine hGx _ ?_ | refine hNx _ ?_ | skip))); (try clear fs))
    refine ⟨(h4 _ _ (decide_eq_false g5)), ?_⟩
    (first | refine hGx _ ?_ | refine hNx _ ?_ | skip)
    (have fs := And.intro @i64.eq_1 (And.intro q2 q3); (repeat ((first | refine vcD_g rfl rfl fun G hGx => ?_ | refine vcDS_to ?_); refine evD ?_; (first | refine hGx _ ?_ | refine hNx _ ?_ | skip))); (try clear fs))
    (have fs := @i64.eq_1; (repeat (first | refine hGx _ ?_ | refine hNx _ ?_ | refine W_skip ?_ | refine W_exit ?_ | refine W_ret ?_ | refine W_label ?_ | refine W_scope ?_ | refine W_block ?_ | refine W_seq ?_ | ((first | refine tS fun N hNx => ?_ | refine WL_gE rfl rfl (by kernel_rfl) (by kernel_rfl) fun G hGx => ?_ | refine vcOpsS_sound (by kernel_rfl) ?_ | refine W_ifE fun A B hAx hBx => ?_); refine evT ?_; (first | refine hGx _ ?_ | refine hNx _ ?_ | refine hAx ?_ | refine hBx ?_ | skip)))); (try clear fs))
    (first | (show Q .ret _) | (show Q .normal _) | skip); refine hret _ _ (by first | exact .inr rfl | exact .inl rfl) (by first | rfl | assumption | (simp only [put_df, withH_df]; assumption)) ?_; have fs := @i64.eq_1; refine evT ?_; clear fs
    exact ⟨_, Heap.le_refl _, by rw [decide_eq_false fun h => g5 (bks_ext2.1 h).2.2.2.2.1], rfl⟩
  by_cases g6 : a.tm.pl = b.tm.pl
  case neg =>
    refine W_drawE (fun t _ d A => A = .none ∧ d = (if t = some 16 then .val (.bool true) else if t = some 36 then .val (.bool true) else if t = some 39 then .agg [.fn 111 []] else if t = some 44 then .val (.bool true) else .val (.bool false))) (by kernel_rfl) (by kernel_rfl) (by kernel_rfl) fun N hNx => ?_; (have fs := And.intro @i64.eq_1 (And.intro q2 q3); (repeat ((first | refine vcD_g rfl rfl fun G hGx => ?_ | refine vcDS_to ?_); refine evD ?_; (first | refine hGx _ ?_ | refine hNx _ ?_ | skip))); (try clear fs))
    refine ⟨(h1 _ _ (decide_eq_true g1)), ?_⟩
    (first | refine hGx _ ?_ | refine hNx _ ?_ | skip)
    (have fs := And.intro @i64.eq_1 (And.intro q2 q3); (repeat ((first | refine vcD_g rfl rfl fun G hGx => ?_ | refine vcDS_to ?_); refine evD ?_; (first | refine hGx _ ?_ | refine hNx _ ?_ | skip))); (try clear fs))
    refine ⟨(h2 _ _ (decide_eq_true g4)), ?_⟩
    (first | refine hGx _ ?_ | refine hNx _ ?_ | skip)
    (have fs := And.intro @i64.eq_1 (And.intro q2 q3); (repeat ((first | refine vcD_g rfl rfl fun G hGx => ?_ | refine vcDS_to ?_); refine evD ?_; (first | refine hGx _ ?_ | refine hNx _ ?_ | skip))); (try clear fs))
    refine ⟨h3 _, ?_⟩
    (first | refine hGx _ ?_ | refine hNx _ ?_ | skip)
    (have fs := And.intro @i64.eq_1 (And.intro q2 q3); (repeat ((first | refine vcD_g rfl rfl fun G hGx => ?_ | refine vcDS_to ?_); refine evD ?_; (first | refine hGx _ ?_ | refine hNx _ ?_ | skip))); (try clear fs))
    refine ⟨(h4 _ _ (decide_eq_true g5)), ?_⟩
    (first | refine hGx _ ?_ | refine hNx _ ?_ | skip)
    (have fs := And.intro @i64.eq_1 (And.intro q2 q3); (repeat ((first | refine vcD_g rfl rfl fun G hGx => ?_ | refine vcDS_to ?_); refine evD ?_; (first | refine hGx _ ?_ | refine hNx _ ?_ | skip))); (try clear fs))
    refine ⟨(h5 _ _ (decide_eq_false g6)), ?_⟩
    (first | refine hGx _ ?_ | refine hNx _ ?_ | skip)
    (have fs := And.intro @i64.eq_1 (And.intro q2 q3); (repeat ((first | refine vcD_g rfl rfl fun G hGx => ?_ | refine vcDS_to ?_); refine evD ?_; (first | refine hGx _ ?_ | refine hNx _ ?_ | skip))); (try clear fs))
    (have fs := @i64.eq_1; (repeat (first | refine hGx _ ?_ | refine hNx _ ?_ | refine W_skip ?_ | refine W_exit ?_ | refine W_ret ?_ | refine W_label ?_ | refine W_scope ?_ | refine W_block ?_ | refine W_seq ?_ | ((first | refine tS fun N hNx => ?_ | refine WL_gE rfl rfl (by kernel_rfl) (by kernel_rfl) fun G hGx => ?_ | refine vcOpsS_sound (by kernel_rfl) ?_ | refine W_ifE fun A B hAx hBx => ?_); refine evT ?_; (first | refine hGx _ ?_ | refine hNx _ ?_ | refine hAx ?_ | refine hBx ?_ | skip)))); (try clear fs))
    (first | (show Q .ret _) | (show Q .normal _) | skip); refine hret _ _ (by first | exact .inr rfl | exact .inl rfl) (by first | rfl | assumption | (simp only [put_df, withH_df]; assumption)) ?_; have fs := @i64.eq_1; refine evT ?_; clear fs
    exact ⟨_, Heap.le_refl _, by rw [decide_eq_false fun h => g6 (bks_ext2.1 h).2.2.2.2.2], rfl⟩
  · skip
    refine W_drawE (fun t _ d A => A = .none ∧ d = (if t = some 16 then .val (.bool true) else if t = some 36 then .val (.bool true) else if t = some 39 then .agg [.fn 111 []] else if t = some 44 then .val (.bool true) else .val (.bool true))) (by kernel_rfl) (by kernel_rfl) (by kernel_rfl) fun N hNx => ?_; (have fs := And.intro @i64.eq_1 (And.intro q2 q3); (repeat ((first | refine vcD_g rfl rfl fun G hGx => ?_ | refine vcDS_to ?_); refine evD ?_; (first | refine hGx _ ?_ | refine hNx _ ?_ | skip))); (try clear fs))
    refine ⟨(h1 _ _ (decide_eq_true g1)), ?_⟩
    (first | refine hGx _ ?_ | refine hNx _ ?_ | skip)
    (have fs := And.intro @i64.eq_1 (And.intro q2 q3); (repeat ((first | refine vcD_g rfl rfl fun G hGx => ?_ | refine vcDS_to ?_); refine evD ?_; (first | refine hGx _ ?_ | refine hNx _ ?_ | skip))); (try clear fs))
    refine ⟨(h2 _ _ (decide_eq_true g4)), ?_⟩
    (first | refine hGx _ ?_ | refine hNx _ ?_ | skip)
    (have fs := And.intro @i64.eq_1 (And.intro q2 q3); (repeat ((first | refine vcD_g rfl rfl fun G hGx => ?_ | refine vcDS_to ?_); refine evD ?_; (first | refine hGx _ ?_ | refine hNx _ ?_ | skip))); (try clear fs))
    refine ⟨h3 _, ?_⟩
    (first | refine hGx _ ?_ | refine hNx _ ?_ | skip)
    (have fs := And.intro @i64.eq_1 (And.intro q2 q3); (repeat ((first | refine vcD_g rfl rfl fun G hGx => ?_ | refine vcDS_to ?_); refine evD ?_; (first | refine hGx _ ?_ | refine hNx _ ?_ | skip))); (try clear fs))
    refine ⟨(h4 _ _ (decide_eq_true g5)), ?_⟩
    (first | refine hGx _ ?_ | refine hNx _ ?_ | skip)
    (have fs := And.intro @i64.eq_1 (And.intro q2 q3); (repeat ((first | refine vcD_g rfl rfl fun G hGx => ?_ | refine vcDS_to ?_); refine evD ?_; (first | refine hGx _ ?_ | refine hNx _ ?_ | skip))); (try clear fs))
    refine ⟨(h5 _ _ (decide_eq_true g6)), ?_⟩
    (first | refine hGx _ ?_ | refine hNx _ ?_ | skip)
    (have fs := And.intro @i64.eq_1 (And.intro q2 q3); (repeat ((first | refine vcD_g rfl rfl fun G hGx => ?_ | refine vcDS_to ?_); refine evD ?_; (first | refine hGx _ ?_ | refine hNx _ ?_ | skip))); (try clear fs))
    (have fs := @i64.eq_1; (repeat (first | refine hGx _ ?_ | refine hNx _ ?_ | refine W_skip ?_ | refine W_exit ?_ | refine W_ret ?_ | refine W_label ?_ | refine W_scope ?_ | refine W_block ?_ | refine W_seq ?_ | ((first | refine tS fun N hNx => ?_ | refine WL_gE rfl rfl (by kernel_rfl) (by kernel_rfl) fun G hGx => ?_ | refine vcOpsS_sound (by kernel_rfl) ?_ | refine W_ifE fun A B hAx hBx => ?_); refine evT ?_; (first | refine hGx _ ?_ | refine hNx _ ?_ | refine hAx ?_ | refine hBx ?_ | skip)))); (try clear fs))
    (first | (show Q .ret _) | (show Q .normal _) | skip); refine hret _ _ (by first | exact .inr rfl | exact .inl rfl) (by first | rfl | assumption | (simp only [put_df, withH_df]; assumption)) ?_; have fs := @i64.eq_1; refine evT ?_; clear fs
    exact ⟨_, Heap.le_refl _, by rw [decide_eq_true (bks_ext2.2 ⟨g1, g2, g3, g4, g5, g6⟩)], rfl⟩
set_option maxHeartbeats 2000000 in
theorem bdeq_N (a b : BdS) (H : Heap) (ha : okBd a) : Does Try.prog 17 [.agg (bdD a), .agg (bdD b)] H fun d H' => d = .val (.bool (decide (a = b))) ∧ H = H' := by
  obtain ⟨hrg, hol, ⟨hty, htyx⟩, hlc, hbl, hblx⟩ := ha
  have h1 := fun H => equalS_at H a.rg b.rg hrg
  have h2 := fun H => equalP_at H a.ol b.ol hol
  have h3 := fun H => sameType_N a.ty b.ty 37 H hty htyx fun x y H hx => teq_N x y H hx
  have h4 := fun H => equalL_at H a.lc b.lc hlc
  have h5 := fun H => sameBlock_N a.bl b.bl 51 H hbl hblx fun x y H hx => bkeq_N x y H hx
  refine does_of _ _ Try.func17 rfl rfl Try.ntmps17 Try.results17 (by simp only [List.length_cons, List.length_nil]; omega) fun w0 Q hret => ?_
  (have fs := And.intro @i64.eq_1 @bdD.eq_1; (repeat (first | refine hGx _ ?_ | refine hNx _ ?_ | refine W_skip ?_ | refine W_exit ?_ | refine W_ret ?_ | refine W_label ?_ | refine W_scope ?_ | refine W_block ?_ | refine W_seq ?_ | ((first | refine tS fun N hNx => ?_ | refine WL_gE rfl rfl (by kernel_rfl) (by kernel_rfl) fun G hGx => ?_ | refine vcOpsS_sound (by kernel_rfl) ?_ | refine W_ifE fun A B hAx hBx => ?_); refine evT ?_; (first | refine hGx _ ?_ | refine hNx _ ?_ | refine hAx ?_ | refine hBx ?_ | skip)))); (try clear fs))
  intro c2 hc2 c3 hc3
  refine hNx _ ?_
  have hne : c2 ≠ c3 := Heap.ne_of (Heap.upd_same _ _ _) hc3; have hb0 := (Heap.upd_none.1 hc3).2; refine W_frzp 2 rfl ((Heap.upd_ne hne).trans (Heap.upd_same _ _ _)) rfl ?_; refine W_frzp 3 rfl ((Heap.del_ne hne.symm).trans (Heap.upd_same _ _ _)) rfl ?_; refine W_less H (frz2_le hc2 hb0) ?_; simp only [St.frzp, List.drop]
  by_cases g1 : a.nm = b.nm
  case neg =>
    have q1 : (a.nm.toList = b.nm.toList) = False := eq_false fun h => g1 (toL_inj.1 h)
    (have fs := And.intro @i64.eq_1 (And.intro @strD.eq_1 q1); (repeat (first | refine hGx _ ?_ | refine hNx _ ?_ | refine W_skip ?_ | refine W_exit ?_ | refine W_ret ?_ | refine W_label ?_ | refine W_scope ?_ | refine W_block ?_ | refine W_seq ?_ | ((first | refine tS fun N hNx => ?_ | refine WL_gE rfl rfl (by kernel_rfl) (by kernel_rfl) fun G hGx => ?_ | refine vcOpsS_sound (by kernel_rfl) ?_ | refine W_ifE fun A B hAx hBx => ?_); refine evT ?_; (first | refine hGx _ ?_ | refine hNx _ ?_ | refine hAx ?_ | refine hBx ?_ | skip)))); (try clear fs))
    (first | (show Q .ret _) | (show Q .normal _) | skip); refine hret _ _ (by first | exact .inr rfl | exact .inl rfl) (by first | rfl | assumption | (simp only [put_df, withH_df]; assumption)) ?_; have fs := @i64.eq_1; refine evT ?_; clear fs
    exact ⟨_, Heap.le_refl _, by rw [decide_eq_false fun h => g1 (bds_ext.1 h).1], rfl⟩
  have q1 : (a.nm.toList = b.nm.toList) = True := eq_true (toL_inj.2 g1)
  by_cases g2 : a.ag = b.ag
  case neg =>
    have q2 : (a.ag = b.ag) = False := eq_false g2
    (have fs := And.intro @i64.eq_1 (And.intro @strD.eq_1 (And.intro q1 q2)); (repeat (first | refine hGx _ ?_ | refine hNx _ ?_ | refine W_skip ?_ | refine W_exit ?_ | refine W_ret ?_ | refine W_label ?_ | refine W_scope ?_ | refine W_block ?_ | refine W_seq ?_ | ((first | refine tS fun N hNx => ?_ | refine WL_gE rfl rfl (by kernel_rfl) (by kernel_rfl) fun G hGx => ?_ | refine vcOpsS_sound (by kernel_rfl) ?_ | refine W_ifE fun A B hAx hBx => ?_); refine evT ?_; (first | refine hGx _ ?_ | refine hNx _ ?_ | refine hAx ?_ | refine hBx ?_ | skip)))); (try clear fs))
    (first | (show Q .ret _) | (show Q .normal _) | skip); refine hret _ _ (by first | exact .inr rfl | exact .inl rfl) (by first | rfl | assumption | (simp only [put_df, withH_df]; assumption)) ?_; have fs := @i64.eq_1; refine evT ?_; clear fs
    exact ⟨_, Heap.le_refl _, by rw [decide_eq_false fun h => g2 (bds_ext.1 h).2.1], rfl⟩
  have q2 : (a.ag = b.ag) = True := eq_true g2
  (have fs := And.intro @i64.eq_1 (And.intro @strD.eq_1 (And.intro q1 q2)); (repeat (first | refine hGx _ ?_ | refine hNx _ ?_ | refine W_skip ?_ | refine W_exit ?_ | refine W_ret ?_ | refine W_label ?_ | refine W_scope ?_ | refine W_block ?_ | refine W_seq ?_ | ((first | refine tS fun N hNx => ?_ | refine WL_gE rfl rfl (by kernel_rfl) (by kernel_rfl) fun G hGx => ?_ | refine vcOpsS_sound (by kernel_rfl) ?_ | refine W_ifE fun A B hAx hBx => ?_); refine evT ?_; (first | refine hGx _ ?_ | refine hNx _ ?_ | refine hAx ?_ | refine hBx ?_ | skip)))); (try clear fs))
  refine (h1 _).mono ?_
  rintro d _ ⟨rfl, rfl⟩
  by_cases g3 : a.rg = b.rg
  case neg =>
    rw [decide_eq_false g3]
    (have fs := And.intro @i64.eq_1 (And.intro @strD.eq_1 (And.intro q1 q2)); (repeat (first | refine hGx _ ?_ | refine hNx _ ?_ | refine W_skip ?_ | refine W_exit ?_ | refine W_ret ?_ | refine W_label ?_ | refine W_scope ?_ | refine W_block ?_ | refine W_seq ?_ | ((first | refine tS fun N hNx => ?_ | refine WL_gE rfl rfl (by kernel_rfl) (by kernel_rfl) fun G hGx => ?_ | refine vcOpsS_sound (by kernel_rfl) ?_ | refine W_ifE fun A B hAx hBx => ?_); refine evT ?_; (first | refine hGx _ ?_ | refine hNx _ ?_ | refine hAx ?_ | refine hBx ?_ | skip)))); (try clear fs))
    (first | (show Q .ret _) | (show Q .normal _) | skip); refine hret _ _ (by first | exact .inr rfl | exact .inl rfl) (by first | rfl | assumption | (simp only [put_df, withH_df]; assumption)) ?_; have fs := @i64.eq_1; refine evT ?_; clear fs
    exact ⟨_, Heap.le_refl _, by rw [decide_eq_false fun h => g3 (bds_ext.1 h).2.2.1], rfl⟩
  rw [decide_eq_true g3]
  (have fs := And.intro @i64.eq_1 (And.intro @strD.eq_1 (And.intro q1 q2)); (repeat (first | refine hGx _ ?_ | refine hNx _ ?_ | refine W_skip ?_ | refine W_exit ?_ | refine W_ret ?_ | refine W_label ?_ | refine W_scope ?_ | refine W_block ?_ | refine W_seq ?_ | ((first | refine tS fun N hNx => ?_ | refine WL_gE rfl rfl (by kernel_rfl) (by kernel_rfl) fun G hGx => ?_ | refine vcOpsS_sound (by kernel_rfl) ?_ | refine W_ifE fun A B hAx hBx => ?_); refine evT ?_; (first | refine hGx _ ?_ | refine hNx _ ?_ | refine hAx ?_ | refine hBx ?_ | skip)))); (try clear fs))
  refine (h2 _).mono ?_
  rintro d _ ⟨rfl, rfl⟩
  by_cases g4 : a.ol = b.ol
  case neg =>
    rw [decide_eq_false g4]
    (have fs := And.intro @i64.eq_1 (And.intro @strD.eq_1 (And.intro q1 q2)); (repeat (first | refine hGx _ ?_ | refine hNx _ ?_ | refine W_skip ?_ | refine W_exit ?_ | refine W_ret ?_ | refine W_label ?_ | refine W_scope ?_ | refine W_block ?_ | refine W_seq ?_ | ((first | refine tS fun N hNx => ?_ | refine WL_gE rfl rfl (by kernel_rfl) (by kernel_rfl) fun G hGx => ?_ | refine vcOpsS_sound (by kernel_rfl) ?_ | refine W_ifE fun A B hAx hBx => ?_); refine evT ?_; (first | refine hGx _ ?_ | refine hNx _ ?_ | refine hAx ?_ | refine hBx ?_ | skip)))); (try clear fs))
    (first | (show Q .ret _) | (show Q .normal _) | skip); refine hret _ _ (by first | exact .inr rfl | exact .inl rfl) (by first | rfl | assumption | (simp only [put_df, withH_df]; assumption)) ?_; have fs := @i64.eq_1; refine evT ?_; clear fs
    exact ⟨_, Heap.le_refl _, by rw [decide_eq_false fun h => g4 (bds_ext.1 h).2.2.2.1], rfl⟩
  rw [decide_eq_true g4]
  (have fs := And.intro @i64.eq_1 (And.intro @strD.eq_1 (And.intro q1 q2)); (repeat (first | refine hGx _ ?_ | refine hNx _ ?_ | refine W_skip ?_ | refine W_exit ?_ | refine W_ret ?_ | refine W_label ?_ | refine W_scope ?_ | refine W_block ?_ | refine W_seq ?_ | ((first | refine tS fun N hNx => ?_ | refine WL_gE rfl rfl (by kernel_rfl) (by kernel_rfl) fun G hGx => ?_ | refine vcOpsS_sound (by kernel_rfl) ?_ | refine W_ifE fun A B hAx hBx => ?_); refine evT ?_; (first | refine hGx _ ?_ | refine hNx _ ?_ | refine hAx ?_ | refine hBx ?_ | skip)))); (try clear fs))
  refine (h3 _).mono ?_
  rintro d _ ⟨rfl, rfl⟩
  by_cases g5 : a.ty = b.ty
  case neg =>
    rw [decide_eq_false g5]
    (have fs := And.intro @i64.eq_1 (And.intro @strD.eq_1 (And.intro q1 q2)); (repeat (first | refine hGx _ ?_ | refine hNx _ ?_ | refine W_skip ?_ | refine W_exit ?_ | refine W_ret ?_ | refine W_label ?_ | refine W_scope ?_ | refine W_block ?_ | refine W_seq ?_ | ((first | refine tS fun N hNx => ?_ | refine WL_gE rfl rfl (by kernel_rfl) (by kernel_rfl) fun G hGx => ?_ | refine vcOpsS_sound (by kernel_rfl) ?_ | refine W_ifE fun A B hAx hBx => ?_); refine evT ?_; (first | refine hGx _ ?_ | refine hNx _ ?_ | refine hAx ?_ | refine hBx ?_ | skip)))); (try clear fs))
    (first | (show Q .ret _) | (show Q .normal _) | skip); refine hret _ _ (by first | exact .inr rfl | exact .inl rfl) (by first | rfl | assumption | (simp only [put_df, withH_df]; assumption)) ?_; have fs := @i64.eq_1; refine evT ?_; clear fs
    exact ⟨_, Heap.le_refl _, by rw [decide_eq_false fun h => g5 (bds_ext.1 h).2.2.2.2.1], rfl⟩
  rw [decide_eq_true g5]
  (have fs := And.intro @i64.eq_1 (And.intro @strD.eq_1 (And.intro q1 q2)); (repeat (first | refine hGx _ ?_ | refine hNx _ ?_ | refine W_skip ?_ | refine W_exit ?_ | refine W_ret ?_ | refine W_label ?_ | refine W_scope ?_ | refine W_block ?_ | refine W_seq ?_ | ((first | refine tS fun N hNx => ?_ | refine WL_gE rfl rfl (by kernel_rfl) (by kernel_rfl) fun G hGx => ?_ | refine vcOpsS_sound (by kernel_rfl) ?_ | refine W_ifE fun A B hAx hBx => ?_); refine evT ?_; (first | refine hGx _ ?_ | refine hNx _ ?_ | refine hAx ?_ | refine hBx ?_ | skip)))); (try clear fs))
  refine (h4 _).mono ?_
  rintro d _ ⟨rfl, rfl⟩
  by_cases g6 : a.lc = b.lc
  case neg =>
    rw [decide_eq_false g6]
    (have fs := And.intro @i64.eq_1 (And.intro @strD.eq_1 (And.intro q1 q2)); (repeat (first | refine hGx _ ?_ | refine hNx _ ?_ | refine W_skip ?_ | refine W_exit ?_ | refine W_ret ?_ | refine W_label ?_ | refine W_scope ?_ | refine W_block ?_ | refine W_seq ?_ | ((first | refine tS fun N hNx => ?_ | refine WL_gE rfl rfl (by kernel_rfl) (by kernel_rfl) fun G hGx => ?_ | refine vcOpsS_sound (by kernel_rfl) ?_ | refine W_ifE fun A B hAx hBx => ?_); refine evT ?_; (first | refine hGx _ ?_ | refine hNx _ ?_ | refine hAx ?_ | refine hBx ?_ | skip)))); (try clear fs))
    (first | (show Q .ret _) | (show Q .normal _) | skip); refine hret _ _ (by first | exact .inr rfl | exact .inl rfl) (by first | rfl | assumption | (simp only [put_df, withH_df]; assumption)) ?_; have fs := @i64.eq_1; refine evT ?_; clear fs
    exact ⟨_, Heap.le_refl _, by rw [decide_eq_false fun h => g6 (bds_ext.1 h).2.2.2.2.2.1], rfl⟩
  rw [decide_eq_true g6]
  (have fs := And.intro @i64.eq_1 (And.intro @strD.eq_1 (And.intro q1 q2)); (repeat (first | refine hGx _ ?_ | refine hNx _ ?_ | refine W_skip ?_ | refine W_exit ?_ | refine W_ret ?_ | refine W_label ?_ | refine W_scope ?_ | refine W_block ?_ | refine W_seq ?_ | ((first | refine tS fun N hNx => ?_ | refine WL_gE rfl rfl (by kernel_rfl) (by kernel_rfl) fun G hGx => ?_ | refine vcOpsS_sound (by kernel_rfl) ?_ | refine W_ifE fun A B hAx hBx => ?_); refine evT ?_; (first | refine hGx _ ?_ | refine hNx _ ?_ | refine hAx ?_ | refine hBx ?_ | skip)))); (try clear fs))
  refine (h5 _).mono ?_
  rintro d _ ⟨rfl, rfl⟩
  by_cases g7 : a.bl = b.bl
  case neg =>
    rw [decide_eq_false g7]
    (have fs := And.intro @i64.eq_1 (And.intro @strD.eq_1 (And.intro q1 q2)); (repeat (first | refine hGx _ ?_ | refine hNx _ ?_ | refine W_skip ?_ | refine W_exit ?_ | refine W_ret ?_ | refine W_label ?_ | refine W_scope ?_ | refine W_block ?_ | refine W_seq ?_ | ((first | refine tS fun N hNx => ?_ | refine WL_gE rfl rfl (by kernel_rfl) (by kernel_rfl) fun G hGx => ?_ | refine vcOpsS_sound (by kernel_rfl) ?_ | refine W_ifE fun A B hAx hBx => ?_); refine evT ?_; (first | refine hGx _ ?_ | refine hNx _ ?_ | refine hAx ?_ | refine hBx ?_ | skip)))); (try clear fs))
    (first | (show Q .ret _) | (show Q .normal _) | skip); refine hret _ _ (by first | exact .inr rfl | exact .inl rfl) (by first | rfl | assumption | (simp only [put_df, withH_df]; assumption)) ?_; have fs := @i64.eq_1; refine evT ?_; clear fs
    exact ⟨_, Heap.le_refl _, by rw [decide_eq_false fun h => g7 (bds_ext.1 h).2.2.2.2.2.2], rfl⟩
  rw [decide_eq_true g7]
  (have fs := And.intro @i64.eq_1 (And.intro @strD.eq_1 (And.intro q1 q2)); (repeat (first | refine hGx _ ?_ | refine hNx _ ?_ | refine W_skip ?_ | refine W_exit ?_ | refine W_ret ?_ | refine W_label ?_ | refine W_scope ?_ | refine W_block ?_ | refine W_seq ?_ | ((first | refine tS fun N hNx => ?_ | refine WL_gE rfl rfl (by kernel_rfl) (by kernel_rfl) fun G hGx => ?_ | refine vcOpsS_sound (by kernel_rfl) ?_ | refine W_ifE fun A B hAx hBx => ?_); refine evT ?_; (first | refine hGx _ ?_ | refine hNx _ ?_ | refine hAx ?_ | refine hBx ?_ | skip)))); (try clear fs))
  (first | (show Q .ret _) | (show Q .normal _) | skip); refine hret _ _ (by first | exact .inr rfl | exact .inl rfl) (by first | rfl | assumption | (simp only [put_df, withH_df]; assumption)) ?_; have fs := @i64.eq_1; refine evT ?_; clear fs
  exact ⟨_, Heap.le_refl _, by rw [decide_eq_true (bds_ext.2 ⟨g1, g2, g3, g4, g5, g6, g7⟩)], rfl⟩
theorem bds_ext3 {a b : BdS} : a = b ↔ a.nm = b.nm ∧ a.ag = b.ag ∧ a.rg = b.rg ∧ a.ol = b.ol ∧ a.ty.length = b.ty.length ∧ a.lc.length = b.lc.length ∧ a.bl.length = b.bl.length ∧ (a.ty = b.ty ∧ a.lc = b.lc ∧ a.bl = b.bl) := by
  rw [bds_ext]
  constructor
  · rintro ⟨h1, h2, h3, h4, h5, h6, h7⟩; exact ⟨h1, h2, h3, h4, by rw [h5], by rw [h6], by rw [h7], h5, h6, h7⟩
  · rintro ⟨h1, h2, h3, h4, _, _, _, h5, h6, h7⟩; exact ⟨h1, h2, h3, h4, h5, h6, h7⟩
set_option maxHeartbeats 2000000 in
theorem kbdeq_N (a b : BdS) (H : Heap) (ha : okBd a) : Does Try.prog 18 [.agg (bdD a), .agg (bdD b)] H fun d H' => d = .val (.bool (decide (a = b))) ∧ H = H' := by
  obtain ⟨hrg, hol, ⟨hty, htyx⟩, hlc, hbl, hblx⟩ := ha
  have h1 := fun H => ksameS_at H a.rg b.rg hrg
  have h2 := fun H => ksameP_at H a.ol b.ol hol
  have hET := eq_true eqTy_local
  unfold big at hty hlc hbl
  have ht1 : (List.map tyD a.ty).length = a.ty.length := List.length_map _
  have ht2 : (List.map tyD b.ty).length = b.ty.length := List.length_map _
  have hl1 : (List.map lcD a.lc).length = a.lc.length := List.length_map _
  have hl2 : (List.map lcD b.lc).length = b.lc.length := List.length_map _
  have hb1 : (List.map bkD a.bl).length = a.bl.length := List.length_map _
  have hb2 : (List.map bkD b.bl).length = b.bl.length := List.length_map _
  refine does_of _ _ Try.func18 rfl rfl Try.ntmps18 Try.results18 (by simp only [List.length_cons, List.length_nil]; omega) fun w0 Q hret => ?_
  (have fs := And.intro @i64.eq_1 @bdD.eq_1; (repeat (first | refine hGx _ ?_ | refine hNx _ ?_ | refine W_skip ?_ | refine W_exit ?_ | refine W_ret ?_ | refine W_label ?_ | refine W_scope ?_ | refine W_block ?_ | refine W_seq ?_ | ((first | refine tS fun N hNx => ?_ | refine WL_gE rfl rfl (by kernel_rfl) (by kernel_rfl) fun G hGx => ?_ | refine vcOpsS_sound (by kernel_rfl) ?_ | refine W_ifE fun A B hAx hBx => ?_); refine evT ?_; (first | refine hGx _ ?_ | refine hNx _ ?_ | refine hAx ?_ | refine hBx ?_ | skip)))); (try clear fs))
  intro c2 hc2 c3 hc3
  refine hNx _ ?_
  have hne : c2 ≠ c3 := Heap.ne_of (Heap.upd_same _ _ _) hc3; have hb0 := (Heap.upd_none.1 hc3).2; refine W_frzp 2 rfl ((Heap.upd_ne hne).trans (Heap.upd_same _ _ _)) rfl ?_; refine W_frzp 3 rfl ((Heap.del_ne hne.symm).trans (Heap.upd_same _ _ _)) rfl ?_; refine W_less H (frz2_le hc2 hb0) ?_; simp only [St.frzp, List.drop]
  by_cases g1 : a.nm = b.nm
  case neg =>
    have q1 : (a.nm.toList = b.nm.toList) = False := eq_false fun h => g1 (toL_inj.1 h)
    (have fs := And.intro @i64.eq_1 (And.intro @strD.eq_1 (And.intro ht1 (And.intro ht2 (And.intro hl1 (And.intro hl2 (And.intro hb1 (And.intro hb2 q1))))))); (repeat (first | refine hGx _ ?_ | refine hNx _ ?_ | refine W_skip ?_ | refine W_exit ?_ | refine W_ret ?_ | refine W_label ?_ | refine W_scope ?_ | refine W_block ?_ | refine W_seq ?_ | ((first | refine tS fun N hNx => ?_ | refine WL_gE rfl rfl (by kernel_rfl) (by kernel_rfl) fun G hGx => ?_ | refine vcOpsS_sound (by kernel_rfl) ?_ | refine W_ifE fun A B hAx hBx => ?_); refine evT ?_; (first | refine hGx _ ?_ | refine hNx _ ?_ | refine hAx ?_ | refine hBx ?_ | skip)))); (try clear fs))
    (first | (show Q .ret _) | (show Q .normal _) | skip); refine hret _ _ (by first | exact .inr rfl | exact .inl rfl) (by first | rfl | assumption | (simp only [put_df, withH_df]; assumption)) ?_; have fs := @i64.eq_1; refine evT ?_; clear fs
    exact ⟨_, Heap.le_refl _, by rw [decide_eq_false fun h => g1 (bds_ext3.1 h).1], rfl⟩
  have q1 : (a.nm.toList = b.nm.toList) = True := eq_true (toL_inj.2 g1)
  by_cases g2 : a.ag = b.ag
  case neg =>
    have q2 : (a.ag = b.ag) = False := eq_false g2
    (have fs := And.intro @i64.eq_1 (And.intro @strD.eq_1 (And.intro ht1 (And.intro ht2 (And.intro hl1 (And.intro hl2 (And.intro hb1 (And.intro hb2 (And.intro q1 q2)))))))); (repeat (first | refine hGx _ ?_ | refine hNx _ ?_ | refine W_skip ?_ | refine W_exit ?_ | refine W_ret ?_ | refine W_label ?_ | refine W_scope ?_ | refine W_block ?_ | refine W_seq ?_ | ((first | refine tS fun N hNx => ?_ | refine WL_gE rfl rfl (by kernel_rfl) (by kernel_rfl) fun G hGx => ?_ | refine vcOpsS_sound (by kernel_rfl) ?_ | refine W_ifE fun A B hAx hBx => ?_); refine evT ?_; (first | refine hGx _ ?_ | refine hNx _ ?_ | refine hAx ?_ | refine hBx ?_ | skip)))); (try clear fs))
    (first | (show Q .ret _) | (show Q .normal _) | skip); refine hret _ _ (by first | exact .inr rfl | exact .inl rfl) (by first | rfl | assumption | (simp only [put_df, withH_df]; assumption)) ?_; have fs := @i64.eq_1; refine evT ?_; clear fs
    exact ⟨_, Heap.le_refl _, by rw [decide_eq_false fun h => g2 (bds_ext3.1 h).2.1], rfl⟩
  have q2 : (a.ag = b.ag) = True := eq_true g2
  (have fs := And.intro @i64.eq_1 (And.intro @strD.eq_1 (And.intro ht1 (And.intro ht2 (And.intro hl1 (And.intro hl2 (And.intro hb1 (And.intro hb2 (And.intro q1 q2)))))))); (repeat (first | refine hGx _ ?_ | refine hNx _ ?_ | refine W_skip ?_ | refine W_exit ?_ | refine W_ret ?_ | refine W_label ?_ | refine W_scope ?_ | refine W_block ?_ | refine W_seq ?_ | ((first | refine tS fun N hNx => ?_ | refine WL_gE rfl rfl (by kernel_rfl) (by kernel_rfl) fun G hGx => ?_ | refine vcOpsS_sound (by kernel_rfl) ?_ | refine W_ifE fun A B hAx hBx => ?_); refine evT ?_; (first | refine hGx _ ?_ | refine hNx _ ?_ | refine hAx ?_ | refine hBx ?_ | skip)))); (try clear fs))
  refine (h1 _).mono ?_
  rintro d _ ⟨rfl, rfl⟩
  by_cases g3 : a.rg = b.rg
  case neg =>
    rw [decide_eq_false g3]
    (have fs := And.intro @i64.eq_1 (And.intro @strD.eq_1 (And.intro ht1 (And.intro ht2 (And.intro hl1 (And.intro hl2 (And.intro hb1 (And.intro hb2 (And.intro q1 q2)))))))); (repeat (first | refine hGx _ ?_ | refine hNx _ ?_ | refine W_skip ?_ | refine W_exit ?_ | refine W_ret ?_ | refine W_label ?_ | refine W_scope ?_ | refine W_block ?_ | refine W_seq ?_ | ((first | refine tS fun N hNx => ?_ | refine WL_gE rfl rfl (by kernel_rfl) (by kernel_rfl) fun G hGx => ?_ | refine vcOpsS_sound (by kernel_rfl) ?_ | refine W_ifE fun A B hAx hBx => ?_); refine evT ?_; (first | refine hGx _ ?_ | refine hNx _ ?_ | refine hAx ?_ | refine hBx ?_ | skip)))); (try clear fs))
    (first | (show Q .ret _) | (show Q .normal _) | skip); refine hret _ _ (by first | exact .inr rfl | exact .inl rfl) (by first | rfl | assumption | (simp only [put_df, withH_df]; assumption)) ?_; have fs := @i64.eq_1; refine evT ?_; clear fs
    exact ⟨_, Heap.le_refl _, by rw [decide_eq_false fun h => g3 (bds_ext3.1 h).2.2.1], rfl⟩
  rw [decide_eq_true g3]
  (have fs := And.intro @i64.eq_1 (And.intro @strD.eq_1 (And.intro ht1 (And.intro ht2 (And.intro hl1 (And.intro hl2 (And.intro hb1 (And.intro hb2 (And.intro q1 q2)))))))); (repeat (first | refine hGx _ ?_ | refine hNx _ ?_ | refine W_skip ?_ | refine W_exit ?_ | refine W_ret ?_ | refine W_label ?_ | refine W_scope ?_ | refine W_block ?_ | refine W_seq ?_ | ((first | refine tS fun N hNx => ?_ | refine WL_gE rfl rfl (by kernel_rfl) (by kernel_rfl) fun G hGx => ?_ | refine vcOpsS_sound (by kernel_rfl) ?_ | refine W_ifE fun A B hAx hBx => ?_); refine evT ?_; (first | refine hGx _ ?_ | refine hNx _ ?_ | refine hAx ?_ | refine hBx ?_ | skip)))); (try clear fs))
  refine (h2 _).mono ?_
  rintro d _ ⟨rfl, rfl⟩
  by_cases g4 : a.ol = b.ol
  case neg =>
    rw [decide_eq_false g4]
    (have fs := And.intro @i64.eq_1 (And.intro @strD.eq_1 (And.intro ht1 (And.intro ht2 (And.intro hl1 (And.intro hl2 (And.intro hb1 (And.intro hb2 (And.intro q1 q2)))))))); (repeat (first | refine hGx _ ?_ | refine hNx _ ?_ | refine W_skip ?_ | refine W_exit ?_ | refine W_ret ?_ | refine W_label ?_ | refine W_scope ?_ | refine W_block ?_ | refine W_seq ?_ | ((first | refine tS fun N hNx => ?_ | refine WL_gE rfl rfl (by kernel_rfl) (by kernel_rfl) fun G hGx => ?_ | refine vcOpsS_sound (by kernel_rfl) ?_ | refine W_ifE fun A B hAx hBx => ?_); refine evT ?_; (first | refine hGx _ ?_ | refine hNx _ ?_ | refine hAx ?_ | refine hBx ?_ | skip)))); (try clear fs))
    (first | (show Q .ret _) | (show Q .normal _) | skip); refine hret _ _ (by first | exact .inr rfl | exact .inl rfl) (by first | rfl | assumption | (simp only [put_df, withH_df]; assumption)) ?_; have fs := @i64.eq_1; refine evT ?_; clear fs
    exact ⟨_, Heap.le_refl _, by rw [decide_eq_false fun h => g4 (bds_ext3.1 h).2.2.2.1], rfl⟩
  rw [decide_eq_true g4]
  by_cases g5 : a.ty.length = b.ty.length
  case neg =>
    have q5 : ((a.ty.length : Int) = (b.ty.length : Int)) = False := eq_false (by omega)
    (have fs := And.intro @i64.eq_1 (And.intro @strD.eq_1 (And.intro ht1 (And.intro ht2 (And.intro hl1 (And.intro hl2 (And.intro hb1 (And.intro hb2 (And.intro q1 (And.intro q2 q5))))))))); (repeat (first | refine hGx _ ?_ | refine hNx _ ?_ | refine W_skip ?_ | refine W_exit ?_ | refine W_ret ?_ | refine W_label ?_ | refine W_scope ?_ | refine W_block ?_ | refine W_seq ?_ | ((first | refine tS fun N hNx => ?_ | refine WL_gE rfl rfl (by kernel_rfl) (by kernel_rfl) fun G hGx => ?_ | refine vcOpsS_sound (by kernel_rfl) ?_ | refine W_ifE fun A B hAx hBx => ?_); refine evT ?_; (first | refine hGx _ ?_ | refine hNx _ ?_ | refine hAx ?_ | refine hBx ?_ | skip)))); (try clear fs))
    (first | (show Q .ret _) | (show Q .normal _) | skip); refine hret _ _ (by first | exact .inr rfl | exact .inl rfl) (by first | rfl | assumption | (simp only [put_df, withH_df]; assumption)) ?_; have fs := @i64.eq_1; refine evT ?_; clear fs
    exact ⟨_, Heap.le_refl _, by rw [decide_eq_false fun h => g5 (bds_ext3.1 h).2.2.2.2.1], rfl⟩
  have q5 : ((a.ty.length : Int) = (b.ty.length : Int)) = True := eq_true (by omega)
  by_cases g6 : a.lc.length = b.lc.length
  case neg =>
    have q6 : ((a.lc.length : Int) = (b.lc.length : Int)) = False := eq_false (by omega)
    (have fs := And.intro @i64.eq_1 (And.intro @strD.eq_1 (And.intro ht1 (And.intro ht2 (And.intro hl1 (And.intro hl2 (And.intro hb1 (And.intro hb2 (And.intro q1 (And.intro q2 (And.intro q5 q6)))))))))); (repeat (first | refine hGx _ ?_ | refine hNx _ ?_ | refine W_skip ?_ | refine W_exit ?_ | refine W_ret ?_ | refine W_label ?_ | refine W_scope ?_ | refine W_block ?_ | refine W_seq ?_ | ((first | refine tS fun N hNx => ?_ | refine WL_gE rfl rfl (by kernel_rfl) (by kernel_rfl) fun G hGx => ?_ | refine vcOpsS_sound (by kernel_rfl) ?_ | refine W_ifE fun A B hAx hBx => ?_); refine evT ?_; (first | refine hGx _ ?_ | refine hNx _ ?_ | refine hAx ?_ | refine hBx ?_ | skip)))); (try clear fs))
    (first | (show Q .ret _) | (show Q .normal _) | skip); refine hret _ _ (by first | exact .inr rfl | exact .inl rfl) (by first | rfl | assumption | (simp only [put_df, withH_df]; assumption)) ?_; have fs := @i64.eq_1; refine evT ?_; clear fs
    exact ⟨_, Heap.le_refl _, by rw [decide_eq_false fun h => g6 (bds_ext3.1 h).2.2.2.2.2.1], rfl⟩
  have q6 : ((a.lc.length : Int) = (b.lc.length : Int)) = True := eq_true (by omega)
  by_cases g7 : a.bl.length = b.bl.length
  case neg =>
    have q7 : ((a.bl.length : Int) = (b.bl.length : Int)) = False := eq_false (by omega)
    (have fs := And.intro @i64.eq_1 (And.intro @strD.eq_1 (And.intro ht1 (And.intro ht2 (And.intro hl1 (And.intro hl2 (And.intro hb1 (And.intro hb2 (And.intro q1 (And.intro q2 (And.intro q5 (And.intro q6 q7))))))))))); (repeat (first | refine hGx _ ?_ | refine hNx _ ?_ | refine W_skip ?_ | refine W_exit ?_ | refine W_ret ?_ | refine W_label ?_ | refine W_scope ?_ | refine W_block ?_ | refine W_seq ?_ | ((first | refine tS fun N hNx => ?_ | refine WL_gE rfl rfl (by kernel_rfl) (by kernel_rfl) fun G hGx => ?_ | refine vcOpsS_sound (by kernel_rfl) ?_ | refine W_ifE fun A B hAx hBx => ?_); refine evT ?_; (first | refine hGx _ ?_ | refine hNx _ ?_ | refine hAx ?_ | refine hBx ?_ | skip)))); (try clear fs))
    (first | (show Q .ret _) | (show Q .normal _) | skip); refine hret _ _ (by first | exact .inr rfl | exact .inl rfl) (by first | rfl | assumption | (simp only [put_df, withH_df]; assumption)) ?_; have fs := @i64.eq_1; refine evT ?_; clear fs
    exact ⟨_, Heap.le_refl _, by rw [decide_eq_false fun h => g7 (bds_ext3.1 h).2.2.2.2.2.2.1], rfl⟩
  have q7 : ((a.bl.length : Int) = (b.bl.length : Int)) = True := eq_true (by omega)
  (have fs := And.intro @i64.eq_1 (And.intro @strD.eq_1 (And.intro ht1 (And.intro ht2 (And.intro hl1 (And.intro hl2 (And.intro hb1 (And.intro hb2 (And.intro q1 (And.intro q2 (And.intro q5 (And.intro q6 q7))))))))))); (repeat (first | refine hGx _ ?_ | refine hNx _ ?_ | refine W_skip ?_ | refine W_exit ?_ | refine W_ret ?_ | refine W_label ?_ | refine W_scope ?_ | refine W_block ?_ | refine W_seq ?_ | ((first | refine tS fun N hNx => ?_ | refine WL_gE rfl rfl (by kernel_rfl) (by kernel_rfl) fun G hGx => ?_ | refine vcOpsS_sound (by kernel_rfl) ?_ | refine W_ifE fun A B hAx hBx => ?_); refine evT ?_; (first | refine hGx _ ?_ | refine hNx _ ?_ | refine hAx ?_ | refine hBx ?_ | skip)))); (try clear fs))
  refine W_loopN a.ty.length (fun i s => s.df = [] ∧ s.fr 2 = .rp (bdD a) ∧ s.fr 3 = .rp (bdD b) ∧ s.fr 5 = i64 i ∧ s.H = H ∧ a.ty.take i = b.ty.take i) ⟨rfl, rfl, rfl, rfl, rfl, by simp⟩ ?_
  rintro i s hi ⟨hdf, f2, f3, f5, hH, htk⟩
  simp only [bdD] at f2 f3
  have hx : (i : Int).toNat = i := Int.toNat_natCast _
  have h00 : (0 : Int) ≤ (i : Int) := Int.natCast_nonneg _
  by_cases hil : i < a.ty.length
  case pos =>
    have p1 : ((i : Int) < (a.ty.length : Int)) = True := eq_true (by omega)
    have him : i < b.ty.length := by omega
    have hgi := map_get (f := tyD) hil
    have hgm := map_get (f := tyD) him
    have w3 : IntKind.i64.wrap ((i : Int) + 1) = ((i + 1 : Nat) : Int) := by rw [wrap_i64_of (by omega)]; omega
    have hne : a.ty[i] ≠ b.ty[i] → decide (a = b) = false := fun h => decide_eq_false (by rintro rfl; exact h rfl)
    have hts := take_snocA htk hil him
    have hox := htyx a.ty[i] (List.getElem_mem hil)
    obtain ⟨x, hxe⟩ : ∃ x, x = a.ty[i] := ⟨_, rfl⟩
    obtain ⟨y, hye⟩ : ∃ x, x = b.ty[i] := ⟨_, rfl⟩
    rw [← hxe] at hgi hne hts hox
    rw [← hye] at hgm hne hts
    have hcall : ∀ v, decide (x = y) = v → CallOK Try.prog 38 [.agg (tyD x), .agg (tyD y)] s.H fun d A => A = Heap.none ∧ d = .val (.bool v) := fun v hv => callOK_eq fun H'' hle'' => by rw [← hv]; exact kteq_N x y H'' hox
    simp only [tyD] at hgi hgm hcall
    (have fs := And.intro f2 (And.intro f5 (And.intro @i64.eq_1 (And.intro ht1 p1))); (repeat (first | refine hGx _ ?_ | refine hNx _ ?_ | refine W_skip ?_ | refine W_exit ?_ | refine W_ret ?_ | refine W_label ?_ | refine W_scope ?_ | refine W_block ?_ | refine W_seq ?_ | ((first | refine tS fun N hNx => ?_ | refine WL_gE rfl rfl (by kernel_rfl) (by kernel_rfl) fun G hGx => ?_ | refine vcOpsS_sound (by kernel_rfl) ?_ | refine W_ifE fun A B hAx hBx => ?_); refine evT ?_; (first | refine hGx _ ?_ | refine hNx _ ?_ | refine hAx ?_ | refine hBx ?_ | skip)))); (try clear fs))
    by_cases he : x = y
    · refine W_drawE (fun _ _ d A => A = .none ∧ d = .val (.bool true)) (by kernel_rfl) (by kernel_rfl) (by kernel_rfl) fun N hNx => ?_; (have fs := And.intro f2 (And.intro f3 (And.intro f5 (And.intro @i64.eq_1 (And.intro ht1 (And.intro ht2 (And.intro hgi (And.intro hgm (And.intro hx (And.intro h00 (And.intro hil him)))))))))); (repeat ((first | refine vcD_g rfl rfl fun G hGx => ?_ | refine vcDS_to ?_); refine evD ?_; (first | refine hGx _ ?_ | refine hNx _ ?_ | skip))); (try clear fs))
      refine ⟨hcall _ (decide_eq_true he), ?_⟩
      (first | refine hGx _ ?_ | refine hNx _ ?_ | skip)
      (have fs := @i64.eq_1; (repeat ((first | refine vcD_g rfl rfl fun G hGx => ?_ | refine vcDS_to ?_); refine evD ?_; (first | refine hGx _ ?_ | refine hNx _ ?_ | skip))); (try clear fs))
      (have fs := And.intro f5 (And.intro @i64.eq_1 w3); (repeat (first | refine hGx _ ?_ | refine hNx _ ?_ | refine W_skip ?_ | refine W_exit ?_ | refine W_ret ?_ | refine W_label ?_ | refine W_scope ?_ | refine W_block ?_ | refine W_seq ?_ | ((first | refine tS fun N hNx => ?_ | refine WL_gE rfl rfl (by kernel_rfl) (by kernel_rfl) fun G hGx => ?_ | refine vcOpsS_sound (by kernel_rfl) ?_ | refine W_ifE fun A B hAx hBx => ?_); refine evT ?_; (first | refine hGx _ ?_ | refine hNx _ ?_ | refine hAx ?_ | refine hBx ?_ | skip)))); (try clear fs))
      exact ⟨hil, hdf, f2, f3, rfl, hH, hts he⟩
    · refine W_drawE (fun _ _ d A => A = .none ∧ d = .val (.bool false)) (by kernel_rfl) (by kernel_rfl) (by kernel_rfl) fun N hNx => ?_; (have fs := And.intro f2 (And.intro f3 (And.intro f5 (And.intro @i64.eq_1 (And.intro ht1 (And.intro ht2 (And.intro hgi (And.intro hgm (And.intro hx (And.intro h00 (And.intro hil him)))))))))); (repeat ((first | refine vcD_g rfl rfl fun G hGx => ?_ | refine vcDS_to ?_); refine evD ?_; (first | refine hGx _ ?_ | refine hNx _ ?_ | skip))); (try clear fs))
      refine ⟨hcall _ (decide_eq_false he), ?_⟩
      (first | refine hGx _ ?_ | refine hNx _ ?_ | skip)
      (have fs := @i64.eq_1; (repeat ((first | refine vcD_g rfl rfl fun G hGx => ?_ | refine vcDS_to ?_); refine evD ?_; (first | refine hGx _ ?_ | refine hNx _ ?_ | skip))); (try clear fs))
      (have fs := And.intro f5 (And.intro @i64.eq_1 w3); (repeat (first | refine hGx _ ?_ | refine hNx _ ?_ | refine W_skip ?_ | refine W_exit ?_ | refine W_ret ?_ | refine W_label ?_ | refine W_scope ?_ | refine W_block ?_ | refine W_seq ?_ | ((first | refine tS fun N hNx => ?_ | refine WL_gE rfl rfl (by kernel_rfl) (by kernel_rfl) fun G hGx => ?_ | refine vcOpsS_sound (by kernel_rfl) ?_ | refine W_ifE fun A B hAx hBx => ?_); refine evT ?_; (first | refine hGx _ ?_ | refine hNx _ ?_ | refine hAx ?_ | refine hBx ?_ | skip)))); (try clear fs))
      (first | (show Q .ret _) | (show Q .normal _) | skip); refine hret _ _ (by first | exact .inr rfl | exact .inl rfl) (by first | rfl | assumption | (simp only [put_df, withH_df]; assumption)) ?_; have fs := hdf; refine evT ?_; clear fs
      exact ⟨_, Heap.le_refl _, by rw [hne he], hH.symm⟩
  have p1 : ((i : Int) < (a.ty.length : Int)) = False := eq_false (by omega)
  rw [List.take_of_length_le (by omega), List.take_of_length_le (by omega)] at htk
  have gT : id (a.ty = b.ty) := htk
  clear htk
  (have fs := And.intro f2 (And.intro f5 (And.intro @i64.eq_1 (And.intro ht1 p1))); (repeat (first | refine hGx _ ?_ | refine hNx _ ?_ | refine W_skip ?_ | refine W_exit ?_ | refine W_ret ?_ | refine W_label ?_ | refine W_scope ?_ | refine W_block ?_ | refine W_seq ?_ | ((first | refine tS fun N hNx => ?_ | refine WL_gE rfl rfl (by kernel_rfl) (by kernel_rfl) fun G hGx => ?_ | refine vcOpsS_sound (by kernel_rfl) ?_ | refine W_ifE fun A B hAx hBx => ?_); refine evT ?_; (first | refine hGx _ ?_ | refine hNx _ ?_ | refine hAx ?_ | refine hBx ?_ | skip)))); (try clear fs))
  refine W_loopN a.lc.length (fun i s => s.df = [] ∧ s.fr 2 = .rp (bdD a) ∧ s.fr 3 = .rp (bdD b) ∧ s.fr 6 = i64 i ∧ s.H = H ∧ a.lc.take i = b.lc.take i) ⟨hdf, f2, f3, rfl, hH, by simp⟩ ?_
  clear hdf f2 f3 f5 hH hx h00 hil p1 hi
  rintro i s hi ⟨hdf, f2, f3, f6, hH, htk⟩
  simp only [bdD] at f2 f3
  have hx : (i : Int).toNat = i := Int.toNat_natCast _
  have h00 : (0 : Int) ≤ (i : Int) := Int.natCast_nonneg _
  by_cases hil : i < a.lc.length
  case pos =>
    have p1 : ((i : Int) < (a.lc.length : Int)) = True := eq_true (by omega)
    have him : i < b.lc.length := by omega
    have hgi := map_get (f := lcD) hil
    have hgm := map_get (f := lcD) him
    have w3 : IntKind.i64.wrap ((i : Int) + 1) = ((i + 1 : Nat) : Int) := by rw [wrap_i64_of (by omega)]; omega
    have hne : a.lc[i] ≠ b.lc[i] → decide (a = b) = false := fun h => decide_eq_false (by rintro rfl; exact h rfl)
    have hts := take_snocA htk hil him
    obtain ⟨x, hxe⟩ : ∃ x, x = a.lc[i] := ⟨_, rfl⟩
    obtain ⟨y, hye⟩ : ∃ x, x = b.lc[i] := ⟨_, rfl⟩
    rw [← hxe] at hgi hne hts
    rw [← hye] at hgm hne hts
    simp only [lcD, strD, i64] at hgi hgm
    (have fs := And.intro f2 (And.intro f6 (And.intro @i64.eq_1 (And.intro hl1 p1))); (repeat (first | refine hGx _ ?_ | refine hNx _ ?_ | refine W_skip ?_ | refine W_exit ?_ | refine W_ret ?_ | refine W_label ?_ | refine W_scope ?_ | refine W_block ?_ | refine W_seq ?_ | ((first | refine tS fun N hNx => ?_ | refine WL_gE rfl rfl (by kernel_rfl) (by kernel_rfl) fun G hGx => ?_ | refine vcOpsS_sound (by kernel_rfl) ?_ | refine W_ifE fun A B hAx hBx => ?_); refine evT ?_; (first | refine hGx _ ?_ | refine hNx _ ?_ | refine hAx ?_ | refine hBx ?_ | skip)))); (try clear fs))
    by_cases c1 : x.nm.toList = y.nm.toList
    case neg =>
      have p2 : (x.nm.toList = y.nm.toList) = False := eq_false c1
      refine W_drawE (fun _ _ _ _ => False) (by kernel_rfl) (by kernel_rfl) (by kernel_rfl) fun N hNx => ?_; (have fs := And.intro f2 (And.intro f3 (And.intro f6 (And.intro @i64.eq_1 (And.intro hl1 (And.intro hl2 (And.intro hgi (And.intro hgm (And.intro hx (And.intro h00 (And.intro hil (And.intro him (And.intro p2 (And.intro hET (And.intro @Bool.and_true (And.intro @Bool.and_false (And.intro @Bool.false_and (And.intro @Bool.not_true @Bool.not_false))))))))))))))))); (repeat ((first | refine vcD_g rfl rfl fun G hGx => ?_ | refine vcDS_to ?_); refine evD ?_; (first | refine hGx _ ?_ | refine hNx _ ?_ | skip))); (try clear fs))
      (have fs := And.intro f6 (And.intro @i64.eq_1 w3); (repeat (first | refine hGx _ ?_ | refine hNx _ ?_ | refine W_skip ?_ | refine W_exit ?_ | refine W_ret ?_ | refine W_label ?_ | refine W_scope ?_ | refine W_block ?_ | refine W_seq ?_ | ((first | refine tS fun N hNx => ?_ | refine WL_gE rfl rfl (by kernel_rfl) (by kernel_rfl) fun G hGx => ?_ | refine vcOpsS_sound (by kernel_rfl) ?_ | refine W_ifE fun A B hAx hBx => ?_); refine evT ?_; (first | refine hGx _ ?_ | refine hNx _ ?_ | refine hAx ?_ | refine hBx ?_ | skip)))); (try clear fs))
      (first | (show Q .ret _) | (show Q .normal _) | skip); refine hret _ _ (by first | exact .inr rfl | exact .inl rfl) (by first | rfl | assumption | (simp only [put_df, withH_df]; assumption)) ?_; have fs := hdf; refine evT ?_; clear fs
      exact ⟨_, Heap.le_refl _, by rw [hne fun h => c1 (by rw [h])], hH.symm⟩
    have p2 : (x.nm.toList = y.nm.toList) = True := eq_true c1
    by_cases c2 : x.ty = y.ty
    case neg =>
      have p3 : (x.ty = y.ty) = False := eq_false c2
      refine W_drawE (fun _ _ _ _ => False) (by kernel_rfl) (by kernel_rfl) (by kernel_rfl) fun N hNx => ?_; (have fs := And.intro f2 (And.intro f3 (And.intro f6 (And.intro @i64.eq_1 (And.intro hl1 (And.intro hl2 (And.intro hgi (And.intro hgm (And.intro hx (And.intro h00 (And.intro hil (And.intro him (And.intro p2 (And.intro p3 (And.intro hET (And.intro @Bool.and_true (And.intro @Bool.and_false (And.intro @Bool.false_and (And.intro @Bool.not_true @Bool.not_false)))))))))))))))))); (repeat ((first | refine vcD_g rfl rfl fun G hGx => ?_ | refine vcDS_to ?_); refine evD ?_; (first | refine hGx _ ?_ | refine hNx _ ?_ | skip))); (try clear fs))
      (have fs := And.intro f6 (And.intro @i64.eq_1 w3); (repeat (first | refine hGx _ ?_ | refine hNx _ ?_ | refine W_skip ?_ | refine W_exit ?_ | refine W_ret ?_ | refine W_label ?_ | refine W_scope ?_ | refine W_block ?_ | refine W_seq ?_ | ((first | refine tS fun N hNx => ?_ | refine WL_gE rfl rfl (by kernel_rfl) (by kernel_rfl) fun G hGx => ?_ | refine vcOpsS_sound (by kernel_rfl) ?_ | refine W_ifE fun A B hAx hBx => ?_); refine evT ?_; (first | refine hGx _ ?_ | refine hNx _ ?_ | refine hAx ?_ | refine hBx ?_ | skip)))); (try clear fs))
      (first | (show Q .ret _) | (show Q .normal _) | skip); refine hret _ _ (by first | exact .inr rfl | exact .inl rfl) (by first | rfl | assumption | (simp only [put_df, withH_df]; assumption)) ?_; have fs := hdf; refine evT ?_; clear fs
      exact ⟨_, Heap.le_refl _, by rw [hne fun h => c2 (by rw [h])], hH.symm⟩
    have p3 : (x.ty = y.ty) = True := eq_true c2
    refine W_drawE (fun _ _ _ _ => False) (by kernel_rfl) (by kernel_rfl) (by kernel_rfl) fun N hNx => ?_; (have fs := And.intro f2 (And.intro f3 (And.intro f6 (And.intro @i64.eq_1 (And.intro hl1 (And.intro hl2 (And.intro hgi (And.intro hgm (And.intro hx (And.intro h00 (And.intro hil (And.intro him (And.intro p2 (And.intro p3 (And.intro hET (And.intro @Bool.and_true (And.intro @Bool.and_false (And.intro @Bool.false_and (And.intro @Bool.not_true @Bool.not_false)))))))))))))))))); (repeat ((first | refine vcD_g rfl rfl fun G hGx => ?_ | refine vcDS_to ?_); refine evD ?_; (first | refine hGx _ ?_ | refine hNx _ ?_ | skip))); (try clear fs))
    (have fs := And.intro f6 (And.intro @i64.eq_1 w3); (repeat (first | refine hGx _ ?_ | refine hNx _ ?_ | refine W_skip ?_ | refine W_exit ?_ | refine W_ret ?_ | refine W_label ?_ | refine W_scope ?_ | refine W_block ?_ | refine W_seq ?_ | ((first | refine tS fun N hNx => ?_ | refine WL_gE rfl rfl (by kernel_rfl) (by kernel_rfl) fun G hGx => ?_ | refine vcOpsS_sound (by kernel_rfl) ?_ | refine W_ifE fun A B hAx hBx => ?_); refine evT ?_; (first | refine hGx _ ?_ | refine hNx _ ?_ | refine hAx ?_ | refine hBx ?_ | skip)))); (try clear fs))
    exact ⟨hil, hdf, f2, f3, rfl, hH, hts (by cases x; cases y; simp only [LcS.mk.injEq]; exact ⟨toL_inj.1 c1, c2⟩)⟩
  have p1 : ((i : Int) < (a.lc.length : Int)) = False := eq_false (by omega)
  rw [List.take_of_length_le (by omega), List.take_of_length_le (by omega)] at htk
  have gL : id (a.lc = b.lc) := htk
  clear htk
  (have fs := And.intro f2 (And.intro f6 (And.intro @i64.eq_1 (And.intro hl1 p1))); (repeat (first | refine hGx _ ?_ | refine hNx _ ?_ | refine W_skip ?_ | refine W_exit ?_ | refine W_ret ?_ | refine W_label ?_ | refine W_scope ?_ | refine W_block ?_ | refine W_seq ?_ | ((first | refine tS fun N hNx => ?_ | refine WL_gE rfl rfl (by kernel_rfl) (by kernel_rfl) fun G hGx => ?_ | refine vcOpsS_sound (by kernel_rfl) ?_ | refine W_ifE fun A B hAx hBx => ?_); refine evT ?_; (first | refine hGx _ ?_ | refine hNx _ ?_ | refine hAx ?_ | refine hBx ?_ | skip)))); (try clear fs))
  refine W_loopN a.bl.length (fun i s => s.df = [] ∧ s.fr 2 = .rp (bdD a) ∧ s.fr 3 = .rp (bdD b) ∧ s.fr 7 = i64 i ∧ s.H = H ∧ a.bl.take i = b.bl.take i) ⟨hdf, f2, f3, rfl, hH, by simp⟩ ?_
  clear hdf f2 f3 f6 hH hx h00 hil p1 hi
  rintro i s hi ⟨hdf, f2, f3, f7, hH, htk⟩
  simp only [bdD] at f2 f3
  have hx : (i : Int).toNat = i := Int.toNat_natCast _
  have h00 : (0 : Int) ≤ (i : Int) := Int.natCast_nonneg _
  by_cases hil : i < a.bl.length
  case neg =>
    have p1 : ((i : Int) < (a.bl.length : Int)) = False := eq_false (by omega)
    rw [List.take_of_length_le (by omega), List.take_of_length_le (by omega)] at htk
    (have fs := And.intro f2 (And.intro f7 (And.intro @i64.eq_1 (And.intro hb1 p1))); (repeat (first | refine hGx _ ?_ | refine hNx _ ?_ | refine W_skip ?_ | refine W_exit ?_ | refine W_ret ?_ | refine W_label ?_ | refine W_scope ?_ | refine W_block ?_ | refine W_seq ?_ | ((first | refine tS fun N hNx => ?_ | refine WL_gE rfl rfl (by kernel_rfl) (by kernel_rfl) fun G hGx => ?_ | refine vcOpsS_sound (by kernel_rfl) ?_ | refine W_ifE fun A B hAx hBx => ?_); refine evT ?_; (first | refine hGx _ ?_ | refine hNx _ ?_ | refine hAx ?_ | refine hBx ?_ | skip)))); (try clear fs))
    (first | (show Q .ret _) | (show Q .normal _) | skip); refine hret _ _ (by first | exact .inr rfl | exact .inl rfl) (by first | rfl | assumption | (simp only [put_df, withH_df]; assumption)) ?_; have fs := hdf; refine evT ?_; clear fs
    exact ⟨_, Heap.le_refl _, by rw [decide_eq_true (bds_ext3.2 ⟨g1, g2, g3, g4, g5, g6, g7, gT, gL, htk⟩)], hH.symm⟩
  have p1 : ((i : Int) < (a.bl.length : Int)) = True := eq_true (by omega)
  have him : i < b.bl.length := by omega
  have hgi := map_get (f := bkD) hil
  have hgm := map_get (f := bkD) him
  have w3 : IntKind.i64.wrap ((i : Int) + 1) = ((i + 1 : Nat) : Int) := by rw [wrap_i64_of (by omega)]; omega
  have hne : a.bl[i] ≠ b.bl[i] → decide (a = b) = false := fun h => decide_eq_false (by rintro rfl; exact h rfl)
  have hts := take_snocA htk hil him
  have hox := hblx a.bl[i] (List.getElem_mem hil)
  obtain ⟨x, hxe⟩ : ∃ x, x = a.bl[i] := ⟨_, rfl⟩
  obtain ⟨y, hye⟩ : ∃ x, x = b.bl[i] := ⟨_, rfl⟩
  rw [← hxe] at hgi hne hts hox
  rw [← hye] at hgm hne hts
  have hcall : ∀ v, decide (x = y) = v → CallOK Try.prog 55 [.agg (bkD x), .agg (bkD y)] s.H fun d A => A = Heap.none ∧ d = .val (.bool v) := fun v hv => callOK_eq fun H'' hle'' => by rw [← hv]; exact kbkeq_N x y H'' hox
  simp only [bkD] at hgi hgm hcall
  (have fs := And.intro f2 (And.intro f7 (And.intro @i64.eq_1 (And.intro hb1 p1))); (repeat (first | refine hGx _ ?_ | refine hNx _ ?_ | refine W_skip ?_ | refine W_exit ?_ | refine W_ret ?_ | refine W_label ?_ | refine W_scope ?_ | refine W_block ?_ | refine W_seq ?_ | ((first | refine tS fun N hNx => ?_ | refine WL_gE rfl rfl (by kernel_rfl) (by kernel_rfl) fun G hGx => ?_ | refine vcOpsS_sound (by kernel_rfl) ?_ | refine W_ifE fun A B hAx hBx => ?_); refine evT ?_; (first | refine hGx _ ?_ | refine hNx _ ?_ | refine hAx ?_ | refine hBx ?_ | skip)))); (try clear fs))
  by_cases he : x = y
  · refine W_drawE (fun _ _ d A => A = .none ∧ d = .val (.bool true)) (by kernel_rfl) (by kernel_rfl) (by kernel_rfl) fun N hNx => ?_; (have fs := And.intro f2 (And.intro f3 (And.intro f7 (And.intro @i64.eq_1 (And.intro hb1 (And.intro hb2 (And.intro hgi (And.intro hgm (And.intro hx (And.intro h00 (And.intro hil him)))))))))); (repeat ((first | refine vcD_g rfl rfl fun G hGx => ?_ | refine vcDS_to ?_); refine evD ?_; (first | refine hGx _ ?_ | refine hNx _ ?_ | skip))); (try clear fs))
    refine ⟨hcall _ (decide_eq_true he), ?_⟩
    (first | refine hGx _ ?_ | refine hNx _ ?_ | skip)
    (have fs := @i64.eq_1; (repeat ((first | refine vcD_g rfl rfl fun G hGx => ?_ | refine vcDS_to ?_); refine evD ?_; (first | refine hGx _ ?_ | refine hNx _ ?_ | skip))); (try clear fs))
    (have fs := And.intro f7 (And.intro @i64.eq_1 w3); (repeat (first | refine hGx _ ?_ | refine hNx _ ?_ | refine W_skip ?_ | refine W_exit ?_ | refine W_ret ?_ | refine W_label ?_ | refine W_scope ?_ | refine W_block ?_ | refine W_seq ?_ | ((first | refine tS fun N hNx => ?_ | refine WL_gE rfl rfl (by kernel_rfl) (by kernel_rfl) fun G hGx => ?_ | refine vcOpsS_sound (by kernel_rfl) ?_ | refine W_ifE fun A B hAx hBx => ?_); refine evT ?_; (first | refine hGx _ ?_ | refine hNx _ ?_ | refine hAx ?_ | refine hBx ?_ | skip)))); (try clear fs))
    exact ⟨hil, hdf, f2, f3, rfl, hH, hts he⟩
  · refine W_drawE (fun _ _ d A => A = .none ∧ d = .val (.bool false)) (by kernel_rfl) (by kernel_rfl) (by kernel_rfl) fun N hNx => ?_; (have fs := And.intro f2 (And.intro f3 (And.intro f7 (And.intro @i64.eq_1 (And.intro hb1 (And.intro hb2 (And.intro hgi (And.intro hgm (And.intro hx (And.intro h00 (And.intro hil him)))))))))); (repeat ((first | refine vcD_g rfl rfl fun G hGx => ?_ | refine vcDS_to ?_); refine evD ?_; (first | refine hGx _ ?_ | refine hNx _ ?_ | skip))); (try clear fs))
    refine ⟨hcall _ (decide_eq_false he), ?_⟩
    (first | refine hGx _ ?_ | refine hNx _ ?_ | skip)
    (have fs := @i64.eq_1; (repeat ((first | refine vcD_g rfl rfl fun G hGx => ?_ | refine vcDS_to ?_); refine evD ?_; (first | refine hGx _ ?_ | refine hNx _ ?_ | skip))); (try clear fs))
    (have fs := And.intro f7 (And.intro @i64.eq_1 w3); (repeat (first | refine hGx _ ?_ | refine hNx _ ?_ | refine W_skip ?_ | refine W_exit ?_ | refine W_ret ?_ | refine W_label ?_ | refine W_scope ?_ | refine W_block ?_ | refine W_seq ?_ | ((first | refine tS fun N hNx => ?_ | refine WL_gE rfl rfl (by kernel_rfl) (by kernel_rfl) fun G hGx => ?_ | refine vcOpsS_sound (by kernel_rfl) ?_ | refine W_ifE fun A B hAx hBx => ?_); refine evT ?_; (first | refine hGx _ ?_ | refine hNx _ ?_ | refine hAx ?_ | refine hBx ?_ | skip)))); (try clear fs))
    (first | (show Q .ret _) | (show Q .normal _) | skip); refine hret _ _ (by first | exact .inr rfl | exact .inl rfl) (by first | rfl | assumption | (simp only [put_df, withH_df]; assumption)) ?_; have fs := hdf; refine evT ?_; clear fs
    exact ⟨_, Heap.le_refl _, by rw [hne he], hH.symm⟩
end Go.Proofs.Ytbcghjcakincoaa
