/- Lemmas and contracts of functions, several texts in one: UG UH. -/
import Derived.Test.YtbcghjcakincoaaGT1
import Derived.Test.YtbcghjcakincoaaGT5
import Derived.Test.YtbcghjcakincoaaGT6
import Derived.Test.YtbcghjcakincoaaGT2
/- The laws' alive of chapter 6: its data. -/
namespace Go.Proofs.Ytbcghjcakincoaa
open Go.RowKit
set_option linter.unusedVariables false
set_option linter.unusedSimpArgs false
def a6 : List TyS := [⟨2, false, 0, 0, []⟩, ⟨3, false, 0, 0, []⟩, ⟨4, false, 0, 0, [1, 0]⟩]
def b6 : List TyS := [⟨2, false, 0, 0, []⟩, ⟨2, false, 0, 0, []⟩]
theorem a6_ok : chkT a6 1 = 0 := by
  refine chkT_ok.2 ⟨by decide, fun i h => ?_⟩
  have h3 : i < 3 := h
  match i, h3 with
  | 0, _ => exact (⟨by decide, by decide, by decide, by decide, by decide, by decide, by decide, by decide, by decide⟩ : Ok1 [] 1 ⟨2, false, 0, 0, []⟩)
  | 1, _ => exact (⟨by decide, by decide, by decide, by decide, by decide, by decide, by decide, by decide, by decide⟩ : Ok1 [⟨2, false, 0, 0, []⟩] 1 ⟨3, false, 0, 0, []⟩)
  | 2, _ => exact (⟨by decide, by decide, by decide, by decide, by decide, by decide, by decide, by decide, by decide⟩ : Ok1 [⟨2, false, 0, 0, []⟩, ⟨3, false, 0, 0, []⟩] 1 ⟨4, false, 0, 0, [1, 0]⟩)
theorem b6_bad : chkT b6 0 = 21 := by
  have h1 : chk1 [] 0 ⟨2, false, 0, 0, []⟩ = 0 := chk1_ok.2 ⟨by decide, by decide, by decide, by decide, by decide, by decide, by decide, by decide, by decide⟩
  have h2 : chk1 [⟨2, false, 0, 0, []⟩] 0 ⟨2, false, 0, 0, []⟩ = 21 := by
    unfold chk1
    rw [if_neg (by decide), if_neg (by decide), if_neg (by decide), if_neg (by simp), if_neg (by decide), if_neg (by decide), if_pos (by simp)]
  unfold chkT b6
  rw [if_neg (by decide), chkS, if_pos h1, chkS, List.nil_append, if_neg (by rw [h2]; decide), h2]
theorem a6_wf : wfT a6 := (ok_facts6 a6_ok).2.1
theorem a6_rf : rfN a6 := (ok_facts6 a6_ok).2.2.1
theorem a6_dep : depAt a6 2 = 3 := by decide
theorem a6_at0 : tyAt a6 0 = ⟨2, false, 0, 0, []⟩ := rfl
theorem a6_at1 : tyAt a6 1 = ⟨3, false, 0, 0, []⟩ := rfl
theorem a6_at2 : tyAt a6 2 = ⟨4, false, 0, 0, [1, 0]⟩ := rfl
theorem a6_reg : regL a6 2 = [0] := by
  have i0 : InR a6.length 0 := ⟨by decide, by decide⟩
  have i1 : InR a6.length 1 := ⟨by decide, by decide⟩
  have i2 : InR a6.length 2 := ⟨by decide, by decide⟩
  have m0 : ∀ r, ¬ Ment a6 0 r := fun r => by
    rw [ment_iff a6_wf i0, a6_at0]
    simp [parA]
  have m1 : ∀ r, Ment a6 1 r ↔ r = 0 := fun r => by
    rw [ment_iff a6_wf i1, a6_at1]
    simp [parA, m0]
    exact ⟨fun h => h.symm, fun h => h.symm⟩
  refine strict_eq (regL_strict _ _) (by simp) fun x => ?_
  rw [regL_mem, ment_iff a6_wf i2, a6_at2]
  simp [parA, m0, m1]
  intro h
  subst h
  exact ⟨by decide, by decide⟩
theorem a6_cop : copB a6 2 = true := by
  have i0 : InR a6.length 0 := ⟨by decide, by decide⟩
  have i1 : InR a6.length 1 := ⟨by decide, by decide⟩
  have i2 : InR a6.length 2 := ⟨by decide, by decide⟩
  have c0 : Cop a6 0 := (cop_iff a6_wf i0).2 (by rw [a6_at0]; simp)
  have c1 : Cop a6 1 := (cop_iff a6_wf i1).2 (by rw [a6_at1]; simp)
  refine copB_t.2 ((cop_iff a6_wf i2).2 ?_)
  rw [a6_at2]
  simp [c0, c1]
end Go.Proofs.Ytbcghjcakincoaa
/- The laws' alive of chapter 6. -/
namespace Go.Proofs.Ytbcghjcakincoaa
open Go.RowKit
set_option linter.unusedVariables false
set_option maxRecDepth 100000
set_option linter.unusedSimpArgs false
theorem ty_imp (a m r e : D) : ImpL [a, m, r, e, .val (.slice none 0 0)] [a, m, r, e, .seq 1 []] := ⟨imp_refl _, imp_refl _, imp_refl _, imp_refl _, imp_nil, trivial⟩
set_option maxHeartbeats 1000000 in
theorem alive6_at (H : Heap) : Does Try.prog 32 [] H fun d H' => d = .val (.bool true) ∧ H = H' := by
  refine Does.frz (K := fun d => d = .val (.bool true)) ?_
  have hle := Heap.le_refl H
  refine does_of _ _ Try.func32 rfl rfl Try.ntmps32 Try.results32 (by simp only [List.length_cons, List.length_nil]; omega) fun w0 Q hret => ?_
  (have fs := @i64.eq_1; (repeat (first | refine hGx _ ?_ | refine hNx _ ?_ | refine W_skip ?_ | refine W_exit ?_ | refine W_ret ?_ | refine W_label ?_ | refine W_scope ?_ | refine W_block ?_ | refine W_seq ?_ | ((first | refine tS fun N hNx => ?_ | refine WL_gE rfl rfl (by kernel_rfl) (by kernel_rfl) fun G hGx => ?_ | refine vcOpsS_sound (by kernel_rfl) ?_ | refine W_ifE fun A B hAx hBx => ?_); refine evT ?_; (first | refine hGx _ ?_ | refine hNx _ ?_ | refine hAx ?_ | refine hBx ?_ | skip)))); (try clear fs))
  refine W_as 1 (.seq 5 [[i64 2, .val (.bool false), i64 0, i64 0, .seq 1 []], [i64 3, .val (.bool false), i64 0, i64 0, .seq 1 []], [i64 4, .val (.bool false), i64 0, i64 0, .seq 1 [[i64 1], [i64 0]]]]) (fun w v hv => imp_seq (impr_cons (ty_imp _ _ _ _) (impr_cons (ty_imp _ _ _ _) (impr1 (impl_refl _)))) w _ v hv) ?_
  have ha6 : ∀ u ∈ a6, u.ar.length ≤ 140737488351232 := by simp [a6]
  have hb6 : ∀ u ∈ b6, u.ar.length ≤ 140737488351232 := by simp [b6]
  have c8 : CallOK Try.prog 33 [.seq 5 (a6.map tyD), i64 1] H fun d A => A = Heap.none ∧ d = i64 0 := callOK_eq fun H'' _ => (check_N a6 1 H'' (by decide) ha6).mono fun d H' h => ⟨by rw [h.1, a6_ok]; rfl, h.2⟩
  have c12 : CallOK Try.prog 40 [.seq 5 (a6.map tyD), i64 2] H fun d A => A = Heap.none ∧ d = i64 3 := callOK_eq fun H'' _ => (dep_N a6 2 H'' a6_wf a6_rf (by decide) ha6).mono fun d H' h => ⟨by rw [h.1, a6_dep], h.2⟩
  have c17 : CallOK Try.prog 43 [.seq 5 (a6.map tyD), i64 2] H fun d A => A = Heap.none ∧ d = .seq 1 ([0].map iD) := callOK_eq fun H'' _ => (regs_N a6 2 H'' a6_wf (fun t ht h3 => by have := ((ok_facts6 a6_ok).2.2.2.2 t ht).1 h3; omega) (by decide) ha6).mono fun d H' h => ⟨by rw [h.1, a6_reg], h.2⟩
  have c19 : CallOK Try.prog 42 [.seq 1 ([0].map iD), .seq 1 ([0].map iD)] H fun d A => A = Heap.none ∧ d = .val (.bool true) := callOK_eq fun H'' _ => (equalI_at H'' [0] [0] (by decide)).mono fun d H' h => ⟨by rw [h.1]; rfl, h.2⟩
  have c23 : CallOK Try.prog 45 [.seq 5 (a6.map tyD), i64 2] H fun d A => A = Heap.none ∧ d = .val (.bool true) := callOK_eq fun H'' _ => (cop_N a6 2 H'' a6_wf a6_rf (by decide) ha6).mono fun d H' h => ⟨by rw [h.1, a6_cop], h.2⟩
  have c29 : CallOK Try.prog 33 [.seq 5 [[i64 2, .val (.bool false), i64 0, i64 0, .val (.slice none 0 0)], [i64 2, .val (.bool false), i64 0, i64 0, .val (.slice none 0 0)]], i64 0] H fun d A => A = Heap.none ∧ d = i64 21 := callOK_eq fun H'' _ => ((check_N b6 0 H'' (by decide) hb6).imp (ds := [.seq 5 [[i64 2, .val (.bool false), i64 0, i64 0, .val (.slice none 0 0)], [i64 2, .val (.bool false), i64 0, i64 0, .val (.slice none 0 0)]], i64 0]) ⟨imp_seq (impr_cons (ty_imp _ _ _ _) (impr1 (ty_imp _ _ _ _))), imp_refl _, trivial⟩).mono fun d H' h => ⟨by rw [h.1, b6_bad]; rfl, h.2⟩
  have c39 : CallOK Try.prog 37 [.agg (tyD ⟨3, false, 0, 0, []⟩), .agg (tyD ⟨3, false, 0, 0, []⟩)] H fun d A => A = Heap.none ∧ d = .val (.bool true) := callOK_eq fun H'' _ => (teq_N _ _ H'' (by decide)).mono fun d H' h => ⟨by rw [h.1]; rfl, h.2⟩
  have c48 : CallOK Try.prog 37 [.agg (tyD ⟨2, false, 0, 0, []⟩), .agg (tyD ⟨3, false, 0, 0, []⟩)] H fun d A => A = Heap.none ∧ d = .val (.bool false) := callOK_eq fun H'' _ => (teq_N _ _ H'' (by decide)).mono fun d H' h => ⟨by rw [h.1]; rfl, h.2⟩
  simp only [tyD, List.map_nil] at c39 c48
  refine W_drawE (fun t _ d A => A = .none ∧ d = (if t = some 8 then i64 0 else if t = some 12 then i64 3 else if t = some 17 then .seq 1 [[.val (.int .i64 0)]] else if t = some 29 then i64 21 else if t = some 48 then .val (.bool false) else .val (.bool true))) (by kernel_rfl) (by kernel_rfl) (by kernel_rfl) fun N hNx => ?_; (have fs := @i64.eq_1; (repeat ((first | refine vcD_g rfl rfl fun G hGx => ?_ | refine vcDS_to ?_); refine evD ?_; (first | refine hGx _ ?_ | refine hNx _ ?_ | skip))); (try clear fs))
  refine ⟨c8, ?_⟩
  (first | refine hGx _ ?_ | refine hNx _ ?_ | skip)
  (have fs := @i64.eq_1; (repeat ((first | refine vcD_g rfl rfl fun G hGx => ?_ | refine vcDS_to ?_); refine evD ?_; (first | refine hGx _ ?_ | refine hNx _ ?_ | skip))); (try clear fs))
  refine ⟨c12, ?_⟩
  (first | refine hGx _ ?_ | refine hNx _ ?_ | skip)
  (have fs := @i64.eq_1; (repeat ((first | refine vcD_g rfl rfl fun G hGx => ?_ | refine vcDS_to ?_); refine evD ?_; (first | refine hGx _ ?_ | refine hNx _ ?_ | skip))); (try clear fs))
  refine ⟨c17, ?_⟩
  (first | refine hGx _ ?_ | refine hNx _ ?_ | skip)
  (have fs := @i64.eq_1; (repeat ((first | refine vcD_g rfl rfl fun G hGx => ?_ | refine vcDS_to ?_); refine evD ?_; (first | refine hGx _ ?_ | refine hNx _ ?_ | skip))); (try clear fs))
  refine ⟨c19, ?_⟩
  (first | refine hGx _ ?_ | refine hNx _ ?_ | skip)
  (have fs := @i64.eq_1; (repeat ((first | refine vcD_g rfl rfl fun G hGx => ?_ | refine vcDS_to ?_); refine evD ?_; (first | refine hGx _ ?_ | refine hNx _ ?_ | skip))); (try clear fs))
  refine ⟨c23, ?_⟩
  (first | refine hGx _ ?_ | refine hNx _ ?_ | skip)
  (have fs := @i64.eq_1; (repeat ((first | refine vcD_g rfl rfl fun G hGx => ?_ | refine vcDS_to ?_); refine evD ?_; (first | refine hGx _ ?_ | refine hNx _ ?_ | skip))); (try clear fs))
  refine ⟨c29, ?_⟩
  (first | refine hGx _ ?_ | refine hNx _ ?_ | skip)
  (have fs := @i64.eq_1; (repeat ((first | refine vcD_g rfl rfl fun G hGx => ?_ | refine vcDS_to ?_); refine evD ?_; (first | refine hGx _ ?_ | refine hNx _ ?_ | skip))); (try clear fs))
  refine ⟨c39, ?_⟩
  (first | refine hGx _ ?_ | refine hNx _ ?_ | skip)
  (have fs := @i64.eq_1; (repeat ((first | refine vcD_g rfl rfl fun G hGx => ?_ | refine vcDS_to ?_); refine evD ?_; (first | refine hGx _ ?_ | refine hNx _ ?_ | skip))); (try clear fs))
  refine ⟨c48, ?_⟩
  (first | refine hGx _ ?_ | refine hNx _ ?_ | skip)
  (have fs := @i64.eq_1; (repeat ((first | refine vcD_g rfl rfl fun G hGx => ?_ | refine vcDS_to ?_); refine evD ?_; (first | refine hGx _ ?_ | refine hNx _ ?_ | skip))); (try clear fs))
  (have fs := @i64.eq_1; (repeat (first | refine hGx _ ?_ | refine hNx _ ?_ | refine W_skip ?_ | refine W_exit ?_ | refine W_ret ?_ | refine W_label ?_ | refine W_scope ?_ | refine W_block ?_ | refine W_seq ?_ | ((first | refine tS fun N hNx => ?_ | refine WL_gE rfl rfl (by kernel_rfl) (by kernel_rfl) fun G hGx => ?_ | refine vcOpsS_sound (by kernel_rfl) ?_ | refine W_ifE fun A B hAx hBx => ?_); refine evT ?_; (first | refine hGx _ ?_ | refine hNx _ ?_ | refine hAx ?_ | refine hBx ?_ | skip)))); (try clear fs))
  (first | (show Q .ret _) | (show Q .normal _) | skip); refine hret _ _ (by first | exact .inr rfl | exact .inl rfl) (by first | rfl | assumption | (simp only [put_df, withH_df]; assumption)) ?_; have fs := @i64.eq_1; refine evT ?_; clear fs
  exact ⟨_, Heap.le_refl _, hle, _, frz_refl hle, rfl⟩
end Go.Proofs.Ytbcghjcakincoaa
