/- Lemmas and contracts of functions, several texts in one: BE BF BG BH. -/
import Derived.Test.YtbcghjcakincoaaGBQ
/- slices.Clone, for each type of elements (written by gen_bod3.py). -/
namespace Go.Proofs.Ytbcghjcakincoaa
open Go.RowKit
set_option linter.unusedVariables false
set_option maxRecDepth 100000
set_option linter.unusedSimpArgs false
/-- A copy: nil, or a row of one's own. -/
def ClR (T : TypeId) (sz : Nat) (els : List (List D)) (H : Heap) (d : D) (H' : Heap) : Prop := (d = .val (.slice none 0 0) ∧ els = [] ∧ H' = H) ∨ ∃ b o, H b = none ∧ d = .os b o sz 0 els.length ∧ H' = H.upd b (.row T o sz els)
def ClA (T : TypeId) (sz : Nat) (els : List (List D)) (d : D) (A : Heap) : Prop := (A = Heap.none ∧ d = .val (.slice none 0 0) ∧ els = []) ∨ ∃ b o, A = Heap.none.upd b (.row T o sz els) ∧ d = .os b o sz 0 els.length
theorem calmOr {v : D} {P : Prop} {R : Nat → Nat → Heap} {V : Nat → Nat → D} {p : D → Heap → Prop} : (∀ d A, ((A = Heap.none ∧ d = v ∧ P) ∨ ∃ b o, A = R b o ∧ d = V b o) → p d A) = ((P → p v Heap.none) ∧ ∀ b o, p (V b o) (R b o)) := propext
  ⟨fun h => ⟨fun hp => h _ _ (.inl ⟨rfl, rfl, hp⟩), fun b o => h _ _ (.inr ⟨b, o, rfl, rfl⟩)⟩, fun h d A e => by
    rcases e with ⟨rfl, rfl, hp⟩ | ⟨b, o, rfl, rfl⟩
    · exact h.1 hp
    · exact h.2 b o⟩
theorem evX {P Q : Prop} (hq : Q) (h : Q → P := by intro h; simp (maxSteps := 4000000) only [vX, vB, vT, vZ, vcOps, isCall, mmV, lkV, muV, keyVal, keyVals, mget_nil, ↓selV_eq, eqK, stepOp, clV, biV, bnU, nilU, binV, bInt, bStr, bNilP, bNilS, bNilM, nilOp, D.nilPtr, D.nilSl, D.nilMap, isBoolTy, unV, cwV, cvV, elsP, partV, fieldsOf, fieldV, faV, iaV, ixV, ldC, ldV, stV, D.cells, putAt, bxV, alV, bldD, placesOf, allSized, bdV, bsV, rowsD, mkV, bdN, slV, newsP, TD.notInt, TD.agg, azV, clrV, cpyV, cpV, lenV, minV, maxV, ncV, exV, condV, retV, thenQ, blockQ, Value.oneCell', forall_const, true_implies, ne_eq, reduceCtorEq, false_implies, eq_self, if_true, if_false, ↓reduceIte, Nat.reduceEqDiff, Int.reduceLE, Int.reduceLT, Int.reduceNeg, Int.reduceToNat, Nat.reduceAdd, Nat.reduceMul, Nat.reduceLeDiff, Nat.reduceMod, Nat.reduceSub, Int.reduceEq, Int.reduceNe, Int.reduceAdd, Int.reduceSub, Int.reduceMul, implies_true, wdf_fr, wdf_H, wdf_df, wdf_withH, thenQ_n, thenQ_r, blockQ_n, blockQ_r, roundQ_n, roundQ_r, noGotoQ_n, noGotoQ_r, noGotoQ_e, vcDS, vcWS, gD, calmOp, St.out, Heap.add_none, Heap.add_upd, disj_upd_iff, disj_none_eq, Option.some.injEq, or_true, true_or, or_false, false_or, ↓calmEq, ↓wildEq, hOf, fzOp, Bool.false_and, isWild, wildOp, St.outW, ↓calmOr, fs]; exact h) : P := h hq
theorem ClR.ok {P : Program} {f : FuncId} {args : List D} {T : TypeId} {sz : Nat} {els : List (List D)} (h : ∀ H, Does P f args H (ClR T sz els H)) (H : Heap) : CallOK P f args H (ClA T sz els) :=
  callOK_of (fun H'' _ => h H'') fun H'' d H' hk => by
    rcases hk with ⟨rfl, he, rfl⟩ | ⟨b, o, hb, rfl, rfl⟩
    · exact ⟨.none, Disj.none _, rfl, .inl ⟨rfl, rfl, he⟩⟩
    · exact ⟨Heap.none.upd b (.row T o sz els), disj_upd hb, (Heap.add_upd _ _ _).symm, .inr ⟨b, o, rfl, rfl⟩⟩
set_option maxHeartbeats 1000000 in
theorem clS_N (els : List (List D)) (H : Heap) (hl : els.length ≤ 1000000) : Does Try.prog 66 [.seq 1 els] H (ClR 9 1 els H) := by
  refine does_of _ _ Try.func66 rfl rfl Try.ntmps66 Try.results66 (by simp only [List.length_cons, List.length_nil]; omega) fun w0 Q hret => ?_
  (have fs := @i64.eq_1; (repeat (first | refine hGx _ ?_ | refine hNx _ ?_ | refine W_skip ?_ | refine W_exit ?_ | refine W_ret ?_ | refine W_label ?_ | refine W_scope ?_ | refine W_block ?_ | refine W_seq ?_ | ((first | refine tS fun N hNx => ?_ | refine WL_gE rfl rfl (by kernel_rfl) (by kernel_rfl) fun G hGx => ?_ | refine vcOpsS_sound (by kernel_rfl) ?_ | refine W_ifE fun A B hAx hBx => ?_); refine evT ?_; (first | refine hGx _ ?_ | refine hNx _ ?_ | refine hAx ?_ | refine hBx ?_ | skip)))); (try clear fs))
  intro b hb
  refine hNx _ ?_
  cases b with
  | true =>
    (have fs := @i64.eq_1; (repeat (first | refine hGx _ ?_ | refine hNx _ ?_ | refine W_skip ?_ | refine W_exit ?_ | refine W_ret ?_ | refine W_label ?_ | refine W_scope ?_ | refine W_block ?_ | refine W_seq ?_ | ((first | refine tS fun N hNx => ?_ | refine WL_gE rfl rfl (by kernel_rfl) (by kernel_rfl) fun G hGx => ?_ | refine vcOpsS_sound (by kernel_rfl) ?_ | refine W_ifE fun A B hAx hBx => ?_); refine evT ?_; (first | refine hGx _ ?_ | refine hNx _ ?_ | refine hAx ?_ | refine hBx ?_ | skip)))); (try clear fs))
    (first | (show Q .ret _) | (show Q .normal _) | skip); refine hret _ _ (by first | exact .inr rfl | exact .inl rfl) (by first | rfl | assumption | (simp only [put_df, withH_df]; assumption)) ?_; have fs := @i64.eq_1; refine evT ?_; clear fs
    have he : els = [] := Classical.byContradiction fun e => Bool.noConfusion (hb fun e0 => e (List.eq_nil_of_length_eq_zero e0))
    exact ⟨H, Heap.le_refl _, .inl ⟨rfl, he, rfl⟩⟩
  | false =>
    (have fs := @i64.eq_1; (repeat (first | refine hGx _ ?_ | refine hNx _ ?_ | refine W_skip ?_ | refine W_exit ?_ | refine W_ret ?_ | refine W_label ?_ | refine W_scope ?_ | refine W_block ?_ | refine W_seq ?_ | ((first | refine tS fun N hNx => ?_ | refine WL_gE rfl rfl (by kernel_rfl) (by kernel_rfl) fun G hGx => ?_ | refine vcOpsS_sound (by kernel_rfl) ?_ | refine W_ifE fun A B hAx hBx => ?_); refine evT ?_; (first | refine hGx _ ?_ | refine hNx _ ?_ | refine hAx ?_ | refine hBx ?_ | skip)))); (try clear fs))
    intro b1 hb1
    refine apV_grow (e := 9) ty22 rfl ty22 rfl ty9 rfl (by decide) (Heap.le_put (Heap.le_refl _) hb1) (.inr ⟨b1, 0, rfl, rfl, hb1, Heap.upd_same _ _ _⟩ : Gl H 9 1 [] (.os b1 0 1 0 0) (H.upd b1 (.row 9 0 1 [])) (some b1)) (new := els) (by exact ⟨rfl, rfl⟩) (by rw [List.length_nil]; show (_ + _) * 16 ≤ _; omega) fun d H6 ob6 hg6 hle6 _ => ?_
    (have fs := @i64.eq_1; (repeat (first | refine hGx _ ?_ | refine hNx _ ?_ | refine W_skip ?_ | refine W_exit ?_ | refine W_ret ?_ | refine W_label ?_ | refine W_scope ?_ | refine W_block ?_ | refine W_seq ?_ | ((first | refine tS fun N hNx => ?_ | refine WL_gE rfl rfl (by kernel_rfl) (by kernel_rfl) fun G hGx => ?_ | refine vcOpsS_sound (by kernel_rfl) ?_ | refine W_ifE fun A B hAx hBx => ?_); refine evT ?_; (first | refine hGx _ ?_ | refine hNx _ ?_ | refine hAx ?_ | refine hBx ?_ | skip)))); (try clear fs))
    (first | (show Q .ret _) | (show Q .normal _) | skip); refine hret _ _ (by first | exact .inr rfl | exact .inl rfl) (by first | rfl | assumption | (simp only [put_df, withH_df]; assumption)) ?_; have fs := @i64.eq_1; refine evT ?_; clear fs
    rw [List.nil_append] at hg6
    rcases hg6 with ⟨_, rfl, he⟩ | ⟨c, o, _, rfl, h2, h3⟩
    · exact ⟨H, hle6, .inl ⟨rfl, he, rfl⟩⟩
    · refine ⟨H.upd c (.row 9 o 1 els), fun b x hx => ?_, .inr ⟨c, o, h2, rfl, rfl⟩⟩
      by_cases e : b = c
      · rw [e, Heap.upd_same] at hx; rw [e, h3]; exact hx
      · rw [Heap.upd_ne e] at hx; exact hle6 _ _ hx
set_option maxHeartbeats 1000000 in
theorem clP_N (els : List (List D)) (H : Heap) (hl : els.length ≤ 1000000) : Does Try.prog 67 [.seq 2 els] H (ClR 49 2 els H) := by
  refine does_of _ _ Try.func67 rfl rfl Try.ntmps67 Try.results67 (by simp only [List.length_cons, List.length_nil]; omega) fun w0 Q hret => ?_
  (have fs := @i64.eq_1; (repeat (first | refine hGx _ ?_ | refine hNx _ ?_ | refine W_skip ?_ | refine W_exit ?_ | refine W_ret ?_ | refine W_label ?_ | refine W_scope ?_ | refine W_block ?_ | refine W_seq ?_ | ((first | refine tS fun N hNx => ?_ | refine WL_gE rfl rfl (by kernel_rfl) (by kernel_rfl) fun G hGx => ?_ | refine vcOpsS_sound (by kernel_rfl) ?_ | refine W_ifE fun A B hAx hBx => ?_); refine evT ?_; (first | refine hGx _ ?_ | refine hNx _ ?_ | refine hAx ?_ | refine hBx ?_ | skip)))); (try clear fs))
  intro b hb
  refine hNx _ ?_
  cases b with
  | true =>
    (have fs := @i64.eq_1; (repeat (first | refine hGx _ ?_ | refine hNx _ ?_ | refine W_skip ?_ | refine W_exit ?_ | refine W_ret ?_ | refine W_label ?_ | refine W_scope ?_ | refine W_block ?_ | refine W_seq ?_ | ((first | refine tS fun N hNx => ?_ | refine WL_gE rfl rfl (by kernel_rfl) (by kernel_rfl) fun G hGx => ?_ | refine vcOpsS_sound (by kernel_rfl) ?_ | refine W_ifE fun A B hAx hBx => ?_); refine evT ?_; (first | refine hGx _ ?_ | refine hNx _ ?_ | refine hAx ?_ | refine hBx ?_ | skip)))); (try clear fs))
    (first | (show Q .ret _) | (show Q .normal _) | skip); refine hret _ _ (by first | exact .inr rfl | exact .inl rfl) (by first | rfl | assumption | (simp only [put_df, withH_df]; assumption)) ?_; have fs := @i64.eq_1; refine evT ?_; clear fs
    have he : els = [] := Classical.byContradiction fun e => Bool.noConfusion (hb fun e0 => e (List.eq_nil_of_length_eq_zero e0))
    exact ⟨H, Heap.le_refl _, .inl ⟨rfl, he, rfl⟩⟩
  | false =>
    (have fs := @i64.eq_1; (repeat (first | refine hGx _ ?_ | refine hNx _ ?_ | refine W_skip ?_ | refine W_exit ?_ | refine W_ret ?_ | refine W_label ?_ | refine W_scope ?_ | refine W_block ?_ | refine W_seq ?_ | ((first | refine tS fun N hNx => ?_ | refine WL_gE rfl rfl (by kernel_rfl) (by kernel_rfl) fun G hGx => ?_ | refine vcOpsS_sound (by kernel_rfl) ?_ | refine W_ifE fun A B hAx hBx => ?_); refine evT ?_; (first | refine hGx _ ?_ | refine hNx _ ?_ | refine hAx ?_ | refine hBx ?_ | skip)))); (try clear fs))
    intro b1 hb1
    refine apV_grow (e := 49) ty23 rfl ty23 rfl ty49 rfl (by decide) (Heap.le_put (Heap.le_refl _) hb1) (.inr ⟨b1, 0, rfl, rfl, hb1, Heap.upd_same _ _ _⟩ : Gl H 49 2 [] (.os b1 0 2 0 0) (H.upd b1 (.row 49 0 2 [])) (some b1)) (new := els) (by exact ⟨rfl, rfl⟩) (by rw [List.length_nil]; show (_ + _) * 16 ≤ _; omega) fun d H6 ob6 hg6 hle6 _ => ?_
    (have fs := @i64.eq_1; (repeat (first | refine hGx _ ?_ | refine hNx _ ?_ | refine W_skip ?_ | refine W_exit ?_ | refine W_ret ?_ | refine W_label ?_ | refine W_scope ?_ | refine W_block ?_ | refine W_seq ?_ | ((first | refine tS fun N hNx => ?_ | refine WL_gE rfl rfl (by kernel_rfl) (by kernel_rfl) fun G hGx => ?_ | refine vcOpsS_sound (by kernel_rfl) ?_ | refine W_ifE fun A B hAx hBx => ?_); refine evT ?_; (first | refine hGx _ ?_ | refine hNx _ ?_ | refine hAx ?_ | refine hBx ?_ | skip)))); (try clear fs))
    (first | (show Q .ret _) | (show Q .normal _) | skip); refine hret _ _ (by first | exact .inr rfl | exact .inl rfl) (by first | rfl | assumption | (simp only [put_df, withH_df]; assumption)) ?_; have fs := @i64.eq_1; refine evT ?_; clear fs
    rw [List.nil_append] at hg6
    rcases hg6 with ⟨_, rfl, he⟩ | ⟨c, o, _, rfl, h2, h3⟩
    · exact ⟨H, hle6, .inl ⟨rfl, he, rfl⟩⟩
    · refine ⟨H.upd c (.row 49 o 2 els), fun b x hx => ?_, .inr ⟨c, o, h2, rfl, rfl⟩⟩
      by_cases e : b = c
      · rw [e, Heap.upd_same] at hx; rw [e, h3]; exact hx
      · rw [Heap.upd_ne e] at hx; exact hle6 _ _ hx
set_option maxHeartbeats 1000000 in
theorem clL_N (els : List (List D)) (H : Heap) (hl : els.length ≤ 1000000) : Does Try.prog 68 [.seq 2 els] H (ClR 71 2 els H) := by
  refine does_of _ _ Try.func68 rfl rfl Try.ntmps68 Try.results68 (by simp only [List.length_cons, List.length_nil]; omega) fun w0 Q hret => ?_
  (have fs := @i64.eq_1; (repeat (first | refine hGx _ ?_ | refine hNx _ ?_ | refine W_skip ?_ | refine W_exit ?_ | refine W_ret ?_ | refine W_label ?_ | refine W_scope ?_ | refine W_block ?_ | refine W_seq ?_ | ((first | refine tS fun N hNx => ?_ | refine WL_gE rfl rfl (by kernel_rfl) (by kernel_rfl) fun G hGx => ?_ | refine vcOpsS_sound (by kernel_rfl) ?_ | refine W_ifE fun A B hAx hBx => ?_); refine evT ?_; (first | refine hGx _ ?_ | refine hNx _ ?_ | refine hAx ?_ | refine hBx ?_ | skip)))); (try clear fs))
  intro b hb
  refine hNx _ ?_
  cases b with
  | true =>
    (have fs := @i64.eq_1; (repeat (first | refine hGx _ ?_ | refine hNx _ ?_ | refine W_skip ?_ | refine W_exit ?_ | refine W_ret ?_ | refine W_label ?_ | refine W_scope ?_ | refine W_block ?_ | refine W_seq ?_ | ((first | refine tS fun N hNx => ?_ | refine WL_gE rfl rfl (by kernel_rfl) (by kernel_rfl) fun G hGx => ?_ | refine vcOpsS_sound (by kernel_rfl) ?_ | refine W_ifE fun A B hAx hBx => ?_); refine evT ?_; (first | refine hGx _ ?_ | refine hNx _ ?_ | refine hAx ?_ | refine hBx ?_ | skip)))); (try clear fs))
    (first | (show Q .ret _) | (show Q .normal _) | skip); refine hret _ _ (by first | exact .inr rfl | exact .inl rfl) (by first | rfl | assumption | (simp only [put_df, withH_df]; assumption)) ?_; have fs := @i64.eq_1; refine evT ?_; clear fs
    have he : els = [] := Classical.byContradiction fun e => Bool.noConfusion (hb fun e0 => e (List.eq_nil_of_length_eq_zero e0))
    exact ⟨H, Heap.le_refl _, .inl ⟨rfl, he, rfl⟩⟩
  | false =>
    (have fs := @i64.eq_1; (repeat (first | refine hGx _ ?_ | refine hNx _ ?_ | refine W_skip ?_ | refine W_exit ?_ | refine W_ret ?_ | refine W_label ?_ | refine W_scope ?_ | refine W_block ?_ | refine W_seq ?_ | ((first | refine tS fun N hNx => ?_ | refine WL_gE rfl rfl (by kernel_rfl) (by kernel_rfl) fun G hGx => ?_ | refine vcOpsS_sound (by kernel_rfl) ?_ | refine W_ifE fun A B hAx hBx => ?_); refine evT ?_; (first | refine hGx _ ?_ | refine hNx _ ?_ | refine hAx ?_ | refine hBx ?_ | skip)))); (try clear fs))
    intro b1 hb1
    refine apV_grow (e := 71) ty25 rfl ty25 rfl ty71 rfl (by decide) (Heap.le_put (Heap.le_refl _) hb1) (.inr ⟨b1, 0, rfl, rfl, hb1, Heap.upd_same _ _ _⟩ : Gl H 71 2 [] (.os b1 0 2 0 0) (H.upd b1 (.row 71 0 2 [])) (some b1)) (new := els) (by exact ⟨rfl, rfl⟩) (by rw [List.length_nil]; show (_ + _) * 24 ≤ _; omega) fun d H6 ob6 hg6 hle6 _ => ?_
    (have fs := @i64.eq_1; (repeat (first | refine hGx _ ?_ | refine hNx _ ?_ | refine W_skip ?_ | refine W_exit ?_ | refine W_ret ?_ | refine W_label ?_ | refine W_scope ?_ | refine W_block ?_ | refine W_seq ?_ | ((first | refine tS fun N hNx => ?_ | refine WL_gE rfl rfl (by kernel_rfl) (by kernel_rfl) fun G hGx => ?_ | refine vcOpsS_sound (by kernel_rfl) ?_ | refine W_ifE fun A B hAx hBx => ?_); refine evT ?_; (first | refine hGx _ ?_ | refine hNx _ ?_ | refine hAx ?_ | refine hBx ?_ | skip)))); (try clear fs))
    (first | (show Q .ret _) | (show Q .normal _) | skip); refine hret _ _ (by first | exact .inr rfl | exact .inl rfl) (by first | rfl | assumption | (simp only [put_df, withH_df]; assumption)) ?_; have fs := @i64.eq_1; refine evT ?_; clear fs
    rw [List.nil_append] at hg6
    rcases hg6 with ⟨_, rfl, he⟩ | ⟨c, o, _, rfl, h2, h3⟩
    · exact ⟨H, hle6, .inl ⟨rfl, he, rfl⟩⟩
    · refine ⟨H.upd c (.row 71 o 2 els), fun b x hx => ?_, .inr ⟨c, o, h2, rfl, rfl⟩⟩
      by_cases e : b = c
      · rw [e, Heap.upd_same] at hx; rw [e, h3]; exact hx
      · rw [Heap.upd_ne e] at hx; exact hle6 _ _ hx
set_option maxHeartbeats 1000000 in
theorem clT_N (els : List (List D)) (H : Heap) (hl : els.length ≤ 1000000) : Does Try.prog 69 [.seq 5 els] H (ClR 51 5 els H) := by
  refine does_of _ _ Try.func69 rfl rfl Try.ntmps69 Try.results69 (by simp only [List.length_cons, List.length_nil]; omega) fun w0 Q hret => ?_
  (have fs := @i64.eq_1; (repeat (first | refine hGx _ ?_ | refine hNx _ ?_ | refine W_skip ?_ | refine W_exit ?_ | refine W_ret ?_ | refine W_label ?_ | refine W_scope ?_ | refine W_block ?_ | refine W_seq ?_ | ((first | refine tS fun N hNx => ?_ | refine WL_gE rfl rfl (by kernel_rfl) (by kernel_rfl) fun G hGx => ?_ | refine vcOpsS_sound (by kernel_rfl) ?_ | refine W_ifE fun A B hAx hBx => ?_); refine evT ?_; (first | refine hGx _ ?_ | refine hNx _ ?_ | refine hAx ?_ | refine hBx ?_ | skip)))); (try clear fs))
  intro b hb
  refine hNx _ ?_
  cases b with
  | true =>
    (have fs := @i64.eq_1; (repeat (first | refine hGx _ ?_ | refine hNx _ ?_ | refine W_skip ?_ | refine W_exit ?_ | refine W_ret ?_ | refine W_label ?_ | refine W_scope ?_ | refine W_block ?_ | refine W_seq ?_ | ((first | refine tS fun N hNx => ?_ | refine WL_gE rfl rfl (by kernel_rfl) (by kernel_rfl) fun G hGx => ?_ | refine vcOpsS_sound (by kernel_rfl) ?_ | refine W_ifE fun A B hAx hBx => ?_); refine evT ?_; (first | refine hGx _ ?_ | refine hNx _ ?_ | refine hAx ?_ | refine hBx ?_ | skip)))); (try clear fs))
    (first | (show Q .ret _) | (show Q .normal _) | skip); refine hret _ _ (by first | exact .inr rfl | exact .inl rfl) (by first | rfl | assumption | (simp only [put_df, withH_df]; assumption)) ?_; have fs := @i64.eq_1; refine evT ?_; clear fs
    have he : els = [] := Classical.byContradiction fun e => Bool.noConfusion (hb fun e0 => e (List.eq_nil_of_length_eq_zero e0))
    exact ⟨H, Heap.le_refl _, .inl ⟨rfl, he, rfl⟩⟩
  | false =>
    (have fs := @i64.eq_1; (repeat (first | refine hGx _ ?_ | refine hNx _ ?_ | refine W_skip ?_ | refine W_exit ?_ | refine W_ret ?_ | refine W_label ?_ | refine W_scope ?_ | refine W_block ?_ | refine W_seq ?_ | ((first | refine tS fun N hNx => ?_ | refine WL_gE rfl rfl (by kernel_rfl) (by kernel_rfl) fun G hGx => ?_ | refine vcOpsS_sound (by kernel_rfl) ?_ | refine W_ifE fun A B hAx hBx => ?_); refine evT ?_; (first | refine hGx _ ?_ | refine hNx _ ?_ | refine hAx ?_ | refine hBx ?_ | skip)))); (try clear fs))
    intro b1 hb1
    refine apV_grow (e := 51) ty24 rfl ty24 rfl ty51 rfl (by decide) (Heap.le_put (Heap.le_refl _) hb1) (.inr ⟨b1, 0, rfl, rfl, hb1, Heap.upd_same _ _ _⟩ : Gl H 51 5 [] (.os b1 0 5 0 0) (H.upd b1 (.row 51 0 5 [])) (some b1)) (new := els) (by exact ⟨rfl, rfl⟩) (by rw [List.length_nil]; show (_ + _) * 56 ≤ _; omega) fun d H6 ob6 hg6 hle6 _ => ?_
    (have fs := @i64.eq_1; (repeat (first | refine hGx _ ?_ | refine hNx _ ?_ | refine W_skip ?_ | refine W_exit ?_ | refine W_ret ?_ | refine W_label ?_ | refine W_scope ?_ | refine W_block ?_ | refine W_seq ?_ | ((first | refine tS fun N hNx => ?_ | refine WL_gE rfl rfl (by kernel_rfl) (by kernel_rfl) fun G hGx => ?_ | refine vcOpsS_sound (by kernel_rfl) ?_ | refine W_ifE fun A B hAx hBx => ?_); refine evT ?_; (first | refine hGx _ ?_ | refine hNx _ ?_ | refine hAx ?_ | refine hBx ?_ | skip)))); (try clear fs))
    (first | (show Q .ret _) | (show Q .normal _) | skip); refine hret _ _ (by first | exact .inr rfl | exact .inl rfl) (by first | rfl | assumption | (simp only [put_df, withH_df]; assumption)) ?_; have fs := @i64.eq_1; refine evT ?_; clear fs
    rw [List.nil_append] at hg6
    rcases hg6 with ⟨_, rfl, he⟩ | ⟨c, o, _, rfl, h2, h3⟩
    · exact ⟨H, hle6, .inl ⟨rfl, he, rfl⟩⟩
    · refine ⟨H.upd c (.row 51 o 5 els), fun b x hx => ?_, .inr ⟨c, o, h2, rfl, rfl⟩⟩
      by_cases e : b = c
      · rw [e, Heap.upd_same] at hx; rw [e, h3]; exact hx
      · rw [Heap.upd_ne e] at hx; exact hle6 _ _ hx
set_option maxHeartbeats 1000000 in
theorem clB_N (els : List (List D)) (H : Heap) (hl : els.length ≤ 1000000) : Does Try.prog 70 [.seq 7 els] H (ClR 44 7 els H) := by
  refine does_of _ _ Try.func70 rfl rfl Try.ntmps70 Try.results70 (by simp only [List.length_cons, List.length_nil]; omega) fun w0 Q hret => ?_
  (have fs := @i64.eq_1; (repeat (first | refine hGx _ ?_ | refine hNx _ ?_ | refine W_skip ?_ | refine W_exit ?_ | refine W_ret ?_ | refine W_label ?_ | refine W_scope ?_ | refine W_block ?_ | refine W_seq ?_ | ((first | refine tS fun N hNx => ?_ | refine WL_gE rfl rfl (by kernel_rfl) (by kernel_rfl) fun G hGx => ?_ | refine vcOpsS_sound (by kernel_rfl) ?_ | refine W_ifE fun A B hAx hBx => ?_); refine evT ?_; (first | refine hGx _ ?_ | refine hNx _ ?_ | refine hAx ?_ | refine hBx ?_ | skip)))); (try clear fs))
  intro b hb
  refine hNx _ ?_
  cases b with
  | true =>
    (have fs := @i64.eq_1; (repeat (first | refine hGx _ ?_ | refine hNx _ ?_ | refine W_skip ?_ | refine W_exit ?_ | refine W_ret ?_ | refine W_label ?_ | refine W_scope ?_ | refine W_block ?_ | refine W_seq ?_ | ((first | refine tS fun N hNx => ?_ | refine WL_gE rfl rfl (by kernel_rfl) (by kernel_rfl) fun G hGx => ?_ | refine vcOpsS_sound (by kernel_rfl) ?_ | refine W_ifE fun A B hAx hBx => ?_); refine evT ?_; (first | refine hGx _ ?_ | refine hNx _ ?_ | refine hAx ?_ | refine hBx ?_ | skip)))); (try clear fs))
    (first | (show Q .ret _) | (show Q .normal _) | skip); refine hret _ _ (by first | exact .inr rfl | exact .inl rfl) (by first | rfl | assumption | (simp only [put_df, withH_df]; assumption)) ?_; have fs := @i64.eq_1; refine evT ?_; clear fs
    have he : els = [] := Classical.byContradiction fun e => Bool.noConfusion (hb fun e0 => e (List.eq_nil_of_length_eq_zero e0))
    exact ⟨H, Heap.le_refl _, .inl ⟨rfl, he, rfl⟩⟩
  | false =>
    (have fs := @i64.eq_1; (repeat (first | refine hGx _ ?_ | refine hNx _ ?_ | refine W_skip ?_ | refine W_exit ?_ | refine W_ret ?_ | refine W_label ?_ | refine W_scope ?_ | refine W_block ?_ | refine W_seq ?_ | ((first | refine tS fun N hNx => ?_ | refine WL_gE rfl rfl (by kernel_rfl) (by kernel_rfl) fun G hGx => ?_ | refine vcOpsS_sound (by kernel_rfl) ?_ | refine W_ifE fun A B hAx hBx => ?_); refine evT ?_; (first | refine hGx _ ?_ | refine hNx _ ?_ | refine hAx ?_ | refine hBx ?_ | skip)))); (try clear fs))
    intro b1 hb1
    refine apV_grow (e := 44) ty26 rfl ty26 rfl ty44 rfl (by decide) (Heap.le_put (Heap.le_refl _) hb1) (.inr ⟨b1, 0, rfl, rfl, hb1, Heap.upd_same _ _ _⟩ : Gl H 44 7 [] (.os b1 0 7 0 0) (H.upd b1 (.row 44 0 7 [])) (some b1)) (new := els) (by exact ⟨rfl, rfl⟩) (by rw [List.length_nil]; show (_ + _) * 128 ≤ _; omega) fun d H6 ob6 hg6 hle6 _ => ?_
    (have fs := @i64.eq_1; (repeat (first | refine hGx _ ?_ | refine hNx _ ?_ | refine W_skip ?_ | refine W_exit ?_ | refine W_ret ?_ | refine W_label ?_ | refine W_scope ?_ | refine W_block ?_ | refine W_seq ?_ | ((first | refine tS fun N hNx => ?_ | refine WL_gE rfl rfl (by kernel_rfl) (by kernel_rfl) fun G hGx => ?_ | refine vcOpsS_sound (by kernel_rfl) ?_ | refine W_ifE fun A B hAx hBx => ?_); refine evT ?_; (first | refine hGx _ ?_ | refine hNx _ ?_ | refine hAx ?_ | refine hBx ?_ | skip)))); (try clear fs))
    (first | (show Q .ret _) | (show Q .normal _) | skip); refine hret _ _ (by first | exact .inr rfl | exact .inl rfl) (by first | rfl | assumption | (simp only [put_df, withH_df]; assumption)) ?_; have fs := @i64.eq_1; refine evT ?_; clear fs
    rw [List.nil_append] at hg6
    rcases hg6 with ⟨_, rfl, he⟩ | ⟨c, o, _, rfl, h2, h3⟩
    · exact ⟨H, hle6, .inl ⟨rfl, he, rfl⟩⟩
    · refine ⟨H.upd c (.row 44 o 7 els), fun b x hx => ?_, .inr ⟨c, o, h2, rfl, rfl⟩⟩
      by_cases e : b = c
      · rw [e, Heap.upd_same] at hx; rw [e, h3]; exact hx
      · rw [Heap.upd_ne e] at hx; exact hle6 _ _ hx
set_option maxHeartbeats 1000000 in
theorem clI_N (els : List (List D)) (H : Heap) (hl : els.length ≤ 1000000) : Does Try.prog 71 [.seq 1 els] H (ClR 3 1 els H) := by
  refine does_of _ _ Try.func71 rfl rfl Try.ntmps71 Try.results71 (by simp only [List.length_cons, List.length_nil]; omega) fun w0 Q hret => ?_
  (have fs := @i64.eq_1; (repeat (first | refine hGx _ ?_ | refine hNx _ ?_ | refine W_skip ?_ | refine W_exit ?_ | refine W_ret ?_ | refine W_label ?_ | refine W_scope ?_ | refine W_block ?_ | refine W_seq ?_ | ((first | refine tS fun N hNx => ?_ | refine WL_gE rfl rfl (by kernel_rfl) (by kernel_rfl) fun G hGx => ?_ | refine vcOpsS_sound (by kernel_rfl) ?_ | refine W_ifE fun A B hAx hBx => ?_); refine evT ?_; (first | refine hGx _ ?_ | refine hNx _ ?_ | refine hAx ?_ | refine hBx ?_ | skip)))); (try clear fs))
  intro b hb
  refine hNx _ ?_
  cases b with
  | true =>
    (have fs := @i64.eq_1; (repeat (first | refine hGx _ ?_ | refine hNx _ ?_ | refine W_skip ?_ | refine W_exit ?_ | refine W_ret ?_ | refine W_label ?_ | refine W_scope ?_ | refine W_block ?_ | refine W_seq ?_ | ((first | refine tS fun N hNx => ?_ | refine WL_gE rfl rfl (by kernel_rfl) (by kernel_rfl) fun G hGx => ?_ | refine vcOpsS_sound (by kernel_rfl) ?_ | refine W_ifE fun A B hAx hBx => ?_); refine evT ?_; (first | refine hGx _ ?_ | refine hNx _ ?_ | refine hAx ?_ | refine hBx ?_ | skip)))); (try clear fs))
    (first | (show Q .ret _) | (show Q .normal _) | skip); refine hret _ _ (by first | exact .inr rfl | exact .inl rfl) (by first | rfl | assumption | (simp only [put_df, withH_df]; assumption)) ?_; have fs := @i64.eq_1; refine evT ?_; clear fs
    have he : els = [] := Classical.byContradiction fun e => Bool.noConfusion (hb fun e0 => e (List.eq_nil_of_length_eq_zero e0))
    exact ⟨H, Heap.le_refl _, .inl ⟨rfl, he, rfl⟩⟩
  | false =>
    (have fs := @i64.eq_1; (repeat (first | refine hGx _ ?_ | refine hNx _ ?_ | refine W_skip ?_ | refine W_exit ?_ | refine W_ret ?_ | refine W_label ?_ | refine W_scope ?_ | refine W_block ?_ | refine W_seq ?_ | ((first | refine tS fun N hNx => ?_ | refine WL_gE rfl rfl (by kernel_rfl) (by kernel_rfl) fun G hGx => ?_ | refine vcOpsS_sound (by kernel_rfl) ?_ | refine W_ifE fun A B hAx hBx => ?_); refine evT ?_; (first | refine hGx _ ?_ | refine hNx _ ?_ | refine hAx ?_ | refine hBx ?_ | skip)))); (try clear fs))
    intro b1 hb1
    refine apV_grow (e := 3) ty36 rfl ty36 rfl ty3 rfl (by decide) (Heap.le_put (Heap.le_refl _) hb1) (.inr ⟨b1, 0, rfl, rfl, hb1, Heap.upd_same _ _ _⟩ : Gl H 3 1 [] (.os b1 0 1 0 0) (H.upd b1 (.row 3 0 1 [])) (some b1)) (new := els) (by exact ⟨rfl, rfl⟩) (by rw [List.length_nil]; show (_ + _) * 8 ≤ _; omega) fun d H6 ob6 hg6 hle6 _ => ?_
    (have fs := @i64.eq_1; (repeat (first | refine hGx _ ?_ | refine hNx _ ?_ | refine W_skip ?_ | refine W_exit ?_ | refine W_ret ?_ | refine W_label ?_ | refine W_scope ?_ | refine W_block ?_ | refine W_seq ?_ | ((first | refine tS fun N hNx => ?_ | refine WL_gE rfl rfl (by kernel_rfl) (by kernel_rfl) fun G hGx => ?_ | refine vcOpsS_sound (by kernel_rfl) ?_ | refine W_ifE fun A B hAx hBx => ?_); refine evT ?_; (first | refine hGx _ ?_ | refine hNx _ ?_ | refine hAx ?_ | refine hBx ?_ | skip)))); (try clear fs))
    (first | (show Q .ret _) | (show Q .normal _) | skip); refine hret _ _ (by first | exact .inr rfl | exact .inl rfl) (by first | rfl | assumption | (simp only [put_df, withH_df]; assumption)) ?_; have fs := @i64.eq_1; refine evT ?_; clear fs
    rw [List.nil_append] at hg6
    rcases hg6 with ⟨_, rfl, he⟩ | ⟨c, o, _, rfl, h2, h3⟩
    · exact ⟨H, hle6, .inl ⟨rfl, he, rfl⟩⟩
    · refine ⟨H.upd c (.row 3 o 1 els), fun b x hx => ?_, .inr ⟨c, o, h2, rfl, rfl⟩⟩
      by_cases e : b = c
      · rw [e, Heap.upd_same] at hx; rw [e, h3]; exact hx
      · rw [Heap.upd_ne e] at hx; exact hle6 _ _ hx
set_option maxHeartbeats 1000000 in
theorem clM_N (els : List (List D)) (H : Heap) (hl : els.length ≤ 1000000) : Does Try.prog 72 [.seq 11 els] H (ClR 75 11 els H) := by
  refine does_of _ _ Try.func72 rfl rfl Try.ntmps72 Try.results72 (by simp only [List.length_cons, List.length_nil]; omega) fun w0 Q hret => ?_
  (have fs := @i64.eq_1; (repeat (first | refine hGx _ ?_ | refine hNx _ ?_ | refine W_skip ?_ | refine W_exit ?_ | refine W_ret ?_ | refine W_label ?_ | refine W_scope ?_ | refine W_block ?_ | refine W_seq ?_ | ((first | refine tS fun N hNx => ?_ | refine WL_gE rfl rfl (by kernel_rfl) (by kernel_rfl) fun G hGx => ?_ | refine vcOpsS_sound (by kernel_rfl) ?_ | refine W_ifE fun A B hAx hBx => ?_); refine evT ?_; (first | refine hGx _ ?_ | refine hNx _ ?_ | refine hAx ?_ | refine hBx ?_ | skip)))); (try clear fs))
  intro b hb
  refine hNx _ ?_
  cases b with
  | true =>
    (have fs := @i64.eq_1; (repeat (first | refine hGx _ ?_ | refine hNx _ ?_ | refine W_skip ?_ | refine W_exit ?_ | refine W_ret ?_ | refine W_label ?_ | refine W_scope ?_ | refine W_block ?_ | refine W_seq ?_ | ((first | refine tS fun N hNx => ?_ | refine WL_gE rfl rfl (by kernel_rfl) (by kernel_rfl) fun G hGx => ?_ | refine vcOpsS_sound (by kernel_rfl) ?_ | refine W_ifE fun A B hAx hBx => ?_); refine evT ?_; (first | refine hGx _ ?_ | refine hNx _ ?_ | refine hAx ?_ | refine hBx ?_ | skip)))); (try clear fs))
    (first | (show Q .ret _) | (show Q .normal _) | skip); refine hret _ _ (by first | exact .inr rfl | exact .inl rfl) (by first | rfl | assumption | (simp only [put_df, withH_df]; assumption)) ?_; have fs := @i64.eq_1; refine evT ?_; clear fs
    have he : els = [] := Classical.byContradiction fun e => Bool.noConfusion (hb fun e0 => e (List.eq_nil_of_length_eq_zero e0))
    exact ⟨H, Heap.le_refl _, .inl ⟨rfl, he, rfl⟩⟩
  | false =>
    (have fs := @i64.eq_1; (repeat (first | refine hGx _ ?_ | refine hNx _ ?_ | refine W_skip ?_ | refine W_exit ?_ | refine W_ret ?_ | refine W_label ?_ | refine W_scope ?_ | refine W_block ?_ | refine W_seq ?_ | ((first | refine tS fun N hNx => ?_ | refine WL_gE rfl rfl (by kernel_rfl) (by kernel_rfl) fun G hGx => ?_ | refine vcOpsS_sound (by kernel_rfl) ?_ | refine W_ifE fun A B hAx hBx => ?_); refine evT ?_; (first | refine hGx _ ?_ | refine hNx _ ?_ | refine hAx ?_ | refine hBx ?_ | skip)))); (try clear fs))
    intro b1 hb1
    refine apV_grow (e := 75) ty35 rfl ty35 rfl ty75 rfl (by decide) (Heap.le_put (Heap.le_refl _) hb1) (.inr ⟨b1, 0, rfl, rfl, hb1, Heap.upd_same _ _ _⟩ : Gl H 75 11 [] (.os b1 0 11 0 0) (H.upd b1 (.row 75 0 11 [])) (some b1)) (new := els) (by exact ⟨rfl, rfl⟩) (by rw [List.length_nil]; show (_ + _) * 136 ≤ _; omega) fun d H6 ob6 hg6 hle6 _ => ?_
    (have fs := @i64.eq_1; (repeat (first | refine hGx _ ?_ | refine hNx _ ?_ | refine W_skip ?_ | refine W_exit ?_ | refine W_ret ?_ | refine W_label ?_ | refine W_scope ?_ | refine W_block ?_ | refine W_seq ?_ | ((first | refine tS fun N hNx => ?_ | refine WL_gE rfl rfl (by kernel_rfl) (by kernel_rfl) fun G hGx => ?_ | refine vcOpsS_sound (by kernel_rfl) ?_ | refine W_ifE fun A B hAx hBx => ?_); refine evT ?_; (first | refine hGx _ ?_ | refine hNx _ ?_ | refine hAx ?_ | refine hBx ?_ | skip)))); (try clear fs))
    (first | (show Q .ret _) | (show Q .normal _) | skip); refine hret _ _ (by first | exact .inr rfl | exact .inl rfl) (by first | rfl | assumption | (simp only [put_df, withH_df]; assumption)) ?_; have fs := @i64.eq_1; refine evT ?_; clear fs
    rw [List.nil_append] at hg6
    rcases hg6 with ⟨_, rfl, he⟩ | ⟨c, o, _, rfl, h2, h3⟩
    · exact ⟨H, hle6, .inl ⟨rfl, he, rfl⟩⟩
    · refine ⟨H.upd c (.row 75 o 11 els), fun b x hx => ?_, .inr ⟨c, o, h2, rfl, rfl⟩⟩
      by_cases e : b = c
      · rw [e, Heap.upd_same] at hx; rw [e, h3]; exact hx
      · rw [Heap.upd_ne e] at hx; exact hle6 _ _ hx
set_option maxHeartbeats 1000000 in
theorem clO_N (els : List (List D)) (H : Heap) (hl : els.length ≤ 1000000) : Does Try.prog 102 [.seq 4 els] H (ClR 91 4 els H) := by
  refine does_of _ _ Try.func102 rfl rfl Try.ntmps102 Try.results102 (by simp only [List.length_cons, List.length_nil]; omega) fun w0 Q hret => ?_
  (have fs := @i64.eq_1; (repeat (first | refine hGx _ ?_ | refine hNx _ ?_ | refine W_skip ?_ | refine W_exit ?_ | refine W_ret ?_ | refine W_label ?_ | refine W_scope ?_ | refine W_block ?_ | refine W_seq ?_ | ((first | refine tS fun N hNx => ?_ | refine WL_gE rfl rfl (by kernel_rfl) (by kernel_rfl) fun G hGx => ?_ | refine vcOpsS_sound (by kernel_rfl) ?_ | refine W_ifE fun A B hAx hBx => ?_); refine evT ?_; (first | refine hGx _ ?_ | refine hNx _ ?_ | refine hAx ?_ | refine hBx ?_ | skip)))); (try clear fs))
  intro b hb
  refine hNx _ ?_
  cases b with
  | true =>
    (have fs := @i64.eq_1; (repeat (first | refine hGx _ ?_ | refine hNx _ ?_ | refine W_skip ?_ | refine W_exit ?_ | refine W_ret ?_ | refine W_label ?_ | refine W_scope ?_ | refine W_block ?_ | refine W_seq ?_ | ((first | refine tS fun N hNx => ?_ | refine WL_gE rfl rfl (by kernel_rfl) (by kernel_rfl) fun G hGx => ?_ | refine vcOpsS_sound (by kernel_rfl) ?_ | refine W_ifE fun A B hAx hBx => ?_); refine evT ?_; (first | refine hGx _ ?_ | refine hNx _ ?_ | refine hAx ?_ | refine hBx ?_ | skip)))); (try clear fs))
    (first | (show Q .ret _) | (show Q .normal _) | skip); refine hret _ _ (by first | exact .inr rfl | exact .inl rfl) (by first | rfl | assumption | (simp only [put_df, withH_df]; assumption)) ?_; have fs := @i64.eq_1; refine evT ?_; clear fs
    have he : els = [] := Classical.byContradiction fun e => Bool.noConfusion (hb fun e0 => e (List.eq_nil_of_length_eq_zero e0))
    exact ⟨H, Heap.le_refl _, .inl ⟨rfl, he, rfl⟩⟩
  | false =>
    (have fs := @i64.eq_1; (repeat (first | refine hGx _ ?_ | refine hNx _ ?_ | refine W_skip ?_ | refine W_exit ?_ | refine W_ret ?_ | refine W_label ?_ | refine W_scope ?_ | refine W_block ?_ | refine W_seq ?_ | ((first | refine tS fun N hNx => ?_ | refine WL_gE rfl rfl (by kernel_rfl) (by kernel_rfl) fun G hGx => ?_ | refine vcOpsS_sound (by kernel_rfl) ?_ | refine W_ifE fun A B hAx hBx => ?_); refine evT ?_; (first | refine hGx _ ?_ | refine hNx _ ?_ | refine hAx ?_ | refine hBx ?_ | skip)))); (try clear fs))
    intro b1 hb1
    refine apV_grow (e := 91) ty37 rfl ty37 rfl ty91 rfl (by decide) (Heap.le_put (Heap.le_refl _) hb1) (.inr ⟨b1, 0, rfl, rfl, hb1, Heap.upd_same _ _ _⟩ : Gl H 91 4 [] (.os b1 0 4 0 0) (H.upd b1 (.row 91 0 4 [])) (some b1)) (new := els) (by exact ⟨rfl, rfl⟩) (by rw [List.length_nil]; show (_ + _) * 48 ≤ _; omega) fun d H6 ob6 hg6 hle6 _ => ?_
    (have fs := @i64.eq_1; (repeat (first | refine hGx _ ?_ | refine hNx _ ?_ | refine W_skip ?_ | refine W_exit ?_ | refine W_ret ?_ | refine W_label ?_ | refine W_scope ?_ | refine W_block ?_ | refine W_seq ?_ | ((first | refine tS fun N hNx => ?_ | refine WL_gE rfl rfl (by kernel_rfl) (by kernel_rfl) fun G hGx => ?_ | refine vcOpsS_sound (by kernel_rfl) ?_ | refine W_ifE fun A B hAx hBx => ?_); refine evT ?_; (first | refine hGx _ ?_ | refine hNx _ ?_ | refine hAx ?_ | refine hBx ?_ | skip)))); (try clear fs))
    (first | (show Q .ret _) | (show Q .normal _) | skip); refine hret _ _ (by first | exact .inr rfl | exact .inl rfl) (by first | rfl | assumption | (simp only [put_df, withH_df]; assumption)) ?_; have fs := @i64.eq_1; refine evT ?_; clear fs
    rw [List.nil_append] at hg6
    rcases hg6 with ⟨_, rfl, he⟩ | ⟨c, o, _, rfl, h2, h3⟩
    · exact ⟨H, hle6, .inl ⟨rfl, he, rfl⟩⟩
    · refine ⟨H.upd c (.row 91 o 4 els), fun b x hx => ?_, .inr ⟨c, o, h2, rfl, rfl⟩⟩
      by_cases e : b = c
      · rw [e, Heap.upd_same] at hx; rw [e, h3]; exact hx
      · rw [Heap.upd_ne e] at hx; exact hle6 _ _ hx
set_option maxHeartbeats 1000000 in
theorem clJ_N (els : List (List D)) (H : Heap) (hl : els.length ≤ 1000000) : Does Try.prog 104 [.seq 2 els] H (ClR 139 2 els H) := by
  refine does_of _ _ Try.func104 rfl rfl Try.ntmps104 Try.results104 (by simp only [List.length_cons, List.length_nil]; omega) fun w0 Q hret => ?_
  (have fs := @i64.eq_1; (repeat (first | refine hGx _ ?_ | refine hNx _ ?_ | refine W_skip ?_ | refine W_exit ?_ | refine W_ret ?_ | refine W_label ?_ | refine W_scope ?_ | refine W_block ?_ | refine W_seq ?_ | ((first | refine tS fun N hNx => ?_ | refine WL_gE rfl rfl (by kernel_rfl) (by kernel_rfl) fun G hGx => ?_ | refine vcOpsS_sound (by kernel_rfl) ?_ | refine W_ifE fun A B hAx hBx => ?_); refine evT ?_; (first | refine hGx _ ?_ | refine hNx _ ?_ | refine hAx ?_ | refine hBx ?_ | skip)))); (try clear fs))
  intro b hb
  refine hNx _ ?_
  cases b with
  | true =>
    (have fs := @i64.eq_1; (repeat (first | refine hGx _ ?_ | refine hNx _ ?_ | refine W_skip ?_ | refine W_exit ?_ | refine W_ret ?_ | refine W_label ?_ | refine W_scope ?_ | refine W_block ?_ | refine W_seq ?_ | ((first | refine tS fun N hNx => ?_ | refine WL_gE rfl rfl (by kernel_rfl) (by kernel_rfl) fun G hGx => ?_ | refine vcOpsS_sound (by kernel_rfl) ?_ | refine W_ifE fun A B hAx hBx => ?_); refine evT ?_; (first | refine hGx _ ?_ | refine hNx _ ?_ | refine hAx ?_ | refine hBx ?_ | skip)))); (try clear fs))
    (first | (show Q .ret _) | (show Q .normal _) | skip); refine hret _ _ (by first | exact .inr rfl | exact .inl rfl) (by first | rfl | assumption | (simp only [put_df, withH_df]; assumption)) ?_; have fs := @i64.eq_1; refine evT ?_; clear fs
    have he : els = [] := Classical.byContradiction fun e => Bool.noConfusion (hb fun e0 => e (List.eq_nil_of_length_eq_zero e0))
    exact ⟨H, Heap.le_refl _, .inl ⟨rfl, he, rfl⟩⟩
  | false =>
    (have fs := @i64.eq_1; (repeat (first | refine hGx _ ?_ | refine hNx _ ?_ | refine W_skip ?_ | refine W_exit ?_ | refine W_ret ?_ | refine W_label ?_ | refine W_scope ?_ | refine W_block ?_ | refine W_seq ?_ | ((first | refine tS fun N hNx => ?_ | refine WL_gE rfl rfl (by kernel_rfl) (by kernel_rfl) fun G hGx => ?_ | refine vcOpsS_sound (by kernel_rfl) ?_ | refine W_ifE fun A B hAx hBx => ?_); refine evT ?_; (first | refine hGx _ ?_ | refine hNx _ ?_ | refine hAx ?_ | refine hBx ?_ | skip)))); (try clear fs))
    intro b1 hb1
    refine apV_grow (e := 139) ty38 rfl ty38 rfl ty139 rfl (by decide) (Heap.le_put (Heap.le_refl _) hb1) (.inr ⟨b1, 0, rfl, rfl, hb1, Heap.upd_same _ _ _⟩ : Gl H 139 2 [] (.os b1 0 2 0 0) (H.upd b1 (.row 139 0 2 [])) (some b1)) (new := els) (by exact ⟨rfl, rfl⟩) (by rw [List.length_nil]; show (_ + _) * 16 ≤ _; omega) fun d H6 ob6 hg6 hle6 _ => ?_
    (have fs := @i64.eq_1; (repeat (first | refine hGx _ ?_ | refine hNx _ ?_ | refine W_skip ?_ | refine W_exit ?_ | refine W_ret ?_ | refine W_label ?_ | refine W_scope ?_ | refine W_block ?_ | refine W_seq ?_ | ((first | refine tS fun N hNx => ?_ | refine WL_gE rfl rfl (by kernel_rfl) (by kernel_rfl) fun G hGx => ?_ | refine vcOpsS_sound (by kernel_rfl) ?_ | refine W_ifE fun A B hAx hBx => ?_); refine evT ?_; (first | refine hGx _ ?_ | refine hNx _ ?_ | refine hAx ?_ | refine hBx ?_ | skip)))); (try clear fs))
    (first | (show Q .ret _) | (show Q .normal _) | skip); refine hret _ _ (by first | exact .inr rfl | exact .inl rfl) (by first | rfl | assumption | (simp only [put_df, withH_df]; assumption)) ?_; have fs := @i64.eq_1; refine evT ?_; clear fs
    rw [List.nil_append] at hg6
    rcases hg6 with ⟨_, rfl, he⟩ | ⟨c, o, _, rfl, h2, h3⟩
    · exact ⟨H, hle6, .inl ⟨rfl, he, rfl⟩⟩
    · refine ⟨H.upd c (.row 139 o 2 els), fun b x hx => ?_, .inr ⟨c, o, h2, rfl, rfl⟩⟩
      by_cases e : b = c
      · rw [e, Heap.upd_same] at hx; rw [e, h3]; exact hx
      · rw [Heap.upd_ne e] at hx; exact hle6 _ _ hx
/-- A slice that is nil or a whole row of one's own. -/
def oS (A : Heap) (T : TypeId) (sz : Nat) (d : D) : Prop := d = .val (.slice none 0 0) ∨ ∃ c o n, d = .os c o sz 0 n ∧ (n = 0 ∨ ∃ els, els.length = n ∧ A c = some (.row T o sz els))
theorem oS_mono {A B : Heap} {T : TypeId} {sz : Nat} {d : D} (h : A.le B) (hs : oS A T sz d) : oS B T sz d := by
  rcases hs with hs | ⟨c, o, n, h1, h2⟩
  · exact .inl hs
  · exact .inr ⟨c, o, n, h1, h2.imp id fun ⟨els, h3, h4⟩ => ⟨els, h3, h _ _ h4⟩⟩
/-- The cells of an element fit its type. -/
structure OkEl (A : Heap) (T : TypeId) (el : List D) : Prop where
  pj : T = 139 → ∃ a b, el = [i64 a, i64 b]
  it : T = 3 → ∃ a, el = [i64 a]
  st : T = 9 → ∃ s, el = [strD s]
  pr : T = 49 → ∃ a b, el = [i64 a, i64 b]
  lc : T = 71 → ∃ s a, el = [strD s, i64 a]
  ty : T = 51 → ∃ k m r e f, el = [i64 k, .val (.bool m), i64 r, i64 e, f] ∧ oS A 3 1 f
  op : T = 91 → ∃ k lo p n, el = [i64 k, i64 lo, p, i64 n] ∧ oS A 139 2 p
  sm : T = 75 → ∃ k lo p k2 op rg mu lo2 p2 ar lo3, el = [i64 k, i64 lo, p, i64 k2, i64 op, i64 rg, .val (.bool mu), i64 lo2, p2, ar, i64 lo3] ∧ oS A 139 2 p ∧ oS A 139 2 p2 ∧ oS A 91 4 ar
  bk : T = 44 → ∃ s k tg ar lo p nm, el = [s, i64 k, tg, ar, i64 lo, p, strD nm] ∧ oS A 75 11 s ∧ oS A 3 1 tg ∧ oS A 91 4 ar ∧ oS A 139 2 p
theorem OkEl.mono {A B : Heap} {T : TypeId} {el : List D} (h : A.le B) (k : OkEl A T el) : OkEl B T el where
  pj := k.pj
  it := k.it
  st := k.st
  pr := k.pr
  lc := k.lc
  ty := fun e => by obtain ⟨a, b, c, d, f, h1, h2⟩ := k.ty e; exact ⟨a, b, c, d, f, h1, oS_mono h h2⟩
  op := fun e => by obtain ⟨a, b, c, d, h1, h2⟩ := k.op e; exact ⟨a, b, c, d, h1, oS_mono h h2⟩
  sm := fun e => by obtain ⟨a, b, c, d, e, f, g, i, j, l, m, h1, h2, h3, h4⟩ := k.sm e; exact ⟨a, b, c, d, e, f, g, i, j, l, m, h1, oS_mono h h2, oS_mono h h3, oS_mono h h4⟩
  bk := fun e => by obtain ⟨a, b, c, d, e, f, g, h1, h2, h3, h4, h5⟩ := k.bk e; exact ⟨a, b, c, d, e, f, g, h1, oS_mono h h2, oS_mono h h3, oS_mono h h4, oS_mono h h5⟩
theorem ok_pj (A : Heap) (a b : Int) : OkEl A 139 [i64 a, i64 b] := ⟨fun _ => ⟨a, b, rfl⟩, fun e => absurd e (by decide), fun e => absurd e (by decide), fun e => absurd e (by decide), fun e => absurd e (by decide), fun e => absurd e (by decide), fun e => absurd e (by decide), fun e => absurd e (by decide), fun e => absurd e (by decide)⟩
theorem ok_it (A : Heap) (a : Int) : OkEl A 3 [i64 a] := ⟨fun e => absurd e (by decide), fun _ => ⟨a, rfl⟩, fun e => absurd e (by decide), fun e => absurd e (by decide), fun e => absurd e (by decide), fun e => absurd e (by decide), fun e => absurd e (by decide), fun e => absurd e (by decide), fun e => absurd e (by decide)⟩
theorem ok_st (A : Heap) (s : ByteArray) : OkEl A 9 [strD s] := ⟨fun e => absurd e (by decide), fun e => absurd e (by decide), fun _ => ⟨s, rfl⟩, fun e => absurd e (by decide), fun e => absurd e (by decide), fun e => absurd e (by decide), fun e => absurd e (by decide), fun e => absurd e (by decide), fun e => absurd e (by decide)⟩
theorem ok_pr (A : Heap) (a b : Int) : OkEl A 49 [i64 a, i64 b] := ⟨fun e => absurd e (by decide), fun e => absurd e (by decide), fun e => absurd e (by decide), fun _ => ⟨a, b, rfl⟩, fun e => absurd e (by decide), fun e => absurd e (by decide), fun e => absurd e (by decide), fun e => absurd e (by decide), fun e => absurd e (by decide)⟩
theorem ok_lc (A : Heap) (s : ByteArray) (a : Int) : OkEl A 71 [strD s, i64 a] := ⟨fun e => absurd e (by decide), fun e => absurd e (by decide), fun e => absurd e (by decide), fun e => absurd e (by decide), fun _ => ⟨s, a, rfl⟩, fun e => absurd e (by decide), fun e => absurd e (by decide), fun e => absurd e (by decide), fun e => absurd e (by decide)⟩
theorem ok_ty {A : Heap} {k : Int} {m : Bool} {r e : Int} {f : D} (h : oS A 3 1 f) : OkEl A 51 [i64 k, .val (.bool m), i64 r, i64 e, f] := ⟨fun e => absurd e (by decide), fun e => absurd e (by decide), fun e => absurd e (by decide), fun e => absurd e (by decide), fun e => absurd e (by decide), fun _ => ⟨k, m, r, e, f, rfl, h⟩, fun e => absurd e (by decide), fun e => absurd e (by decide), fun e => absurd e (by decide)⟩
theorem ok_op {A : Heap} {k lo n : Int} {p : D} (h : oS A 139 2 p) : OkEl A 91 [i64 k, i64 lo, p, i64 n] := ⟨fun e => absurd e (by decide), fun e => absurd e (by decide), fun e => absurd e (by decide), fun e => absurd e (by decide), fun e => absurd e (by decide), fun e => absurd e (by decide), fun _ => ⟨k, lo, p, n, rfl, h⟩, fun e => absurd e (by decide), fun e => absurd e (by decide)⟩
theorem ok_sm {A : Heap} {k lo k2 op rg lo2 lo3 : Int} {mu : Bool} {p p2 ar : D} (h : oS A 139 2 p) (h2 : oS A 139 2 p2) (h3 : oS A 91 4 ar) : OkEl A 75 [i64 k, i64 lo, p, i64 k2, i64 op, i64 rg, .val (.bool mu), i64 lo2, p2, ar, i64 lo3] := ⟨fun e => absurd e (by decide), fun e => absurd e (by decide), fun e => absurd e (by decide), fun e => absurd e (by decide), fun e => absurd e (by decide), fun e => absurd e (by decide), fun e => absurd e (by decide), fun _ => ⟨k, lo, p, k2, op, rg, mu, lo2, p2, ar, lo3, rfl, h, h2, h3⟩, fun e => absurd e (by decide)⟩
theorem ok_bk {A : Heap} {s tg ar p : D} {k lo : Int} {nm : ByteArray} (h : oS A 75 11 s) (h2 : oS A 3 1 tg) (h3 : oS A 91 4 ar) (h4 : oS A 139 2 p) : OkEl A 44 [s, i64 k, tg, ar, i64 lo, p, strD nm] := ⟨fun e => absurd e (by decide), fun e => absurd e (by decide), fun e => absurd e (by decide), fun e => absurd e (by decide), fun e => absurd e (by decide), fun e => absurd e (by decide), fun e => absurd e (by decide), fun e => absurd e (by decide), fun _ => ⟨s, k, tg, ar, lo, p, nm, rfl, h, h2, h3, h4⟩⟩
def TyH (A : Heap) : Prop := ∀ b t o sz els, A b = some (.row t o sz els) → els.length ≤ 1000000 ∧ ∀ el ∈ els, OkEl A t el
theorem TyH.none : TyH Heap.none := fun b t o sz els h => by cases h
theorem TyH.new {A : Heap} {b o sz : Nat} {T : TypeId} {els : List (List D)} (h : TyH A) (hb : A b = Option.none) (hl : els.length ≤ 1000000) (he : ∀ el ∈ els, OkEl A T el) : TyH (A.upd b (.row T o sz els)) := fun c t o2 sz2 els2 hc => by
  have hle : A.le (A.upd b (.row T o sz els)) := Heap.le_put (Heap.le_refl _) hb
  by_cases e : c = b
  · subst e
    rw [Heap.upd_same] at hc
    injection hc with hc
    injection hc with h1 h2 h3 h4
    subst h1 h4
    exact ⟨hl, fun el hel => (he el hel).mono hle⟩
  · rw [Heap.upd_ne e] at hc
    exact ⟨(h c t o2 sz2 els2 hc).1, fun el hel => ((h c t o2 sz2 els2 hc).2 el hel).mono hle⟩
theorem add_left {A B : Heap} (hd : ∀ b, A b ≠ none → B b = none) : A.le (A.add B) := fun b x h => by
  unfold Heap.add
  rw [hd b (by rw [h]; simp)]
  exact h
theorem add_right (A B : Heap) : B.le (A.add B) := fun b x h => by
  unfold Heap.add; rw [h]
theorem add_cases {A B : Heap} {b : Nat} {x : HObj} (h : (A.add B) b = some x) : B b = some x ∨ A b = some x := by
  unfold Heap.add at h
  cases e : B b with
  | none => rw [e] at h; exact .inr h
  | some y => rw [e] at h; exact .inl h
theorem TyH.add {A B : Heap} (h : TyH A) (h2 : TyH B) (hd : ∀ b, A b ≠ Option.none → B b = Option.none) : TyH (A.add B) := fun c t o sz els hc => by
  rcases add_cases hc with e | e
  · exact ⟨(h2 c t o sz els e).1, fun el hel => ((h2 c t o sz els e).2 el hel).mono (add_right A B)⟩
  · exact ⟨(h c t o sz els e).1, fun el hel => ((h c t o sz els e).2 el hel).mono (add_left hd)⟩
/-- d, leaning on the blocks A, reads as e for whoever owns none of them. -/
def Rd1 (A : Heap) (d e : D) : Prop := ∀ H0 H', A.le H' → Dom H0 H' → (∀ b, A b ≠ none → H0 b = none) → Frz H0 H' d e
theorem Rd1.mono {A B : Heap} {d e : D} (h : A.le B) (k : Rd1 A d e) : Rd1 B d e := fun H0 H' h1 h2 h3 => k H0 H' (Heap.le_trans h h1) h2 fun b hb => h3 b (by
  cases e : A b with
  | none => exact absurd e hb
  | some x => rw [h b x e]; simp)
theorem Rd1.same (A : Heap) (d : D) : Rd1 A d d := fun H0 H' _ h2 _ => frz_same h2
theorem Rd1.nil (A : Heap) (sz : Nat) : Rd1 A (.val (.slice none 0 0)) (.seq sz []) := fun H0 H' _ _ _ => frz_nil
theorem Rd1.zero (A : Heap) (c o sz : Nat) : Rd1 A (.os c o sz 0 0) (.seq sz []) := fun H0 H' _ _ _ w v _ hv => by
  simp only [D.is] at hv ⊢
  obtain ⟨B, n, h1, h2, _⟩ := hv
  exact ⟨B, n, h1, h2, .inl trivial⟩
theorem imp_nil_os (c o sz : Nat) : Imp (.val (.slice none 0 0)) (.os c o sz 0 0) := fun w S v hv => by
  simp only [D.is] at hv ⊢
  exact ⟨none, 0, hv, Nat.le_refl _, .inl rfl⟩
def RdL (A : Heap) : List D → List D → Prop
  | [], [] => True
  | d :: ds, e :: es => Rd1 A d e ∧ RdL A ds es
  | _, _ => False
def RdR (A : Heap) : List (List D) → List (List D) → Prop
  | [], [] => True
  | d :: ds, e :: es => RdL A d e ∧ RdR A ds es
  | _, _ => False
theorem RdL.same (A : Heap) : ∀ l, RdL A l l
  | [] => trivial
  | d :: l => ⟨Rd1.same A d, RdL.same A l⟩
theorem RdR.same (A : Heap) : ∀ l, RdR A l l
  | [] => trivial
  | d :: l => ⟨RdL.same A d, RdR.same A l⟩
theorem RdL.frz {A H0 H' : Heap} (h1 : A.le H') (h2 : Dom H0 H') (h3 : ∀ b, A b ≠ none → H0 b = none) : ∀ {ds es : List D}, RdL A ds es → FrzL H0 H' ds es
  | [], [], _ => trivial
  | d :: ds, e :: es, h => ⟨h.1 H0 H' h1 h2 h3, RdL.frz h1 h2 h3 h.2⟩
  | [], _ :: _, h => h.elim
  | _ :: _, [], h => h.elim
theorem RdR.frz {A H0 H' : Heap} (h1 : A.le H') (h2 : Dom H0 H') (h3 : ∀ b, A b ≠ none → H0 b = none) : ∀ {ds es : List (List D)}, RdR A ds es → FrzR H0 H' ds es
  | [], [], _ => trivial
  | d :: ds, e :: es, h => ⟨h.1.frz h1 h2 h3, RdR.frz h1 h2 h3 h.2⟩
  | [], _ :: _, h => h.elim
  | _ :: _, [], h => h.elim
theorem RdR.idx {A : Heap} : ∀ {ds es : List (List D)}, ds.length = es.length → (∀ (i : Nat) (el e : List D), ds[i]? = some el → es[i]? = some e → RdL A el e) → RdR A ds es
  | [], [], _, _ => trivial
  | d :: ds, e :: es, h, hi => ⟨hi 0 d e rfl rfl, RdR.idx (by simpa using h) fun i el e2 h1 h2 => hi (i + 1) el e2 (by simpa using h1) (by simpa using h2)⟩
  | [], _ :: _, h, _ => by simp at h
  | _ :: _, [], h, _ => by simp at h
theorem Rd1.row {A : Heap} {c o sz n : Nat} {T : TypeId} {els es : List (List D)} (hc : A c = none) (h : RdR A els es) (hn : n = els.length) : Rd1 (A.upd c (.row T o sz els)) (.os c o sz 0 n) (.seq sz es) := fun H0 H' h1 h2 h3 => by
  have hAle : A.le (A.upd c (.row T o sz els)) := Heap.le_put (Heap.le_refl _) hc
  have hcc := h1 c _ (Heap.upd_same _ _ _)
  have h0c : H0 c = none := h3 c (by rw [Heap.upd_same]; simp)
  refine frz_rows h2 hcc h0c hn (h.frz (fun b x hb => ?_) (fun b hb => ?_) fun b hb => ?_)
  · have hne : b ≠ c := fun e => by rw [e, hc] at hb; cases hb
    rw [Heap.del_ne hne]
    exact h1 b x (hAle b x hb)
  · by_cases e : b = c
    · rw [e]; exact h0c
    · rw [Heap.del_ne e] at hb; exact h2 b hb
  · have hne : b ≠ c := fun e => hb (by rw [e]; exact hc)
    exact h3 b (by rw [Heap.upd_ne hne]; exact hb)
/-- What a copying function has made: blocks A, well typed, new. -/
def Cl (H H' A : Heap) : Prop := H.le H' ∧ A.le H' ∧ (∀ b, A b ≠ none → H b = none) ∧ TyH A
theorem ClR.cl {T : TypeId} {sz : Nat} {els : List (List D)} {H H' : Heap} {d : D} (h : ClR T sz els H d H') (hl : els.length ≤ 1000000) (he : ∀ el ∈ els, OkEl Heap.none T el) : ∃ A, Cl H H' A ∧ oS A T sz d ∧ Rd1 A d (.seq sz els) := by
  rcases h with ⟨rfl, rfl, rfl⟩ | ⟨b, o, hb, rfl, rfl⟩
  · exact ⟨Heap.none, ⟨Heap.le_refl _, Heap.le_none _, fun b hb => absurd rfl hb, TyH.none⟩, .inl rfl, Rd1.nil _ _⟩
  · refine ⟨Heap.none.upd b (.row T o sz els), ⟨Heap.le_put (Heap.le_refl _) hb, fun c x hc => ?_, fun c hc => ?_, TyH.none.new rfl hl he⟩, .inr ⟨b, o, els.length, rfl, .inr ⟨els, rfl, Heap.upd_same _ _ _⟩⟩, Rd1.row rfl (RdR.same _ _) rfl⟩
    · by_cases e : c = b
      · rw [e, Heap.upd_same] at hc ⊢; exact hc
      · rw [Heap.upd_ne e] at hc; cases hc
    · by_cases e : c = b
      · rw [e]; exact hb
      · rw [Heap.upd_ne e] at hc; exact absurd rfl hc
set_option maxHeartbeats 1000000 in
theorem cpl_N (p : PlS) (H : Heap) (hp : p.pr.length ≤ 1000000) : Does Try.prog 73 [.agg (plD p)] H fun d H' => ∃ dp, d = .agg [i64 p.lo, dp] ∧ ClR 139 2 (p.pr.map pD) H dp H' := by
  refine does_of _ _ Try.func73 rfl rfl Try.ntmps73 Try.results73 (by simp only [List.length_cons, List.length_nil]; omega) fun w0 Q hret => ?_
  (have fs := And.intro @i64.eq_1 @plD.eq_1; (repeat (first | refine hGx _ ?_ | refine hNx _ ?_ | refine W_skip ?_ | refine W_exit ?_ | refine W_ret ?_ | refine W_label ?_ | refine W_scope ?_ | refine W_block ?_ | refine W_seq ?_ | ((first | refine tS fun N hNx => ?_ | refine WL_gE rfl rfl (by kernel_rfl) (by kernel_rfl) fun G hGx => ?_ | refine vcOpsS_sound (by kernel_rfl) ?_ | refine W_ifE fun A B hAx hBx => ?_); refine evT ?_; (first | refine hGx _ ?_ | refine hNx _ ?_ | refine hAx ?_ | refine hBx ?_ | skip)))); (try clear fs))
  intro c1 hc1 c2 hc2
  have n21 : c2 ≠ c1 := (Heap.upd_none.1 hc2).1
  have hc20 := (Heap.upd_none.1 hc2).2
  refine hNx _ ?_
  have e1 : ∀ x y, ((H.upd c1 x).upd c2 y) c1 = some x := fun x y => (Heap.upd_ne n21.symm).trans (Heap.upd_same _ _ _)
  (have fs := And.intro @i64.eq_1 e1; (repeat (first | refine hGx _ ?_ | refine hNx _ ?_ | refine W_skip ?_ | refine W_exit ?_ | refine W_ret ?_ | refine W_label ?_ | refine W_scope ?_ | refine W_block ?_ | refine W_seq ?_ | ((first | refine tS fun N hNx => ?_ | refine WL_gE rfl rfl (by kernel_rfl) (by kernel_rfl) fun G hGx => ?_ | refine vcOpsS_sound (by kernel_rfl) ?_ | refine W_ifE fun A B hAx hBx => ?_); refine evT ?_; (first | refine hGx _ ?_ | refine hNx _ ?_ | refine hAx ?_ | refine hBx ?_ | skip)))); (try clear fs))
  refine (clJ_N (p.pr.map pD) _ (by rw [List.length_map]; exact hp)).mono ?_
  rintro d H1 hcl
  rcases hcl with ⟨rfl, hp0, rfl⟩ | ⟨b, o, hb, rfl, rfl⟩
  · have e2 : ∀ x y z, (((H.upd c1 x).upd c2 y).upd c1 z) c2 = some y := fun x y z => (Heap.upd_ne n21).trans (Heap.upd_same _ _ _)
    have e3 : ∀ x y z, (((H.upd c1 x).upd c2 y).upd c1 z) c1 = some z := fun x y z => Heap.upd_same _ _ _
    (have fs := And.intro @i64.eq_1 (And.intro e1 (And.intro e2 e3)); (repeat (first | refine hGx _ ?_ | refine hNx _ ?_ | refine W_skip ?_ | refine W_exit ?_ | refine W_ret ?_ | refine W_label ?_ | refine W_scope ?_ | refine W_block ?_ | refine W_seq ?_ | ((first | refine tS fun N hNx => ?_ | refine WL_gE rfl rfl (by kernel_rfl) (by kernel_rfl) fun G hGx => ?_ | refine vcOpsS_sound (by kernel_rfl) ?_ | refine W_ifE fun A B hAx hBx => ?_); refine evT ?_; (first | refine hGx _ ?_ | refine hNx _ ?_ | refine hAx ?_ | refine hBx ?_ | skip)))); (try clear fs))
    (first | (show Q .ret _) | (show Q .normal _) | skip); refine hret _ _ (by first | exact .inr rfl | exact .inl rfl) (by first | rfl | assumption | (simp only [put_df, withH_df]; assumption)) ?_; have fs := @i64.eq_1; refine evT ?_; clear fs
    refine ⟨H, ?_, _, rfl, .inl ⟨rfl, hp0, rfl⟩⟩
    exact Heap.le_put (Heap.le_put (Heap.le_put (Heap.le_put (Heap.le_refl _) hc1) hc20) hc1) hc20
  · have nb2 : b ≠ c2 := (Heap.upd_none.1 hb).1
    have nb1 : b ≠ c1 := (Heap.upd_none.1 (Heap.upd_none.1 hb).2).1
    have hb0 : H b = none := (Heap.upd_none.1 (Heap.upd_none.1 hb).2).2
    have e0 : ∀ x y v, (((H.upd c1 x).upd c2 y).upd b v) c1 = some x := fun x y v => (Heap.upd_ne nb1.symm).trans (e1 _ _)
    have e2 : ∀ x y v z, ((((H.upd c1 x).upd c2 y).upd b v).upd c1 z) c2 = some y := fun x y v z => (Heap.upd_ne n21).trans ((Heap.upd_ne nb2.symm).trans (Heap.upd_same _ _ _))
    have e3 : ∀ x y v z, ((((H.upd c1 x).upd c2 y).upd b v).upd c1 z) c1 = some z := fun x y v z => Heap.upd_same _ _ _
    (have fs := And.intro @i64.eq_1 (And.intro e0 (And.intro e2 e3)); (repeat (first | refine hGx _ ?_ | refine hNx _ ?_ | refine W_skip ?_ | refine W_exit ?_ | refine W_ret ?_ | refine W_label ?_ | refine W_scope ?_ | refine W_block ?_ | refine W_seq ?_ | ((first | refine tS fun N hNx => ?_ | refine WL_gE rfl rfl (by kernel_rfl) (by kernel_rfl) fun G hGx => ?_ | refine vcOpsS_sound (by kernel_rfl) ?_ | refine W_ifE fun A B hAx hBx => ?_); refine evT ?_; (first | refine hGx _ ?_ | refine hNx _ ?_ | refine hAx ?_ | refine hBx ?_ | skip)))); (try clear fs))
    (first | (show Q .ret _) | (show Q .normal _) | skip); refine hret _ _ (by first | exact .inr rfl | exact .inl rfl) (by first | rfl | assumption | (simp only [put_df, withH_df]; assumption)) ?_; have fs := @i64.eq_1; refine evT ?_; clear fs
    refine ⟨H.upd b (.row 139 o 2 (p.pr.map pD)), fun c x hc => ?_, _, rfl, .inr ⟨b, o, hb0, by rw [List.length_map], rfl⟩⟩
    by_cases e : c = b
    · subst e
      rw [Heap.upd_same] at hc
      rw [Heap.upd_ne nb2, Heap.upd_ne nb1, Heap.upd_same]
      exact hc
    · rw [Heap.upd_ne e] at hc
      have h1 : c ≠ c1 := fun e => by rw [e, hc1] at hc; cases hc
      have h2 : c ≠ c2 := fun e => by rw [e, hc20] at hc; cases hc
      rw [Heap.upd_ne h2, Heap.upd_ne h1, Heap.upd_ne e, Heap.upd_ne h2, Heap.upd_ne h1]
      exact hc
def smP (p : PlS) : Prop := p.pr.length ≤ 1000000
def smO (l : List OpS) : Prop := l.length ≤ 1000000 ∧ ∀ o ∈ l, smP o.pl
/-- The cells of an operand that has been copied. -/
def opO (A : Heap) (el : List D) (o : OpS) : Prop := ∃ dp, el = [i64 o.k, i64 o.pl.lo, dp, i64 o.n] ∧ oS A 139 2 dp ∧ Rd1 A dp (.seq 2 (o.pl.pr.map pD))
theorem opO.mono {A B : Heap} {el : List D} {o : OpS} (h : A.le B) (k : opO A el o) : opO B el o := by
  obtain ⟨dp, h1, h2, h3⟩ := k
  exact ⟨dp, h1, oS_mono h h2, h3.mono h⟩
theorem opO.ok {A : Heap} {el : List D} {o : OpS} (k : opO A el o) : OkEl A 91 el := by
  obtain ⟨dp, rfl, h2, h3⟩ := k
  exact ok_op h2
theorem opO.rd {A : Heap} {el : List D} {o : OpS} (k : opO A el o) : RdL A el (opD o) := by
  obtain ⟨dp, rfl, h2, h3⟩ := k
  exact ⟨Rd1.same _ _, Rd1.same _ _, h3, Rd1.same _ _, trivial⟩
/-- New blocks beside those that there are. -/
theorem Cl.add {H H1 H2 A B : Heap} (h1 : H.le H1) (hA : A.le H1) (hf : ∀ b, A b ≠ none → H b = none) (hT : TyH A) (h2 : Cl H1 H2 B) : Cl H H2 (A.add B) ∧ A.le (A.add B) ∧ B.le (A.add B) ∧ ∀ c x, H1 c = some x → A c = none → (A.add B) c = none := by
  obtain ⟨g1, g2, g3, g4⟩ := h2
  have hd : ∀ b, A b ≠ none → B b = none := fun b hb => Classical.byContradiction fun hn => by
    have := g3 b hn
    cases e : A b with
    | none => exact hb e
    | some x => rw [hA b x e] at this; cases this
  refine ⟨⟨Heap.le_trans h1 g1, fun b x hb => ?_, fun b hb => ?_, hT.add g4 hd⟩, add_left hd, add_right A B, fun c x hc hAc => ?_⟩
  · rcases add_cases hb with e | e
    · exact g2 b x e
    · exact g1 b x (hA b x e)
  · cases e : (A.add B) b with
    | none => exact absurd e hb
    | some x =>
      rcases add_cases e with e | e
      · exact Heap.none_of h1 (g3 b (by rw [e]; simp))
      · exact hf b (by rw [e]; simp)
  · cases e : (A.add B) c with
    | none => rfl
    | some y =>
      rcases add_cases e with e | e
      · rw [g3 c (by rw [e]; simp)] at hc; cases hc
      · rw [e] at hAc; cases hAc
def CoI (l : List OpS) (H : Heap) (c o : Nat) (i : Nat) (s : St) : Prop :=
  s.df = [] ∧ s.fr 0 = .os c o 4 0 l.length ∧ s.fr 7 = i64 l.length ∧ s.fr 8 = i64 i ∧ H.le s.H ∧ ∃ A, A.le s.H ∧ (∀ b, A b ≠ none → H b = none) ∧ TyH A ∧ (l ≠ [] → A c = none ∧ ∃ els, s.H c = some (.row 91 o 4 els) ∧ els.length = l.length ∧
    ∀ (j : Nat) (h : j < l.length), ∃ el, els[j]? = some el ∧ (j < i → opO A el l[j]) ∧ (i ≤ j → el = opD l[j]))
/-- A copy's slot, whatever it was a copy of. -/
theorem ClR.os {T : TypeId} {sz : Nat} {els : List (List D)} {H H' : Heap} {d : D} (h : ClR T sz els H d H') : ∃ c o, Imp d (.os c o sz 0 els.length) ∧ (els ≠ [] → H c = none ∧ H' c = some (.row T o sz els)) ∧ H.le H' ∧ d.cells = some [d] := by
  rcases h with ⟨rfl, rfl, rfl⟩ | ⟨b, o, hb, rfl, rfl⟩
  · exact ⟨0, 0, imp_nil_os _ _ _, fun h => absurd rfl h, Heap.le_refl _, rfl⟩
  · exact ⟨b, o, imp_refl _, fun _ => ⟨hb, Heap.upd_same _ _ _⟩, Heap.le_put (Heap.le_refl _) hb, rfl⟩
set_option maxHeartbeats 1000000 in
theorem cops_N (l : List OpS) (H : Heap) (hs : smO l) : Does Try.prog 64 [.seq 4 (l.map opD)] H fun d H' => ∃ A, Cl H H' A ∧ oS A 91 4 d ∧ Rd1 A d (.seq 4 (l.map opD)) := by
  obtain ⟨hl, hlx⟩ := hs
  have hll : (List.map opD l).length = l.length := List.length_map _
  refine does_of _ _ Try.func64 rfl rfl Try.ntmps64 Try.results64 (by simp only [List.length_cons, List.length_nil]; omega) fun w0 Q hret => ?_
  (have fs := @i64.eq_1; (repeat (first | refine hGx _ ?_ | refine hNx _ ?_ | refine W_skip ?_ | refine W_exit ?_ | refine W_ret ?_ | refine W_label ?_ | refine W_scope ?_ | refine W_block ?_ | refine W_seq ?_ | ((first | refine tS fun N hNx => ?_ | refine WL_gE rfl rfl (by kernel_rfl) (by kernel_rfl) fun G hGx => ?_ | refine vcOpsS_sound (by kernel_rfl) ?_ | refine W_ifE fun A B hAx hBx => ?_); refine evT ?_; (first | refine hGx _ ?_ | refine hNx _ ?_ | refine hAx ?_ | refine hBx ?_ | skip)))); (try clear fs))
  refine (clO_N (l.map opD) _ (by rw [hll]; exact hl)).mono ?_
  rintro d H1 hcl
  obtain ⟨c, o, himp, hrow, hle1, hcs⟩ := hcl.os
  rw [hll] at himp
  refine WL_as 5 (.os c o 4 0 l.length) (fun w v hv => himp _ _ _ hv) ?_
  (have fs := @i64.eq_1; (repeat (first | refine hGx _ ?_ | refine hNx _ ?_ | refine W_skip ?_ | refine W_exit ?_ | refine W_ret ?_ | refine W_label ?_ | refine W_scope ?_ | refine W_block ?_ | refine W_seq ?_ | ((first | refine tS fun N hNx => ?_ | refine WL_gE rfl rfl (by kernel_rfl) (by kernel_rfl) fun G hGx => ?_ | refine vcOpsS_sound (by kernel_rfl) ?_ | refine W_ifE fun A B hAx hBx => ?_); refine evT ?_; (first | refine hGx _ ?_ | refine hNx _ ?_ | refine hAx ?_ | refine hBx ?_ | skip)))); (try clear fs))
  refine W_loopN l.length (CoI l H c o) ⟨rfl, rfl, rfl, rfl, hle1, Heap.none, Heap.le_none _, fun b hb => absurd rfl hb, TyH.none, fun h0 => ⟨rfl, l.map opD, (hrow (by simpa using h0)).2, hll, fun j h => ⟨opD l[j], map_get h, (fun h => absurd h (by omega)), fun _ => rfl⟩⟩⟩ ?_
  rintro i s hi ⟨hdf, f0, f7, f8, hle, Ah, hA, hAf, hAT, hrw⟩
  have hx : (i : Int).toNat = i := Int.toNat_natCast _
  have h00 : (0 : Int) ≤ (i : Int) := Int.natCast_nonneg _
  by_cases hil : i < l.length
  case neg =>
    have p1 : ((i : Int) < (l.length : Int)) = False := eq_false (by omega)
    (have fs := And.intro f0 (And.intro f7 (And.intro f8 (And.intro @i64.eq_1 p1))); (repeat (first | refine hGx _ ?_ | refine hNx _ ?_ | refine W_skip ?_ | refine W_exit ?_ | refine W_ret ?_ | refine W_label ?_ | refine W_scope ?_ | refine W_block ?_ | refine W_seq ?_ | ((first | refine tS fun N hNx => ?_ | refine WL_gE rfl rfl (by kernel_rfl) (by kernel_rfl) fun G hGx => ?_ | refine vcOpsS_sound (by kernel_rfl) ?_ | refine W_ifE fun A B hAx hBx => ?_); refine evT ?_; (first | refine hGx _ ?_ | refine hNx _ ?_ | refine hAx ?_ | refine hBx ?_ | skip)))); (try clear fs))
    (first | (show Q .ret _) | (show Q .normal _) | skip); refine hret _ _ (by first | exact .inr rfl | exact .inl rfl) (by first | rfl | assumption | (simp only [put_df, withH_df]; assumption)) ?_; have fs := hdf; refine evT ?_; clear fs
    refine ⟨s.H, Heap.le_refl _, ?_⟩
    by_cases h0 : l = []
    · subst h0
      exact ⟨Ah, ⟨hle, hA, hAf, hAT⟩, .inr ⟨c, o, 0, rfl, .inl rfl⟩, Rd1.zero _ _ _ _⟩
    obtain ⟨hAc, els, hHc, hel, hj⟩ := hrw h0
    have hc0 := (hrow (by simpa using h0)).1
    have hall : ∀ el ∈ els, OkEl Ah 91 el := fun el hm => by
      obtain ⟨j, hjl, rfl⟩ := List.getElem_of_mem hm
      obtain ⟨el2, h1, h2, _⟩ := hj j (by omega)
      rw [List.getElem?_eq_getElem hjl] at h1
      injection h1 with h1
      rw [h1]
      exact (h2 (by omega)).ok
    refine ⟨Ah.upd c (.row 91 o 4 els), ⟨hle, fun b x hb => ?_, fun b hb => ?_, hAT.new hAc (by rw [hel]; exact hl) hall⟩, .inr ⟨c, o, l.length, rfl, .inr ⟨els, hel, Heap.upd_same _ _ _⟩⟩, Rd1.row hAc (RdR.idx (by simp [hel]) fun j el e h1 h2 => ?_) hel.symm⟩
    · by_cases e : b = c
      · subst e; rw [Heap.upd_same] at hb; rw [hHc]; exact hb
      · rw [Heap.upd_ne e] at hb; exact hA b x hb
    · by_cases e : b = c
      · rw [e]; exact hc0
      · rw [Heap.upd_ne e] at hb; exact hAf b hb
    · have hjl : j < l.length := by rw [← hel]; exact (List.getElem?_eq_some_iff.1 h1).1
      obtain ⟨el2, g1, g2, _⟩ := hj j hjl
      rw [g1] at h1
      injection h1 with h1
      subst h1
      rw [map_get hjl] at h2
      injection h2 with h2
      subst h2
      exact (g2 (by omega)).rd
  have h0 : l ≠ [] := fun e => by rw [e] at hil; simp at hil
  obtain ⟨hAc, els, hHc, hel, hj⟩ := hrw h0
  have hc0 := (hrow (by simpa using h0)).1
  have p1 : ((i : Int) < (l.length : Int)) = True := eq_true (by omega)
  have hil' : (i : Int) < (l.length : Int) := by omega
  have w3 : IntKind.i64.wrap ((i : Int) + 1) = ((i + 1 : Nat) : Int) := by rw [wrap_i64_of (by omega)]; omega
  obtain ⟨el, hge, _, hel2⟩ := hj i hil
  have hel3 := hel2 (Nat.le_refl _)
  have hsp := hlx l[i] (List.getElem_mem hil)
  obtain ⟨x, hxe⟩ : ∃ x, x = l[i] := ⟨_, rfl⟩
  rw [← hxe] at hel3 hsp
  subst hel3
  simp only [opD] at hge
  (have fs := And.intro f0 (And.intro f7 (And.intro f8 (And.intro @i64.eq_1 (And.intro p1 (And.intro hHc (And.intro hge (And.intro hx (And.intro h00 hil')))))))); (repeat (first | refine hGx _ ?_ | refine hNx _ ?_ | refine W_skip ?_ | refine W_exit ?_ | refine W_ret ?_ | refine W_label ?_ | refine W_scope ?_ | refine W_block ?_ | refine W_seq ?_ | ((first | refine tS fun N hNx => ?_ | refine WL_gE rfl rfl (by kernel_rfl) (by kernel_rfl) fun G hGx => ?_ | refine vcOpsS_sound (by kernel_rfl) ?_ | refine W_ifE fun A B hAx hBx => ?_); refine evT ?_; (first | refine hGx _ ?_ | refine hNx _ ?_ | refine hAx ?_ | refine hBx ?_ | skip)))); (try clear fs))
  refine (cpl_N x.pl _ hsp).mono ?_
  rintro d H2 ⟨dp, rfl, hcl2⟩
  obtain ⟨B, hB, hBo, hBr⟩ := hcl2.cl (by rw [List.length_map]; exact hsp) fun el hm => by
    obtain ⟨y, _, rfl⟩ := List.mem_map.1 hm
    exact ok_pj _ _ _
  obtain ⟨hAB, hA2, hB2, hc2⟩ := Cl.add hle hA hAf hAT hB
  have hH2c := hB.1 _ _ hHc
  have hABc := hc2 c _ hHc hAc
  (have fs := And.intro f0 (And.intro f8 (And.intro @i64.eq_1 (And.intro hH2c (And.intro hge (And.intro hx (And.intro h00 (And.intro hil' w3))))))); (repeat (first | refine hGx _ ?_ | refine hNx _ ?_ | refine W_skip ?_ | refine W_exit ?_ | refine W_ret ?_ | refine W_label ?_ | refine W_scope ?_ | refine W_block ?_ | refine W_seq ?_ | ((first | refine tS fun N hNx => ?_ | refine WL_gE rfl rfl (by kernel_rfl) (by kernel_rfl) fun G hGx => ?_ | refine vcOpsS_sound (by kernel_rfl) ?_ | refine W_ifE fun A B hAx hBx => ?_); refine evT ?_; (first | refine hGx _ ?_ | refine hNx _ ?_ | refine hAx ?_ | refine hBx ?_ | skip)))); (try clear fs))
  have hle2 := hAB.1
  refine ⟨hil, hdf, f0, f7, rfl, Heap.le_put hle2 hc0, Ah.add B, fun b y hb => ?_, hAB.2.2.1, hAB.2.2.2, fun _ => ⟨hABc, _, Heap.upd_same _ _ _, by rw [List.length_set]; exact hel, fun j hjl => ?_⟩⟩
  · have hne : b ≠ c := fun e => by rw [e, hABc] at hb; cases hb
    show (H2.upd c _) b = _
    rw [Heap.upd_ne hne]
    exact hAB.2.1 b y hb
  · by_cases e : j = i
    · subst e
      refine ⟨_, List.getElem?_set_self (by omega), fun _ => ⟨dp, by rw [← hxe]; rfl, oS_mono hB2 hBo, ?_⟩, fun h => absurd h (by omega)⟩
      rw [← hxe]
      exact hBr.mono hB2
    · obtain ⟨el3, g1, g2, g3⟩ := hj j hjl
      refine ⟨el3, by rw [List.getElem?_set_ne (fun h => e h.symm)]; exact g1, fun h => (g2 (by omega)).mono hA2, fun h => g3 (by omega)⟩
def sm {α : Type} (f : α → Nat) : List α → Nat
  | [] => 0
  | x :: l => f x + sm f l
theorem sm_append {α : Type} (f : α → Nat) : ∀ (l m : List α), sm f (l ++ m) = sm f l + sm f m
  | [], m => by simp [sm]
  | x :: l, m => by simp only [List.cons_append, sm]; rw [sm_append f l m]; omega
theorem sm_take {α : Type} {f : α → Nat} {l : List α} {i : Nat} (h : i < l.length) : sm f (l.take (i + 1)) = sm f (l.take i) + f l[i] := by
  rw [List.take_succ_eq_append_getElem h, sm_append]; simp [sm]
theorem sm_le {α : Type} (f : α → Nat) (l : List α) (i : Nat) : sm f (l.take i) ≤ sm f l := by
  have := sm_append f (l.take i) (l.drop i)
  rw [List.take_append_drop] at this
  omega
theorem sm_mem {α : Type} {f : α → Nat} {x : α} : ∀ {l : List α}, x ∈ l → f x ≤ sm f l
  | y :: l, h => by
    simp only [sm]
    rcases List.mem_cons.1 h with rfl | h
    · omega
    · have := @sm_mem α f x l h; omega
theorem sm_mono {α : Type} {f g : α → Nat} : ∀ {l : List α}, (∀ x ∈ l, f x ≤ g x) → sm f l ≤ sm g l
  | [], _ => Nat.le_refl _
  | x :: l, h => by
    simp only [sm]
    have h1 := h x (by simp)
    have h2 := @sm_mono α f g l fun y hy => h y (by simp [hy])
    omega
theorem sm_len {α : Type} (l : List α) : sm (fun _ => 1) l = l.length := by
  induction l with
  | nil => rfl
  | cons x l ih => simp only [sm, List.length_cons]; omega
theorem sm_mul {α : Type} (f : α → Nat) (k : Nat) (l : List α) : sm (fun x => k * f x) l = k * sm f l := by
  induction l with
  | nil => simp [sm]
  | cons x l ih => simp only [sm]; rw [ih, Nat.mul_add]
theorem sm_add {α : Type} (f g : α → Nat) (l : List α) : sm (fun x => f x + g x) l = sm f l + sm g l := by
  induction l with
  | nil => simp [sm]
  | cons x l ih => simp only [sm]; rw [ih]; omega
theorem sm_flat {α β : Type} (f : β → Nat) (g : α → List β) : ∀ l : List α, sm f (l.flatMap g) = sm (fun x => sm f (g x)) l
  | [] => rfl
  | x :: l => by simp only [List.flatMap_cons, sm]; rw [sm_append, sm_flat f g l]
def nOps (l : List OpS) : Nat := sm (fun o => 2 + o.pl.pr.length) l
def nSt (s : StS) : Nat := 4 + s.pl.pr.length + s.rv.pl.pr.length + nOps s.rv.ar
def nTm (t : TmS) : Nat := 2 + t.tg.length + nOps t.ar + t.pl.pr.length
def nBk (x : BkS) : Nat := sm nSt x.st + nTm x.tm
def nodesT (b : BdS) : Nat := 1 + b.rg.length + b.ol.length + b.lc.length + b.ty.length + b.bl.length + sm (fun t => t.ar.length) b.ty + sm nBk b.bl
/-- The operands of a block. -/
def opsP (x : BkS) (i : Nat) : List OpS := (x.st.take i).flatMap fun s => s.rv.ar
def opsL (x : BkS) : List OpS := opsP x x.st.length ++ x.tm.ar
theorem opsP_succ {x : BkS} {i : Nat} (h : i < x.st.length) : opsP x (i + 1) = opsP x i ++ x.st[i].rv.ar := by
  unfold opsP
  rw [List.take_succ_eq_append_getElem h, List.flatMap_append]; simp
theorem opsP_n (x : BkS) (i : Nat) : nOps (opsP x i) = sm (fun s => nOps s.rv.ar) (x.st.take i) := by unfold opsP nOps; rw [sm_flat]
theorem opsL_n (x : BkS) : nOps (opsL x) = sm (fun s => nOps s.rv.ar) x.st + nOps x.tm.ar := by
  unfold opsL
  have : nOps (opsP x x.st.length ++ x.tm.ar) = nOps (opsP x x.st.length) + nOps x.tm.ar := sm_append _ _ _
  rw [this, opsP_n, List.take_length]
theorem nOps_len (l : List OpS) : 2 * l.length ≤ nOps l := by
  unfold nOps
  induction l with
  | nil => simp [sm]
  | cons x l ih => simp only [sm, List.length_cons]; omega
/-- All is small. -/
def smBk (x : BkS) : Prop := x.st.length ≤ 1000000 ∧ (∀ s ∈ x.st, smP s.pl ∧ smP s.rv.pl ∧ smO s.rv.ar) ∧ x.tm.tg.length ≤ 1000000 ∧ smO x.tm.ar ∧ smP x.tm.pl ∧ nBk x ≤ 1000000
theorem opsP_small {x : BkS} (h : smBk x) (i : Nat) : (opsP x i).length ≤ 1000000 := by
  have h1 := nOps_len (opsP x i)
  rw [opsP_n] at h1
  have h2 := sm_le (fun s : StS => nOps s.rv.ar) x.st i
  have h3 : sm (fun s : StS => nOps s.rv.ar) x.st ≤ sm nSt x.st := sm_mono fun s _ => by unfold nSt; omega
  have h4 := h.2.2.2.2.2
  unfold nBk at h4
  omega
theorem copsQ_N (l : List OpS) (H : Heap) (hs : smO l) : Does Try.prog 64 [.seq 4 (l.map opD)] H fun d H' => d = .seq 4 (l.map opD) ∧ H = H' :=
  Does.frz (K := fun d => d = .seq 4 (l.map opD)) ((cops_N l H hs).mono fun d H' ⟨B, ⟨h1, h2, h3, h4⟩, h5, h6⟩ => ⟨h1, _, h6 H H' h2 (fun b hb => Heap.none_of h1 hb) h3, rfl⟩)
set_option maxHeartbeats 1000000 in
theorem bopsL_N (x : BkS) (H : Heap) (hs : smBk x) : Does Try.prog 26 [.agg (bkD x)] H fun d H' => d = .seq 4 ((opsL x).map opD) ∧ H = H' := by
  refine Does.frz (K := fun d => d = .seq 4 ((opsL x).map opD)) ?_
  have hsm := hs
  obtain ⟨hst, hsx, htg, har, hpl, hnb⟩ := hs
  have hll : (List.map stD x.st).length = x.st.length := List.length_map _
  refine does_of _ _ Try.func26 rfl rfl Try.ntmps26 Try.results26 (by simp only [List.length_cons, List.length_nil]; omega) fun w0 Q hret => ?_
  (have fs := And.intro @i64.eq_1 @bkD.eq_1; (repeat (first | refine hGx _ ?_ | refine hNx _ ?_ | refine W_skip ?_ | refine W_exit ?_ | refine W_ret ?_ | refine W_label ?_ | refine W_scope ?_ | refine W_block ?_ | refine W_seq ?_ | ((first | refine tS fun N hNx => ?_ | refine WL_gE rfl rfl (by kernel_rfl) (by kernel_rfl) fun G hGx => ?_ | refine vcOpsS_sound (by kernel_rfl) ?_ | refine W_ifE fun A B hAx hBx => ?_); refine evT ?_; (first | refine hGx _ ?_ | refine hNx _ ?_ | refine hAx ?_ | refine hBx ?_ | skip)))); (try clear fs))
  intro c1 hc1
  refine hNx _ ?_
  refine W_frzp 1 rfl (Heap.upd_same _ _ _) rfl ?_; simp only [St.frzp, put_H, wdf_H, withH_H, withH_put, wdf_withH, withH_withH, init_H, init_withH, Heap.del_upd_same, Heap.del_none hc1, withH_self]
  (have fs := And.intro @i64.eq_1 hll; (repeat (first | refine hGx _ ?_ | refine hNx _ ?_ | refine W_skip ?_ | refine W_exit ?_ | refine W_ret ?_ | refine W_label ?_ | refine W_scope ?_ | refine W_block ?_ | refine W_seq ?_ | ((first | refine tS fun N hNx => ?_ | refine WL_gE rfl rfl (by kernel_rfl) (by kernel_rfl) fun G hGx => ?_ | refine vcOpsS_sound (by kernel_rfl) ?_ | refine W_ifE fun A B hAx hBx => ?_); refine evT ?_; (first | refine hGx _ ?_ | refine hNx _ ?_ | refine hAx ?_ | refine hBx ?_ | skip)))); (try clear fs))
  refine W_loopN x.st.length (fun i s => s.df = [] ∧ s.fr 1 = .rp (bkD x) ∧ s.fr 7 = .seq 11 (x.st.map stD) ∧ s.fr 8 = i64 x.st.length ∧ s.fr 9 = i64 i ∧ H.le s.H ∧ ∃ ob, Gl H 91 4 ((opsP x i).map opD) (s.fr 3) s.H ob) ⟨rfl, rfl, rfl, rfl, rfl, Heap.le_refl _, none, Gl.nil _ _ _ _⟩ ?_
  rintro i s hi ⟨hdf, f1, f7, f8, f9, hle, ob, hg⟩
  simp only [bkD] at f1
  have hx : (i : Int).toNat = i := Int.toNat_natCast _
  have h00 : (0 : Int) ≤ (i : Int) := Int.natCast_nonneg _
  have hps := opsP_small hsm i
  by_cases hil : i < x.st.length
  case neg =>
    have p1 : ((i : Int) < (x.st.length : Int)) = False := eq_false (by omega)
    have e : i = x.st.length := by omega
    subst e
    (have fs := And.intro f1 (And.intro f8 (And.intro f9 (And.intro @i64.eq_1 p1))); (repeat (first | refine hGx _ ?_ | refine hNx _ ?_ | refine W_skip ?_ | refine W_exit ?_ | refine W_ret ?_ | refine W_label ?_ | refine W_scope ?_ | refine W_block ?_ | refine W_seq ?_ | ((first | refine tS fun N hNx => ?_ | refine WL_gE rfl rfl (by kernel_rfl) (by kernel_rfl) fun G hGx => ?_ | refine vcOpsS_sound (by kernel_rfl) ?_ | refine W_ifE fun A B hAx hBx => ?_); refine evT ?_; (first | refine hGx _ ?_ | refine hNx _ ?_ | refine hAx ?_ | refine hBx ?_ | skip)))); (try clear fs))
    refine (copsQ_N x.tm.ar _ har).mono ?_
    rintro d _ ⟨rfl, rfl⟩
    have hal := har.1
    (have fs := @i64.eq_1; (repeat (first | refine hGx _ ?_ | refine hNx _ ?_ | refine W_skip ?_ | refine W_exit ?_ | refine W_ret ?_ | refine W_label ?_ | refine W_scope ?_ | refine W_block ?_ | refine W_seq ?_ | ((first | refine tS fun N hNx => ?_ | refine WL_gE rfl rfl (by kernel_rfl) (by kernel_rfl) fun G hGx => ?_ | refine vcOpsS_sound (by kernel_rfl) ?_ | refine W_ifE fun A B hAx hBx => ?_); refine evT ?_; (first | refine hGx _ ?_ | refine hNx _ ?_ | refine hAx ?_ | refine hBx ?_ | skip)))); (try clear fs))
    refine apV_grow (e := 91) ty37 rfl ty37 rfl ty91 rfl (by decide) hle hg (new := x.tm.ar.map opD) (by exact ⟨rfl, rfl⟩) (by rw [List.length_map, List.length_map]; show (_ + _) * 48 ≤ _; omega) fun d H6 ob6 hg6 hle6 _ => ?_
    rw [← List.map_append] at hg6
    (have fs := @i64.eq_1; (repeat (first | refine hGx _ ?_ | refine hNx _ ?_ | refine W_skip ?_ | refine W_exit ?_ | refine W_ret ?_ | refine W_label ?_ | refine W_scope ?_ | refine W_block ?_ | refine W_seq ?_ | ((first | refine tS fun N hNx => ?_ | refine WL_gE rfl rfl (by kernel_rfl) (by kernel_rfl) fun G hGx => ?_ | refine vcOpsS_sound (by kernel_rfl) ?_ | refine W_ifE fun A B hAx hBx => ?_); refine evT ?_; (first | refine hGx _ ?_ | refine hNx _ ?_ | refine hAx ?_ | refine hBx ?_ | skip)))); (try clear fs))
    (first | (show Q .ret _) | (show Q .normal _) | skip); refine hret _ _ (by first | exact .inr rfl | exact .inl rfl) (by first | rfl | assumption | (simp only [put_df, withH_df]; assumption)) ?_; have fs := hdf; refine evT ?_; clear fs
    exact ⟨_, Heap.le_refl _, hle6, _, frz_gl hle6 hg6, rfl⟩
  have p1 : ((i : Int) < (x.st.length : Int)) = True := eq_true (by omega)
  have hgi := map_get (f := stD) hil
  have w3 : IntKind.i64.wrap ((i : Int) + 1) = ((i + 1 : Nat) : Int) := by rw [wrap_i64_of (by omega)]; omega
  have hsu := opsP_succ hil
  have hso := (hsx x.st[i] (List.getElem_mem hil)).2.2
  obtain ⟨y, hye⟩ : ∃ y, y = x.st[i] := ⟨_, rfl⟩
  rw [← hye] at hgi hsu hso
  simp only [stD] at hgi
  (have fs := And.intro f7 (And.intro f8 (And.intro f9 (And.intro @i64.eq_1 (And.intro p1 (And.intro hll (And.intro hgi (And.intro hx (And.intro h00 hil)))))))); (repeat (first | refine hGx _ ?_ | refine hNx _ ?_ | refine W_skip ?_ | refine W_exit ?_ | refine W_ret ?_ | refine W_label ?_ | refine W_scope ?_ | refine W_block ?_ | refine W_seq ?_ | ((first | refine tS fun N hNx => ?_ | refine WL_gE rfl rfl (by kernel_rfl) (by kernel_rfl) fun G hGx => ?_ | refine vcOpsS_sound (by kernel_rfl) ?_ | refine W_ifE fun A B hAx hBx => ?_); refine evT ?_; (first | refine hGx _ ?_ | refine hNx _ ?_ | refine hAx ?_ | refine hBx ?_ | skip)))); (try clear fs))
  intro c5 hc5
  refine hNx _ ?_
  refine W_frzp 5 rfl (Heap.upd_same _ _ _) rfl ?_; simp only [St.frzp, put_H, wdf_H, withH_H, withH_put, wdf_withH, withH_withH, init_H, init_withH, Heap.del_upd_same, Heap.del_none hc5, withH_self]
  (have fs := @i64.eq_1; (repeat (first | refine hGx _ ?_ | refine hNx _ ?_ | refine W_skip ?_ | refine W_exit ?_ | refine W_ret ?_ | refine W_label ?_ | refine W_scope ?_ | refine W_block ?_ | refine W_seq ?_ | ((first | refine tS fun N hNx => ?_ | refine WL_gE rfl rfl (by kernel_rfl) (by kernel_rfl) fun G hGx => ?_ | refine vcOpsS_sound (by kernel_rfl) ?_ | refine W_ifE fun A B hAx hBx => ?_); refine evT ?_; (first | refine hGx _ ?_ | refine hNx _ ?_ | refine hAx ?_ | refine hBx ?_ | skip)))); (try clear fs))
  refine (copsQ_N y.rv.ar _ hso).mono ?_
  rintro d _ ⟨rfl, rfl⟩
  have hal := hso.1
  (have fs := @i64.eq_1; (repeat (first | refine hGx _ ?_ | refine hNx _ ?_ | refine W_skip ?_ | refine W_exit ?_ | refine W_ret ?_ | refine W_label ?_ | refine W_scope ?_ | refine W_block ?_ | refine W_seq ?_ | ((first | refine tS fun N hNx => ?_ | refine WL_gE rfl rfl (by kernel_rfl) (by kernel_rfl) fun G hGx => ?_ | refine vcOpsS_sound (by kernel_rfl) ?_ | refine W_ifE fun A B hAx hBx => ?_); refine evT ?_; (first | refine hGx _ ?_ | refine hNx _ ?_ | refine hAx ?_ | refine hBx ?_ | skip)))); (try clear fs))
  refine apV_grow (e := 91) ty37 rfl ty37 rfl ty91 rfl (by decide) hle hg (new := y.rv.ar.map opD) (by exact ⟨rfl, rfl⟩) (by rw [List.length_map, List.length_map]; show (_ + _) * 48 ≤ _; omega) fun d H6 ob6 hg6 hle6 _ => ?_
  rw [← List.map_append, ← hsu] at hg6
  (have fs := And.intro f9 (And.intro @i64.eq_1 w3); (repeat (first | refine hGx _ ?_ | refine hNx _ ?_ | refine W_skip ?_ | refine W_exit ?_ | refine W_ret ?_ | refine W_label ?_ | refine W_scope ?_ | refine W_block ?_ | refine W_seq ?_ | ((first | refine tS fun N hNx => ?_ | refine WL_gE rfl rfl (by kernel_rfl) (by kernel_rfl) fun G hGx => ?_ | refine vcOpsS_sound (by kernel_rfl) ?_ | refine W_ifE fun A B hAx hBx => ?_); refine evT ?_; (first | refine hGx _ ?_ | refine hNx _ ?_ | refine hAx ?_ | refine hBx ?_ | skip)))); (try clear fs))
  exact ⟨hil, hdf, f1, f7, f8, rfl, hle6, ob6, hg6⟩
set_option maxHeartbeats 1000000 in
theorem kopsL_N (x : BkS) (H : Heap) (hs : smBk x) : Does Try.prog 28 [.agg (bkD x)] H fun d H' => d = .seq 4 ((opsL x).map opD) ∧ H = H' := by
  refine Does.frz (K := fun d => d = .seq 4 ((opsL x).map opD)) ?_
  have hsm := hs
  obtain ⟨hst, hsx, htg, har, hpl, hnb⟩ := hs
  have hll : (List.map stD x.st).length = x.st.length := List.length_map _
  refine does_of _ _ Try.func28 rfl rfl Try.ntmps28 Try.results28 (by simp only [List.length_cons, List.length_nil]; omega) fun w0 Q hret => ?_
  (have fs := And.intro @i64.eq_1 @bkD.eq_1; (repeat (first | refine hGx _ ?_ | refine hNx _ ?_ | refine W_skip ?_ | refine W_exit ?_ | refine W_ret ?_ | refine W_label ?_ | refine W_scope ?_ | refine W_block ?_ | refine W_seq ?_ | ((first | refine tS fun N hNx => ?_ | refine WL_gE rfl rfl (by kernel_rfl) (by kernel_rfl) fun G hGx => ?_ | refine vcOpsS_sound (by kernel_rfl) ?_ | refine W_ifE fun A B hAx hBx => ?_); refine evT ?_; (first | refine hGx _ ?_ | refine hNx _ ?_ | refine hAx ?_ | refine hBx ?_ | skip)))); (try clear fs))
  intro c1 hc1
  refine hNx _ ?_
  refine W_frzp 1 rfl (Heap.upd_same _ _ _) rfl ?_; simp only [St.frzp, put_H, wdf_H, withH_H, withH_put, wdf_withH, withH_withH, init_H, init_withH, Heap.del_upd_same, Heap.del_none hc1, withH_self]
  (have fs := And.intro @i64.eq_1 hll; (repeat (first | refine hGx _ ?_ | refine hNx _ ?_ | refine W_skip ?_ | refine W_exit ?_ | refine W_ret ?_ | refine W_label ?_ | refine W_scope ?_ | refine W_block ?_ | refine W_seq ?_ | ((first | refine tS fun N hNx => ?_ | refine WL_gE rfl rfl (by kernel_rfl) (by kernel_rfl) fun G hGx => ?_ | refine vcOpsS_sound (by kernel_rfl) ?_ | refine W_ifE fun A B hAx hBx => ?_); refine evT ?_; (first | refine hGx _ ?_ | refine hNx _ ?_ | refine hAx ?_ | refine hBx ?_ | skip)))); (try clear fs))
  refine W_loopN x.st.length (fun i s => s.df = [] ∧ s.fr 1 = .rp (bkD x) ∧ s.fr 4 = i64 i ∧ H.le s.H ∧ ∃ ob, Gl H 91 4 ((opsP x i).map opD) (s.fr 3) s.H ob) ⟨rfl, rfl, rfl, Heap.le_refl _, none, Gl.nil _ _ _ _⟩ ?_
  rintro i s hi ⟨hdf, f1, f4, hle, ob, hg⟩
  simp only [bkD] at f1
  have hx : (i : Int).toNat = i := Int.toNat_natCast _
  have h00 : (0 : Int) ≤ (i : Int) := Int.natCast_nonneg _
  have hps := opsP_small hsm i
  by_cases hil : i < x.st.length
  case neg =>
    have p1 : ((i : Int) < (x.st.length : Int)) = False := eq_false (by omega)
    have e : i = x.st.length := by omega
    subst e
    have hal := har.1
    (have fs := And.intro f1 (And.intro f4 (And.intro @i64.eq_1 (And.intro p1 hll))); (repeat (first | refine hGx _ ?_ | refine hNx _ ?_ | refine W_skip ?_ | refine W_exit ?_ | refine W_ret ?_ | refine W_label ?_ | refine W_scope ?_ | refine W_block ?_ | refine W_seq ?_ | ((first | refine tS fun N hNx => ?_ | refine WL_gE rfl rfl (by kernel_rfl) (by kernel_rfl) fun G hGx => ?_ | refine vcOpsS_sound (by kernel_rfl) ?_ | refine W_ifE fun A B hAx hBx => ?_); refine evT ?_; (first | refine hGx _ ?_ | refine hNx _ ?_ | refine hAx ?_ | refine hBx ?_ | skip)))); (try clear fs))
    refine apV_grow (e := 91) ty37 rfl ty37 rfl ty91 rfl (by decide) hle hg (new := x.tm.ar.map opD) (by exact ⟨rfl, rfl⟩) (by rw [List.length_map, List.length_map]; show (_ + _) * 48 ≤ _; omega) fun d H6 ob6 hg6 hle6 _ => ?_
    rw [← List.map_append] at hg6
    (have fs := @i64.eq_1; (repeat (first | refine hGx _ ?_ | refine hNx _ ?_ | refine W_skip ?_ | refine W_exit ?_ | refine W_ret ?_ | refine W_label ?_ | refine W_scope ?_ | refine W_block ?_ | refine W_seq ?_ | ((first | refine tS fun N hNx => ?_ | refine WL_gE rfl rfl (by kernel_rfl) (by kernel_rfl) fun G hGx => ?_ | refine vcOpsS_sound (by kernel_rfl) ?_ | refine W_ifE fun A B hAx hBx => ?_); refine evT ?_; (first | refine hGx _ ?_ | refine hNx _ ?_ | refine hAx ?_ | refine hBx ?_ | skip)))); (try clear fs))
    (first | (show Q .ret _) | (show Q .normal _) | skip); refine hret _ _ (by first | exact .inr rfl | exact .inl rfl) (by first | rfl | assumption | (simp only [put_df, withH_df]; assumption)) ?_; have fs := hdf; refine evT ?_; clear fs
    exact ⟨_, Heap.le_refl _, hle6, _, frz_gl hle6 hg6, rfl⟩
  have p1 : ((i : Int) < (x.st.length : Int)) = True := eq_true (by omega)
  have hgi := map_get (f := stD) hil
  have w3 : IntKind.i64.wrap ((i : Int) + 1) = ((i + 1 : Nat) : Int) := by rw [wrap_i64_of (by omega)]; omega
  have hsu := opsP_succ hil
  have hso := (hsx x.st[i] (List.getElem_mem hil)).2.2
  obtain ⟨y, hye⟩ : ∃ y, y = x.st[i] := ⟨_, rfl⟩
  rw [← hye] at hgi hsu hso
  simp only [stD] at hgi
  have hal := hso.1
  (have fs := And.intro f1 (And.intro f4 (And.intro @i64.eq_1 (And.intro p1 (And.intro hll (And.intro hgi (And.intro hx (And.intro h00 hil))))))); (repeat (first | refine hGx _ ?_ | refine hNx _ ?_ | refine W_skip ?_ | refine W_exit ?_ | refine W_ret ?_ | refine W_label ?_ | refine W_scope ?_ | refine W_block ?_ | refine W_seq ?_ | ((first | refine tS fun N hNx => ?_ | refine WL_gE rfl rfl (by kernel_rfl) (by kernel_rfl) fun G hGx => ?_ | refine vcOpsS_sound (by kernel_rfl) ?_ | refine W_ifE fun A B hAx hBx => ?_); refine evT ?_; (first | refine hGx _ ?_ | refine hNx _ ?_ | refine hAx ?_ | refine hBx ?_ | skip)))); (try clear fs))
  refine apV_grow (e := 91) ty37 rfl ty37 rfl ty91 rfl (by decide) hle hg (new := y.rv.ar.map opD) (by exact ⟨rfl, rfl⟩) (by rw [List.length_map, List.length_map]; show (_ + _) * 48 ≤ _; omega) fun d H6 ob6 hg6 hle6 _ => ?_
  rw [← List.map_append, ← hsu] at hg6
  (have fs := And.intro f4 (And.intro @i64.eq_1 w3); (repeat (first | refine hGx _ ?_ | refine hNx _ ?_ | refine W_skip ?_ | refine W_exit ?_ | refine W_ret ?_ | refine W_label ?_ | refine W_scope ?_ | refine W_block ?_ | refine W_seq ?_ | ((first | refine tS fun N hNx => ?_ | refine WL_gE rfl rfl (by kernel_rfl) (by kernel_rfl) fun G hGx => ?_ | refine vcOpsS_sound (by kernel_rfl) ?_ | refine W_ifE fun A B hAx hBx => ?_); refine evT ?_; (first | refine hGx _ ?_ | refine hNx _ ?_ | refine hAx ?_ | refine hBx ?_ | skip)))); (try clear fs))
  exact ⟨hil, hdf, f1, rfl, hle6, ob6, hg6⟩
theorem kplace_N (p : PlS) (H : Heap) (hp : smP p) : Does Try.prog 62 [.agg (plD p)] H fun d H' => d = i64 ((1 + p.pr.length : Nat) : Int) ∧ H = H' := by
  unfold smP at hp
  have hll : (List.map pD p.pr).length = p.pr.length := List.length_map _
  have w1 : IntKind.i64.wrap (1 + (p.pr.length : Int)) = ((1 + p.pr.length : Nat) : Int) := by rw [wrap_i64_of (by omega)]; omega
  refine does_of _ _ Try.func62 rfl rfl Try.ntmps62 Try.results62 (by simp only [List.length_cons, List.length_nil]; omega) fun w0 Q hret => ?_
  (have fs := And.intro @i64.eq_1 @plD.eq_1; (repeat (first | refine hGx _ ?_ | refine hNx _ ?_ | refine W_skip ?_ | refine W_exit ?_ | refine W_ret ?_ | refine W_label ?_ | refine W_scope ?_ | refine W_block ?_ | refine W_seq ?_ | ((first | refine tS fun N hNx => ?_ | refine WL_gE rfl rfl (by kernel_rfl) (by kernel_rfl) fun G hGx => ?_ | refine vcOpsS_sound (by kernel_rfl) ?_ | refine W_ifE fun A B hAx hBx => ?_); refine evT ?_; (first | refine hGx _ ?_ | refine hNx _ ?_ | refine hAx ?_ | refine hBx ?_ | skip)))); (try clear fs))
  intro c1 hc1
  refine hNx _ ?_
  refine W_frzp 1 rfl (Heap.upd_same _ _ _) rfl ?_; simp only [St.frzp, put_H, wdf_H, withH_H, withH_put, wdf_withH, withH_withH, init_H, init_withH, Heap.del_upd_same, Heap.del_none hc1, withH_self]
  (have fs := And.intro @i64.eq_1 (And.intro hll w1); (repeat (first | refine hGx _ ?_ | refine hNx _ ?_ | refine W_skip ?_ | refine W_exit ?_ | refine W_ret ?_ | refine W_label ?_ | refine W_scope ?_ | refine W_block ?_ | refine W_seq ?_ | ((first | refine tS fun N hNx => ?_ | refine WL_gE rfl rfl (by kernel_rfl) (by kernel_rfl) fun G hGx => ?_ | refine vcOpsS_sound (by kernel_rfl) ?_ | refine W_ifE fun A B hAx hBx => ?_); refine evT ?_; (first | refine hGx _ ?_ | refine hNx _ ?_ | refine hAx ?_ | refine hBx ?_ | skip)))); (try clear fs))
  (first | (show Q .ret _) | (show Q .normal _) | skip); refine hret _ _ (by first | exact .inr rfl | exact .inl rfl) (by first | rfl | assumption | (simp only [put_df, withH_df]; assumption)) ?_; have fs := @i64.eq_1; refine evT ?_; clear fs
  exact ⟨_, Heap.le_refl _, rfl⟩
set_option maxHeartbeats 1000000 in
theorem kopsn_N (l : List OpS) (H : Heap) (hs : smO l) (hn : nOps l ≤ 1000000000) : Does Try.prog 63 [.seq 4 (l.map opD)] H fun d H' => d = i64 (nOps l) ∧ H = H' := by
  obtain ⟨hl, hlx⟩ := hs
  have hll : (List.map opD l).length = l.length := List.length_map _
  refine does_of _ _ Try.func63 rfl rfl Try.ntmps63 Try.results63 (by simp only [List.length_cons, List.length_nil]; omega) fun w0 Q hret => ?_
  (have fs := @i64.eq_1; (repeat (first | refine hGx _ ?_ | refine hNx _ ?_ | refine W_skip ?_ | refine W_exit ?_ | refine W_ret ?_ | refine W_label ?_ | refine W_scope ?_ | refine W_block ?_ | refine W_seq ?_ | ((first | refine tS fun N hNx => ?_ | refine WL_gE rfl rfl (by kernel_rfl) (by kernel_rfl) fun G hGx => ?_ | refine vcOpsS_sound (by kernel_rfl) ?_ | refine W_ifE fun A B hAx hBx => ?_); refine evT ?_; (first | refine hGx _ ?_ | refine hNx _ ?_ | refine hAx ?_ | refine hBx ?_ | skip)))); (try clear fs))
  refine W_loopN l.length (fun i s => s.df = [] ∧ s.fr 0 = .seq 4 (l.map opD) ∧ s.fr 3 = i64 (nOps (l.take i)) ∧ s.fr 4 = i64 i ∧ s.H = H) ⟨rfl, rfl, rfl, rfl, rfl⟩ ?_
  rintro i s hi ⟨hdf, f0, f3, f4, hH⟩
  have hx : (i : Int).toNat = i := Int.toNat_natCast _
  have h00 : (0 : Int) ≤ (i : Int) := Int.natCast_nonneg _
  by_cases hil : i < l.length
  case neg =>
    have p1 : ((i : Int) < (l.length : Int)) = False := eq_false (by omega)
    rw [List.take_of_length_le (by omega)] at f3
    (have fs := And.intro f0 (And.intro f3 (And.intro f4 (And.intro @i64.eq_1 (And.intro p1 hll)))); (repeat (first | refine hGx _ ?_ | refine hNx _ ?_ | refine W_skip ?_ | refine W_exit ?_ | refine W_ret ?_ | refine W_label ?_ | refine W_scope ?_ | refine W_block ?_ | refine W_seq ?_ | ((first | refine tS fun N hNx => ?_ | refine WL_gE rfl rfl (by kernel_rfl) (by kernel_rfl) fun G hGx => ?_ | refine vcOpsS_sound (by kernel_rfl) ?_ | refine W_ifE fun A B hAx hBx => ?_); refine evT ?_; (first | refine hGx _ ?_ | refine hNx _ ?_ | refine hAx ?_ | refine hBx ?_ | skip)))); (try clear fs))
    (first | (show Q .ret _) | (show Q .normal _) | skip); refine hret _ _ (by first | exact .inr rfl | exact .inl rfl) (by first | rfl | assumption | (simp only [put_df, withH_df]; assumption)) ?_; have fs := hdf; refine evT ?_; clear fs
    exact ⟨_, Heap.le_refl _, rfl, hH.symm⟩
  have p1 : ((i : Int) < (l.length : Int)) = True := eq_true (by omega)
  have hgi := map_get (f := opD) hil
  have w3 : IntKind.i64.wrap ((i : Int) + 1) = ((i + 1 : Nat) : Int) := by rw [wrap_i64_of (by omega)]; omega
  have hsp := hlx l[i] (List.getElem_mem hil)
  have htk : nOps (l.take (i + 1)) = nOps (l.take i) + (2 + l[i].pl.pr.length) := sm_take hil
  have htl : nOps (l.take (i + 1)) ≤ nOps l := sm_le _ _ _
  obtain ⟨x, hxe⟩ : ∃ x, x = l[i] := ⟨_, rfl⟩
  rw [← hxe] at hgi hsp htk
  simp only [opD] at hgi
  have hsp' := hsp
  unfold smP at hsp'
  have w4 : IntKind.i64.wrap (1 + ((1 + x.pl.pr.length : Nat) : Int)) = ((2 + x.pl.pr.length : Nat) : Int) := by rw [wrap_i64_of (by omega)]; omega
  have w5 : IntKind.i64.wrap ((nOps (l.take i) : Int) + ((2 + x.pl.pr.length : Nat) : Int)) = (nOps (l.take (i + 1)) : Int) := by rw [wrap_i64_of (by omega)]; omega
  (have fs := And.intro f0 (And.intro f3 (And.intro f4 (And.intro @i64.eq_1 (And.intro p1 (And.intro hll (And.intro hgi (And.intro hx (And.intro h00 hil)))))))); (repeat (first | refine hGx _ ?_ | refine hNx _ ?_ | refine W_skip ?_ | refine W_exit ?_ | refine W_ret ?_ | refine W_label ?_ | refine W_scope ?_ | refine W_block ?_ | refine W_seq ?_ | ((first | refine tS fun N hNx => ?_ | refine WL_gE rfl rfl (by kernel_rfl) (by kernel_rfl) fun G hGx => ?_ | refine vcOpsS_sound (by kernel_rfl) ?_ | refine W_ifE fun A B hAx hBx => ?_); refine evT ?_; (first | refine hGx _ ?_ | refine hNx _ ?_ | refine hAx ?_ | refine hBx ?_ | skip)))); (try clear fs))
  refine (kplace_N x.pl _ hsp).mono ?_
  rintro d _ ⟨rfl, rfl⟩
  (have fs := And.intro f3 (And.intro f4 (And.intro @i64.eq_1 (And.intro w3 (And.intro w4 w5)))); (repeat (first | refine hGx _ ?_ | refine hNx _ ?_ | refine W_skip ?_ | refine W_exit ?_ | refine W_ret ?_ | refine W_label ?_ | refine W_scope ?_ | refine W_block ?_ | refine W_seq ?_ | ((first | refine tS fun N hNx => ?_ | refine WL_gE rfl rfl (by kernel_rfl) (by kernel_rfl) fun G hGx => ?_ | refine vcOpsS_sound (by kernel_rfl) ?_ | refine W_ifE fun A B hAx hBx => ?_); refine evT ?_; (first | refine hGx _ ?_ | refine hNx _ ?_ | refine hAx ?_ | refine hBx ?_ | skip)))); (try clear fs))
  exact ⟨hil, hdf, f0, rfl, rfl, hH⟩
end Go.Proofs.Ytbcghjcakincoaa
