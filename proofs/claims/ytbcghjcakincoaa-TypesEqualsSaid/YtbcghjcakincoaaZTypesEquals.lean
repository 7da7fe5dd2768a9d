/- The walk of the law TypesEquals. -/
import Derived.Test.YtbcghjcakincoaaGT7
import Derived.Test.YtbcghjcakincoaaGYB
import Derived.Test.YtbcghjcakincoaaGY
/- The law TypesEquals: the walk. -/
namespace Go.Proofs.Ytbcghjcakincoaa
open Go.RowKit
set_option linter.unusedVariables false
set_option maxRecDepth 100000
set_option linter.unusedSimpArgs false
set_option maxHeartbeats 1000000 in
theorem lequ_N (a b : TyS) (ts : List TyS) (ha : a.ar.length ≤ 140737488351232) (hb : b.ar.length ≤ 140737488351232) (htl : ts.length ≤ 140737488351232) (har : ∀ u ∈ ts, u.ar.length ≤ 140737488351232) : Does Try.prog 10 [.agg (tyD a), .agg (tyD b), .seq 5 (ts.map tyD)] .none fun d _ => d = .val (.bool true) := by
  have hL2 := fun H => large6_N [a, b] H (by simp) (by simp [ha, hb])
  have hfl := fndI_iff (t := a) (l := ts)
  have hff := fun H => find_N ts a H htl har
  have hkf := fun H => kfind_N ts a H htl har
  have heq := fun H => teq_N a b H ha
  have hke := fun H => kteq_N a b H ha
  obtain ⟨r, hr⟩ : ∃ r, r = fndI a ts 0 := ⟨_, rfl⟩
  rw [← hr] at hfl hff hkf
  obtain ⟨e, he⟩ : ∃ e, e = decide (a = b) := ⟨_, rfl⟩
  rw [← he] at heq hke
  have hr1 : -1 ≤ r := by have := (fndI_le (t := a) (l := ts) (i := 0)).2; omega
  obtain ⟨mem, hmem⟩ : ∃ m, m = decide (a ∈ ts) := ⟨_, rfl⟩
  rw [← hmem] at hff
  obtain ⟨n2, hn2⟩ : ∃ n2, n2 = tot [a, b] := ⟨_, rfl⟩
  rw [← hn2] at hL2
  have hmr : mem = decide (0 ≤ r) := by rw [hmem]; exact decide_eq_decide.2 hfl.symm
  clear hfl hmem hn2 hr he
  obtain ⟨ak, am, ar, ae, aa⟩ := a
  obtain ⟨bk, bm, br, be, ba⟩ := b
  simp only [tyD, List.map_cons, List.map_nil] at hL2 hff hkf heq hke ⊢
  refine does_of _ _ Try.func10 rfl rfl Try.ntmps10 Try.results10 (by simp only [List.length_cons, List.length_nil]; omega) fun w0 Q hret => ?_
  (have fs := @i64.eq_1; (repeat (first | refine hGx _ ?_ | refine hNx _ ?_ | refine W_skip ?_ | refine W_exit ?_ | refine W_ret ?_ | refine W_label ?_ | refine W_scope ?_ | refine W_block ?_ | refine W_seq ?_ | ((first | refine tS fun N hNx => ?_ | refine WL_gE rfl rfl (by kernel_rfl) (by kernel_rfl) fun G hGx => ?_ | refine vcOpsS_sound (by kernel_rfl) ?_ | refine W_ifE fun A B hAx hBx => ?_); refine evT ?_; (first | refine hGx _ ?_ | refine hNx _ ?_ | refine hAx ?_ | refine hBx ?_ | skip)))); (try clear fs))
  intro c3 hc3 c4 hc4
  refine hNx _ ?_
  refine W_frzp 4 rfl (Heap.upd_same _ _ _) rfl ?_; simp only [St.frzp, put_H, wdf_H, withH_H, withH_put, wdf_withH, withH_withH, init_H, init_withH, Heap.del_upd_same, Heap.del_none hc4, withH_self]
  refine W_frzp 3 rfl (Heap.upd_same _ _ _) rfl ?_; simp only [St.frzp, put_H, wdf_H, withH_H, withH_put, wdf_withH, withH_withH, init_H, init_withH, Heap.del_upd_same, Heap.del_none hc3, withH_self]
  (have fs := @i64.eq_1; (repeat (first | refine hGx _ ?_ | refine hNx _ ?_ | refine W_skip ?_ | refine W_exit ?_ | refine W_ret ?_ | refine W_label ?_ | refine W_scope ?_ | refine W_block ?_ | refine W_seq ?_ | ((first | refine tS fun N hNx => ?_ | refine WL_gE rfl rfl (by kernel_rfl) (by kernel_rfl) fun G hGx => ?_ | refine vcOpsS_sound (by kernel_rfl) ?_ | refine W_ifE fun A B hAx hBx => ?_); refine evT ?_; (first | refine hGx _ ?_ | refine hNx _ ?_ | refine hAx ?_ | refine hBx ?_ | skip)))); (try clear fs))
  refine (hL2 _).mono ?_
  rintro d _ ⟨rfl, rfl⟩
  by_cases h1 : 200 < n2
  · rw [if_pos h1]
    (have fs := @i64.eq_1; (repeat (first | refine hGx _ ?_ | refine hNx _ ?_ | refine W_skip ?_ | refine W_exit ?_ | refine W_ret ?_ | refine W_label ?_ | refine W_scope ?_ | refine W_block ?_ | refine W_seq ?_ | ((first | refine tS fun N hNx => ?_ | refine WL_gE rfl rfl (by kernel_rfl) (by kernel_rfl) fun G hGx => ?_ | refine vcOpsS_sound (by kernel_rfl) ?_ | refine W_ifE fun A B hAx hBx => ?_); refine evT ?_; (first | refine hGx _ ?_ | refine hNx _ ?_ | refine hAx ?_ | refine hBx ?_ | skip)))); (try clear fs))
    refine (alive6_at _).mono ?_; rintro d _ ⟨rfl, rfl⟩; (have fs := @i64.eq_1; (repeat (first | refine hGx _ ?_ | refine hNx _ ?_ | refine W_skip ?_ | refine W_exit ?_ | refine W_ret ?_ | refine W_label ?_ | refine W_scope ?_ | refine W_block ?_ | refine W_seq ?_ | ((first | refine tS fun N hNx => ?_ | refine WL_gE rfl rfl (by kernel_rfl) (by kernel_rfl) fun G hGx => ?_ | refine vcOpsS_sound (by kernel_rfl) ?_ | refine W_ifE fun A B hAx hBx => ?_); refine evT ?_; (first | refine hGx _ ?_ | refine hNx _ ?_ | refine hAx ?_ | refine hBx ?_ | skip)))); (try clear fs)); (first | (show Q .ret _) | (show Q .normal _) | skip); refine hret _ _ (by first | exact .inr rfl | exact .inl rfl) (by first | rfl | assumption | (simp only [put_df, withH_df]; assumption)) ?_; have fs := @i64.eq_1; refine evT ?_; clear fs; exact ⟨_, Heap.le_refl _⟩
  rw [if_neg h1]
  (have fs := @i64.eq_1; (repeat (first | refine hGx _ ?_ | refine hNx _ ?_ | refine W_skip ?_ | refine W_exit ?_ | refine W_ret ?_ | refine W_label ?_ | refine W_scope ?_ | refine W_block ?_ | refine W_seq ?_ | ((first | refine tS fun N hNx => ?_ | refine WL_gE rfl rfl (by kernel_rfl) (by kernel_rfl) fun G hGx => ?_ | refine vcOpsS_sound (by kernel_rfl) ?_ | refine W_ifE fun A B hAx hBx => ?_); refine evT ?_; (first | refine hGx _ ?_ | refine hNx _ ?_ | refine hAx ?_ | refine hBx ?_ | skip)))); (try clear fs))
  refine (large6_N ts _ htl har).mono ?_
  rintro d _ ⟨rfl, rfl⟩
  by_cases h2 : 200 < tot ts
  · rw [if_pos h2]
    (have fs := @i64.eq_1; (repeat (first | refine hGx _ ?_ | refine hNx _ ?_ | refine W_skip ?_ | refine W_exit ?_ | refine W_ret ?_ | refine W_label ?_ | refine W_scope ?_ | refine W_block ?_ | refine W_seq ?_ | ((first | refine tS fun N hNx => ?_ | refine WL_gE rfl rfl (by kernel_rfl) (by kernel_rfl) fun G hGx => ?_ | refine vcOpsS_sound (by kernel_rfl) ?_ | refine W_ifE fun A B hAx hBx => ?_); refine evT ?_; (first | refine hGx _ ?_ | refine hNx _ ?_ | refine hAx ?_ | refine hBx ?_ | skip)))); (try clear fs))
    refine (alive6_at _).mono ?_; rintro d _ ⟨rfl, rfl⟩; (have fs := @i64.eq_1; (repeat (first | refine hGx _ ?_ | refine hNx _ ?_ | refine W_skip ?_ | refine W_exit ?_ | refine W_ret ?_ | refine W_label ?_ | refine W_scope ?_ | refine W_block ?_ | refine W_seq ?_ | ((first | refine tS fun N hNx => ?_ | refine WL_gE rfl rfl (by kernel_rfl) (by kernel_rfl) fun G hGx => ?_ | refine vcOpsS_sound (by kernel_rfl) ?_ | refine W_ifE fun A B hAx hBx => ?_); refine evT ?_; (first | refine hGx _ ?_ | refine hNx _ ?_ | refine hAx ?_ | refine hBx ?_ | skip)))); (try clear fs)); (first | (show Q .ret _) | (show Q .normal _) | skip); refine hret _ _ (by first | exact .inr rfl | exact .inl rfl) (by first | rfl | assumption | (simp only [put_df, withH_df]; assumption)) ?_; have fs := @i64.eq_1; refine evT ?_; clear fs; exact ⟨_, Heap.le_refl _⟩
  rw [if_neg h2]
  (have fs := @i64.eq_1; (repeat (first | refine hGx _ ?_ | refine hNx _ ?_ | refine W_skip ?_ | refine W_exit ?_ | refine W_ret ?_ | refine W_label ?_ | refine W_scope ?_ | refine W_block ?_ | refine W_seq ?_ | ((first | refine tS fun N hNx => ?_ | refine WL_gE rfl rfl (by kernel_rfl) (by kernel_rfl) fun G hGx => ?_ | refine vcOpsS_sound (by kernel_rfl) ?_ | refine W_ifE fun A B hAx hBx => ?_); refine evT ?_; (first | refine hGx _ ?_ | refine hNx _ ?_ | refine hAx ?_ | refine hBx ?_ | skip)))); (try clear fs))
  refine (hff _).mono ?_
  rintro d _ ⟨rfl, rfl⟩
  (have fs := @i64.eq_1; (repeat (first | refine hGx _ ?_ | refine hNx _ ?_ | refine W_skip ?_ | refine W_exit ?_ | refine W_ret ?_ | refine W_label ?_ | refine W_scope ?_ | refine W_block ?_ | refine W_seq ?_ | ((first | refine tS fun N hNx => ?_ | refine WL_gE rfl rfl (by kernel_rfl) (by kernel_rfl) fun G hGx => ?_ | refine vcOpsS_sound (by kernel_rfl) ?_ | refine W_ifE fun A B hAx hBx => ?_); refine evT ?_; (first | refine hGx _ ?_ | refine hNx _ ?_ | refine hAx ?_ | refine hBx ?_ | skip)))); (try clear fs))
  refine (hkf _).mono ?_
  rintro d _ ⟨rfl, rfl⟩
  (have fs := @i64.eq_1; (repeat (first | refine hGx _ ?_ | refine hNx _ ?_ | refine W_skip ?_ | refine W_exit ?_ | refine W_ret ?_ | refine W_label ?_ | refine W_scope ?_ | refine W_block ?_ | refine W_seq ?_ | ((first | refine tS fun N hNx => ?_ | refine WL_gE rfl rfl (by kernel_rfl) (by kernel_rfl) fun G hGx => ?_ | refine vcOpsS_sound (by kernel_rfl) ?_ | refine W_ifE fun A B hAx hBx => ?_); refine evT ?_; (first | refine hGx _ ?_ | refine hNx _ ?_ | refine hAx ?_ | refine hBx ?_ | skip)))); (try clear fs))
  have ca : ∀ H, CallOK Try.prog 32 [] H fun d A => A = Heap.none ∧ d = .val (.bool true) := fun H => callOK_eq fun H'' hle'' => (alive6_at H'').mono fun _ _ h => ⟨h.1, h.2⟩
  have cs : ∀ H, CallOK Try.prog 37 [.agg [i64 ak, .val (.bool am), i64 ar, i64 ae, .seq 1 (aa.map iD)], .agg [i64 bk, .val (.bool bm), i64 br, i64 be, .seq 1 (ba.map iD)]] H fun d A => A = Heap.none ∧ d = .val (.bool e) := fun H => callOK_eq fun H'' hle'' => (heq H'').mono fun _ _ h => ⟨h.1, h.2⟩
  have ck : ∀ H, CallOK Try.prog 38 [.agg [i64 ak, .val (.bool am), i64 ar, i64 ae, .seq 1 (aa.map iD)], .agg [i64 bk, .val (.bool bm), i64 br, i64 be, .seq 1 (ba.map iD)]] H fun d A => A = Heap.none ∧ d = .val (.bool e) := fun H => callOK_eq fun H'' hle'' => (hke H'').mono fun _ _ h => ⟨h.1, h.2⟩
  by_cases h0 : 0 ≤ r
  · rw [decide_eq_true h0] at hmr
    subst hmr
    have q0 : (0 ≤ r) = True := eq_true h0
    have q1 : (r < 0) = False := eq_false (by omega)
    rw [Int.max_eq_left h0]
    refine W_drawE (fun t _ d A => A = .none ∧ d = (if t = some 30 then .val (.bool true) else .val (.bool e))) (by kernel_rfl) (by kernel_rfl) (by kernel_rfl) fun N hNx => ?_; (have fs := And.intro @i64.eq_1 (And.intro q0 q1); (repeat ((first | refine vcD_g rfl rfl fun G hGx => ?_ | refine vcDS_to ?_); refine evD ?_; (first | refine hGx _ ?_ | refine hNx _ ?_ | skip))); (try clear fs))
    refine ⟨ca _, ?_⟩
    (first | refine hGx _ ?_ | refine hNx _ ?_ | skip)
    (have fs := And.intro @i64.eq_1 (And.intro q0 q1); (repeat ((first | refine vcD_g rfl rfl fun G hGx => ?_ | refine vcDS_to ?_); refine evD ?_; (first | refine hGx _ ?_ | refine hNx _ ?_ | skip))); (try clear fs))
    refine ⟨cs _, ?_⟩
    (first | refine hGx _ ?_ | refine hNx _ ?_ | skip)
    (have fs := And.intro @i64.eq_1 (And.intro q0 q1); (repeat ((first | refine vcD_g rfl rfl fun G hGx => ?_ | refine vcDS_to ?_); refine evD ?_; (first | refine hGx _ ?_ | refine hNx _ ?_ | skip))); (try clear fs))
    refine ⟨ck _, ?_⟩
    (first | refine hGx _ ?_ | refine hNx _ ?_ | skip)
    (have fs := And.intro @i64.eq_1 (And.intro q0 q1); (repeat ((first | refine vcD_g rfl rfl fun G hGx => ?_ | refine vcDS_to ?_); refine evD ?_; (first | refine hGx _ ?_ | refine hNx _ ?_ | skip))); (try clear fs))
    (have fs := And.intro @i64.eq_1 (And.intro q0 q1); (repeat (first | refine hGx _ ?_ | refine hNx _ ?_ | refine W_skip ?_ | refine W_exit ?_ | refine W_ret ?_ | refine W_label ?_ | refine W_scope ?_ | refine W_block ?_ | refine W_seq ?_ | ((first | refine tS fun N hNx => ?_ | refine WL_gE rfl rfl (by kernel_rfl) (by kernel_rfl) fun G hGx => ?_ | refine vcOpsS_sound (by kernel_rfl) ?_ | refine W_ifE fun A B hAx hBx => ?_); refine evT ?_; (first | refine hGx _ ?_ | refine hNx _ ?_ | refine hAx ?_ | refine hBx ?_ | skip)))); (try clear fs))
    (first | (show Q .ret _) | (show Q .normal _) | skip); refine hret _ _ (by first | exact .inr rfl | exact .inl rfl) (by first | rfl | assumption | (simp only [put_df, withH_df]; assumption)) ?_; have fs := @i64.eq_1; refine evT ?_; clear fs
    exact ⟨_, Heap.le_refl _, by rw [Int.max_eq_left h0]; simp⟩
  · rw [decide_eq_false h0] at hmr
    subst hmr
    have q0 : (0 ≤ r) = False := eq_false h0
    have q1 : (r < 0) = True := eq_true (by omega)
    rw [Int.max_eq_right (by omega)]
    refine W_drawE (fun t _ d A => A = .none ∧ d = (if t = some 30 then .val (.bool true) else .val (.bool e))) (by kernel_rfl) (by kernel_rfl) (by kernel_rfl) fun N hNx => ?_; (have fs := And.intro @i64.eq_1 (And.intro q0 q1); (repeat ((first | refine vcD_g rfl rfl fun G hGx => ?_ | refine vcDS_to ?_); refine evD ?_; (first | refine hGx _ ?_ | refine hNx _ ?_ | skip))); (try clear fs))
    refine ⟨ca _, ?_⟩
    (first | refine hGx _ ?_ | refine hNx _ ?_ | skip)
    (have fs := And.intro @i64.eq_1 (And.intro q0 q1); (repeat ((first | refine vcD_g rfl rfl fun G hGx => ?_ | refine vcDS_to ?_); refine evD ?_; (first | refine hGx _ ?_ | refine hNx _ ?_ | skip))); (try clear fs))
    refine ⟨cs _, ?_⟩
    (first | refine hGx _ ?_ | refine hNx _ ?_ | skip)
    (have fs := And.intro @i64.eq_1 (And.intro q0 q1); (repeat ((first | refine vcD_g rfl rfl fun G hGx => ?_ | refine vcDS_to ?_); refine evD ?_; (first | refine hGx _ ?_ | refine hNx _ ?_ | skip))); (try clear fs))
    refine ⟨ck _, ?_⟩
    (first | refine hGx _ ?_ | refine hNx _ ?_ | skip)
    (have fs := And.intro @i64.eq_1 (And.intro q0 q1); (repeat ((first | refine vcD_g rfl rfl fun G hGx => ?_ | refine vcDS_to ?_); refine evD ?_; (first | refine hGx _ ?_ | refine hNx _ ?_ | skip))); (try clear fs))
    (have fs := And.intro @i64.eq_1 (And.intro q0 q1); (repeat (first | refine hGx _ ?_ | refine hNx _ ?_ | refine W_skip ?_ | refine W_exit ?_ | refine W_ret ?_ | refine W_label ?_ | refine W_scope ?_ | refine W_block ?_ | refine W_seq ?_ | ((first | refine tS fun N hNx => ?_ | refine WL_gE rfl rfl (by kernel_rfl) (by kernel_rfl) fun G hGx => ?_ | refine vcOpsS_sound (by kernel_rfl) ?_ | refine W_ifE fun A B hAx hBx => ?_); refine evT ?_; (first | refine hGx _ ?_ | refine hNx _ ?_ | refine hAx ?_ | refine hBx ?_ | skip)))); (try clear fs))
    (first | (show Q .ret _) | (show Q .normal _) | skip); refine hret _ _ (by first | exact .inr rfl | exact .inl rfl) (by first | rfl | assumption | (simp only [put_df, withH_df]; assumption)) ?_; have fs := @i64.eq_1; refine evT ?_; clear fs
    exact ⟨_, Heap.le_refl _, by rw [Int.max_eq_right (by omega)]; simp⟩
theorem ok_ty {x : X} (h : DT.ok (DT.struct [DT.int .i64, DT.bool, DT.int .i64, DT.int .i64, DT.slice 1 8 (DT.int .i64)]) x) : ∃ t : TyS, x.d = .agg (tyD t) ∧ okTy t := by
  simp only [DT.ok, DT.oks] at h
  obtain ⟨xs, rfl, y1, ys1, rfl, ⟨k, rfl, hk⟩, y2, ys2, rfl, ⟨m, rfl⟩, y3, ys3, rfl, ⟨r, rfl, hr⟩, y4, ys4, rfl, ⟨e, rfl, he⟩, y5, ys5, rfl, hy, rfl⟩ := h
  obtain ⟨ar, rfl, har, hal⟩ := ok_ints (by_ := 8) (x := y5) (by simp only [DT.ok]; exact hy)
  have h64 : ∀ {n : Int}, (Lit.int .i64 n).wf = true → I64 n := fun hn => by
    simp [Lit.wf, IntKind.min, IntKind.max, IntKind.signed, IntKind.bits] at hn
    unfold I64; omega
  refine ⟨⟨k, m, r, e, ar⟩, ?_, h64 hk, h64 hr, h64 he, har, by simp only; omega⟩
  simp only [X.d, X.cs, X.csf, X.css_map, List.map_map, tyD]
  rfl
theorem TypesEquals_walk (x0 : X) (v0 : Value) (x1 : X) (v1 : Value) (x2 : X) (v2 : Value) (w : World) (o0 : DT.ok (DT.struct [DT.int .i64, DT.bool, DT.int .i64, DT.int .i64, DT.slice 1 8 (DT.int .i64)]) x0) (i0 : D.is w Heap.none.others x0.d v0) (o1 : DT.ok (DT.struct [DT.int .i64, DT.bool, DT.int .i64, DT.int .i64, DT.slice 1 8 (DT.int .i64)]) x1) (i1 : D.is w Heap.none.others x1.d v1) (o2 : DT.ok (DT.slice 5 56 (DT.struct [DT.int .i64, DT.bool, DT.int .i64, DT.int .i64, DT.slice 1 8 (DT.int .i64)])) x2) (i2 : D.is w Heap.none.others x2.d v2) :
    Calls Try.prog 10 #[v0, v1, v2] w fun e w' => e = .returned (.bool true) ∧ Below w.heap.size w w' := by
  obtain ⟨a, ha, hoka⟩ := ok_ty o0
  obtain ⟨b, hb, hokb⟩ := ok_ty o1
  obtain ⟨ts, hy, hokt, hlt⟩ := ok_tys o2
  rw [ha] at i0
  rw [hb] at i1
  rw [hy] at i2
  have h1 := hoka.2.2.2.2
  have h2 := hokb.2.2.2.2
  exact walk_of (lequ_N a b ts (by omega) (by omega) (by omega) (fun u hu => by have := (hokt u hu).2.2.2.2; omega)) ⟨_, _, rfl, i0, _, _, rfl, i1, _, _, rfl, i2, rfl⟩
end Go.Proofs.Ytbcghjcakincoaa
