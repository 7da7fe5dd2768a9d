/- The walk of the law TypesMonotone. -/
import Derived.Test.YtbcghjcakincoaaGT7
import Derived.Test.YtbcghjcakincoaaGT6
import Derived.Test.YtbcghjcakincoaaGYB
import Derived.Test.YtbcghjcakincoaaGY
/- The laws TypesPrefixes, TypesMonotone: the walks. -/
namespace Go.Proofs.Ytbcghjcakincoaa
open Go.RowKit
set_option linter.unusedVariables false
set_option maxRecDepth 100000
set_option linter.unusedSimpArgs false
set_option maxHeartbeats 1000000 in
theorem lpref_N (ts : List TyS) (n : Int) (k : UInt8) (htl : ts.length ≤ 140737488351232) (har : ∀ u ∈ ts, u.ar.length ≤ 140737488351232) : Does Try.prog 12 [.seq 5 (ts.map tyD), i64 n, .val (.int .u8 k.toNat)] .none fun d _ => d = .val (.bool true) := by
  have htyl : (List.map tyD ts).length = ts.length := List.length_map _
  refine does_of _ _ Try.func12 rfl rfl Try.ntmps12 Try.results12 (by simp only [List.length_cons, List.length_nil]; omega) fun w0 Q hret => ?_
  (have fs := @i64.eq_1; (repeat (first | refine hGx _ ?_ | refine hNx _ ?_ | refine W_skip ?_ | refine W_exit ?_ | refine W_ret ?_ | refine W_label ?_ | refine W_scope ?_ | refine W_block ?_ | refine W_seq ?_ | ((first | refine tS fun N hNx => ?_ | refine WL_gE rfl rfl (by kernel_rfl) (by kernel_rfl) fun G hGx => ?_ | refine vcOpsS_sound (by kernel_rfl) ?_ | refine W_ifE fun A B hAx hBx => ?_); refine evT ?_; (first | refine hGx _ ?_ | refine hNx _ ?_ | refine hAx ?_ | refine hBx ?_ | skip)))); (try clear fs))
  refine (large6_N ts _ htl har).mono ?_
  rintro d _ ⟨rfl, rfl⟩
  by_cases h1 : 200 < tot ts
  · rw [if_pos h1]
    (have fs := @i64.eq_1; (repeat (first | refine hGx _ ?_ | refine hNx _ ?_ | refine W_skip ?_ | refine W_exit ?_ | refine W_ret ?_ | refine W_label ?_ | refine W_scope ?_ | refine W_block ?_ | refine W_seq ?_ | ((first | refine tS fun N hNx => ?_ | refine WL_gE rfl rfl (by kernel_rfl) (by kernel_rfl) fun G hGx => ?_ | refine vcOpsS_sound (by kernel_rfl) ?_ | refine W_ifE fun A B hAx hBx => ?_); refine evT ?_; (first | refine hGx _ ?_ | refine hNx _ ?_ | refine hAx ?_ | refine hBx ?_ | skip)))); (try clear fs))
    refine (alive6_at _).mono ?_; rintro d _ ⟨rfl, rfl⟩; (have fs := @i64.eq_1; (repeat (first | refine hGx _ ?_ | refine hNx _ ?_ | refine W_skip ?_ | refine W_exit ?_ | refine W_ret ?_ | refine W_label ?_ | refine W_scope ?_ | refine W_block ?_ | refine W_seq ?_ | ((first | refine tS fun N hNx => ?_ | refine WL_gE rfl rfl (by kernel_rfl) (by kernel_rfl) fun G hGx => ?_ | refine vcOpsS_sound (by kernel_rfl) ?_ | refine W_ifE fun A B hAx hBx => ?_); refine evT ?_; (first | refine hGx _ ?_ | refine hNx _ ?_ | refine hAx ?_ | refine hBx ?_ | skip)))); (try clear fs)); (first | (show Q .ret _) | (show Q .normal _) | skip); refine hret _ _ (by first | exact .inr rfl | exact .inl rfl) (by first | rfl | assumption | (simp only [put_df, withH_df]; assumption)) ?_; have fs := @i64.eq_1; refine evT ?_; clear fs; exact ⟨_, Heap.le_refl _⟩
  rw [if_neg h1]
  (have fs := @i64.eq_1; (repeat (first | refine hGx _ ?_ | refine hNx _ ?_ | refine W_skip ?_ | refine W_exit ?_ | refine W_ret ?_ | refine W_label ?_ | refine W_scope ?_ | refine W_block ?_ | refine W_seq ?_ | ((first | refine tS fun N hNx => ?_ | refine WL_gE rfl rfl (by kernel_rfl) (by kernel_rfl) fun G hGx => ?_ | refine vcOpsS_sound (by kernel_rfl) ?_ | refine W_ifE fun A B hAx hBx => ?_); refine evT ?_; (first | refine hGx _ ?_ | refine hNx _ ?_ | refine hAx ?_ | refine hBx ?_ | skip)))); (try clear fs))
  refine (kchk_N ts n _ htl har).mono ?_
  rintro d _ ⟨rfl, rfl⟩
  by_cases hk : chkT ts n = 0
  case neg =>
    have q : ((chkT ts n : Int) = 0) = False := eq_false (by omega)
    (have fs := And.intro @i64.eq_1 q; (repeat (first | refine hGx _ ?_ | refine hNx _ ?_ | refine W_skip ?_ | refine W_exit ?_ | refine W_ret ?_ | refine W_label ?_ | refine W_scope ?_ | refine W_block ?_ | refine W_seq ?_ | ((first | refine tS fun N hNx => ?_ | refine WL_gE rfl rfl (by kernel_rfl) (by kernel_rfl) fun G hGx => ?_ | refine vcOpsS_sound (by kernel_rfl) ?_ | refine W_ifE fun A B hAx hBx => ?_); refine evT ?_; (first | refine hGx _ ?_ | refine hNx _ ?_ | refine hAx ?_ | refine hBx ?_ | skip)))); (try clear fs))
    refine (alive6_at _).mono ?_; rintro d _ ⟨rfl, rfl⟩; (have fs := @i64.eq_1; (repeat (first | refine hGx _ ?_ | refine hNx _ ?_ | refine W_skip ?_ | refine W_exit ?_ | refine W_ret ?_ | refine W_label ?_ | refine W_scope ?_ | refine W_block ?_ | refine W_seq ?_ | ((first | refine tS fun N hNx => ?_ | refine WL_gE rfl rfl (by kernel_rfl) (by kernel_rfl) fun G hGx => ?_ | refine vcOpsS_sound (by kernel_rfl) ?_ | refine W_ifE fun A B hAx hBx => ?_); refine evT ?_; (first | refine hGx _ ?_ | refine hNx _ ?_ | refine hAx ?_ | refine hBx ?_ | skip)))); (try clear fs)); (first | (show Q .ret _) | (show Q .normal _) | skip); refine hret _ _ (by first | exact .inr rfl | exact .inl rfl) (by first | rfl | assumption | (simp only [put_df, withH_df]; assumption)) ?_; have fs := @i64.eq_1; refine evT ?_; clear fs; exact ⟨_, Heap.le_refl _⟩
  rw [hk]
  obtain ⟨ht6, hw, hrf, _, hreg⟩ := ok_facts6 hk
  obtain ⟨j, hj⟩ : ∃ j : Nat, (j : Int) = ((k.toNat : Int)).tmod ((ts.length : Int) + 1) := ⟨(((k.toNat : Int)).tmod ((ts.length : Int) + 1)).toNat, by have := Int.tmod_nonneg ((ts.length : Int) + 1) (show (0 : Int) ≤ (k.toNat : Int) by omega); omega⟩
  have hjl : j ≤ ts.length := by have := Int.tmod_lt_of_pos (k.toNat : Int) (show (0 : Int) < (ts.length : Int) + 1 by omega); omega
  have w1 : IntKind.i64.wrap (k.toNat : Int) = (k.toNat : Int) := by have := k.toNat_lt; rw [wrap_i64_of (by omega)]
  have w2 : IntKind.i64.wrap ((ts.length : Int) + 1) = (ts.length : Int) + 1 := by rw [wrap_i64_of (by omega)]
  have hne : (((ts.length : Int) + 1) = 0) = False := eq_false (by omega)
  have hx : (j : Int).toNat = j := Int.toNat_natCast _
  have h00 : (0 : Int) ≤ (j : Int) := Int.natCast_nonneg _
  have q2 : ((j : Int) ≤ (ts.length : Int)) = True := eq_true (by omega)
  (have fs := And.intro @i64.eq_1 (And.intro htyl (And.intro w1 (And.intro w2 (And.intro hne (And.intro @hj.symm (And.intro hx (And.intro h00 (And.intro hjl q2)))))))); (repeat (first | refine hGx _ ?_ | refine hNx _ ?_ | refine W_skip ?_ | refine W_exit ?_ | refine W_ret ?_ | refine W_label ?_ | refine W_scope ?_ | refine W_block ?_ | refine W_seq ?_ | ((first | refine tS fun N hNx => ?_ | refine WL_gE rfl rfl (by kernel_rfl) (by kernel_rfl) fun G hGx => ?_ | refine vcOpsS_sound (by kernel_rfl) ?_ | refine W_ifE fun A B hAx hBx => ?_); refine evT ?_; (first | refine hGx _ ?_ | refine hNx _ ?_ | refine hAx ?_ | refine hBx ?_ | skip)))); (try clear fs))
  rw [← List.map_take]
  refine (check_N (ts.take j) n _ (by rw [List.length_take]; omega) (fun u hu => har u (List.mem_of_mem_take hu))).mono ?_
  rintro d _ ⟨rfl, rfl⟩
  rw [ok_take hk j]
  (have fs := @i64.eq_1; (repeat (first | refine hGx _ ?_ | refine hNx _ ?_ | refine W_skip ?_ | refine W_exit ?_ | refine W_ret ?_ | refine W_label ?_ | refine W_scope ?_ | refine W_block ?_ | refine W_seq ?_ | ((first | refine tS fun N hNx => ?_ | refine WL_gE rfl rfl (by kernel_rfl) (by kernel_rfl) fun G hGx => ?_ | refine vcOpsS_sound (by kernel_rfl) ?_ | refine W_ifE fun A B hAx hBx => ?_); refine evT ?_; (first | refine hGx _ ?_ | refine hNx _ ?_ | refine hAx ?_ | refine hBx ?_ | skip)))); (try clear fs))
  refine (check_N ts n _ htl har).mono ?_
  rintro d _ ⟨rfl, rfl⟩
  rw [hk]
  (have fs := And.intro @i64.eq_1 htyl; (repeat (first | refine hGx _ ?_ | refine hNx _ ?_ | refine W_skip ?_ | refine W_exit ?_ | refine W_ret ?_ | refine W_label ?_ | refine W_scope ?_ | refine W_block ?_ | refine W_seq ?_ | ((first | refine tS fun N hNx => ?_ | refine WL_gE rfl rfl (by kernel_rfl) (by kernel_rfl) fun G hGx => ?_ | refine vcOpsS_sound (by kernel_rfl) ?_ | refine W_ifE fun A B hAx hBx => ?_); refine evT ?_; (first | refine hGx _ ?_ | refine hNx _ ?_ | refine hAx ?_ | refine hBx ?_ | skip)))); (try clear fs))
  refine W_loopN ts.length (fun i s => s.df = [] ∧ s.fr 0 = .seq 5 (ts.map tyD) ∧ s.fr 38 = .seq 5 (ts.map tyD) ∧ s.fr 39 = i64 ts.length ∧ s.fr 40 = i64 i) ⟨rfl, rfl, rfl, rfl, rfl⟩ ?_
  rintro i s hi ⟨hdf, f0, f38, f39, f40⟩
  have hxi : (i : Int).toNat = i := Int.toNat_natCast _
  have h00i : (0 : Int) ≤ (i : Int) := Int.natCast_nonneg _
  by_cases hil : i < ts.length
  case neg =>
    have q6 : ((i : Int) < (ts.length : Int)) = False := eq_false (by omega)
    (have fs := And.intro f39 (And.intro f40 (And.intro @i64.eq_1 q6)); (repeat (first | refine hGx _ ?_ | refine hNx _ ?_ | refine W_skip ?_ | refine W_exit ?_ | refine W_ret ?_ | refine W_label ?_ | refine W_scope ?_ | refine W_block ?_ | refine W_seq ?_ | ((first | refine tS fun N hNx => ?_ | refine WL_gE rfl rfl (by kernel_rfl) (by kernel_rfl) fun G hGx => ?_ | refine vcOpsS_sound (by kernel_rfl) ?_ | refine W_ifE fun A B hAx hBx => ?_); refine evT ?_; (first | refine hGx _ ?_ | refine hNx _ ?_ | refine hAx ?_ | refine hBx ?_ | skip)))); (try clear fs))
    refine (alive6_at _).mono ?_; rintro d _ ⟨rfl, rfl⟩
    (have fs := @i64.eq_1; (repeat (first | refine hGx _ ?_ | refine hNx _ ?_ | refine W_skip ?_ | refine W_exit ?_ | refine W_ret ?_ | refine W_label ?_ | refine W_scope ?_ | refine W_block ?_ | refine W_seq ?_ | ((first | refine tS fun N hNx => ?_ | refine WL_gE rfl rfl (by kernel_rfl) (by kernel_rfl) fun G hGx => ?_ | refine vcOpsS_sound (by kernel_rfl) ?_ | refine W_ifE fun A B hAx hBx => ?_); refine evT ?_; (first | refine hGx _ ?_ | refine hNx _ ?_ | refine hAx ?_ | refine hBx ?_ | skip)))); (try clear fs))
    (first | (show Q .ret _) | (show Q .normal _) | skip); refine hret _ _ (by first | exact .inr rfl | exact .inl rfl) (by first | rfl | assumption | (simp only [put_df, withH_df]; assumption)) ?_; have fs := hdf; refine evT ?_; clear fs
    exact ⟨_, Heap.le_refl _⟩
  have q6 : ((i : Int) < (ts.length : Int)) = True := eq_true (by omega)
  have w3 : IntKind.i64.wrap ((i : Int) + 1) = ((i + 1 : Nat) : Int) := by rw [wrap_i64_of (by omega)]; omega
  have hgi : (ts.map tyD)[i]? = some (tyD ts[i]) := by rw [List.getElem?_map, List.getElem?_eq_getElem hil]; rfl
  have hfi := ok_find hk hil
  have hmi : ts[i] ∈ ts := List.getElem_mem hil
  have hq := fun H => find_N ts ts[i] H htl har
  rw [hfi, Int.max_eq_left h00i, decide_eq_true hmi] at hq
  obtain ⟨u, hu⟩ : ∃ u, u = ts[i] := ⟨_, rfl⟩
  rw [← hu] at hgi hq
  obtain ⟨uk, um, ur, ue, ua⟩ := u
  simp only [tyD] at hgi hq
  (have fs := And.intro f0 (And.intro f38 (And.intro f39 (And.intro f40 (And.intro @i64.eq_1 (And.intro htyl (And.intro q6 (And.intro hgi (And.intro hxi (And.intro h00i hil))))))))); (repeat (first | refine hGx _ ?_ | refine hNx _ ?_ | refine W_skip ?_ | refine W_exit ?_ | refine W_ret ?_ | refine W_label ?_ | refine W_scope ?_ | refine W_block ?_ | refine W_seq ?_ | ((first | refine tS fun N hNx => ?_ | refine WL_gE rfl rfl (by kernel_rfl) (by kernel_rfl) fun G hGx => ?_ | refine vcOpsS_sound (by kernel_rfl) ?_ | refine W_ifE fun A B hAx hBx => ?_); refine evT ?_; (first | refine hGx _ ?_ | refine hNx _ ?_ | refine hAx ?_ | refine hBx ?_ | skip)))); (try clear fs))
  intro c8 hc8
  refine hNx _ ?_
  refine W_frzp 8 rfl (Heap.upd_same _ _ _) rfl ?_; simp only [St.frzp, put_H, wdf_H, withH_H, withH_put, wdf_withH, withH_withH, init_H, init_withH, Heap.del_upd_same, Heap.del_none hc8, withH_self]
  (have fs := And.intro @i64.eq_1 f0; (repeat (first | refine hGx _ ?_ | refine hNx _ ?_ | refine W_skip ?_ | refine W_exit ?_ | refine W_ret ?_ | refine W_label ?_ | refine W_scope ?_ | refine W_block ?_ | refine W_seq ?_ | ((first | refine tS fun N hNx => ?_ | refine WL_gE rfl rfl (by kernel_rfl) (by kernel_rfl) fun G hGx => ?_ | refine vcOpsS_sound (by kernel_rfl) ?_ | refine W_ifE fun A B hAx hBx => ?_); refine evT ?_; (first | refine hGx _ ?_ | refine hNx _ ?_ | refine hAx ?_ | refine hBx ?_ | skip)))); (try clear fs))
  refine (hq _).mono ?_
  rintro d _ ⟨rfl, rfl⟩
  (have fs := And.intro @i64.eq_1 (And.intro f39 (And.intro f40 w3)); (repeat (first | refine hGx _ ?_ | refine hNx _ ?_ | refine W_skip ?_ | refine W_exit ?_ | refine W_ret ?_ | refine W_label ?_ | refine W_scope ?_ | refine W_block ?_ | refine W_seq ?_ | ((first | refine tS fun N hNx => ?_ | refine WL_gE rfl rfl (by kernel_rfl) (by kernel_rfl) fun G hGx => ?_ | refine vcOpsS_sound (by kernel_rfl) ?_ | refine W_ifE fun A B hAx hBx => ?_); refine evT ?_; (first | refine hGx _ ?_ | refine hNx _ ?_ | refine hAx ?_ | refine hBx ?_ | skip)))); (try clear fs))
  exact ⟨hil, hdf, f0, f38, f39, rfl⟩
theorem TypesPrefixes_walk (x0 : X) (v0 : Value) (x1 : X) (v1 : Value) (x2 : X) (v2 : Value) (w : World) (o0 : DT.ok (DT.slice 5 56 (DT.struct [DT.int .i64, DT.bool, DT.int .i64, DT.int .i64, DT.slice 1 8 (DT.int .i64)])) x0) (i0 : D.is w Heap.none.others x0.d v0) (o1 : DT.ok (DT.int .i64) x1) (i1 : D.is w Heap.none.others x1.d v1) (o2 : DT.ok (DT.int .u8) x2) (i2 : D.is w Heap.none.others x2.d v2) :
    Calls Try.prog 12 #[v0, v1, v2] w fun e w' => e = .returned (.bool true) ∧ Below w.heap.size w w' := by
  obtain ⟨ts, hy, hokt, hlt⟩ := ok_tys o0
  obtain ⟨n, rfl, _⟩ := ok_i64 o1
  obtain ⟨k, rfl⟩ := ok_u8 o2
  rw [hy] at i0
  exact walk_of (lpref_N ts n k (by omega) (fun u hu => by have := (hokt u hu).2.2.2.2; omega)) ⟨_, _, rfl, i0, _, _, rfl, i1, _, _, rfl, i2, rfl⟩
set_option maxHeartbeats 1000000 in
theorem lmono_N (ts : List TyS) (n m : Int) (hn : 0 ≤ n) (hn2 : n ≤ 255) (hm : 0 ≤ m) (hm2 : m ≤ 65535) (htl : ts.length ≤ 140737488351232) (har : ∀ u ∈ ts, u.ar.length ≤ 140737488351232) : Does Try.prog 14 [.seq 5 (ts.map tyD), .val (.int .u8 n), .val (.int .u16 m)] .none fun d _ => d = .val (.bool true) := by
  have htyl : (List.map tyD ts).length = ts.length := List.length_map _
  have w1 : IntKind.i64.wrap n = n := by rw [wrap_i64_of (by omega)]
  have w2 : IntKind.i64.wrap m = m := by rw [wrap_i64_of (by omega)]
  have w3 : IntKind.i64.wrap (n + m) = n + m := by rw [wrap_i64_of (by omega)]
  refine does_of _ _ Try.func14 rfl rfl Try.ntmps14 Try.results14 (by simp only [List.length_cons, List.length_nil]; omega) fun w0 Q hret => ?_
  (have fs := And.intro @i64.eq_1 w1; (repeat (first | refine hGx _ ?_ | refine hNx _ ?_ | refine W_skip ?_ | refine W_exit ?_ | refine W_ret ?_ | refine W_label ?_ | refine W_scope ?_ | refine W_block ?_ | refine W_seq ?_ | ((first | refine tS fun N hNx => ?_ | refine WL_gE rfl rfl (by kernel_rfl) (by kernel_rfl) fun G hGx => ?_ | refine vcOpsS_sound (by kernel_rfl) ?_ | refine W_ifE fun A B hAx hBx => ?_); refine evT ?_; (first | refine hGx _ ?_ | refine hNx _ ?_ | refine hAx ?_ | refine hBx ?_ | skip)))); (try clear fs))
  refine (skip6_N ts _ htl har).mono ?_
  rintro d _ ⟨hsk, rfl⟩
  rcases hsk with rfl | ⟨rfl, htot⟩
  · (have fs := @i64.eq_1; (repeat (first | refine hGx _ ?_ | refine hNx _ ?_ | refine W_skip ?_ | refine W_exit ?_ | refine W_ret ?_ | refine W_label ?_ | refine W_scope ?_ | refine W_block ?_ | refine W_seq ?_ | ((first | refine tS fun N hNx => ?_ | refine WL_gE rfl rfl (by kernel_rfl) (by kernel_rfl) fun G hGx => ?_ | refine vcOpsS_sound (by kernel_rfl) ?_ | refine W_ifE fun A B hAx hBx => ?_); refine evT ?_; (first | refine hGx _ ?_ | refine hNx _ ?_ | refine hAx ?_ | refine hBx ?_ | skip)))); (try clear fs))
    refine (alive6_at _).mono ?_; rintro d _ ⟨rfl, rfl⟩; (have fs := @i64.eq_1; (repeat (first | refine hGx _ ?_ | refine hNx _ ?_ | refine W_skip ?_ | refine W_exit ?_ | refine W_ret ?_ | refine W_label ?_ | refine W_scope ?_ | refine W_block ?_ | refine W_seq ?_ | ((first | refine tS fun N hNx => ?_ | refine WL_gE rfl rfl (by kernel_rfl) (by kernel_rfl) fun G hGx => ?_ | refine vcOpsS_sound (by kernel_rfl) ?_ | refine W_ifE fun A B hAx hBx => ?_); refine evT ?_; (first | refine hGx _ ?_ | refine hNx _ ?_ | refine hAx ?_ | refine hBx ?_ | skip)))); (try clear fs)); (first | (show Q .ret _) | (show Q .normal _) | skip); refine hret _ _ (by first | exact .inr rfl | exact .inl rfl) (by first | rfl | assumption | (simp only [put_df, withH_df]; assumption)) ?_; have fs := @i64.eq_1; refine evT ?_; clear fs; exact ⟨_, Heap.le_refl _⟩
  (have fs := @i64.eq_1; (repeat (first | refine hGx _ ?_ | refine hNx _ ?_ | refine W_skip ?_ | refine W_exit ?_ | refine W_ret ?_ | refine W_label ?_ | refine W_scope ?_ | refine W_block ?_ | refine W_seq ?_ | ((first | refine tS fun N hNx => ?_ | refine WL_gE rfl rfl (by kernel_rfl) (by kernel_rfl) fun G hGx => ?_ | refine vcOpsS_sound (by kernel_rfl) ?_ | refine W_ifE fun A B hAx hBx => ?_); refine evT ?_; (first | refine hGx _ ?_ | refine hNx _ ?_ | refine hAx ?_ | refine hBx ?_ | skip)))); (try clear fs))
  refine (kchk_N ts n _ htl har).mono ?_
  rintro d _ ⟨rfl, rfl⟩
  by_cases hk : chkT ts n = 0
  case neg =>
    have q : ((chkT ts n : Int) = 0) = False := eq_false (by omega)
    (have fs := And.intro @i64.eq_1 q; (repeat (first | refine hGx _ ?_ | refine hNx _ ?_ | refine W_skip ?_ | refine W_exit ?_ | refine W_ret ?_ | refine W_label ?_ | refine W_scope ?_ | refine W_block ?_ | refine W_seq ?_ | ((first | refine tS fun N hNx => ?_ | refine WL_gE rfl rfl (by kernel_rfl) (by kernel_rfl) fun G hGx => ?_ | refine vcOpsS_sound (by kernel_rfl) ?_ | refine W_ifE fun A B hAx hBx => ?_); refine evT ?_; (first | refine hGx _ ?_ | refine hNx _ ?_ | refine hAx ?_ | refine hBx ?_ | skip)))); (try clear fs))
    refine (alive6_at _).mono ?_; rintro d _ ⟨rfl, rfl⟩; (have fs := @i64.eq_1; (repeat (first | refine hGx _ ?_ | refine hNx _ ?_ | refine W_skip ?_ | refine W_exit ?_ | refine W_ret ?_ | refine W_label ?_ | refine W_scope ?_ | refine W_block ?_ | refine W_seq ?_ | ((first | refine tS fun N hNx => ?_ | refine WL_gE rfl rfl (by kernel_rfl) (by kernel_rfl) fun G hGx => ?_ | refine vcOpsS_sound (by kernel_rfl) ?_ | refine W_ifE fun A B hAx hBx => ?_); refine evT ?_; (first | refine hGx _ ?_ | refine hNx _ ?_ | refine hAx ?_ | refine hBx ?_ | skip)))); (try clear fs)); (first | (show Q .ret _) | (show Q .normal _) | skip); refine hret _ _ (by first | exact .inr rfl | exact .inl rfl) (by first | rfl | assumption | (simp only [put_df, withH_df]; assumption)) ?_; have fs := @i64.eq_1; refine evT ?_; clear fs; exact ⟨_, Heap.le_refl _⟩
  rw [hk]
  obtain ⟨ht6, hw, hrf, _, hreg⟩ := ok_facts6 hk
  have hb1 : rbd ts 1000000 := fun t ht h3 => by have := (hreg t ht).1 h3; omega
  have htl2 : ts.length ≤ 1000000 := by omega
  (have fs := And.intro @i64.eq_1 htyl; (repeat (first | refine hGx _ ?_ | refine hNx _ ?_ | refine W_skip ?_ | refine W_exit ?_ | refine W_ret ?_ | refine W_label ?_ | refine W_scope ?_ | refine W_block ?_ | refine W_seq ?_ | ((first | refine tS fun N hNx => ?_ | refine WL_gE rfl rfl (by kernel_rfl) (by kernel_rfl) fun G hGx => ?_ | refine vcOpsS_sound (by kernel_rfl) ?_ | refine W_ifE fun A B hAx hBx => ?_); refine evT ?_; (first | refine hGx _ ?_ | refine hNx _ ?_ | refine hAx ?_ | refine hBx ?_ | skip)))); (try clear fs))
  refine W_loopN ts.length (fun i s => s.df = [] ∧ s.fr 0 = .seq 5 (ts.map tyD) ∧ s.fr 2 = .val (.int .u16 m) ∧ s.fr 7 = i64 n ∧ s.fr 24 = i64 ts.length ∧ s.fr 25 = i64 i) ⟨rfl, rfl, rfl, rfl, rfl, rfl⟩ ?_
  rintro i s hi ⟨hdf, f0, f2, f7, f24, f25⟩
  by_cases hil : i < ts.length
  case neg =>
    have q6 : ((i : Int) < (ts.length : Int)) = False := eq_false (by omega)
    (have fs := And.intro f24 (And.intro f25 (And.intro @i64.eq_1 q6)); (repeat (first | refine hGx _ ?_ | refine hNx _ ?_ | refine W_skip ?_ | refine W_exit ?_ | refine W_ret ?_ | refine W_label ?_ | refine W_scope ?_ | refine W_block ?_ | refine W_seq ?_ | ((first | refine tS fun N hNx => ?_ | refine WL_gE rfl rfl (by kernel_rfl) (by kernel_rfl) fun G hGx => ?_ | refine vcOpsS_sound (by kernel_rfl) ?_ | refine W_ifE fun A B hAx hBx => ?_); refine evT ?_; (first | refine hGx _ ?_ | refine hNx _ ?_ | refine hAx ?_ | refine hBx ?_ | skip)))); (try clear fs))
    refine (alive6_at _).mono ?_; rintro d _ ⟨rfl, rfl⟩
    (have fs := And.intro f0 (And.intro f2 (And.intro f7 (And.intro @i64.eq_1 (And.intro w2 w3)))); (repeat (first | refine hGx _ ?_ | refine hNx _ ?_ | refine W_skip ?_ | refine W_exit ?_ | refine W_ret ?_ | refine W_label ?_ | refine W_scope ?_ | refine W_block ?_ | refine W_seq ?_ | ((first | refine tS fun N hNx => ?_ | refine WL_gE rfl rfl (by kernel_rfl) (by kernel_rfl) fun G hGx => ?_ | refine vcOpsS_sound (by kernel_rfl) ?_ | refine W_ifE fun A B hAx hBx => ?_); refine evT ?_; (first | refine hGx _ ?_ | refine hNx _ ?_ | refine hAx ?_ | refine hBx ?_ | skip)))); (try clear fs))
    refine (check_N ts (n + m) _ htl har).mono ?_
    rintro d _ ⟨rfl, rfl⟩
    rw [ok_more hk (show n ≤ n + m by omega)]
    (have fs := @i64.eq_1; (repeat (first | refine hGx _ ?_ | refine hNx _ ?_ | refine W_skip ?_ | refine W_exit ?_ | refine W_ret ?_ | refine W_label ?_ | refine W_scope ?_ | refine W_block ?_ | refine W_seq ?_ | ((first | refine tS fun N hNx => ?_ | refine WL_gE rfl rfl (by kernel_rfl) (by kernel_rfl) fun G hGx => ?_ | refine vcOpsS_sound (by kernel_rfl) ?_ | refine W_ifE fun A B hAx hBx => ?_); refine evT ?_; (first | refine hGx _ ?_ | refine hNx _ ?_ | refine hAx ?_ | refine hBx ?_ | skip)))); (try clear fs))
    (first | (show Q .ret _) | (show Q .normal _) | skip); refine hret _ _ (by first | exact .inr rfl | exact .inl rfl) (by first | rfl | assumption | (simp only [put_df, withH_df]; assumption)) ?_; have fs := hdf; refine evT ?_; clear fs
    exact ⟨_, Heap.le_refl _⟩
  have q6 : ((i : Int) < (ts.length : Int)) = True := eq_true (by omega)
  have w4 : IntKind.i64.wrap ((i : Int) + 1) = ((i + 1 : Nat) : Int) := by rw [wrap_i64_of (by omega)]; omega
  (have fs := And.intro f0 (And.intro f24 (And.intro f25 (And.intro @i64.eq_1 q6))); (repeat (first | refine hGx _ ?_ | refine hNx _ ?_ | refine W_skip ?_ | refine W_exit ?_ | refine W_ret ?_ | refine W_label ?_ | refine W_scope ?_ | refine W_block ?_ | refine W_seq ?_ | ((first | refine tS fun N hNx => ?_ | refine WL_gE rfl rfl (by kernel_rfl) (by kernel_rfl) fun G hGx => ?_ | refine vcOpsS_sound (by kernel_rfl) ?_ | refine W_ifE fun A B hAx hBx => ?_); refine evT ?_; (first | refine hGx _ ?_ | refine hNx _ ?_ | refine hAx ?_ | refine hBx ?_ | skip)))); (try clear fs))
  refine (regs_N ts i _ hw hb1 htl2 har).mono ?_
  rintro d _ ⟨rfl, rfl⟩
  have hlt : ∀ r ∈ regL ts i, 0 ≤ r ∧ r < n := fun r hr => regL_lt hk hr
  obtain ⟨L, hL⟩ : ∃ L, L = regL ts i := ⟨_, rfl⟩
  have hLl : L.length ≤ 1000000 := by
    rw [hL]
    unfold regL
    refine Nat.le_trans (List.length_filter_le _ _) ?_
    simp
  rw [← hL] at hlt ⊢
  have hll : (List.map iD L).length = L.length := List.length_map _
  (have fs := And.intro @i64.eq_1 hll; (repeat (first | refine hGx _ ?_ | refine hNx _ ?_ | refine W_skip ?_ | refine W_exit ?_ | refine W_ret ?_ | refine W_label ?_ | refine W_scope ?_ | refine W_block ?_ | refine W_seq ?_ | ((first | refine tS fun N hNx => ?_ | refine WL_gE rfl rfl (by kernel_rfl) (by kernel_rfl) fun G hGx => ?_ | refine vcOpsS_sound (by kernel_rfl) ?_ | refine W_ifE fun A B hAx hBx => ?_); refine evT ?_; (first | refine hGx _ ?_ | refine hNx _ ?_ | refine hAx ?_ | refine hBx ?_ | skip)))); (try clear fs))
  refine W_loopN L.length (fun j s => s.df = [] ∧ s.fr 0 = .seq 5 (ts.map tyD) ∧ s.fr 2 = .val (.int .u16 m) ∧ s.fr 7 = i64 n ∧ s.fr 24 = i64 ts.length ∧ s.fr 25 = i64 i ∧ s.fr 30 = .seq 1 (L.map iD) ∧ s.fr 31 = i64 L.length ∧ s.fr 32 = i64 j) ⟨hdf, f0, f2, f7, f24, f25, rfl, rfl, rfl⟩ ?_
  rintro j s2 hj ⟨hdf2, g0, g2, g7, g24, g25, g30, g31, g32⟩
  by_cases hjl : j < L.length
  case neg =>
    have q7 : ((j : Int) < (L.length : Int)) = False := eq_false (by omega)
    (have fs := And.intro g25 (And.intro g31 (And.intro g32 (And.intro @i64.eq_1 (And.intro q7 w4)))); (repeat (first | refine hGx _ ?_ | refine hNx _ ?_ | refine W_skip ?_ | refine W_exit ?_ | refine W_ret ?_ | refine W_label ?_ | refine W_scope ?_ | refine W_block ?_ | refine W_seq ?_ | ((first | refine tS fun N hNx => ?_ | refine WL_gE rfl rfl (by kernel_rfl) (by kernel_rfl) fun G hGx => ?_ | refine vcOpsS_sound (by kernel_rfl) ?_ | refine W_ifE fun A B hAx hBx => ?_); refine evT ?_; (first | refine hGx _ ?_ | refine hNx _ ?_ | refine hAx ?_ | refine hBx ?_ | skip)))); (try clear fs))
    exact ⟨hil, hdf2, g0, g2, g7, g24, rfl⟩
  have q7 : ((j : Int) < (L.length : Int)) = True := eq_true (by omega)
  have w5 : IntKind.i64.wrap ((j : Int) + 1) = ((j + 1 : Nat) : Int) := by rw [wrap_i64_of (by omega)]; omega
  have hgj : (L.map iD)[j]? = some (iD L[j]) := by rw [List.getElem?_map, List.getElem?_eq_getElem hjl]; rfl
  have hxj : (j : Int).toNat = j := Int.toNat_natCast _
  have h00j : (0 : Int) ≤ (j : Int) := Int.natCast_nonneg _
  have hlj := hlt L[j] (List.getElem_mem hjl)
  have q8 : (L[j] < 0) = False := eq_false (by omega)
  have q9 : (n ≤ L[j]) = False := eq_false (by omega)
  (have fs := And.intro g7 (And.intro g30 (And.intro g31 (And.intro g32 (And.intro @i64.eq_1 (And.intro hll (And.intro q7 (And.intro hgj (And.intro hxj (And.intro h00j (And.intro hjl (And.intro q8 (And.intro q9 w5)))))))))))); (repeat (first | refine hGx _ ?_ | refine hNx _ ?_ | refine W_skip ?_ | refine W_exit ?_ | refine W_ret ?_ | refine W_label ?_ | refine W_scope ?_ | refine W_block ?_ | refine W_seq ?_ | ((first | refine tS fun N hNx => ?_ | refine WL_gE rfl rfl (by kernel_rfl) (by kernel_rfl) fun G hGx => ?_ | refine vcOpsS_sound (by kernel_rfl) ?_ | refine W_ifE fun A B hAx hBx => ?_); refine evT ?_; (first | refine hGx _ ?_ | refine hNx _ ?_ | refine hAx ?_ | refine hBx ?_ | skip)))); (try clear fs))
  exact ⟨hjl, hdf2, g0, g2, g7, g24, g25, g30, g31, rfl⟩
theorem TypesMonotone_walk (x0 : X) (v0 : Value) (x1 : X) (v1 : Value) (x2 : X) (v2 : Value) (w : World) (o0 : DT.ok (DT.slice 5 56 (DT.struct [DT.int .i64, DT.bool, DT.int .i64, DT.int .i64, DT.slice 1 8 (DT.int .i64)])) x0) (i0 : D.is w Heap.none.others x0.d v0) (o1 : DT.ok (DT.int .u8) x1) (i1 : D.is w Heap.none.others x1.d v1) (o2 : DT.ok (DT.int .u16) x2) (i2 : D.is w Heap.none.others x2.d v2) :
    Calls Try.prog 14 #[v0, v1, v2] w fun e w' => e = .returned (.bool true) ∧ Below w.heap.size w w' := by
  obtain ⟨ts, hy, hokt, hlt⟩ := ok_tys o0
  obtain ⟨k, rfl⟩ := ok_u8 o1
  obtain ⟨m, hm2, rfl⟩ := ok_u16 o2
  rw [hy] at i0
  have := k.toNat_lt
  exact walk_of (lmono_N ts k.toNat m (by omega) (by omega) (by omega) (by omega) (by omega) (fun u hu => by have := (hokt u hu).2.2.2.2; omega)) ⟨_, _, rfl, i0, _, _, rfl, i1, _, _, rfl, i2, rfl⟩
end Go.Proofs.Ytbcghjcakincoaa
