/- Lemmas and contracts of functions, several texts in one: PD PF PG. -/
import Derived.Test.YtdbeimlancnncaaGPF
/- The laws of chapter 11: the walks. -/
namespace Go.Proofs.Ytdbeimlancnncaa
open Go.RowKit
set_option linter.unusedVariables false
set_option maxRecDepth 100000
set_option linter.unusedSimpArgs false
theorem mk_facts {G : List (UInt8 × List Int)} (h : szG G ≤ 150) : cntG (mkBd G).g ≤ 150 ∧ ∀ x ∈ (mkBd G).bl, x.tg.length ≤ 1000000 := ⟨Nat.le_trans (mk_cnt G) h, mk_tg h⟩
theorem loc_cases (G : Gr) (p : Int) : ∃ i k v, locD G p = .tup [i64 i, i64 k, .val (.bool v)] := by
  by_cases h : 0 ≤ p ∧ p < cntG G
  · obtain ⟨i, k, h⟩ := at_iff.2 h
    exact ⟨_, _, _, locD_at h⟩
  · exact ⟨_, _, _, locD_no h⟩
theorem idx_cases (b : GBdy) (i k : Int) : ∃ n v, idxD b i k = .tup [i64 n, .val (.bool v)] := by
  by_cases h : idxI b i k
  · exact ⟨_, _, idxD_t h⟩
  · exact ⟨_, _, idxD_f h⟩
set_option maxHeartbeats 2000000 in
theorem pmatch_N (G : List (UInt8 × List Int)) (a1 a2 p : Int) (hp : I64 p) (hl : G.length ≤ 140737488351232) (har : ∀ x ∈ G, x.2.length ≤ 140737488351232) : Does Try.prog 3 [.agg [.seq 2 (G.map grD)], .agg [i64 a1, i64 a2], i64 p] .none fun d _ => d = .val (.bool true) := by
  unfold I64 at hp
  refine does_of _ _ Try.func3 rfl rfl Try.ntmps3 Try.results3 (by simp only [List.length_cons, List.length_nil]; omega) fun w0 Q hret => ?_
  (have fs := @i64.eq_1; (repeat (first | refine hGx _ ?_ | refine hNx _ ?_ | refine W_skip ?_ | refine W_exit ?_ | refine W_ret ?_ | refine W_label ?_ | refine W_scope ?_ | refine W_block ?_ | refine W_seq ?_ | ((first | refine tS fun N hNx => ?_ | refine WL_gE rfl rfl (by kernel_rfl) (by kernel_rfl) fun G hGx => ?_ | refine vcOpsS_sound (by kernel_rfl) ?_ | refine W_ifE fun A B hAx hBx => ?_); refine evT ?_; (first | refine hGx _ ?_ | refine hNx _ ?_ | refine hAx ?_ | refine hBx ?_ | skip)))); (try clear fs))
  intro c3 hc3 c4 hc4
  refine hNx _ ?_
  have hne : c3 ≠ c4 := Heap.ne_of (Heap.upd_same _ _ _) hc4; have hb0 := (Heap.upd_none.1 hc4).2; refine W_frzp 3 rfl ((Heap.upd_ne hne).trans (Heap.upd_same _ _ _)) rfl ?_; refine W_frzp 4 rfl ((Heap.del_ne hne.symm).trans (Heap.upd_same _ _ _)) rfl ?_; refine W_less Heap.none (Heap.le_none _) ?_; simp only [St.frzp, List.drop]
  (have fs := @i64.eq_1; (repeat (first | refine hGx _ ?_ | refine hNx _ ?_ | refine W_skip ?_ | refine W_exit ?_ | refine W_ret ?_ | refine W_label ?_ | refine W_scope ?_ | refine W_block ?_ | refine W_seq ?_ | ((first | refine tS fun N hNx => ?_ | refine WL_gE rfl rfl (by kernel_rfl) (by kernel_rfl) fun G hGx => ?_ | refine vcOpsS_sound (by kernel_rfl) ?_ | refine W_ifE fun A B hAx hBx => ?_); refine evT ?_; (first | refine hGx _ ?_ | refine hNx _ ?_ | refine hAx ?_ | refine hBx ?_ | skip)))); (try clear fs))
  refine ((body_N G _ hl har)).mono ?_; rintro d _ ⟨rfl, rfl⟩
  by_cases hs : szG G ≤ 150
  case neg =>
    rw [if_neg hs]
    (have fs := And.intro @i64.eq_1 @zBd.eq_1; (repeat (first | refine hGx _ ?_ | refine hNx _ ?_ | refine W_skip ?_ | refine W_exit ?_ | refine W_ret ?_ | refine W_label ?_ | refine W_scope ?_ | refine W_block ?_ | refine W_seq ?_ | ((first | refine tS fun N hNx => ?_ | refine WL_gE rfl rfl (by kernel_rfl) (by kernel_rfl) fun G hGx => ?_ | refine vcOpsS_sound (by kernel_rfl) ?_ | refine W_ifE fun A B hAx hBx => ?_); refine evT ?_; (first | refine hGx _ ?_ | refine hNx _ ?_ | refine hAx ?_ | refine hBx ?_ | skip)))); (try clear fs))
    intro c7 hc7
    refine hNx _ ?_
    (have fs := @i64.eq_1; (repeat (first | refine hGx _ ?_ | refine hNx _ ?_ | refine W_skip ?_ | refine W_exit ?_ | refine W_ret ?_ | refine W_label ?_ | refine W_scope ?_ | refine W_block ?_ | refine W_seq ?_ | ((first | refine tS fun N hNx => ?_ | refine WL_gE rfl rfl (by kernel_rfl) (by kernel_rfl) fun G hGx => ?_ | refine vcOpsS_sound (by kernel_rfl) ?_ | refine W_ifE fun A B hAx hBx => ?_); refine evT ?_; (first | refine hGx _ ?_ | refine hNx _ ?_ | refine hAx ?_ | refine hBx ?_ | skip)))); (try clear fs))
    refine (alive11_at _).mono ?_
    rintro d _ ⟨rfl, rfl⟩
    (have fs := @i64.eq_1; (repeat (first | refine hGx _ ?_ | refine hNx _ ?_ | refine W_skip ?_ | refine W_exit ?_ | refine W_ret ?_ | refine W_label ?_ | refine W_scope ?_ | refine W_block ?_ | refine W_seq ?_ | ((first | refine tS fun N hNx => ?_ | refine WL_gE rfl rfl (by kernel_rfl) (by kernel_rfl) fun G hGx => ?_ | refine vcOpsS_sound (by kernel_rfl) ?_ | refine W_ifE fun A B hAx hBx => ?_); refine evT ?_; (first | refine hGx _ ?_ | refine hNx _ ?_ | refine hAx ?_ | refine hBx ?_ | skip)))); (try clear fs))
    (first | (show Q .ret _) | (show Q .normal _) | skip); refine hret _ _ (by first | exact .inr rfl | exact .inl rfl) (by first | rfl | assumption | (simp only [put_df, withH_df]; assumption)) ?_; have fs := @i64.eq_1; refine evT ?_; clear fs
    exact ⟨_, Heap.le_refl _⟩
  rw [if_pos hs]
  obtain ⟨hc, hta⟩ := mk_facts hs
  obtain ⟨b, hb⟩ : ∃ b, b = mkBd G := ⟨_, rfl⟩
  rw [← hb] at hc hta ⊢
  have hc' : cntG b.g ≤ 1000000 := by omega
  (have fs := And.intro @i64.eq_1 @gbdD.eq_1; (repeat (first | refine hGx _ ?_ | refine hNx _ ?_ | refine W_skip ?_ | refine W_exit ?_ | refine W_ret ?_ | refine W_label ?_ | refine W_scope ?_ | refine W_block ?_ | refine W_seq ?_ | ((first | refine tS fun N hNx => ?_ | refine WL_gE rfl rfl (by kernel_rfl) (by kernel_rfl) fun G hGx => ?_ | refine vcOpsS_sound (by kernel_rfl) ?_ | refine W_ifE fun A B hAx hBx => ?_); refine evT ?_; (first | refine hGx _ ?_ | refine hNx _ ?_ | refine hAx ?_ | refine hBx ?_ | skip)))); (try clear fs))
  intro c7 hc7
  refine hNx _ ?_
  refine W_frzp 7 rfl (Heap.upd_same _ _ _) rfl ?_; simp only [St.frzp, put_H, wdf_H, withH_H, withH_put, wdf_withH, withH_withH, init_H, init_withH, Heap.del_upd_same, Heap.del_none hc7, withH_self]
  (have fs := @i64.eq_1; (repeat (first | refine hGx _ ?_ | refine hNx _ ?_ | refine W_skip ?_ | refine W_exit ?_ | refine W_ret ?_ | refine W_label ?_ | refine W_scope ?_ | refine W_block ?_ | refine W_seq ?_ | ((first | refine tS fun N hNx => ?_ | refine WL_gE rfl rfl (by kernel_rfl) (by kernel_rfl) fun G hGx => ?_ | refine vcOpsS_sound (by kernel_rfl) ?_ | refine W_ifE fun A B hAx hBx => ?_); refine evT ?_; (first | refine hGx _ ?_ | refine hNx _ ?_ | refine hAx ?_ | refine hBx ?_ | skip)))); (try clear fs))
  obtain ⟨n, v, hidx⟩ := idx_cases b a1 a2
  obtain ⟨x, y, u, hloc⟩ := loc_cases b.g p
  refine ((index_N b a1 a2 _ hc')).mono ?_; rintro d _ ⟨rfl, rfl⟩
  rw [hidx]
  (have fs := @i64.eq_1; (repeat (first | refine hGx _ ?_ | refine hNx _ ?_ | refine W_skip ?_ | refine W_exit ?_ | refine W_ret ?_ | refine W_label ?_ | refine W_scope ?_ | refine W_block ?_ | refine W_seq ?_ | ((first | refine tS fun N hNx => ?_ | refine WL_gE rfl rfl (by kernel_rfl) (by kernel_rfl) fun G hGx => ?_ | refine vcOpsS_sound (by kernel_rfl) ?_ | refine W_ifE fun A B hAx hBx => ?_); refine evT ?_; (first | refine hGx _ ?_ | refine hNx _ ?_ | refine hAx ?_ | refine hBx ?_ | skip)))); (try clear fs))
  refine ((kindex_N b a1 a2 _ hc')).mono ?_; rintro d _ ⟨rfl, rfl⟩
  rw [hidx]
  (have fs := @i64.eq_1; (repeat (first | refine hGx _ ?_ | refine hNx _ ?_ | refine W_skip ?_ | refine W_exit ?_ | refine W_ret ?_ | refine W_label ?_ | refine W_scope ?_ | refine W_block ?_ | refine W_seq ?_ | ((first | refine tS fun N hNx => ?_ | refine WL_gE rfl rfl (by kernel_rfl) (by kernel_rfl) fun G hGx => ?_ | refine vcOpsS_sound (by kernel_rfl) ?_ | refine W_ifE fun A B hAx hBx => ?_); refine evT ?_; (first | refine hGx _ ?_ | refine hNx _ ?_ | refine hAx ?_ | refine hBx ?_ | skip)))); (try clear fs))
  refine ((loc_N b p _ hc' (by omega))).mono ?_; rintro d _ ⟨rfl, rfl⟩
  rw [hloc]
  (have fs := @i64.eq_1; (repeat (first | refine hGx _ ?_ | refine hNx _ ?_ | refine W_skip ?_ | refine W_exit ?_ | refine W_ret ?_ | refine W_label ?_ | refine W_scope ?_ | refine W_block ?_ | refine W_seq ?_ | ((first | refine tS fun N hNx => ?_ | refine WL_gE rfl rfl (by kernel_rfl) (by kernel_rfl) fun G hGx => ?_ | refine vcOpsS_sound (by kernel_rfl) ?_ | refine W_ifE fun A B hAx hBx => ?_); refine evT ?_; (first | refine hGx _ ?_ | refine hNx _ ?_ | refine hAx ?_ | refine hBx ?_ | skip)))); (try clear fs))
  refine ((kloc_N b p _ hc' (by omega))).mono ?_; rintro d _ ⟨rfl, rfl⟩
  rw [hloc]
  (have fs := @i64.eq_1; (repeat (first | refine hGx _ ?_ | refine hNx _ ?_ | refine W_skip ?_ | refine W_exit ?_ | refine W_ret ?_ | refine W_label ?_ | refine W_scope ?_ | refine W_block ?_ | refine W_seq ?_ | ((first | refine tS fun N hNx => ?_ | refine WL_gE rfl rfl (by kernel_rfl) (by kernel_rfl) fun G hGx => ?_ | refine vcOpsS_sound (by kernel_rfl) ?_ | refine W_ifE fun A B hAx hBx => ?_); refine evT ?_; (first | refine hGx _ ?_ | refine hNx _ ?_ | refine hAx ?_ | refine hBx ?_ | skip)))); (try clear fs))
  have ca : ∀ H, CallOK Try.prog 10 [] H fun d A => A = Heap.none ∧ d = .val (.bool true) := fun H => callOK_eq fun H'' hle'' => alive11_at H''
  have c1 : ∀ H, CallOK Try.prog 15 [.agg (gbdD b)] H fun d A => A = Heap.none ∧ d = i64 (cntG b.g) := fun H => callOK_eq fun H'' hle'' => count_N b H'' hc'
  have c2 : ∀ H, CallOK Try.prog 16 [.agg (gbdD b)] H fun d A => A = Heap.none ∧ d = i64 (cntG b.g) := fun H => callOK_eq fun H'' hle'' => kcount_N b H'' hc'
  simp only [gbdD] at c1 c2
  refine W_drawE (fun t _ d A => A = .none ∧ d = (if t = some 59 then .val (.bool true) else i64 (cntG b.g))) (by kernel_rfl) (by kernel_rfl) (by kernel_rfl) fun N hNx => ?_; (have fs := @i64.eq_1; (repeat ((first | refine vcD_g rfl rfl fun G hGx => ?_ | refine vcDS_to ?_); refine evD ?_; (first | refine hGx _ ?_ | refine hNx _ ?_ | skip))); (try clear fs))
  refine ⟨ca _, ?_⟩
  (first | refine hGx _ ?_ | refine hNx _ ?_ | skip)
  (have fs := @i64.eq_1; (repeat ((first | refine vcD_g rfl rfl fun G hGx => ?_ | refine vcDS_to ?_); refine evD ?_; (first | refine hGx _ ?_ | refine hNx _ ?_ | skip))); (try clear fs))
  refine ⟨c1 _, ?_⟩
  (first | refine hGx _ ?_ | refine hNx _ ?_ | skip)
  (have fs := @i64.eq_1; (repeat ((first | refine vcD_g rfl rfl fun G hGx => ?_ | refine vcDS_to ?_); refine evD ?_; (first | refine hGx _ ?_ | refine hNx _ ?_ | skip))); (try clear fs))
  refine ⟨c2 _, ?_⟩
  (first | refine hGx _ ?_ | refine hNx _ ?_ | skip)
  (have fs := @i64.eq_1; (repeat ((first | refine vcD_g rfl rfl fun G hGx => ?_ | refine vcDS_to ?_); refine evD ?_; (first | refine hGx _ ?_ | refine hNx _ ?_ | skip))); (try clear fs))
  (have fs := @i64.eq_1; (repeat (first | refine hGx _ ?_ | refine hNx _ ?_ | refine W_skip ?_ | refine W_exit ?_ | refine W_ret ?_ | refine W_label ?_ | refine W_scope ?_ | refine W_block ?_ | refine W_seq ?_ | ((first | refine tS fun N hNx => ?_ | refine WL_gE rfl rfl (by kernel_rfl) (by kernel_rfl) fun G hGx => ?_ | refine vcOpsS_sound (by kernel_rfl) ?_ | refine W_ifE fun A B hAx hBx => ?_); refine evT ?_; (first | refine hGx _ ?_ | refine hNx _ ?_ | refine hAx ?_ | refine hBx ?_ | skip)))); (try clear fs))
  (first | (show Q .ret _) | (show Q .normal _) | skip); refine hret _ _ (by first | exact .inr rfl | exact .inl rfl) (by first | rfl | assumption | (simp only [put_df, withH_df]; assumption)) ?_; have fs := @i64.eq_1; refine evT ?_; clear fs
  exact ⟨_, Heap.le_refl _⟩
set_option maxHeartbeats 2000000 in
theorem pflow_N (G : List (UInt8 × List Int)) (p : Int) (hp : I64 p) (hl : G.length ≤ 140737488351232) (har : ∀ x ∈ G, x.2.length ≤ 140737488351232) : Does Try.prog 4 [.agg [.seq 2 (G.map grD)], i64 p] .none fun d _ => d = .val (.bool true) := by
  unfold I64 at hp
  refine does_of _ _ Try.func4 rfl rfl Try.ntmps4 Try.results4 (by simp only [List.length_cons, List.length_nil]; omega) fun w0 Q hret => ?_
  (have fs := @i64.eq_1; (repeat (first | refine hGx _ ?_ | refine hNx _ ?_ | refine W_skip ?_ | refine W_exit ?_ | refine W_ret ?_ | refine W_label ?_ | refine W_scope ?_ | refine W_block ?_ | refine W_seq ?_ | ((first | refine tS fun N hNx => ?_ | refine WL_gE rfl rfl (by kernel_rfl) (by kernel_rfl) fun G hGx => ?_ | refine vcOpsS_sound (by kernel_rfl) ?_ | refine W_ifE fun A B hAx hBx => ?_); refine evT ?_; (first | refine hGx _ ?_ | refine hNx _ ?_ | refine hAx ?_ | refine hBx ?_ | skip)))); (try clear fs))
  intro c2 hc2
  refine hNx _ ?_
  refine W_frzp 2 rfl (Heap.upd_same _ _ _) rfl ?_; simp only [St.frzp, put_H, wdf_H, withH_H, withH_put, wdf_withH, withH_withH, init_H, init_withH, Heap.del_upd_same, Heap.del_none hc2, withH_self]
  (have fs := @i64.eq_1; (repeat (first | refine hGx _ ?_ | refine hNx _ ?_ | refine W_skip ?_ | refine W_exit ?_ | refine W_ret ?_ | refine W_label ?_ | refine W_scope ?_ | refine W_block ?_ | refine W_seq ?_ | ((first | refine tS fun N hNx => ?_ | refine WL_gE rfl rfl (by kernel_rfl) (by kernel_rfl) fun G hGx => ?_ | refine vcOpsS_sound (by kernel_rfl) ?_ | refine W_ifE fun A B hAx hBx => ?_); refine evT ?_; (first | refine hGx _ ?_ | refine hNx _ ?_ | refine hAx ?_ | refine hBx ?_ | skip)))); (try clear fs))
  refine ((body_N G _ hl har)).mono ?_; rintro d _ ⟨rfl, rfl⟩
  by_cases hs : szG G ≤ 150
  case neg =>
    rw [if_neg hs]
    (have fs := And.intro @i64.eq_1 @zBd.eq_1; (repeat (first | refine hGx _ ?_ | refine hNx _ ?_ | refine W_skip ?_ | refine W_exit ?_ | refine W_ret ?_ | refine W_label ?_ | refine W_scope ?_ | refine W_block ?_ | refine W_seq ?_ | ((first | refine tS fun N hNx => ?_ | refine WL_gE rfl rfl (by kernel_rfl) (by kernel_rfl) fun G hGx => ?_ | refine vcOpsS_sound (by kernel_rfl) ?_ | refine W_ifE fun A B hAx hBx => ?_); refine evT ?_; (first | refine hGx _ ?_ | refine hNx _ ?_ | refine hAx ?_ | refine hBx ?_ | skip)))); (try clear fs))
    intro c7 hc7
    refine hNx _ ?_
    (have fs := @i64.eq_1; (repeat (first | refine hGx _ ?_ | refine hNx _ ?_ | refine W_skip ?_ | refine W_exit ?_ | refine W_ret ?_ | refine W_label ?_ | refine W_scope ?_ | refine W_block ?_ | refine W_seq ?_ | ((first | refine tS fun N hNx => ?_ | refine WL_gE rfl rfl (by kernel_rfl) (by kernel_rfl) fun G hGx => ?_ | refine vcOpsS_sound (by kernel_rfl) ?_ | refine W_ifE fun A B hAx hBx => ?_); refine evT ?_; (first | refine hGx _ ?_ | refine hNx _ ?_ | refine hAx ?_ | refine hBx ?_ | skip)))); (try clear fs))
    refine (alive11_at _).mono ?_
    rintro d _ ⟨rfl, rfl⟩
    (have fs := @i64.eq_1; (repeat (first | refine hGx _ ?_ | refine hNx _ ?_ | refine W_skip ?_ | refine W_exit ?_ | refine W_ret ?_ | refine W_label ?_ | refine W_scope ?_ | refine W_block ?_ | refine W_seq ?_ | ((first | refine tS fun N hNx => ?_ | refine WL_gE rfl rfl (by kernel_rfl) (by kernel_rfl) fun G hGx => ?_ | refine vcOpsS_sound (by kernel_rfl) ?_ | refine W_ifE fun A B hAx hBx => ?_); refine evT ?_; (first | refine hGx _ ?_ | refine hNx _ ?_ | refine hAx ?_ | refine hBx ?_ | skip)))); (try clear fs))
    (first | (show Q .ret _) | (show Q .normal _) | skip); refine hret _ _ (by first | exact .inr rfl | exact .inl rfl) (by first | rfl | assumption | (simp only [put_df, withH_df]; assumption)) ?_; have fs := @i64.eq_1; refine evT ?_; clear fs
    exact ⟨_, Heap.le_refl _⟩
  rw [if_pos hs]
  obtain ⟨hc, hta⟩ := mk_facts hs
  obtain ⟨b, hb⟩ : ∃ b, b = mkBd G := ⟨_, rfl⟩
  rw [← hb] at hc hta ⊢
  have hc' : cntG b.g ≤ 1000000 := by omega
  (have fs := And.intro @i64.eq_1 @gbdD.eq_1; (repeat (first | refine hGx _ ?_ | refine hNx _ ?_ | refine W_skip ?_ | refine W_exit ?_ | refine W_ret ?_ | refine W_label ?_ | refine W_scope ?_ | refine W_block ?_ | refine W_seq ?_ | ((first | refine tS fun N hNx => ?_ | refine WL_gE rfl rfl (by kernel_rfl) (by kernel_rfl) fun G hGx => ?_ | refine vcOpsS_sound (by kernel_rfl) ?_ | refine W_ifE fun A B hAx hBx => ?_); refine evT ?_; (first | refine hGx _ ?_ | refine hNx _ ?_ | refine hAx ?_ | refine hBx ?_ | skip)))); (try clear fs))
  intro c5 hc5
  refine hNx _ ?_
  refine W_frzp 5 rfl (Heap.upd_same _ _ _) rfl ?_; simp only [St.frzp, put_H, wdf_H, withH_H, withH_put, wdf_withH, withH_withH, init_H, init_withH, Heap.del_upd_same, Heap.del_none hc5, withH_self]
  (have fs := @i64.eq_1; (repeat (first | refine hGx _ ?_ | refine hNx _ ?_ | refine W_skip ?_ | refine W_exit ?_ | refine W_ret ?_ | refine W_label ?_ | refine W_scope ?_ | refine W_block ?_ | refine W_seq ?_ | ((first | refine tS fun N hNx => ?_ | refine WL_gE rfl rfl (by kernel_rfl) (by kernel_rfl) fun G hGx => ?_ | refine vcOpsS_sound (by kernel_rfl) ?_ | refine W_ifE fun A B hAx hBx => ?_); refine evT ?_; (first | refine hGx _ ?_ | refine hNx _ ?_ | refine hAx ?_ | refine hBx ?_ | skip)))); (try clear fs))
  have hnl := nxt_len b.g p
  have hel := edgP_len2 hc' (Nat.le_refl _)
  have ca : ∀ H, CallOK Try.prog 10 [] H fun d A => A = Heap.none ∧ d = .val (.bool true) := fun H => callOK_eq fun H'' hle'' => alive11_at H''
  have c1 : ∀ H, CallOK Try.prog 18 [.agg (gbdD b), i64 p] H fun d A => A = Heap.none ∧ d = .seq 1 ((nxt b.g p).map iD) := fun H => callOK_eq fun H'' hle'' => pnext_N b p H'' hc' (by omega) hta
  have c2 : ∀ H, CallOK Try.prog 19 [.agg (gbdD b), i64 p] H fun d A => A = Heap.none ∧ d = .seq 1 ((nxt b.g p).map iD) := fun H => callOK_eq fun H'' hle'' => knext_N b p H'' hc' (by omega) hta
  have c3 : ∀ H, CallOK Try.prog 17 [.seq 1 ((nxt b.g p).map iD), .seq 1 ((nxt b.g p).map iD)] H fun d A => A = Heap.none ∧ d = .val (.bool true) := fun H => callOK_eq fun H'' hle'' => (equalI_at H'' (nxt b.g p) (nxt b.g p) (by omega)).mono fun d H' h => by rw [decide_eq_true rfl] at h; exact h
  have c4 : ∀ H, CallOK Try.prog 21 [.agg (gbdD b)] H fun d A => A = Heap.none ∧ d = .seq 2 ((edgs b.g).map pD) := fun H => callOK_eq fun H'' hle'' => edges_N b H'' hc' hta
  have c6 : ∀ H, CallOK Try.prog 22 [.agg (gbdD b)] H fun d A => A = Heap.none ∧ d = .seq 2 ((edgs b.g).map pD) := fun H => callOK_eq fun H'' hle'' => kedges_N b H'' hc' hta
  have c7 : ∀ H, CallOK Try.prog 20 [.seq 2 ((edgs b.g).map pD), .seq 2 ((edgs b.g).map pD)] H fun d A => A = Heap.none ∧ d = .val (.bool true) := fun H => callOK_eq fun H'' hle'' => (equalP_at H'' (edgs b.g) (edgs b.g) (Nat.le_trans hel (by omega))).mono fun d H' h => by rw [decide_eq_true rfl] at h; exact h
  simp only [gbdD] at c1 c2 c4 c6
  refine W_drawE (fun t _ d A => A = .none ∧ d = (if t = some 19 ∨ t = some 22 then .seq 1 ((nxt b.g p).map iD) else if t = some 27 ∨ t = some 29 then .seq 2 ((edgs b.g).map pD) else .val (.bool true))) (by kernel_rfl) (by kernel_rfl) (by kernel_rfl) fun N hNx => ?_; (have fs := @i64.eq_1; (repeat ((first | refine vcD_g rfl rfl fun G hGx => ?_ | refine vcDS_to ?_); refine evD ?_; (first | refine hGx _ ?_ | refine hNx _ ?_ | skip))); (try clear fs))
  refine ⟨ca _, ?_⟩
  (first | refine hGx _ ?_ | refine hNx _ ?_ | skip)
  (have fs := @i64.eq_1; (repeat ((first | refine vcD_g rfl rfl fun G hGx => ?_ | refine vcDS_to ?_); refine evD ?_; (first | refine hGx _ ?_ | refine hNx _ ?_ | skip))); (try clear fs))
  refine ⟨c1 _, ?_⟩
  (first | refine hGx _ ?_ | refine hNx _ ?_ | skip)
  (have fs := @i64.eq_1; (repeat ((first | refine vcD_g rfl rfl fun G hGx => ?_ | refine vcDS_to ?_); refine evD ?_; (first | refine hGx _ ?_ | refine hNx _ ?_ | skip))); (try clear fs))
  refine ⟨c2 _, ?_⟩
  (first | refine hGx _ ?_ | refine hNx _ ?_ | skip)
  (have fs := @i64.eq_1; (repeat ((first | refine vcD_g rfl rfl fun G hGx => ?_ | refine vcDS_to ?_); refine evD ?_; (first | refine hGx _ ?_ | refine hNx _ ?_ | skip))); (try clear fs))
  refine ⟨c3 _, ?_⟩
  (first | refine hGx _ ?_ | refine hNx _ ?_ | skip)
  (have fs := @i64.eq_1; (repeat ((first | refine vcD_g rfl rfl fun G hGx => ?_ | refine vcDS_to ?_); refine evD ?_; (first | refine hGx _ ?_ | refine hNx _ ?_ | skip))); (try clear fs))
  refine ⟨c4 _, ?_⟩
  (first | refine hGx _ ?_ | refine hNx _ ?_ | skip)
  (have fs := @i64.eq_1; (repeat ((first | refine vcD_g rfl rfl fun G hGx => ?_ | refine vcDS_to ?_); refine evD ?_; (first | refine hGx _ ?_ | refine hNx _ ?_ | skip))); (try clear fs))
  refine ⟨c6 _, ?_⟩
  (first | refine hGx _ ?_ | refine hNx _ ?_ | skip)
  (have fs := @i64.eq_1; (repeat ((first | refine vcD_g rfl rfl fun G hGx => ?_ | refine vcDS_to ?_); refine evD ?_; (first | refine hGx _ ?_ | refine hNx _ ?_ | skip))); (try clear fs))
  refine ⟨c7 _, ?_⟩
  (first | refine hGx _ ?_ | refine hNx _ ?_ | skip)
  (have fs := @i64.eq_1; (repeat ((first | refine vcD_g rfl rfl fun G hGx => ?_ | refine vcDS_to ?_); refine evD ?_; (first | refine hGx _ ?_ | refine hNx _ ?_ | skip))); (try clear fs))
  (have fs := @i64.eq_1; (repeat (first | refine hGx _ ?_ | refine hNx _ ?_ | refine W_skip ?_ | refine W_exit ?_ | refine W_ret ?_ | refine W_label ?_ | refine W_scope ?_ | refine W_block ?_ | refine W_seq ?_ | ((first | refine tS fun N hNx => ?_ | refine WL_gE rfl rfl (by kernel_rfl) (by kernel_rfl) fun G hGx => ?_ | refine vcOpsS_sound (by kernel_rfl) ?_ | refine W_ifE fun A B hAx hBx => ?_); refine evT ?_; (first | refine hGx _ ?_ | refine hNx _ ?_ | refine hAx ?_ | refine hBx ?_ | skip)))); (try clear fs))
  (first | (show Q .ret _) | (show Q .normal _) | skip); refine hret _ _ (by first | exact .inr rfl | exact .inl rfl) (by first | rfl | assumption | (simp only [put_df, withH_df]; assumption)) ?_; have fs := @i64.eq_1; refine evT ?_; clear fs
  exact ⟨_, Heap.le_refl _⟩
set_option maxHeartbeats 2000000 in
theorem preach_N (G : List (UInt8 × List Int)) (p q : Int) (hp : I64 p) (hq : I64 q) (hl : G.length ≤ 140737488351232) (har : ∀ x ∈ G, x.2.length ≤ 140737488351232) : Does Try.prog 5 [.agg [.seq 2 (G.map grD)], i64 p, i64 q] .none fun d _ => d = .val (.bool true) := by
  refine does_of _ _ Try.func5 rfl rfl Try.ntmps5 Try.results5 (by simp only [List.length_cons, List.length_nil]; omega) fun w0 Q hret => ?_
  (have fs := @i64.eq_1; (repeat (first | refine hGx _ ?_ | refine hNx _ ?_ | refine W_skip ?_ | refine W_exit ?_ | refine W_ret ?_ | refine W_label ?_ | refine W_scope ?_ | refine W_block ?_ | refine W_seq ?_ | ((first | refine tS fun N hNx => ?_ | refine WL_gE rfl rfl (by kernel_rfl) (by kernel_rfl) fun G hGx => ?_ | refine vcOpsS_sound (by kernel_rfl) ?_ | refine W_ifE fun A B hAx hBx => ?_); refine evT ?_; (first | refine hGx _ ?_ | refine hNx _ ?_ | refine hAx ?_ | refine hBx ?_ | skip)))); (try clear fs))
  intro c2 hc2
  refine hNx _ ?_
  refine W_frzp 3 rfl (Heap.upd_same _ _ _) rfl ?_; simp only [St.frzp, put_H, wdf_H, withH_H, withH_put, wdf_withH, withH_withH, init_H, init_withH, Heap.del_upd_same, Heap.del_none hc2, withH_self]
  (have fs := @i64.eq_1; (repeat (first | refine hGx _ ?_ | refine hNx _ ?_ | refine W_skip ?_ | refine W_exit ?_ | refine W_ret ?_ | refine W_label ?_ | refine W_scope ?_ | refine W_block ?_ | refine W_seq ?_ | ((first | refine tS fun N hNx => ?_ | refine WL_gE rfl rfl (by kernel_rfl) (by kernel_rfl) fun G hGx => ?_ | refine vcOpsS_sound (by kernel_rfl) ?_ | refine W_ifE fun A B hAx hBx => ?_); refine evT ?_; (first | refine hGx _ ?_ | refine hNx _ ?_ | refine hAx ?_ | refine hBx ?_ | skip)))); (try clear fs))
  refine ((body_N G _ hl har)).mono ?_; rintro d _ ⟨rfl, rfl⟩
  by_cases hs : szG G ≤ 150
  case neg =>
    rw [if_neg hs]
    (have fs := And.intro @i64.eq_1 @zBd.eq_1; (repeat (first | refine hGx _ ?_ | refine hNx _ ?_ | refine W_skip ?_ | refine W_exit ?_ | refine W_ret ?_ | refine W_label ?_ | refine W_scope ?_ | refine W_block ?_ | refine W_seq ?_ | ((first | refine tS fun N hNx => ?_ | refine WL_gE rfl rfl (by kernel_rfl) (by kernel_rfl) fun G hGx => ?_ | refine vcOpsS_sound (by kernel_rfl) ?_ | refine W_ifE fun A B hAx hBx => ?_); refine evT ?_; (first | refine hGx _ ?_ | refine hNx _ ?_ | refine hAx ?_ | refine hBx ?_ | skip)))); (try clear fs))
    intro c7 hc7
    refine hNx _ ?_
    (have fs := @i64.eq_1; (repeat (first | refine hGx _ ?_ | refine hNx _ ?_ | refine W_skip ?_ | refine W_exit ?_ | refine W_ret ?_ | refine W_label ?_ | refine W_scope ?_ | refine W_block ?_ | refine W_seq ?_ | ((first | refine tS fun N hNx => ?_ | refine WL_gE rfl rfl (by kernel_rfl) (by kernel_rfl) fun G hGx => ?_ | refine vcOpsS_sound (by kernel_rfl) ?_ | refine W_ifE fun A B hAx hBx => ?_); refine evT ?_; (first | refine hGx _ ?_ | refine hNx _ ?_ | refine hAx ?_ | refine hBx ?_ | skip)))); (try clear fs))
    refine (alive11_at _).mono ?_
    rintro d _ ⟨rfl, rfl⟩
    (have fs := @i64.eq_1; (repeat (first | refine hGx _ ?_ | refine hNx _ ?_ | refine W_skip ?_ | refine W_exit ?_ | refine W_ret ?_ | refine W_label ?_ | refine W_scope ?_ | refine W_block ?_ | refine W_seq ?_ | ((first | refine tS fun N hNx => ?_ | refine WL_gE rfl rfl (by kernel_rfl) (by kernel_rfl) fun G hGx => ?_ | refine vcOpsS_sound (by kernel_rfl) ?_ | refine W_ifE fun A B hAx hBx => ?_); refine evT ?_; (first | refine hGx _ ?_ | refine hNx _ ?_ | refine hAx ?_ | refine hBx ?_ | skip)))); (try clear fs))
    (first | (show Q .ret _) | (show Q .normal _) | skip); refine hret _ _ (by first | exact .inr rfl | exact .inl rfl) (by first | rfl | assumption | (simp only [put_df, withH_df]; assumption)) ?_; have fs := @i64.eq_1; refine evT ?_; clear fs
    exact ⟨_, Heap.le_refl _⟩
  rw [if_pos hs]
  obtain ⟨hc, hta⟩ := mk_facts hs
  obtain ⟨b, hb⟩ : ∃ b, b = mkBd G := ⟨_, rfl⟩
  rw [← hb] at hc hta ⊢
  have hc' : cntG b.g ≤ 1000000 := by omega
  (have fs := And.intro @i64.eq_1 @gbdD.eq_1; (repeat (first | refine hGx _ ?_ | refine hNx _ ?_ | refine W_skip ?_ | refine W_exit ?_ | refine W_ret ?_ | refine W_label ?_ | refine W_scope ?_ | refine W_block ?_ | refine W_seq ?_ | ((first | refine tS fun N hNx => ?_ | refine WL_gE rfl rfl (by kernel_rfl) (by kernel_rfl) fun G hGx => ?_ | refine vcOpsS_sound (by kernel_rfl) ?_ | refine W_ifE fun A B hAx hBx => ?_); refine evT ?_; (first | refine hGx _ ?_ | refine hNx _ ?_ | refine hAx ?_ | refine hBx ?_ | skip)))); (try clear fs))
  intro c5 hc5
  refine hNx _ ?_
  refine W_frzp 7 rfl (Heap.upd_same _ _ _) rfl ?_; simp only [St.frzp, put_H, wdf_H, withH_H, withH_put, wdf_withH, withH_withH, init_H, init_withH, Heap.del_upd_same, Heap.del_none hc5, withH_self]
  (have fs := @i64.eq_1; (repeat (first | refine hGx _ ?_ | refine hNx _ ?_ | refine W_skip ?_ | refine W_exit ?_ | refine W_ret ?_ | refine W_label ?_ | refine W_scope ?_ | refine W_block ?_ | refine W_seq ?_ | ((first | refine tS fun N hNx => ?_ | refine WL_gE rfl rfl (by kernel_rfl) (by kernel_rfl) fun G hGx => ?_ | refine vcOpsS_sound (by kernel_rfl) ?_ | refine W_ifE fun A B hAx hBx => ?_); refine evT ?_; (first | refine hGx _ ?_ | refine hNx _ ?_ | refine hAx ?_ | refine hBx ?_ | skip)))); (try clear fs))
  obtain ⟨r, hr⟩ : ∃ r, r = reaB b.g p q := ⟨_, rfl⟩
  have ca : ∀ H, CallOK Try.prog 10 [] H fun d A => A = Heap.none ∧ d = .val (.bool true) := fun H => callOK_eq fun H'' hle'' => alive11_at H''
  have c1 : ∀ H, CallOK Try.prog 23 [.agg (gbdD b), i64 p, i64 q] H fun d A => A = Heap.none ∧ d = .val (.bool r) := fun H => callOK_eq fun H'' hle'' => by rw [hr]; exact reach_N b p q H'' hc' hta hp hq
  have c2 : ∀ H, CallOK Try.prog 24 [.agg (gbdD b), i64 p, i64 q] H fun d A => A = Heap.none ∧ d = .val (.bool r) := fun H => callOK_eq fun H'' hle'' => by rw [hr]; exact kreach_N b p q H'' hc' hta hp hq
  simp only [gbdD] at c1 c2
  refine W_drawE (fun t _ d A => A = .none ∧ d = (if t = some 17 then .val (.bool true) else .val (.bool r))) (by kernel_rfl) (by kernel_rfl) (by kernel_rfl) fun N hNx => ?_; (have fs := @i64.eq_1; (repeat ((first | refine vcD_g rfl rfl fun G hGx => ?_ | refine vcDS_to ?_); refine evD ?_; (first | refine hGx _ ?_ | refine hNx _ ?_ | skip))); (try clear fs))
  refine ⟨ca _, ?_⟩
  (first | refine hGx _ ?_ | refine hNx _ ?_ | skip)
  (have fs := @i64.eq_1; (repeat ((first | refine vcD_g rfl rfl fun G hGx => ?_ | refine vcDS_to ?_); refine evD ?_; (first | refine hGx _ ?_ | refine hNx _ ?_ | skip))); (try clear fs))
  refine ⟨c1 _, ?_⟩
  (first | refine hGx _ ?_ | refine hNx _ ?_ | skip)
  (have fs := @i64.eq_1; (repeat ((first | refine vcD_g rfl rfl fun G hGx => ?_ | refine vcDS_to ?_); refine evD ?_; (first | refine hGx _ ?_ | refine hNx _ ?_ | skip))); (try clear fs))
  refine ⟨c2 _, ?_⟩
  (first | refine hGx _ ?_ | refine hNx _ ?_ | skip)
  (have fs := @i64.eq_1; (repeat ((first | refine vcD_g rfl rfl fun G hGx => ?_ | refine vcDS_to ?_); refine evD ?_; (first | refine hGx _ ?_ | refine hNx _ ?_ | skip))); (try clear fs))
  (have fs := @i64.eq_1; (repeat (first | refine hGx _ ?_ | refine hNx _ ?_ | refine W_skip ?_ | refine W_exit ?_ | refine W_ret ?_ | refine W_label ?_ | refine W_scope ?_ | refine W_block ?_ | refine W_seq ?_ | ((first | refine tS fun N hNx => ?_ | refine WL_gE rfl rfl (by kernel_rfl) (by kernel_rfl) fun G hGx => ?_ | refine vcOpsS_sound (by kernel_rfl) ?_ | refine W_ifE fun A B hAx hBx => ?_); refine evT ?_; (first | refine hGx _ ?_ | refine hNx _ ?_ | refine hAx ?_ | refine hBx ?_ | skip)))); (try clear fs))
  (first | (show Q .ret _) | (show Q .normal _) | skip); refine hret _ _ (by first | exact .inr rfl | exact .inl rfl) (by first | rfl | assumption | (simp only [put_df, withH_df]; assumption)) ?_; have fs := @i64.eq_1; refine evT ?_; clear fs
  exact ⟨_, Heap.le_refl _⟩
end Go.Proofs.Ytdbeimlancnncaa
/- The laws of chapter 11: the walks of PointsInverse, PointsEdges, PointsTransitive. -/
namespace Go.Proofs.Ytdbeimlancnncaa
open Go.RowKit
set_option linter.unusedVariables false
set_option maxRecDepth 100000
set_option linter.unusedSimpArgs false
set_option maxHeartbeats 2000000 in
theorem pinv_N (G : List (UInt8 × List Int)) (hl : G.length ≤ 140737488351232) (har : ∀ x ∈ G, x.2.length ≤ 140737488351232) : Does Try.prog 6 [.agg [.seq 2 (G.map grD)]] .none fun d _ => d = .val (.bool true) := by
  refine does_of _ _ Try.func6 rfl rfl Try.ntmps6 Try.results6 (by simp only [List.length_cons, List.length_nil]; omega) fun w0 Q hret => ?_
  (have fs := @i64.eq_1; (repeat (first | refine hGx _ ?_ | refine hNx _ ?_ | refine W_skip ?_ | refine W_exit ?_ | refine W_ret ?_ | refine W_label ?_ | refine W_scope ?_ | refine W_block ?_ | refine W_seq ?_ | ((first | refine tS fun N hNx => ?_ | refine WL_gE rfl rfl (by kernel_rfl) (by kernel_rfl) fun G hGx => ?_ | refine vcOpsS_sound (by kernel_rfl) ?_ | refine W_ifE fun A B hAx hBx => ?_); refine evT ?_; (first | refine hGx _ ?_ | refine hNx _ ?_ | refine hAx ?_ | refine hBx ?_ | skip)))); (try clear fs))
  intro c2 hc2
  refine hNx _ ?_
  refine W_frzp 1 rfl (Heap.upd_same _ _ _) rfl ?_; simp only [St.frzp, put_H, wdf_H, withH_H, withH_put, wdf_withH, withH_withH, init_H, init_withH, Heap.del_upd_same, Heap.del_none hc2, withH_self]
  (have fs := @i64.eq_1; (repeat (first | refine hGx _ ?_ | refine hNx _ ?_ | refine W_skip ?_ | refine W_exit ?_ | refine W_ret ?_ | refine W_label ?_ | refine W_scope ?_ | refine W_block ?_ | refine W_seq ?_ | ((first | refine tS fun N hNx => ?_ | refine WL_gE rfl rfl (by kernel_rfl) (by kernel_rfl) fun G hGx => ?_ | refine vcOpsS_sound (by kernel_rfl) ?_ | refine W_ifE fun A B hAx hBx => ?_); refine evT ?_; (first | refine hGx _ ?_ | refine hNx _ ?_ | refine hAx ?_ | refine hBx ?_ | skip)))); (try clear fs))
  refine ((body_N G _ hl har)).mono ?_; rintro d _ ⟨rfl, rfl⟩
  by_cases hs : szG G ≤ 150
  case neg =>
    rw [if_neg hs]
    (have fs := And.intro @i64.eq_1 @zBd.eq_1; (repeat (first | refine hGx _ ?_ | refine hNx _ ?_ | refine W_skip ?_ | refine W_exit ?_ | refine W_ret ?_ | refine W_label ?_ | refine W_scope ?_ | refine W_block ?_ | refine W_seq ?_ | ((first | refine tS fun N hNx => ?_ | refine WL_gE rfl rfl (by kernel_rfl) (by kernel_rfl) fun G hGx => ?_ | refine vcOpsS_sound (by kernel_rfl) ?_ | refine W_ifE fun A B hAx hBx => ?_); refine evT ?_; (first | refine hGx _ ?_ | refine hNx _ ?_ | refine hAx ?_ | refine hBx ?_ | skip)))); (try clear fs))
    intro c7 hc7
    refine hNx _ ?_
    (have fs := @i64.eq_1; (repeat (first | refine hGx _ ?_ | refine hNx _ ?_ | refine W_skip ?_ | refine W_exit ?_ | refine W_ret ?_ | refine W_label ?_ | refine W_scope ?_ | refine W_block ?_ | refine W_seq ?_ | ((first | refine tS fun N hNx => ?_ | refine WL_gE rfl rfl (by kernel_rfl) (by kernel_rfl) fun G hGx => ?_ | refine vcOpsS_sound (by kernel_rfl) ?_ | refine W_ifE fun A B hAx hBx => ?_); refine evT ?_; (first | refine hGx _ ?_ | refine hNx _ ?_ | refine hAx ?_ | refine hBx ?_ | skip)))); (try clear fs))
    refine (alive11_at _).mono ?_
    rintro d _ ⟨rfl, rfl⟩
    (have fs := @i64.eq_1; (repeat (first | refine hGx _ ?_ | refine hNx _ ?_ | refine W_skip ?_ | refine W_exit ?_ | refine W_ret ?_ | refine W_label ?_ | refine W_scope ?_ | refine W_block ?_ | refine W_seq ?_ | ((first | refine tS fun N hNx => ?_ | refine WL_gE rfl rfl (by kernel_rfl) (by kernel_rfl) fun G hGx => ?_ | refine vcOpsS_sound (by kernel_rfl) ?_ | refine W_ifE fun A B hAx hBx => ?_); refine evT ?_; (first | refine hGx _ ?_ | refine hNx _ ?_ | refine hAx ?_ | refine hBx ?_ | skip)))); (try clear fs))
    (first | (show Q .ret _) | (show Q .normal _) | skip); refine hret _ _ (by first | exact .inr rfl | exact .inl rfl) (by first | rfl | assumption | (simp only [put_df, withH_df]; assumption)) ?_; have fs := @i64.eq_1; refine evT ?_; clear fs
    exact ⟨_, Heap.le_refl _⟩
  rw [if_pos hs]
  obtain ⟨hc, hta⟩ := mk_facts hs
  obtain ⟨b, hb⟩ : ∃ b, b = mkBd G := ⟨_, rfl⟩
  rw [← hb] at hc hta ⊢
  have hc' : cntG b.g ≤ 1000000 := by omega
  have hbl := bl_len b
  have hsm := bl_small hc'
  (have fs := And.intro @i64.eq_1 @gbdD.eq_1; (repeat (first | refine hGx _ ?_ | refine hNx _ ?_ | refine W_skip ?_ | refine W_exit ?_ | refine W_ret ?_ | refine W_label ?_ | refine W_scope ?_ | refine W_block ?_ | refine W_seq ?_ | ((first | refine tS fun N hNx => ?_ | refine WL_gE rfl rfl (by kernel_rfl) (by kernel_rfl) fun G hGx => ?_ | refine vcOpsS_sound (by kernel_rfl) ?_ | refine W_ifE fun A B hAx hBx => ?_); refine evT ?_; (first | refine hGx _ ?_ | refine hNx _ ?_ | refine hAx ?_ | refine hBx ?_ | skip)))); (try clear fs))
  intro c5 hc5
  refine hNx _ ?_
  refine W_frzp 3 rfl (Heap.upd_same _ _ _) rfl ?_; simp only [St.frzp, put_H, wdf_H, withH_H, withH_put, wdf_withH, withH_withH, init_H, init_withH, Heap.del_upd_same, Heap.del_none hc5, withH_self]
  (have fs := @i64.eq_1; (repeat (first | refine hGx _ ?_ | refine hNx _ ?_ | refine W_skip ?_ | refine W_exit ?_ | refine W_ret ?_ | refine W_label ?_ | refine W_scope ?_ | refine W_block ?_ | refine W_seq ?_ | ((first | refine tS fun N hNx => ?_ | refine WL_gE rfl rfl (by kernel_rfl) (by kernel_rfl) fun G hGx => ?_ | refine vcOpsS_sound (by kernel_rfl) ?_ | refine W_ifE fun A B hAx hBx => ?_); refine evT ?_; (first | refine hGx _ ?_ | refine hNx _ ?_ | refine hAx ?_ | refine hBx ?_ | skip)))); (try clear fs))
  refine ((kcount_N b _ hc')).mono ?_; rintro d _ ⟨rfl, rfl⟩
  (have fs := @i64.eq_1; (repeat (first | refine hGx _ ?_ | refine hNx _ ?_ | refine W_skip ?_ | refine W_exit ?_ | refine W_ret ?_ | refine W_label ?_ | refine W_scope ?_ | refine W_block ?_ | refine W_seq ?_ | ((first | refine tS fun N hNx => ?_ | refine WL_gE rfl rfl (by kernel_rfl) (by kernel_rfl) fun G hGx => ?_ | refine vcOpsS_sound (by kernel_rfl) ?_ | refine W_ifE fun A B hAx hBx => ?_); refine evT ?_; (first | refine hGx _ ?_ | refine hNx _ ?_ | refine hAx ?_ | refine hBx ?_ | skip)))); (try clear fs))
  refine ((count_N b _ hc')).mono ?_; rintro d _ ⟨rfl, rfl⟩
  (have fs := @i64.eq_1; refine evT ?_; try clear fs); (first | refine hGx _ ?_ | refine hNx _ ?_ | skip)
  (have fs := And.intro @i64.eq_1 hbl; (repeat (first | refine hGx _ ?_ | refine hNx _ ?_ | refine W_skip ?_ | refine W_exit ?_ | refine W_ret ?_ | refine W_label ?_ | refine W_scope ?_ | refine W_block ?_ | refine W_seq ?_ | ((first | refine tS fun N hNx => ?_ | refine WL_gE rfl rfl (by kernel_rfl) (by kernel_rfl) fun G hGx => ?_ | refine vcOpsS_sound (by kernel_rfl) ?_ | refine W_ifE fun A B hAx hBx => ?_); refine evT ?_; (first | refine hGx _ ?_ | refine hNx _ ?_ | refine hAx ?_ | refine hBx ?_ | skip)))); (try clear fs))
  refine W_loopN b.bl.length (fun i s => s.df = [] ∧ s.fr 3 = .rp (gbdD b) ∧ s.fr 5 = i64 (cntG b.g) ∧ s.fr 6 = i64 (fstG b.g i) ∧ s.fr 33 = .seq 7 (b.bl.map gbkD) ∧ s.fr 34 = i64 b.bl.length ∧ s.fr 35 = i64 i) ⟨rfl, rfl, rfl, rfl, rfl, rfl, rfl⟩ ?_
  rintro i s hi ⟨hdf, f3, f5, f6, f33, f34, f35⟩
  simp only [gbdD] at f3
  have hx : (i : Int).toNat = i := Int.toNat_natCast _
  have h00 : (0 : Int) ≤ (i : Int) := Int.natCast_nonneg _
  by_cases hil : i < b.bl.length
  case neg =>
    have q1 : ((i : Int) < (b.bl.length : Int)) = False := eq_false (by omega)
    have e : fstG b.g i = cntG b.g := fstG_ge (by rw [b.g_len]; omega)
    rw [e] at f6
    (have fs := And.intro f34 (And.intro f35 (And.intro f3 (And.intro f5 (And.intro @i64.eq_1 q1)))); (repeat (first | refine hGx _ ?_ | refine hNx _ ?_ | refine W_skip ?_ | refine W_exit ?_ | refine W_ret ?_ | refine W_label ?_ | refine W_scope ?_ | refine W_block ?_ | refine W_seq ?_ | ((first | refine tS fun N hNx => ?_ | refine WL_gE rfl rfl (by kernel_rfl) (by kernel_rfl) fun G hGx => ?_ | refine vcOpsS_sound (by kernel_rfl) ?_ | refine W_ifE fun A B hAx hBx => ?_); refine evT ?_; (first | refine hGx _ ?_ | refine hNx _ ?_ | refine hAx ?_ | refine hBx ?_ | skip)))); (try clear fs))
    refine ((loc_N b _ _ hc' (by omega))).mono ?_; rintro d _ ⟨rfl, rfl⟩
    rw [locD_no (by omega)]
    (have fs := @i64.eq_1; (repeat (first | refine hGx _ ?_ | refine hNx _ ?_ | refine W_skip ?_ | refine W_exit ?_ | refine W_ret ?_ | refine W_label ?_ | refine W_scope ?_ | refine W_block ?_ | refine W_seq ?_ | ((first | refine tS fun N hNx => ?_ | refine WL_gE rfl rfl (by kernel_rfl) (by kernel_rfl) fun G hGx => ?_ | refine vcOpsS_sound (by kernel_rfl) ?_ | refine W_ifE fun A B hAx hBx => ?_); refine evT ?_; (first | refine hGx _ ?_ | refine hNx _ ?_ | refine hAx ?_ | refine hBx ?_ | skip)))); (try clear fs))
    refine ((alive11_at _)).mono ?_; rintro d _ ⟨rfl, rfl⟩
    (have fs := And.intro f5 (And.intro f6 @i64.eq_1); (repeat (first | refine hGx _ ?_ | refine hNx _ ?_ | refine W_skip ?_ | refine W_exit ?_ | refine W_ret ?_ | refine W_label ?_ | refine W_scope ?_ | refine W_block ?_ | refine W_seq ?_ | ((first | refine tS fun N hNx => ?_ | refine WL_gE rfl rfl (by kernel_rfl) (by kernel_rfl) fun G hGx => ?_ | refine vcOpsS_sound (by kernel_rfl) ?_ | refine W_ifE fun A B hAx hBx => ?_); refine evT ?_; (first | refine hGx _ ?_ | refine hNx _ ?_ | refine hAx ?_ | refine hBx ?_ | skip)))); (try clear fs))
    (first | (show Q .ret _) | (show Q .normal _) | skip); refine hret _ _ (by first | exact .inr rfl | exact .inl rfl) (by first | rfl | assumption | (simp only [put_df, withH_df]; assumption)) ?_; have fs := hdf; refine evT ?_; clear fs
    exact ⟨_, Heap.le_refl _⟩
  have q1 : ((i : Int) < (b.bl.length : Int)) = True := eq_true (by omega)
  have hil' : (i : Int) < b.bl.length := by omega
  have hgi := blk_get hil
  have hst := st_small hc' hil
  have hnx := fst_next b hil
  have hat := fun p k => (at_b (b := b) (p := p) (i := i) (k := k)).2
  have hidx := fun k : Int => (show (0 ≤ k ∧ k ≤ b.bl[i].st.length) → idxI b i k from fun h => ⟨⟨h00, hil'⟩, by simp only [Int.toNat_natCast]; exact h⟩)
  obtain ⟨x, hxe⟩ : ∃ x, x = b.bl[i] := ⟨_, rfl⟩
  rw [← hxe] at hgi hst hnx hidx
  simp only [gbkD] at hgi
  have w1 : IntKind.i64.wrap ((x.st.length : Int) + 1) = ((x.st.length + 1 : Nat) : Int) := by rw [wrap_i64_of (by omega)]; omega
  have w3 : IntKind.i64.wrap ((i : Int) + 1) = ((i + 1 : Nat) : Int) := by rw [wrap_i64_of (by omega)]; omega
  (have fs := And.intro f33 (And.intro f34 (And.intro f35 (And.intro @i64.eq_1 (And.intro q1 (And.intro hgi (And.intro hx (And.intro h00 (And.intro hil' hbl)))))))); (repeat (first | refine hGx _ ?_ | refine hNx _ ?_ | refine W_skip ?_ | refine W_exit ?_ | refine W_ret ?_ | refine W_label ?_ | refine W_scope ?_ | refine W_block ?_ | refine W_seq ?_ | ((first | refine tS fun N hNx => ?_ | refine WL_gE rfl rfl (by kernel_rfl) (by kernel_rfl) fun G hGx => ?_ | refine vcOpsS_sound (by kernel_rfl) ?_ | refine W_ifE fun A B hAx hBx => ?_); refine evT ?_; (first | refine hGx _ ?_ | refine hNx _ ?_ | refine hAx ?_ | refine hBx ?_ | skip)))); (try clear fs))
  intro c8 hc8
  refine hNx _ ?_
  refine W_frzp 8 rfl (Heap.upd_same _ _ _) rfl ?_; simp only [St.frzp, put_H, wdf_H, withH_H, withH_put, wdf_withH, withH_withH, init_H, init_withH, Heap.del_upd_same, Heap.del_none hc8, withH_self]
  (have fs := And.intro @i64.eq_1 w1; (repeat (first | refine hGx _ ?_ | refine hNx _ ?_ | refine W_skip ?_ | refine W_exit ?_ | refine W_ret ?_ | refine W_label ?_ | refine W_scope ?_ | refine W_block ?_ | refine W_seq ?_ | ((first | refine tS fun N hNx => ?_ | refine WL_gE rfl rfl (by kernel_rfl) (by kernel_rfl) fun G hGx => ?_ | refine vcOpsS_sound (by kernel_rfl) ?_ | refine W_ifE fun A B hAx hBx => ?_); refine evT ?_; (first | refine hGx _ ?_ | refine hNx _ ?_ | refine hAx ?_ | refine hBx ?_ | skip)))); (try clear fs))
  refine W_loopN (x.st.length + 1) (fun k s => s.df = [] ∧ s.fr 3 = .rp (gbdD b) ∧ s.fr 5 = i64 (cntG b.g) ∧ s.fr 6 = i64 (fstG b.g i + k : Nat) ∧ s.fr 7 = i64 i ∧ s.fr 33 = .seq 7 (b.bl.map gbkD) ∧ s.fr 34 = i64 b.bl.length ∧ s.fr 35 = i64 i ∧ s.fr 43 = i64 (x.st.length + 1 : Nat) ∧ s.fr 44 = i64 k) ⟨hdf, f3, f5, f6, rfl, f33, f34, f35, rfl, rfl⟩ ?_
  rintro k s2 hk ⟨gdf, g3, g5, g6, g7, g33, g34, g35, g43, g44⟩
  by_cases hkl : k < x.st.length + 1
  case neg =>
    have q2 : ((k : Int) < ((x.st.length + 1 : Nat) : Int)) = False := eq_false (by omega)
    have e : k = x.st.length + 1 := by omega
    subst e
    have e2 : fstG b.g i + (x.st.length + 1) = fstG b.g (i + 1) := by omega
    rw [e2] at g6
    (have fs := And.intro g35 (And.intro g43 (And.intro g44 (And.intro @i64.eq_1 (And.intro q2 w3)))); (repeat (first | refine hGx _ ?_ | refine hNx _ ?_ | refine W_skip ?_ | refine W_exit ?_ | refine W_ret ?_ | refine W_label ?_ | refine W_scope ?_ | refine W_block ?_ | refine W_seq ?_ | ((first | refine tS fun N hNx => ?_ | refine WL_gE rfl rfl (by kernel_rfl) (by kernel_rfl) fun G hGx => ?_ | refine vcOpsS_sound (by kernel_rfl) ?_ | refine W_ifE fun A B hAx hBx => ?_); refine evT ?_; (first | refine hGx _ ?_ | refine hNx _ ?_ | refine hAx ?_ | refine hBx ?_ | skip)))); (try clear fs))
    exact ⟨hil, gdf, g3, g5, g6, g33, g34, rfl⟩
  have q2 : ((k : Int) < ((x.st.length + 1 : Nat) : Int)) = True := eq_true (by omega)
  have w4 : IntKind.i64.wrap (((fstG b.g i + k : Nat) : Int) + 1) = ((fstG b.g i + (k + 1) : Nat) : Int) := by rw [wrap_i64_of (by omega)]; omega
  have w5 : IntKind.i64.wrap ((k : Int) + 1) = ((k + 1 : Nat) : Int) := by rw [wrap_i64_of (by omega)]; omega
  have e1 : idxD b i k = .tup [i64 ((fstG b.g i + k : Nat) : Int), .val (.bool true)] := by
    rw [idxD_t (hidx k ⟨by omega, by omega⟩), hx]; rfl
  have e2 : locD b.g ((fstG b.g i + k : Nat) : Int) = .tup [i64 i, i64 k, .val (.bool true)] := locD_at (hat _ _ ⟨hil, by rw [← hxe]; omega, by omega⟩)
  (have fs := And.intro g3 (And.intro g5 (And.intro g6 (And.intro g7 (And.intro g43 (And.intro g44 (And.intro @i64.eq_1 (And.intro q2 @gbdD.eq_1))))))); (repeat (first | refine hGx _ ?_ | refine hNx _ ?_ | refine W_skip ?_ | refine W_exit ?_ | refine W_ret ?_ | refine W_label ?_ | refine W_scope ?_ | refine W_block ?_ | refine W_seq ?_ | ((first | refine tS fun N hNx => ?_ | refine WL_gE rfl rfl (by kernel_rfl) (by kernel_rfl) fun G hGx => ?_ | refine vcOpsS_sound (by kernel_rfl) ?_ | refine W_ifE fun A B hAx hBx => ?_); refine evT ?_; (first | refine hGx _ ?_ | refine hNx _ ?_ | refine hAx ?_ | refine hBx ?_ | skip)))); (try clear fs))
  refine ((index_N b i k _ hc')).mono ?_; rintro d _ ⟨rfl, rfl⟩
  rw [e1]
  (have fs := And.intro g3 (And.intro @i64.eq_1 @gbdD.eq_1); (repeat (first | refine hGx _ ?_ | refine hNx _ ?_ | refine W_skip ?_ | refine W_exit ?_ | refine W_ret ?_ | refine W_label ?_ | refine W_scope ?_ | refine W_block ?_ | refine W_seq ?_ | ((first | refine tS fun N hNx => ?_ | refine WL_gE rfl rfl (by kernel_rfl) (by kernel_rfl) fun G hGx => ?_ | refine vcOpsS_sound (by kernel_rfl) ?_ | refine W_ifE fun A B hAx hBx => ?_); refine evT ?_; (first | refine hGx _ ?_ | refine hNx _ ?_ | refine hAx ?_ | refine hBx ?_ | skip)))); (try clear fs))
  refine ((loc_N b _ _ hc' (by omega))).mono ?_; rintro d _ ⟨rfl, rfl⟩
  rw [e2]
  (have fs := And.intro g6 (And.intro g7 (And.intro g44 (And.intro @i64.eq_1 (And.intro w4 w5)))); (repeat (first | refine hGx _ ?_ | refine hNx _ ?_ | refine W_skip ?_ | refine W_exit ?_ | refine W_ret ?_ | refine W_label ?_ | refine W_scope ?_ | refine W_block ?_ | refine W_seq ?_ | ((first | refine tS fun N hNx => ?_ | refine WL_gE rfl rfl (by kernel_rfl) (by kernel_rfl) fun G hGx => ?_ | refine vcOpsS_sound (by kernel_rfl) ?_ | refine W_ifE fun A B hAx hBx => ?_); refine evT ?_; (first | refine hGx _ ?_ | refine hNx _ ?_ | refine hAx ?_ | refine hBx ?_ | skip)))); (try clear fs))
  exact ⟨hkl, gdf, g3, g5, rfl, g7, g33, g34, g35, g43, rfl⟩
set_option maxHeartbeats 2000000 in
theorem pedges_N (G : List (UInt8 × List Int)) (hl : G.length ≤ 140737488351232) (har : ∀ x ∈ G, x.2.length ≤ 140737488351232) : Does Try.prog 7 [.agg [.seq 2 (G.map grD)]] .none fun d _ => d = .val (.bool true) := by
  refine does_of _ _ Try.func7 rfl rfl Try.ntmps7 Try.results7 (by simp only [List.length_cons, List.length_nil]; omega) fun w0 Q hret => ?_
  (have fs := @i64.eq_1; (repeat (first | refine hGx _ ?_ | refine hNx _ ?_ | refine W_skip ?_ | refine W_exit ?_ | refine W_ret ?_ | refine W_label ?_ | refine W_scope ?_ | refine W_block ?_ | refine W_seq ?_ | ((first | refine tS fun N hNx => ?_ | refine WL_gE rfl rfl (by kernel_rfl) (by kernel_rfl) fun G hGx => ?_ | refine vcOpsS_sound (by kernel_rfl) ?_ | refine W_ifE fun A B hAx hBx => ?_); refine evT ?_; (first | refine hGx _ ?_ | refine hNx _ ?_ | refine hAx ?_ | refine hBx ?_ | skip)))); (try clear fs))
  intro c2 hc2
  refine hNx _ ?_
  refine W_frzp 1 rfl (Heap.upd_same _ _ _) rfl ?_; simp only [St.frzp, put_H, wdf_H, withH_H, withH_put, wdf_withH, withH_withH, init_H, init_withH, Heap.del_upd_same, Heap.del_none hc2, withH_self]
  (have fs := @i64.eq_1; (repeat (first | refine hGx _ ?_ | refine hNx _ ?_ | refine W_skip ?_ | refine W_exit ?_ | refine W_ret ?_ | refine W_label ?_ | refine W_scope ?_ | refine W_block ?_ | refine W_seq ?_ | ((first | refine tS fun N hNx => ?_ | refine WL_gE rfl rfl (by kernel_rfl) (by kernel_rfl) fun G hGx => ?_ | refine vcOpsS_sound (by kernel_rfl) ?_ | refine W_ifE fun A B hAx hBx => ?_); refine evT ?_; (first | refine hGx _ ?_ | refine hNx _ ?_ | refine hAx ?_ | refine hBx ?_ | skip)))); (try clear fs))
  refine ((body_N G _ hl har)).mono ?_; rintro d _ ⟨rfl, rfl⟩
  by_cases hs : szG G ≤ 150
  case neg =>
    rw [if_neg hs]
    (have fs := And.intro @i64.eq_1 @zBd.eq_1; (repeat (first | refine hGx _ ?_ | refine hNx _ ?_ | refine W_skip ?_ | refine W_exit ?_ | refine W_ret ?_ | refine W_label ?_ | refine W_scope ?_ | refine W_block ?_ | refine W_seq ?_ | ((first | refine tS fun N hNx => ?_ | refine WL_gE rfl rfl (by kernel_rfl) (by kernel_rfl) fun G hGx => ?_ | refine vcOpsS_sound (by kernel_rfl) ?_ | refine W_ifE fun A B hAx hBx => ?_); refine evT ?_; (first | refine hGx _ ?_ | refine hNx _ ?_ | refine hAx ?_ | refine hBx ?_ | skip)))); (try clear fs))
    intro c7 hc7
    refine hNx _ ?_
    (have fs := @i64.eq_1; (repeat (first | refine hGx _ ?_ | refine hNx _ ?_ | refine W_skip ?_ | refine W_exit ?_ | refine W_ret ?_ | refine W_label ?_ | refine W_scope ?_ | refine W_block ?_ | refine W_seq ?_ | ((first | refine tS fun N hNx => ?_ | refine WL_gE rfl rfl (by kernel_rfl) (by kernel_rfl) fun G hGx => ?_ | refine vcOpsS_sound (by kernel_rfl) ?_ | refine W_ifE fun A B hAx hBx => ?_); refine evT ?_; (first | refine hGx _ ?_ | refine hNx _ ?_ | refine hAx ?_ | refine hBx ?_ | skip)))); (try clear fs))
    refine (alive11_at _).mono ?_
    rintro d _ ⟨rfl, rfl⟩
    (have fs := @i64.eq_1; (repeat (first | refine hGx _ ?_ | refine hNx _ ?_ | refine W_skip ?_ | refine W_exit ?_ | refine W_ret ?_ | refine W_label ?_ | refine W_scope ?_ | refine W_block ?_ | refine W_seq ?_ | ((first | refine tS fun N hNx => ?_ | refine WL_gE rfl rfl (by kernel_rfl) (by kernel_rfl) fun G hGx => ?_ | refine vcOpsS_sound (by kernel_rfl) ?_ | refine W_ifE fun A B hAx hBx => ?_); refine evT ?_; (first | refine hGx _ ?_ | refine hNx _ ?_ | refine hAx ?_ | refine hBx ?_ | skip)))); (try clear fs))
    (first | (show Q .ret _) | (show Q .normal _) | skip); refine hret _ _ (by first | exact .inr rfl | exact .inl rfl) (by first | rfl | assumption | (simp only [put_df, withH_df]; assumption)) ?_; have fs := @i64.eq_1; refine evT ?_; clear fs
    exact ⟨_, Heap.le_refl _⟩
  rw [if_pos hs]
  obtain ⟨hc, hta⟩ := mk_facts hs
  obtain ⟨b, hb⟩ : ∃ b, b = mkBd G := ⟨_, rfl⟩
  rw [← hb] at hc hta ⊢
  have hc' : cntG b.g ≤ 1000000 := by omega
  (have fs := And.intro @i64.eq_1 @gbdD.eq_1; (repeat (first | refine hGx _ ?_ | refine hNx _ ?_ | refine W_skip ?_ | refine W_exit ?_ | refine W_ret ?_ | refine W_label ?_ | refine W_scope ?_ | refine W_block ?_ | refine W_seq ?_ | ((first | refine tS fun N hNx => ?_ | refine WL_gE rfl rfl (by kernel_rfl) (by kernel_rfl) fun G hGx => ?_ | refine vcOpsS_sound (by kernel_rfl) ?_ | refine W_ifE fun A B hAx hBx => ?_); refine evT ?_; (first | refine hGx _ ?_ | refine hNx _ ?_ | refine hAx ?_ | refine hBx ?_ | skip)))); (try clear fs))
  intro c5 hc5
  refine hNx _ ?_
  refine W_frzp 3 rfl (Heap.upd_same _ _ _) rfl ?_; simp only [St.frzp, put_H, wdf_H, withH_H, withH_put, wdf_withH, withH_withH, init_H, init_withH, Heap.del_upd_same, Heap.del_none hc5, withH_self]
  (have fs := @i64.eq_1; (repeat (first | refine hGx _ ?_ | refine hNx _ ?_ | refine W_skip ?_ | refine W_exit ?_ | refine W_ret ?_ | refine W_label ?_ | refine W_scope ?_ | refine W_block ?_ | refine W_seq ?_ | ((first | refine tS fun N hNx => ?_ | refine WL_gE rfl rfl (by kernel_rfl) (by kernel_rfl) fun G hGx => ?_ | refine vcOpsS_sound (by kernel_rfl) ?_ | refine W_ifE fun A B hAx hBx => ?_); refine evT ?_; (first | refine hGx _ ?_ | refine hNx _ ?_ | refine hAx ?_ | refine hBx ?_ | skip)))); (try clear fs))
  refine ((kcount_N b _ hc')).mono ?_; rintro d _ ⟨rfl, rfl⟩
  (have fs := @i64.eq_1; (repeat (first | refine hGx _ ?_ | refine hNx _ ?_ | refine W_skip ?_ | refine W_exit ?_ | refine W_ret ?_ | refine W_label ?_ | refine W_scope ?_ | refine W_block ?_ | refine W_seq ?_ | ((first | refine tS fun N hNx => ?_ | refine WL_gE rfl rfl (by kernel_rfl) (by kernel_rfl) fun G hGx => ?_ | refine vcOpsS_sound (by kernel_rfl) ?_ | refine W_ifE fun A B hAx hBx => ?_); refine evT ?_; (first | refine hGx _ ?_ | refine hNx _ ?_ | refine hAx ?_ | refine hBx ?_ | skip)))); (try clear fs))
  refine W_loopN (cntG b.g) (fun i s => s.df = [] ∧ s.fr 3 = .rp (gbdD b) ∧ s.fr 21 = i64 (cntG b.g) ∧ s.fr 22 = i64 i ∧ ∃ ob, Gl Heap.none 25 2 ((edgP b.g i).map pD) (s.fr 5) s.H ob) ⟨rfl, rfl, rfl, rfl, none, Gl.nil _ _ _ _⟩ ?_
  rintro i s hi ⟨hdf, f3, f21, f22, ob, hg⟩
  simp only [gbdD] at f3
  have hel := edgP_len2 hc' hi
  by_cases hil : i < cntG b.g
  case neg =>
    have q1 : ((i : Int) < (cntG b.g : Int)) = False := eq_false (by omega)
    have e : i = cntG b.g := by omega
    subst e
    (have fs := And.intro f21 (And.intro f22 (And.intro @i64.eq_1 q1)); (iterate 6 (first | refine hGx _ ?_ | refine hNx _ ?_ | refine W_skip ?_ | refine W_exit ?_ | refine W_ret ?_ | refine W_label ?_ | refine W_scope ?_ | refine W_block ?_ | refine W_seq ?_ | ((first | refine tS fun N hNx => ?_ | refine WL_gE rfl rfl (by kernel_rfl) (by kernel_rfl) fun G hGx => ?_ | refine vcOpsS_sound (by kernel_rfl) ?_ | refine W_ifE fun A B hAx hBx => ?_); refine evT ?_; (first | refine hGx _ ?_ | refine hNx _ ?_ | refine hAx ?_ | refine hBx ?_ | skip)))); (try clear fs))
    refine W_frzs 5 Heap.none (.seq 2 ((edgs b.g).map pD)) (Heap.le_none _) (frz_gl (Heap.le_none _) hg) ?_
    (have fs := @i64.eq_1; (repeat (first | refine hGx _ ?_ | refine hNx _ ?_ | refine W_skip ?_ | refine W_exit ?_ | refine W_ret ?_ | refine W_label ?_ | refine W_scope ?_ | refine W_block ?_ | refine W_seq ?_ | ((first | refine tS fun N hNx => ?_ | refine WL_gE rfl rfl (by kernel_rfl) (by kernel_rfl) fun G hGx => ?_ | refine vcOpsS_sound (by kernel_rfl) ?_ | refine W_ifE fun A B hAx hBx => ?_); refine evT ?_; (first | refine hGx _ ?_ | refine hNx _ ?_ | refine hAx ?_ | refine hBx ?_ | skip)))); (try clear fs))
    refine ((alive11_at _)).mono ?_; rintro d _ ⟨rfl, rfl⟩
    (have fs := And.intro f3 @i64.eq_1; (repeat (first | refine hGx _ ?_ | refine hNx _ ?_ | refine W_skip ?_ | refine W_exit ?_ | refine W_ret ?_ | refine W_label ?_ | refine W_scope ?_ | refine W_block ?_ | refine W_seq ?_ | ((first | refine tS fun N hNx => ?_ | refine WL_gE rfl rfl (by kernel_rfl) (by kernel_rfl) fun G hGx => ?_ | refine vcOpsS_sound (by kernel_rfl) ?_ | refine W_ifE fun A B hAx hBx => ?_); refine evT ?_; (first | refine hGx _ ?_ | refine hNx _ ?_ | refine hAx ?_ | refine hBx ?_ | skip)))); (try clear fs))
    refine ((edges_N b _ hc' hta)).mono ?_; rintro d _ ⟨rfl, rfl⟩
    (have fs := @i64.eq_1; (repeat (first | refine hGx _ ?_ | refine hNx _ ?_ | refine W_skip ?_ | refine W_exit ?_ | refine W_ret ?_ | refine W_label ?_ | refine W_scope ?_ | refine W_block ?_ | refine W_seq ?_ | ((first | refine tS fun N hNx => ?_ | refine WL_gE rfl rfl (by kernel_rfl) (by kernel_rfl) fun G hGx => ?_ | refine vcOpsS_sound (by kernel_rfl) ?_ | refine W_ifE fun A B hAx hBx => ?_); refine evT ?_; (first | refine hGx _ ?_ | refine hNx _ ?_ | refine hAx ?_ | refine hBx ?_ | skip)))); (try clear fs))
    refine ((equalP_at _ (edgs b.g) (edgs b.g) (Nat.le_trans hel (by omega)))).mono ?_; rintro d _ ⟨rfl, rfl⟩
    rw [decide_eq_true rfl]
    (have fs := @i64.eq_1; (repeat (first | refine hGx _ ?_ | refine hNx _ ?_ | refine W_skip ?_ | refine W_exit ?_ | refine W_ret ?_ | refine W_label ?_ | refine W_scope ?_ | refine W_block ?_ | refine W_seq ?_ | ((first | refine tS fun N hNx => ?_ | refine WL_gE rfl rfl (by kernel_rfl) (by kernel_rfl) fun G hGx => ?_ | refine vcOpsS_sound (by kernel_rfl) ?_ | refine W_ifE fun A B hAx hBx => ?_); refine evT ?_; (first | refine hGx _ ?_ | refine hNx _ ?_ | refine hAx ?_ | refine hBx ?_ | skip)))); (try clear fs))
    (first | (show Q .ret _) | (show Q .normal _) | skip); refine hret _ _ (by first | exact .inr rfl | exact .inl rfl) (by first | rfl | assumption | (simp only [put_df, withH_df]; assumption)) ?_; have fs := hdf; refine evT ?_; clear fs
    exact ⟨_, Heap.le_refl _⟩
  have q1 : ((i : Int) < (cntG b.g : Int)) = True := eq_true (by omega)
  have w3 : IntKind.i64.wrap ((i : Int) + 1) = ((i + 1 : Nat) : Int) := by rw [wrap_i64_of (by omega)]; omega
  have wp : IntKind.i64.wrap ((i : Int) + 1) = (i : Int) + 1 := by rw [wrap_i64_of (by omega)]
  (have fs := And.intro f3 (And.intro f21 (And.intro f22 (And.intro @i64.eq_1 q1))); (repeat (first | refine hGx _ ?_ | refine hNx _ ?_ | refine W_skip ?_ | refine W_exit ?_ | refine W_ret ?_ | refine W_label ?_ | refine W_scope ?_ | refine W_block ?_ | refine W_seq ?_ | ((first | refine tS fun N hNx => ?_ | refine WL_gE rfl rfl (by kernel_rfl) (by kernel_rfl) fun G hGx => ?_ | refine vcOpsS_sound (by kernel_rfl) ?_ | refine W_ifE fun A B hAx hBx => ?_); refine evT ?_; (first | refine hGx _ ?_ | refine hNx _ ?_ | refine hAx ?_ | refine hBx ?_ | skip)))); (try clear fs))
  refine ((pnext_N b i _ hc' (by omega) hta)).mono ?_; rintro d _ ⟨rfl, rfl⟩
  have hnl := nxt_len b.g i
  have hmn := fun q => mem_nxt (G := b.g) (p := i) (q := q)
  have hml : (List.map iD (nxt b.g i)).length = (nxt b.g i).length := List.length_map _
  obtain ⟨L, hL⟩ : ∃ L, L = nxt b.g i := ⟨_, rfl⟩
  rw [← hL] at hnl hml ⊢
  have hmL : ∀ y, y ∈ L ↔ Fol b.g i y := fun y => by rw [hL]; exact hmn y
  clear hmn
  (have fs := And.intro @i64.eq_1 hml; (repeat (first | refine hGx _ ?_ | refine hNx _ ?_ | refine W_skip ?_ | refine W_exit ?_ | refine W_ret ?_ | refine W_label ?_ | refine W_scope ?_ | refine W_block ?_ | refine W_seq ?_ | ((first | refine tS fun N hNx => ?_ | refine WL_gE rfl rfl (by kernel_rfl) (by kernel_rfl) fun G hGx => ?_ | refine vcOpsS_sound (by kernel_rfl) ?_ | refine W_ifE fun A B hAx hBx => ?_); refine evT ?_; (first | refine hGx _ ?_ | refine hNx _ ?_ | refine hAx ?_ | refine hBx ?_ | skip)))); (try clear fs))
  refine W_loopN L.length (fun j s => s.df = [] ∧ s.fr 3 = .rp (gbdD b) ∧ s.fr 6 = i64 i ∧ s.fr 21 = i64 (cntG b.g) ∧ s.fr 22 = i64 i ∧ s.fr 27 = .seq 1 (L.map iD) ∧ s.fr 28 = i64 L.length ∧ s.fr 29 = i64 j ∧ ∃ ob, Gl Heap.none 25 2 ((edgP b.g i ++ (L.take j).map fun q => ((i : Int), q)).map pD) (s.fr 5) s.H ob) ⟨hdf, f3, rfl, f21, f22, rfl, rfl, rfl, ob, by rw [List.take_zero, List.map_nil, List.append_nil]; exact hg⟩ ?_
  rintro j s2 hj ⟨gdf, g3, g6, g21, g22, g27, g28, g29, ob2, gg⟩
  have hxj : (j : Int).toNat = j := Int.toNat_natCast _
  have h0j : (0 : Int) ≤ (j : Int) := Int.natCast_nonneg _
  by_cases hjl : j < L.length
  case neg =>
    have q2 : ((j : Int) < (L.length : Int)) = False := eq_false (by omega)
    rw [List.take_of_length_le (by omega), hL, ← edgP_succ] at gg
    (have fs := And.intro g22 (And.intro g28 (And.intro g29 (And.intro @i64.eq_1 (And.intro q2 w3)))); (repeat (first | refine hGx _ ?_ | refine hNx _ ?_ | refine W_skip ?_ | refine W_exit ?_ | refine W_ret ?_ | refine W_label ?_ | refine W_scope ?_ | refine W_block ?_ | refine W_seq ?_ | ((first | refine tS fun N hNx => ?_ | refine WL_gE rfl rfl (by kernel_rfl) (by kernel_rfl) fun G hGx => ?_ | refine vcOpsS_sound (by kernel_rfl) ?_ | refine W_ifE fun A B hAx hBx => ?_); refine evT ?_; (first | refine hGx _ ?_ | refine hNx _ ?_ | refine hAx ?_ | refine hBx ?_ | skip)))); (try clear fs))
    exact ⟨hil, gdf, g3, g21, rfl, ob2, gg⟩
  have q2 : ((j : Int) < (L.length : Int)) = True := eq_true (by omega)
  have hgj := get_ints hjl
  have w4 : IntKind.i64.wrap ((j : Int) + 1) = ((j + 1 : Nat) : Int) := by rw [wrap_i64_of (by omega)]; omega
  have hF := (hmL _).1 (List.getElem_mem hjl)
  have e : (edgP b.g i ++ (L.take (j + 1)).map fun q => ((i : Int), q)).map pD = (edgP b.g i ++ (L.take j).map fun q => ((i : Int), q)).map pD ++ [pD ((i : Int), L[j])] := by
    rw [List.take_succ_eq_append_getElem hjl]; simp only [List.map_append, List.map_cons, List.map_nil, List.append_assoc]
  obtain ⟨q, hq⟩ : ∃ q, q = L[j] := ⟨_, rfl⟩
  rw [← hq] at hgj hF e
  have hloc : ∃ m l, locD b.g q = .tup [i64 m, i64 l, .val (.bool true)] ∧ (q ≠ (i : Int) + 1 → l = 0) := by
    obtain ⟨i2, k2, h1, h2⟩ := hF
    obtain ⟨h3, ⟨h4, h5⟩ | ⟨h4, t, ht, h5, h6, h7⟩⟩ := h2
    · obtain ⟨m, l, h⟩ := (Suc.at_ (G := b.g) (i := i2) (k := k2) (q := q) ⟨h3, .inl ⟨h4, h5⟩⟩)
      refine ⟨m, l, locD_at h, fun hne => absurd ?_ hne⟩
      obtain ⟨_, _, h8⟩ := h1
      omega
    · exact ⟨t.toNat, 0, locD_at (show At b.g q t.toNat 0 from ⟨by omega, Nat.zero_le _, by omega⟩), fun _ => rfl⟩
  obtain ⟨m, l, hloc, hl0⟩ := hloc
  (have fs := And.intro g3 (And.intro g6 (And.intro g27 (And.intro g28 (And.intro g29 (And.intro @i64.eq_1 (And.intro q2 (And.intro hml (And.intro hgj (And.intro hxj (And.intro h0j hjl)))))))))); (repeat (first | refine hGx _ ?_ | refine hNx _ ?_ | refine W_skip ?_ | refine W_exit ?_ | refine W_ret ?_ | refine W_label ?_ | refine W_scope ?_ | refine W_block ?_ | refine W_seq ?_ | ((first | refine tS fun N hNx => ?_ | refine WL_gE rfl rfl (by kernel_rfl) (by kernel_rfl) fun G hGx => ?_ | refine vcOpsS_sound (by kernel_rfl) ?_ | refine W_ifE fun A B hAx hBx => ?_); refine evT ?_; (first | refine hGx _ ?_ | refine hNx _ ?_ | refine hAx ?_ | refine hBx ?_ | skip)))); (try clear fs))
  refine apV_grow (e := 25) ty27 rfl ty27 rfl ty25 rfl (by decide) (Heap.le_none _) gg (new := [pD ((i : Int), q)]) (by exact ⟨rfl, rfl⟩) (by rw [List.length_map, List.length_append, List.length_map, List.length_take]; show (_ + 1) * 16 ≤ _; omega) fun d H6 ob6 hg6 hle6 _ => ?_
  rw [← e] at hg6
  (have fs := And.intro g3 (And.intro @i64.eq_1 @gbdD.eq_1); (repeat (first | refine hGx _ ?_ | refine hNx _ ?_ | refine W_skip ?_ | refine W_exit ?_ | refine W_ret ?_ | refine W_label ?_ | refine W_scope ?_ | refine W_block ?_ | refine W_seq ?_ | ((first | refine tS fun N hNx => ?_ | refine WL_gE rfl rfl (by kernel_rfl) (by kernel_rfl) fun G hGx => ?_ | refine vcOpsS_sound (by kernel_rfl) ?_ | refine W_ifE fun A B hAx hBx => ?_); refine evT ?_; (first | refine hGx _ ?_ | refine hNx _ ?_ | refine hAx ?_ | refine hBx ?_ | skip)))); (try clear fs))
  refine ((kloc_N b q _ hc' (by have := hF.lt.2; omega))).mono ?_; rintro d _ ⟨rfl, rfl⟩
  rw [hloc]
  by_cases hqp : q = (i : Int) + 1
  · have q3 : (q = (i : Int) + 1) = True := eq_true hqp
    (have fs := And.intro g6 (And.intro g29 (And.intro @i64.eq_1 (And.intro wp (And.intro q3 w4)))); (repeat (first | refine hGx _ ?_ | refine hNx _ ?_ | refine W_skip ?_ | refine W_exit ?_ | refine W_ret ?_ | refine W_label ?_ | refine W_scope ?_ | refine W_block ?_ | refine W_seq ?_ | ((first | refine tS fun N hNx => ?_ | refine WL_gE rfl rfl (by kernel_rfl) (by kernel_rfl) fun G hGx => ?_ | refine vcOpsS_sound (by kernel_rfl) ?_ | refine W_ifE fun A B hAx hBx => ?_); refine evT ?_; (first | refine hGx _ ?_ | refine hNx _ ?_ | refine hAx ?_ | refine hBx ?_ | skip)))); (try clear fs))
    exact ⟨hjl, gdf, g3, g6, g21, g22, g27, g28, rfl, ob6, hg6⟩
  · have q3 : (q = (i : Int) + 1) = False := eq_false hqp
    have h0 := hl0 hqp
    subst h0
    (have fs := And.intro g6 (And.intro g29 (And.intro @i64.eq_1 (And.intro wp (And.intro q3 w4)))); (repeat (first | refine hGx _ ?_ | refine hNx _ ?_ | refine W_skip ?_ | refine W_exit ?_ | refine W_ret ?_ | refine W_label ?_ | refine W_scope ?_ | refine W_block ?_ | refine W_seq ?_ | ((first | refine tS fun N hNx => ?_ | refine WL_gE rfl rfl (by kernel_rfl) (by kernel_rfl) fun G hGx => ?_ | refine vcOpsS_sound (by kernel_rfl) ?_ | refine W_ifE fun A B hAx hBx => ?_); refine evT ?_; (first | refine hGx _ ?_ | refine hNx _ ?_ | refine hAx ?_ | refine hBx ?_ | skip)))); (try clear fs))
    exact ⟨hjl, gdf, g3, g6, g21, g22, g27, g28, rfl, ob6, hg6⟩
end Go.Proofs.Ytdbeimlancnncaa
/- The laws of chapter 11: PointsTransitive; the arguments of the laws. -/
namespace Go.Proofs.Ytdbeimlancnncaa
open Go.RowKit
set_option linter.unusedVariables false
set_option maxRecDepth 100000
set_option linter.unusedSimpArgs false
set_option maxHeartbeats 2000000 in
theorem ptrans_N (G : List (UInt8 × List Int)) (x y z : UInt8) (hl : G.length ≤ 140737488351232) (har : ∀ x ∈ G, x.2.length ≤ 140737488351232) : Does Try.prog 8 [.agg [.seq 2 (G.map grD)], .agg [.val (.int .u8 x.toNat), .val (.int .u8 y.toNat), .val (.int .u8 z.toNat)]] .none fun d _ => d = .val (.bool true) := by
  refine does_of _ _ Try.func8 rfl rfl Try.ntmps8 Try.results8 (by simp only [List.length_cons, List.length_nil]; omega) fun w0 Q hret => ?_
  (have fs := @i64.eq_1; (repeat (first | refine hGx _ ?_ | refine hNx _ ?_ | refine W_skip ?_ | refine W_exit ?_ | refine W_ret ?_ | refine W_label ?_ | refine W_scope ?_ | refine W_block ?_ | refine W_seq ?_ | ((first | refine tS fun N hNx => ?_ | refine WL_gE rfl rfl (by kernel_rfl) (by kernel_rfl) fun G hGx => ?_ | refine vcOpsS_sound (by kernel_rfl) ?_ | refine W_ifE fun A B hAx hBx => ?_); refine evT ?_; (first | refine hGx _ ?_ | refine hNx _ ?_ | refine hAx ?_ | refine hBx ?_ | skip)))); (try clear fs))
  intro c2 hc2 c3 hc3
  refine hNx _ ?_
  have hne : c2 ≠ c3 := Heap.ne_of (Heap.upd_same _ _ _) hc3; have hb0 := (Heap.upd_none.1 hc3).2; refine W_frzp 2 rfl ((Heap.upd_ne hne).trans (Heap.upd_same _ _ _)) rfl ?_; refine W_frzp 3 rfl ((Heap.del_ne hne.symm).trans (Heap.upd_same _ _ _)) rfl ?_; refine W_less Heap.none (Heap.le_none _) ?_; simp only [St.frzp, List.drop]
  (have fs := @i64.eq_1; (repeat (first | refine hGx _ ?_ | refine hNx _ ?_ | refine W_skip ?_ | refine W_exit ?_ | refine W_ret ?_ | refine W_label ?_ | refine W_scope ?_ | refine W_block ?_ | refine W_seq ?_ | ((first | refine tS fun N hNx => ?_ | refine WL_gE rfl rfl (by kernel_rfl) (by kernel_rfl) fun G hGx => ?_ | refine vcOpsS_sound (by kernel_rfl) ?_ | refine W_ifE fun A B hAx hBx => ?_); refine evT ?_; (first | refine hGx _ ?_ | refine hNx _ ?_ | refine hAx ?_ | refine hBx ?_ | skip)))); (try clear fs))
  refine ((body_N G _ hl har)).mono ?_; rintro d _ ⟨rfl, rfl⟩
  by_cases hs : szG G ≤ 150
  case neg =>
    rw [if_neg hs]
    have hz : (⟨.val (.string ByteArray.empty), .val (.slice none 0 0), .val (.slice none 0 0), .val (.slice none 0 0), .val (.slice none 0 0), i64 0, []⟩ : GBdy).g = [] := rfl
    (have fs := And.intro @i64.eq_1 @zBd.eq_1; (repeat (first | refine hGx _ ?_ | refine hNx _ ?_ | refine W_skip ?_ | refine W_exit ?_ | refine W_ret ?_ | refine W_label ?_ | refine W_scope ?_ | refine W_block ?_ | refine W_seq ?_ | ((first | refine tS fun N hNx => ?_ | refine WL_gE rfl rfl (by kernel_rfl) (by kernel_rfl) fun G hGx => ?_ | refine vcOpsS_sound (by kernel_rfl) ?_ | refine W_ifE fun A B hAx hBx => ?_); refine evT ?_; (first | refine hGx _ ?_ | refine hNx _ ?_ | refine hAx ?_ | refine hBx ?_ | skip)))); (try clear fs))
    intro c7 hc7
    refine hNx _ ?_
    refine W_frzp 5 rfl (Heap.upd_same _ _ _) rfl ?_; simp only [St.frzp, put_H, wdf_H, withH_H, withH_put, wdf_withH, withH_withH, init_H, init_withH, Heap.del_upd_same, Heap.del_none hc7, withH_self]
    refine W_as 5 (.rp (gbdD ⟨.val (.string ByteArray.empty), .val (.slice none 0 0), .val (.slice none 0 0), .val (.slice none 0 0), .val (.slice none 0 0), i64 0, []⟩)) (fun w v hv => imp_rp ?_ _ _ _ hv) ?_
    · exact ⟨imp_refl _, imp_refl _, imp_refl _, imp_refl _, imp_refl _, imp_refl _, imp_nil, trivial⟩
    simp only [gbdD]
    (have fs := @i64.eq_1; (repeat (first | refine hGx _ ?_ | refine hNx _ ?_ | refine W_skip ?_ | refine W_exit ?_ | refine W_ret ?_ | refine W_label ?_ | refine W_scope ?_ | refine W_block ?_ | refine W_seq ?_ | ((first | refine tS fun N hNx => ?_ | refine WL_gE rfl rfl (by kernel_rfl) (by kernel_rfl) fun G hGx => ?_ | refine vcOpsS_sound (by kernel_rfl) ?_ | refine W_ifE fun A B hAx hBx => ?_); refine evT ?_; (first | refine hGx _ ?_ | refine hNx _ ?_ | refine hAx ?_ | refine hBx ?_ | skip)))); (try clear fs))
    refine (kcount_N ⟨.val (.string ByteArray.empty), .val (.slice none 0 0), .val (.slice none 0 0), .val (.slice none 0 0), .val (.slice none 0 0), i64 0, []⟩ _ (by rw [hz]; decide)).mono ?_
    rintro d _ ⟨rfl, rfl⟩
    (have fs := @i64.eq_1; (repeat (first | refine hGx _ ?_ | refine hNx _ ?_ | refine W_skip ?_ | refine W_exit ?_ | refine W_ret ?_ | refine W_label ?_ | refine W_scope ?_ | refine W_block ?_ | refine W_seq ?_ | ((first | refine tS fun N hNx => ?_ | refine WL_gE rfl rfl (by kernel_rfl) (by kernel_rfl) fun G hGx => ?_ | refine vcOpsS_sound (by kernel_rfl) ?_ | refine W_ifE fun A B hAx hBx => ?_); refine evT ?_; (first | refine hGx _ ?_ | refine hNx _ ?_ | refine hAx ?_ | refine hBx ?_ | skip)))); (try clear fs))
    refine (alive11_at _).mono ?_
    rintro d _ ⟨rfl, rfl⟩
    (have fs := @i64.eq_1; (repeat (first | refine hGx _ ?_ | refine hNx _ ?_ | refine W_skip ?_ | refine W_exit ?_ | refine W_ret ?_ | refine W_label ?_ | refine W_scope ?_ | refine W_block ?_ | refine W_seq ?_ | ((first | refine tS fun N hNx => ?_ | refine WL_gE rfl rfl (by kernel_rfl) (by kernel_rfl) fun G hGx => ?_ | refine vcOpsS_sound (by kernel_rfl) ?_ | refine W_ifE fun A B hAx hBx => ?_); refine evT ?_; (first | refine hGx _ ?_ | refine hNx _ ?_ | refine hAx ?_ | refine hBx ?_ | skip)))); (try clear fs))
    (first | (show Q .ret _) | (show Q .normal _) | skip); refine hret _ _ (by first | exact .inr rfl | exact .inl rfl) (by first | rfl | assumption | (simp only [put_df, withH_df]; assumption)) ?_; have fs := @i64.eq_1; refine evT ?_; clear fs
    exact ⟨_, Heap.le_refl _⟩
  rw [if_pos hs]
  obtain ⟨hc, hta⟩ := mk_facts hs
  obtain ⟨b, hb⟩ : ∃ b, b = mkBd G := ⟨_, rfl⟩
  rw [← hb] at hc hta ⊢
  have hc' : cntG b.g ≤ 1000000 := by omega
  (have fs := And.intro @i64.eq_1 @gbdD.eq_1; (repeat (first | refine hGx _ ?_ | refine hNx _ ?_ | refine W_skip ?_ | refine W_exit ?_ | refine W_ret ?_ | refine W_label ?_ | refine W_scope ?_ | refine W_block ?_ | refine W_seq ?_ | ((first | refine tS fun N hNx => ?_ | refine WL_gE rfl rfl (by kernel_rfl) (by kernel_rfl) fun G hGx => ?_ | refine vcOpsS_sound (by kernel_rfl) ?_ | refine W_ifE fun A B hAx hBx => ?_); refine evT ?_; (first | refine hGx _ ?_ | refine hNx _ ?_ | refine hAx ?_ | refine hBx ?_ | skip)))); (try clear fs))
  intro c5 hc5
  refine hNx _ ?_
  refine W_frzp 5 rfl (Heap.upd_same _ _ _) rfl ?_; simp only [St.frzp, put_H, wdf_H, withH_H, withH_put, wdf_withH, withH_withH, init_H, init_withH, Heap.del_upd_same, Heap.del_none hc5, withH_self]
  (have fs := @i64.eq_1; (repeat (first | refine hGx _ ?_ | refine hNx _ ?_ | refine W_skip ?_ | refine W_exit ?_ | refine W_ret ?_ | refine W_label ?_ | refine W_scope ?_ | refine W_block ?_ | refine W_seq ?_ | ((first | refine tS fun N hNx => ?_ | refine WL_gE rfl rfl (by kernel_rfl) (by kernel_rfl) fun G hGx => ?_ | refine vcOpsS_sound (by kernel_rfl) ?_ | refine W_ifE fun A B hAx hBx => ?_); refine evT ?_; (first | refine hGx _ ?_ | refine hNx _ ?_ | refine hAx ?_ | refine hBx ?_ | skip)))); (try clear fs))
  refine ((kcount_N b _ hc')).mono ?_; rintro d _ ⟨rfl, rfl⟩
  by_cases h0 : cntG b.g = 0
  · have q0 : ((cntG b.g : Int) = 0) = True := eq_true (by omega)
    (have fs := And.intro @i64.eq_1 q0; (repeat (first | refine hGx _ ?_ | refine hNx _ ?_ | refine W_skip ?_ | refine W_exit ?_ | refine W_ret ?_ | refine W_label ?_ | refine W_scope ?_ | refine W_block ?_ | refine W_seq ?_ | ((first | refine tS fun N hNx => ?_ | refine WL_gE rfl rfl (by kernel_rfl) (by kernel_rfl) fun G hGx => ?_ | refine vcOpsS_sound (by kernel_rfl) ?_ | refine W_ifE fun A B hAx hBx => ?_); refine evT ?_; (first | refine hGx _ ?_ | refine hNx _ ?_ | refine hAx ?_ | refine hBx ?_ | skip)))); (try clear fs))
    refine (alive11_at _).mono ?_
    rintro d _ ⟨rfl, rfl⟩
    (have fs := @i64.eq_1; (repeat (first | refine hGx _ ?_ | refine hNx _ ?_ | refine W_skip ?_ | refine W_exit ?_ | refine W_ret ?_ | refine W_label ?_ | refine W_scope ?_ | refine W_block ?_ | refine W_seq ?_ | ((first | refine tS fun N hNx => ?_ | refine WL_gE rfl rfl (by kernel_rfl) (by kernel_rfl) fun G hGx => ?_ | refine vcOpsS_sound (by kernel_rfl) ?_ | refine W_ifE fun A B hAx hBx => ?_); refine evT ?_; (first | refine hGx _ ?_ | refine hNx _ ?_ | refine hAx ?_ | refine hBx ?_ | skip)))); (try clear fs))
    (first | (show Q .ret _) | (show Q .normal _) | skip); refine hret _ _ (by first | exact .inr rfl | exact .inl rfl) (by first | rfl | assumption | (simp only [put_df, withH_df]; assumption)) ?_; have fs := @i64.eq_1; refine evT ?_; clear fs
    exact ⟨_, Heap.le_refl _⟩
  have q0 : ((cntG b.g : Int) = 0) = False := eq_false (by omega)
  have hel := edgP_len2 hc' (Nat.le_refl _)
  (have fs := And.intro @i64.eq_1 q0; (repeat (first | refine hGx _ ?_ | refine hNx _ ?_ | refine W_skip ?_ | refine W_exit ?_ | refine W_ret ?_ | refine W_label ?_ | refine W_scope ?_ | refine W_block ?_ | refine W_seq ?_ | ((first | refine tS fun N hNx => ?_ | refine WL_gE rfl rfl (by kernel_rfl) (by kernel_rfl) fun G hGx => ?_ | refine vcOpsS_sound (by kernel_rfl) ?_ | refine W_ifE fun A B hAx hBx => ?_); refine evT ?_; (first | refine hGx _ ?_ | refine hNx _ ?_ | refine hAx ?_ | refine hBx ?_ | skip)))); (try clear fs))
  refine ((kedges_N b _ hc' hta)).mono ?_; rintro d _ ⟨rfl, rfl⟩
  have hml : (List.map pD (edgs b.g)).length = (edgs b.g).length := List.length_map _
  have hmm := fun e => mem_edgs (G := b.g) (e := e)
  have hel : (edgs b.g).length ≤ 1000000000000 := hel
  obtain ⟨L, hL⟩ : ∃ L, L = edgs b.g := ⟨_, rfl⟩
  rw [← hL] at hml hel ⊢
  have hmL : ∀ e, e ∈ L ↔ Fol b.g e.1 e.2 := fun y => by rw [hL]; exact hmm y
  clear hmm
  (have fs := And.intro @i64.eq_1 hml; (repeat (first | refine hGx _ ?_ | refine hNx _ ?_ | refine W_skip ?_ | refine W_exit ?_ | refine W_ret ?_ | refine W_label ?_ | refine W_scope ?_ | refine W_block ?_ | refine W_seq ?_ | ((first | refine tS fun N hNx => ?_ | refine WL_gE rfl rfl (by kernel_rfl) (by kernel_rfl) fun G hGx => ?_ | refine vcOpsS_sound (by kernel_rfl) ?_ | refine W_ifE fun A B hAx hBx => ?_); refine evT ?_; (first | refine hGx _ ?_ | refine hNx _ ?_ | refine hAx ?_ | refine hBx ?_ | skip)))); (try clear fs))
  refine W_loopN L.length (fun j s => s.df = [] ∧ s.fr 3 = .rp [.val (.int .u8 x.toNat), .val (.int .u8 y.toNat), .val (.int .u8 z.toNat)] ∧ s.fr 5 = .rp (gbdD b) ∧ s.fr 7 = i64 (cntG b.g) ∧ s.fr 28 = .seq 2 (L.map pD) ∧ s.fr 29 = i64 L.length ∧ s.fr 30 = i64 j) ⟨rfl, rfl, rfl, rfl, rfl, rfl, rfl⟩ ?_
  rintro j s hj ⟨hdf, f3, f5, f7, f28, f29, f30⟩
  simp only [gbdD] at f5
  have hxj : (j : Int).toNat = j := Int.toNat_natCast _
  have h0j : (0 : Int) ≤ (j : Int) := Int.natCast_nonneg _
  by_cases hjl : j < L.length
  case pos =>
    have q2 : ((j : Int) < (L.length : Int)) = True := eq_true (by omega)
    have hjl' : (j : Int) < (L.length : Int) := by omega
    have hgj := get_prs hjl
    have w4 : IntKind.i64.wrap ((j : Int) + 1) = ((j + 1 : Nat) : Int) := by rw [wrap_i64_of (by omega)]; omega
    have hF := (hmL _).1 (List.getElem_mem hjl)
    obtain ⟨⟨p, q⟩, hq⟩ : ∃ q, q = L[j] := ⟨_, rfl⟩
    rw [← hq] at hgj hF
    simp only at hgj hF
    have hlt := hF.lt
    (have fs := And.intro f5 (And.intro f28 (And.intro f29 (And.intro f30 (And.intro @i64.eq_1 (And.intro q2 (And.intro hml (And.intro hgj (And.intro hxj (And.intro h0j hjl'))))))))); (repeat (first | refine hGx _ ?_ | refine hNx _ ?_ | refine W_skip ?_ | refine W_exit ?_ | refine W_ret ?_ | refine W_label ?_ | refine W_scope ?_ | refine W_block ?_ | refine W_seq ?_ | ((first | refine tS fun N hNx => ?_ | refine WL_gE rfl rfl (by kernel_rfl) (by kernel_rfl) fun G hGx => ?_ | refine vcOpsS_sound (by kernel_rfl) ?_ | refine W_ifE fun A B hAx hBx => ?_); refine evT ?_; (first | refine hGx _ ?_ | refine hNx _ ?_ | refine hAx ?_ | refine hBx ?_ | skip)))); (try clear fs))
    intro c9 hc9
    refine hNx _ ?_
    refine W_frzp 9 rfl (Heap.upd_same _ _ _) rfl ?_; simp only [St.frzp, put_H, wdf_H, withH_H, withH_put, wdf_withH, withH_withH, init_H, init_withH, Heap.del_upd_same, Heap.del_none hc9, withH_self]
    (have fs := And.intro f5 @i64.eq_1; (repeat (first | refine hGx _ ?_ | refine hNx _ ?_ | refine W_skip ?_ | refine W_exit ?_ | refine W_ret ?_ | refine W_label ?_ | refine W_scope ?_ | refine W_block ?_ | refine W_seq ?_ | ((first | refine tS fun N hNx => ?_ | refine WL_gE rfl rfl (by kernel_rfl) (by kernel_rfl) fun G hGx => ?_ | refine vcOpsS_sound (by kernel_rfl) ?_ | refine W_ifE fun A B hAx hBx => ?_); refine evT ?_; (first | refine hGx _ ?_ | refine hNx _ ?_ | refine hAx ?_ | refine hBx ?_ | skip)))); (try clear fs))
    refine ((reach_N b p q _ hc' hta ⟨by omega, by omega⟩ ⟨by omega, by omega⟩)).mono ?_; rintro d _ ⟨rfl, rfl⟩
    rw [reaB_t.2 (Rea.one hF)]
    (have fs := And.intro f30 (And.intro @i64.eq_1 w4); (repeat (first | refine hGx _ ?_ | refine hNx _ ?_ | refine W_skip ?_ | refine W_exit ?_ | refine W_ret ?_ | refine W_label ?_ | refine W_scope ?_ | refine W_block ?_ | refine W_seq ?_ | ((first | refine tS fun N hNx => ?_ | refine WL_gE rfl rfl (by kernel_rfl) (by kernel_rfl) fun G hGx => ?_ | refine vcOpsS_sound (by kernel_rfl) ?_ | refine W_ifE fun A B hAx hBx => ?_); refine evT ?_; (first | refine hGx _ ?_ | refine hNx _ ?_ | refine hAx ?_ | refine hBx ?_ | skip)))); (try clear fs))
    exact ⟨hjl, hdf, f3, f5, f7, f28, f29, rfl⟩
  have q2 : ((j : Int) < (L.length : Int)) = False := eq_false (by omega)
  have hx8 := x.toNat_lt
  have hy8 := y.toNat_lt
  have hz8 := z.toNat_lt
  have w1 : IntKind.i64.wrap (x.toNat : Int) = (x.toNat : Int) := by rw [wrap_i64_of (by omega)]
  have w2 : IntKind.i64.wrap (y.toNat : Int) = (y.toNat : Int) := by rw [wrap_i64_of (by omega)]
  have w3 : IntKind.i64.wrap (z.toNat : Int) = (z.toNat : Int) := by rw [wrap_i64_of (by omega)]
  have t1 := tmod_in x (show 0 < (cntG b.g : Int) by omega)
  have t2 := tmod_in y (show 0 < (cntG b.g : Int) by omega)
  have t3 := tmod_in z (show 0 < (cntG b.g : Int) by omega)
  obtain ⟨p, hp⟩ : ∃ p, p = (x.toNat : Int).tmod (cntG b.g : Int) := ⟨_, rfl⟩
  obtain ⟨q, hq⟩ : ∃ p, p = (y.toNat : Int).tmod (cntG b.g : Int) := ⟨_, rfl⟩
  obtain ⟨r, hr⟩ : ∃ p, p = (z.toNat : Int).tmod (cntG b.g : Int) := ⟨_, rfl⟩
  rw [← hp] at t1
  rw [← hq] at t2
  rw [← hr] at t3
  unfold InR at t1 t2 t3
  have hP : I64 p := ⟨by omega, by omega⟩
  have hQ : I64 q := ⟨by omega, by omega⟩
  have hR : I64 r := ⟨by omega, by omega⟩
  (have fs := And.intro f29 (And.intro f30 (And.intro @i64.eq_1 q2)); (repeat (first | refine hGx _ ?_ | refine hNx _ ?_ | refine W_skip ?_ | refine W_exit ?_ | refine W_ret ?_ | refine W_label ?_ | refine W_scope ?_ | refine W_block ?_ | refine W_seq ?_ | ((first | refine tS fun N hNx => ?_ | refine WL_gE rfl rfl (by kernel_rfl) (by kernel_rfl) fun G hGx => ?_ | refine vcOpsS_sound (by kernel_rfl) ?_ | refine W_ifE fun A B hAx hBx => ?_); refine evT ?_; (first | refine hGx _ ?_ | refine hNx _ ?_ | refine hAx ?_ | refine hBx ?_ | skip)))); (try clear fs))
  refine W_drawE (fun _ _ _ _ => False) (by kernel_rfl) (by kernel_rfl) (by kernel_rfl) fun N hNx => ?_; (have fs := And.intro f3 (And.intro f7 (And.intro @i64.eq_1 (And.intro w1 (And.intro w2 (And.intro w3 (And.intro q0 (And.intro @hp.symm (And.intro @hq.symm @hr.symm)))))))); (repeat ((first | refine vcD_g rfl rfl fun G hGx => ?_ | refine vcDS_to ?_); refine evD ?_; (first | refine hGx _ ?_ | refine hNx _ ?_ | skip))); (try clear fs))
  (have fs := And.intro f5 @i64.eq_1; (repeat (first | refine hGx _ ?_ | refine hNx _ ?_ | refine W_skip ?_ | refine W_exit ?_ | refine W_ret ?_ | refine W_label ?_ | refine W_scope ?_ | refine W_block ?_ | refine W_seq ?_ | ((first | refine tS fun N hNx => ?_ | refine WL_gE rfl rfl (by kernel_rfl) (by kernel_rfl) fun G hGx => ?_ | refine vcOpsS_sound (by kernel_rfl) ?_ | refine W_ifE fun A B hAx hBx => ?_); refine evT ?_; (first | refine hGx _ ?_ | refine hNx _ ?_ | refine hAx ?_ | refine hBx ?_ | skip)))); (try clear fs))
  refine ((alive11_at _)).mono ?_; rintro d _ ⟨rfl, rfl⟩
  (have fs := And.intro f5 @i64.eq_1; (repeat (first | refine hGx _ ?_ | refine hNx _ ?_ | refine W_skip ?_ | refine W_exit ?_ | refine W_ret ?_ | refine W_label ?_ | refine W_scope ?_ | refine W_block ?_ | refine W_seq ?_ | ((first | refine tS fun N hNx => ?_ | refine WL_gE rfl rfl (by kernel_rfl) (by kernel_rfl) fun G hGx => ?_ | refine vcOpsS_sound (by kernel_rfl) ?_ | refine W_ifE fun A B hAx hBx => ?_); refine evT ?_; (first | refine hGx _ ?_ | refine hNx _ ?_ | refine hAx ?_ | refine hBx ?_ | skip)))); (try clear fs))
  refine ((reach_N b p q _ hc' hta hP hQ)).mono ?_; rintro d _ ⟨rfl, rfl⟩
  cases h1 : reaB b.g p q with
  | false =>
    (have fs := And.intro f5 @i64.eq_1; (repeat (first | refine hGx _ ?_ | refine hNx _ ?_ | refine W_skip ?_ | refine W_exit ?_ | refine W_ret ?_ | refine W_label ?_ | refine W_scope ?_ | refine W_block ?_ | refine W_seq ?_ | ((first | refine tS fun N hNx => ?_ | refine WL_gE rfl rfl (by kernel_rfl) (by kernel_rfl) fun G hGx => ?_ | refine vcOpsS_sound (by kernel_rfl) ?_ | refine W_ifE fun A B hAx hBx => ?_); refine evT ?_; (first | refine hGx _ ?_ | refine hNx _ ?_ | refine hAx ?_ | refine hBx ?_ | skip)))); (try clear fs))
    (first | (show Q .ret _) | (show Q .normal _) | skip); refine hret _ _ (by first | exact .inr rfl | exact .inl rfl) (by first | rfl | assumption | (simp only [put_df, withH_df]; assumption)) ?_; have fs := hdf; refine evT ?_; clear fs
    exact ⟨_, Heap.le_refl _⟩
  | true =>
    (have fs := And.intro f5 @i64.eq_1; (repeat (first | refine hGx _ ?_ | refine hNx _ ?_ | refine W_skip ?_ | refine W_exit ?_ | refine W_ret ?_ | refine W_label ?_ | refine W_scope ?_ | refine W_block ?_ | refine W_seq ?_ | ((first | refine tS fun N hNx => ?_ | refine WL_gE rfl rfl (by kernel_rfl) (by kernel_rfl) fun G hGx => ?_ | refine vcOpsS_sound (by kernel_rfl) ?_ | refine W_ifE fun A B hAx hBx => ?_); refine evT ?_; (first | refine hGx _ ?_ | refine hNx _ ?_ | refine hAx ?_ | refine hBx ?_ | skip)))); (try clear fs))
    refine ((reach_N b q r _ hc' hta hQ hR)).mono ?_; rintro d _ ⟨rfl, rfl⟩
    cases h2 : reaB b.g q r with
    | false =>
      (have fs := And.intro f5 @i64.eq_1; (repeat (first | refine hGx _ ?_ | refine hNx _ ?_ | refine W_skip ?_ | refine W_exit ?_ | refine W_ret ?_ | refine W_label ?_ | refine W_scope ?_ | refine W_block ?_ | refine W_seq ?_ | ((first | refine tS fun N hNx => ?_ | refine WL_gE rfl rfl (by kernel_rfl) (by kernel_rfl) fun G hGx => ?_ | refine vcOpsS_sound (by kernel_rfl) ?_ | refine W_ifE fun A B hAx hBx => ?_); refine evT ?_; (first | refine hGx _ ?_ | refine hNx _ ?_ | refine hAx ?_ | refine hBx ?_ | skip)))); (try clear fs))
      (first | (show Q .ret _) | (show Q .normal _) | skip); refine hret _ _ (by first | exact .inr rfl | exact .inl rfl) (by first | rfl | assumption | (simp only [put_df, withH_df]; assumption)) ?_; have fs := hdf; refine evT ?_; clear fs
      exact ⟨_, Heap.le_refl _⟩
    | true =>
      (have fs := And.intro f5 @i64.eq_1; (repeat (first | refine hGx _ ?_ | refine hNx _ ?_ | refine W_skip ?_ | refine W_exit ?_ | refine W_ret ?_ | refine W_label ?_ | refine W_scope ?_ | refine W_block ?_ | refine W_seq ?_ | ((first | refine tS fun N hNx => ?_ | refine WL_gE rfl rfl (by kernel_rfl) (by kernel_rfl) fun G hGx => ?_ | refine vcOpsS_sound (by kernel_rfl) ?_ | refine W_ifE fun A B hAx hBx => ?_); refine evT ?_; (first | refine hGx _ ?_ | refine hNx _ ?_ | refine hAx ?_ | refine hBx ?_ | skip)))); (try clear fs))
      refine ((reach_N b p r _ hc' hta hP hR)).mono ?_; rintro d _ ⟨rfl, rfl⟩
      rw [reaB_t.2 ((reaB_t.1 h1).trans (reaB_t.1 h2))]
      (have fs := And.intro f5 @i64.eq_1; (repeat (first | refine hGx _ ?_ | refine hNx _ ?_ | refine W_skip ?_ | refine W_exit ?_ | refine W_ret ?_ | refine W_label ?_ | refine W_scope ?_ | refine W_block ?_ | refine W_seq ?_ | ((first | refine tS fun N hNx => ?_ | refine WL_gE rfl rfl (by kernel_rfl) (by kernel_rfl) fun G hGx => ?_ | refine vcOpsS_sound (by kernel_rfl) ?_ | refine W_ifE fun A B hAx hBx => ?_); refine evT ?_; (first | refine hGx _ ?_ | refine hNx _ ?_ | refine hAx ?_ | refine hBx ?_ | skip)))); (try clear fs))
      (first | (show Q .ret _) | (show Q .normal _) | skip); refine hret _ _ (by first | exact .inr rfl | exact .inl rfl) (by first | rfl | assumption | (simp only [put_df, withH_df]; assumption)) ?_; have fs := hdf; refine evT ?_; clear fs
      exact ⟨_, Heap.le_refl _⟩
def xG (x : UInt8 × List Int) : X := .agg [xB x.1, .list 1 (x.2.map xI)]
theorem ok_graph {x : X} (h : DT.ok (DT.struct [DT.slice 2 32 (DT.struct [DT.int .u8, DT.slice 1 8 (DT.int .i64)])]) x) : ∃ G : List (UInt8 × List Int), x.d = .agg [.seq 2 (G.map grD)] ∧ G.length ≤ 140737488351232 ∧ ∀ y ∈ G, y.2.length ≤ 140737488351232 := by
  simp only [DT.ok, DT.oks] at h
  obtain ⟨xs, rfl, y1, ys, rfl, hy, rfl⟩ := h
  obtain ⟨l, rfl, hl, hx⟩ := hy
  obtain ⟨G, rfl, hp⟩ := list_of (f := xG) (p := fun y => y.2.length ≤ 140737488351232) (e := (DT.struct [DT.int .u8, DT.slice 1 8 (DT.int .i64)])) (fun x hx => by
    simp only [DT.ok, DT.oks] at hx
    obtain ⟨xs, rfl, y1, ys1, rfl, h1, y2, ys2, rfl, hy, rfl⟩ := hx
    obtain ⟨c, rfl⟩ := ok_u8 (show DT.ok (.int .u8) y1 from by simp only [DT.ok]; exact h1)
    obtain ⟨ar, rfl, har, hal⟩ := ok_ints (by_ := 8) (x := y2) (by simp only [DT.ok]; exact hy)
    exact ⟨(c, ar), rfl, by simp only; omega⟩) (by simpa only [DT.ok, DT.oks] using hx)
  refine ⟨G, ?_, by simp at hl; omega, hp⟩
  have e : G.map (X.cs ∘ xG) = G.map grD := by
    apply List.map_congr_left
    intro t _
    simp only [Function.comp, xG, X.cs, X.csf, X.css_map, List.map_map, grD]
    rfl
  simp only [X.d, X.cs, X.csf, X.css_map, List.map_map]
  rw [e]
  rfl
theorem d_pair (a b : Int) : (X.agg [xI a, xI b]).d = .agg [i64 a, i64 b] := rfl
theorem PointsMatchReference_walk (x0 : X) (v0 : Value) (x1 : X) (v1 : Value) (x2 : X) (v2 : Value) (w : World) (o0 : DT.ok (DT.struct [DT.slice 2 32 (DT.struct [DT.int .u8, DT.slice 1 8 (DT.int .i64)])]) x0) (i0 : D.is w Heap.none.others x0.d v0) (o1 : DT.ok (DT.array 2 (DT.int .i64)) x1) (i1 : D.is w Heap.none.others x1.d v1) (o2 : DT.ok (DT.int .i64) x2) (i2 : D.is w Heap.none.others x2.d v2) :
    Calls Try.prog 3 #[v0, v1, v2] w fun e w' => e = .returned (.bool true) ∧ Below w.heap.size w w' := by
  obtain ⟨G, hG, hl, har⟩ := ok_graph o0
  obtain ⟨a, b, rfl, _, _⟩ := ok_pair o1
  obtain ⟨p, rfl, hp⟩ := ok_i64 o2
  rw [hG] at i0
  exact walk_of (pmatch_N G a b p hp hl har) ⟨_, _, rfl, i0, _, _, rfl, i1, _, _, rfl, i2, rfl⟩
theorem PointsFlow_walk (x0 : X) (v0 : Value) (x1 : X) (v1 : Value) (w : World) (o0 : DT.ok (DT.struct [DT.slice 2 32 (DT.struct [DT.int .u8, DT.slice 1 8 (DT.int .i64)])]) x0) (i0 : D.is w Heap.none.others x0.d v0) (o1 : DT.ok (DT.int .i64) x1) (i1 : D.is w Heap.none.others x1.d v1) :
    Calls Try.prog 4 #[v0, v1] w fun e w' => e = .returned (.bool true) ∧ Below w.heap.size w w' := by
  obtain ⟨G, hG, hl, har⟩ := ok_graph o0
  obtain ⟨p, rfl, hp⟩ := ok_i64 o1
  rw [hG] at i0
  exact walk_of (pflow_N G p hp hl har) ⟨_, _, rfl, i0, _, _, rfl, i1, rfl⟩
theorem PointsReach_walk (x0 : X) (v0 : Value) (x1 : X) (v1 : Value) (x2 : X) (v2 : Value) (w : World) (o0 : DT.ok (DT.struct [DT.slice 2 32 (DT.struct [DT.int .u8, DT.slice 1 8 (DT.int .i64)])]) x0) (i0 : D.is w Heap.none.others x0.d v0) (o1 : DT.ok (DT.int .i64) x1) (i1 : D.is w Heap.none.others x1.d v1) (o2 : DT.ok (DT.int .i64) x2) (i2 : D.is w Heap.none.others x2.d v2) :
    Calls Try.prog 5 #[v0, v1, v2] w fun e w' => e = .returned (.bool true) ∧ Below w.heap.size w w' := by
  obtain ⟨G, hG, hl, har⟩ := ok_graph o0
  obtain ⟨p, rfl, hp⟩ := ok_i64 o1
  obtain ⟨q, rfl, hq⟩ := ok_i64 o2
  rw [hG] at i0
  exact walk_of (preach_N G p q hp hq hl har) ⟨_, _, rfl, i0, _, _, rfl, i1, _, _, rfl, i2, rfl⟩
theorem PointsInverse_walk (x0 : X) (v0 : Value) (w : World) (o0 : DT.ok (DT.struct [DT.slice 2 32 (DT.struct [DT.int .u8, DT.slice 1 8 (DT.int .i64)])]) x0) (i0 : D.is w Heap.none.others x0.d v0) :
    Calls Try.prog 6 #[v0] w fun e w' => e = .returned (.bool true) ∧ Below w.heap.size w w' := by
  obtain ⟨G, hG, hl, har⟩ := ok_graph o0
  rw [hG] at i0
  exact walk_of (pinv_N G hl har) ⟨_, _, rfl, i0, rfl⟩
theorem PointsEdges_walk (x0 : X) (v0 : Value) (w : World) (o0 : DT.ok (DT.struct [DT.slice 2 32 (DT.struct [DT.int .u8, DT.slice 1 8 (DT.int .i64)])]) x0) (i0 : D.is w Heap.none.others x0.d v0) :
    Calls Try.prog 7 #[v0] w fun e w' => e = .returned (.bool true) ∧ Below w.heap.size w w' := by
  obtain ⟨G, hG, hl, har⟩ := ok_graph o0
  rw [hG] at i0
  exact walk_of (pedges_N G hl har) ⟨_, _, rfl, i0, rfl⟩
theorem PointsTransitive_walk (x0 : X) (v0 : Value) (x1 : X) (v1 : Value) (w : World) (o0 : DT.ok (DT.struct [DT.slice 2 32 (DT.struct [DT.int .u8, DT.slice 1 8 (DT.int .i64)])]) x0) (i0 : D.is w Heap.none.others x0.d v0) (o1 : DT.ok (DT.array 3 (DT.int .u8)) x1) (i1 : D.is w Heap.none.others x1.d v1) :
    Calls Try.prog 8 #[v0, v1] w fun e w' => e = .returned (.bool true) ∧ Below w.heap.size w w' := by
  obtain ⟨G, hG, hl, har⟩ := ok_graph o0
  obtain ⟨a, b, c, rfl⟩ := ok_u8s3 o1
  rw [hG] at i0
  exact walk_of (ptrans_N G a b c hl har) ⟨_, _, rfl, i0, _, _, rfl, i1, rfl⟩
end Go.Proofs.Ytdbeimlancnncaa
