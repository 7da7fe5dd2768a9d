/- Lemmas and contracts of functions, several texts in one: P4 PE EQ. -/
import Derived.Test.YtdbeimlancnncaaGPA
import Derived.Test.YtdbeimlancnncaaGY
import Derived.Test.YtdbeimlancnncaaGIB
import Derived.ChangeKeysEq
import Derived.Laws.StructEq
/- package points: starts, Count, Locate. -/
namespace Go.Proofs.Ytdbeimlancnncaa
open Go.RowKit
set_option linter.unusedVariables false
set_option maxRecDepth 100000
set_option linter.unusedSimpArgs false
def stP (G : Gr) (n : Nat) : List Int := (List.range n).map fun (j : Nat) => (fstG G j : Int)
theorem stP_len (G : Gr) (n : Nat) : (stP G n).length = n := by unfold stP; simp
theorem stP_get (G : Gr) (n i : Nat) (h : i < n) : (stP G n)[i]'(by rw [stP_len]; exact h) = (fstG G i : Int) := by simp only [stP, List.getElem_map, List.getElem_range]
theorem stP_succ (G : Gr) (n : Nat) : stP G (n + 1) = stP G n ++ [(fstG G n : Int)] := by unfold stP; rw [List.range_succ, List.map_append]; rfl
theorem stP_cell (G : Gr) {n i : Nat} (h : i < n) : ((stP G n).map iD)[i]? = some [.val (.int .i64 (fstG G i))] := by
  rw [get_ints (by rw [stP_len]; exact h), stP_get G n i h]
def SaI (b : GBdy) (H : Heap) (i : Nat) (s : St) : Prop := s.df = [] ∧ s.fr 8 = .seq 7 (b.bl.map gbkD) ∧ s.fr 9 = i64 b.bl.length ∧ s.fr 10 = i64 i ∧ H.le s.H ∧ ∃ c o, s.fr 3 = .os c o 1 0 (i + 1) ∧ H c = none ∧ s.H c = some (.row 3 o 1 ((stP b.g (i + 1)).map iD))
set_option maxHeartbeats 1000000 in
theorem startsR_N (b : GBdy) (H : Heap) (hc : cntG b.g ≤ 1000000) : Does Try.prog 27 [.agg (gbdD b)] H fun d H' => ∃ c o, d = .os c o 1 0 (b.bl.length + 1) ∧ H c = none ∧ H' c = some (.row 3 o 1 ((stP b.g (b.bl.length + 1)).map iD)) ∧ H.le H' := by
  have hbl := bl_len b
  have hsm := bl_small hc
  refine does_of _ _ Try.func27 rfl rfl Try.ntmps27 Try.results27 (by simp only [List.length_cons, List.length_nil]; omega) fun w0 Q hret => ?_
  (have fs := And.intro @i64.eq_1 @gbdD.eq_1; (repeat (first | refine hGx _ ?_ | refine hNx _ ?_ | refine W_skip ?_ | refine W_exit ?_ | refine W_ret ?_ | refine W_label ?_ | refine W_scope ?_ | refine W_block ?_ | refine W_seq ?_ | ((first | refine tS fun N hNx => ?_ | refine WL_gE rfl rfl (by kernel_rfl) (by kernel_rfl) fun G hGx => ?_ | refine vcOpsS_sound (by kernel_rfl) ?_ | refine W_ifE fun A B hAx hBx => ?_); refine evT ?_; (first | refine hGx _ ?_ | refine hNx _ ?_ | refine hAx ?_ | refine hBx ?_ | skip)))); (try clear fs))
  intro c1 hc1
  refine hNx _ ?_
  refine W_frzp 1 rfl (Heap.upd_same _ _ _) rfl ?_; simp only [St.frzp, put_H, wdf_H, withH_H, withH_put, wdf_withH, withH_withH, init_H, init_withH, Heap.del_upd_same, Heap.del_none hc1, withH_self]
  (have fs := And.intro @i64.eq_1 hbl; (repeat (first | refine hGx _ ?_ | refine hNx _ ?_ | refine W_skip ?_ | refine W_exit ?_ | refine W_ret ?_ | refine W_label ?_ | refine W_scope ?_ | refine W_block ?_ | refine W_seq ?_ | ((first | refine tT fun N hNx => ?_ | refine WL_gO rfl rfl (by kernel_rfl) (by kernel_rfl) fun G hGx => ?_ | refine vcOpsT_sound (by kernel_rfl) ?_ | refine W_ifE fun A B hAx hBx => ?_); refine evT ?_; (first | refine hGx _ ?_ | refine hNx _ ?_ | refine hAx ?_ | refine hBx ?_ | skip)))); (try clear fs))
  intro c hc3
  (have fs := And.intro @i64.eq_1 hbl; (repeat (first | refine hGx _ ?_ | refine hNx _ ?_ | refine W_skip ?_ | refine W_exit ?_ | refine W_ret ?_ | refine W_label ?_ | refine W_scope ?_ | refine W_block ?_ | refine W_seq ?_ | ((first | refine tS fun N hNx => ?_ | refine WL_gE rfl rfl (by kernel_rfl) (by kernel_rfl) fun G hGx => ?_ | refine vcOpsS_sound (by kernel_rfl) ?_ | refine W_ifE fun A B hAx hBx => ?_); refine evT ?_; (first | refine hGx _ ?_ | refine hNx _ ?_ | refine hAx ?_ | refine hBx ?_ | skip)))); (try clear fs))
  refine W_loopN b.bl.length (SaI b H) ⟨rfl, rfl, rfl, rfl, Heap.le_put (Heap.le_refl _) hc3, c, 0, rfl, hc3, Heap.upd_same _ _ _⟩ ?_
  rintro i s hi ⟨hdf, f8, f9, f10, hle, c2, o2, f3, hc20, hHc⟩
  have hx : (i : Int).toNat = i := Int.toNat_natCast _
  have h00 : (0 : Int) ≤ (i : Int) := Int.natCast_nonneg _
  by_cases hil : i < b.bl.length
  case neg =>
    have q1 : ((i : Int) < (b.bl.length : Int)) = False := eq_false (by omega)
    have e : i = b.bl.length := by omega
    subst e
    (have fs := And.intro f3 (And.intro f9 (And.intro f10 (And.intro @i64.eq_1 q1))); (repeat (first | refine hGx _ ?_ | refine hNx _ ?_ | refine W_skip ?_ | refine W_exit ?_ | refine W_ret ?_ | refine W_label ?_ | refine W_scope ?_ | refine W_block ?_ | refine W_seq ?_ | ((first | refine tS fun N hNx => ?_ | refine WL_gE rfl rfl (by kernel_rfl) (by kernel_rfl) fun G hGx => ?_ | refine vcOpsS_sound (by kernel_rfl) ?_ | refine W_ifE fun A B hAx hBx => ?_); refine evT ?_; (first | refine hGx _ ?_ | refine hNx _ ?_ | refine hAx ?_ | refine hBx ?_ | skip)))); (try clear fs))
    (first | (show Q .ret _) | (show Q .normal _) | skip); refine hret _ _ (by first | exact .inr rfl | exact .inl rfl) (by first | rfl | assumption | (simp only [put_df, withH_df]; assumption)) ?_; have fs := hdf; refine evT ?_; clear fs
    exact ⟨_, Heap.le_refl _, c2, o2, rfl, hc20, hHc, hle⟩
  have q1 : ((i : Int) < (b.bl.length : Int)) = True := eq_true (by omega)
  have hil' : (i : Int) < b.bl.length := by omega
  have hgi := blk_get hil
  have hst := st_small hc hil
  have hnx := fst_next b hil
  obtain ⟨x, hxe⟩ : ∃ x, x = b.bl[i] := ⟨_, rfl⟩
  rw [← hxe] at hgi hst hnx
  simp only [gbkD] at hgi
  have w1 : IntKind.i64.wrap ((fstG b.g i : Int) + (x.st.length : Int)) = ((fstG b.g i + x.st.length : Nat) : Int) := by rw [wrap_i64_of (by omega)]; omega
  have w2 : IntKind.i64.wrap (((fstG b.g i + x.st.length : Nat) : Int) + 1) = ((fstG b.g (i + 1) : Nat) : Int) := by rw [wrap_i64_of (by omega)]; omega
  have w3 : IntKind.i64.wrap ((i : Int) + 1) = ((i + 1 : Nat) : Int) := by rw [wrap_i64_of (by omega)]; omega
  have hgc := stP_cell b.g (show i < i + 1 by omega)
  (have fs := And.intro f8 (And.intro f9 (And.intro f10 (And.intro @i64.eq_1 (And.intro q1 (And.intro hgi (And.intro hx (And.intro h00 (And.intro hil (And.intro hil' hbl))))))))); (repeat (first | refine hGx _ ?_ | refine hNx _ ?_ | refine W_skip ?_ | refine W_exit ?_ | refine W_ret ?_ | refine W_label ?_ | refine W_scope ?_ | refine W_block ?_ | refine W_seq ?_ | ((first | refine tS fun N hNx => ?_ | refine WL_gE rfl rfl (by kernel_rfl) (by kernel_rfl) fun G hGx => ?_ | refine vcOpsS_sound (by kernel_rfl) ?_ | refine W_ifE fun A B hAx hBx => ?_); refine evT ?_; (first | refine hGx _ ?_ | refine hNx _ ?_ | refine hAx ?_ | refine hBx ?_ | skip)))); (try clear fs))
  intro c5 hc5
  refine hNx _ ?_
  refine W_frzp 5 rfl (Heap.upd_same _ _ _) rfl ?_; simp only [St.frzp, put_H, wdf_H, withH_H, withH_put, wdf_withH, withH_withH, init_H, init_withH, Heap.del_upd_same, Heap.del_none hc5, withH_self]
  have hgl : Gl H 3 1 ((stP b.g (i + 1)).map iD) (.os c2 o2 1 0 (i + 1)) s.H (some c2) := .inr ⟨c2, o2, rfl, by rw [List.length_map, stP_len], hc20, hHc⟩
  refine W_wildE (fun _ => false) (fun _ => false) (fun _ _ _ _ => False) (fun _ _ _ _ _ => False) (by kernel_rfl) (by kernel_rfl) (by kernel_rfl) (by kernel_rfl) (by kernel_rfl) fun N hNx => ?_; refine vcWS_to ?_; have fs := And.intro f3 (And.intro @i64.eq_1 (And.intro hHc (And.intro hgc (And.intro hx (And.intro h00 (And.intro w1 w2)))))); refine evD ?_; (first | refine hGx _ ?_ | refine hNx _ ?_ | skip); (try clear fs)
  refine ⟨by omega, ?_⟩
  refine apV_grow (e := 3) ty43 rfl ty43 rfl ty3 rfl (by decide) hle hgl (new := [iD (fstG b.g (i + 1) : Int)]) (by exact ⟨rfl, rfl⟩) (by rw [List.length_map, stP_len]; show (_ + 1) * 8 ≤ _; omega) fun d H6 ob6 hg6 hle6 hp6 => ?_
  rw [show [iD (fstG b.g (i + 1) : Int)] = [(fstG b.g (i + 1) : Int)].map iD from rfl, ← List.map_append, ← stP_succ] at hg6
  have hg7 : ∃ c o, d = .os c o 1 0 (i + 1 + 1) ∧ H c = none ∧ H6 c = some (.row 3 o 1 ((stP b.g (i + 1 + 1)).map iD)) := by
    rcases hg6 with ⟨_, _, h⟩ | ⟨c, o, _, h1, h2, h3⟩
    · have := congrArg List.length h; rw [List.length_map, stP_len] at this; simp at this
    · exact ⟨c, o, by rw [h1, List.length_map, stP_len], h2, h3⟩
  (have fs := And.intro f10 (And.intro @i64.eq_1 w3); (repeat (first | refine hGx _ ?_ | refine hNx _ ?_ | refine W_skip ?_ | refine W_exit ?_ | refine W_ret ?_ | refine W_label ?_ | refine W_scope ?_ | refine W_block ?_ | refine W_seq ?_ | ((first | refine tS fun N hNx => ?_ | refine WL_gE rfl rfl (by kernel_rfl) (by kernel_rfl) fun G hGx => ?_ | refine vcOpsS_sound (by kernel_rfl) ?_ | refine W_ifE fun A B hAx hBx => ?_); refine evT ?_; (first | refine hGx _ ?_ | refine hNx _ ?_ | refine hAx ?_ | refine hBx ?_ | skip)))); (try clear fs))
  exact ⟨hil, hdf, f8, f9, rfl, hle6, hg7⟩
theorem starts_N (b : GBdy) (H : Heap) (hc : cntG b.g ≤ 1000000) : Does Try.prog 27 [.agg (gbdD b)] H fun d H' => d = .seq 1 ((stP b.g (b.bl.length + 1)).map iD) ∧ H = H' :=
  Does.frz (K := fun d => d = .seq 1 ((stP b.g (b.bl.length + 1)).map iD)) ((startsR_N b H hc).mono fun d H' ⟨c, o, h1, h2, h3, h4⟩ => ⟨h4, _, frz_gl (ob := some c) h4 (.inr ⟨c, o, rfl, by rw [h1, List.length_map, stP_len], h2, h3⟩), rfl⟩)
set_option maxHeartbeats 1000000 in
theorem count_N (b : GBdy) (H : Heap) (hc : cntG b.g ≤ 1000000) : Does Try.prog 15 [.agg (gbdD b)] H fun d H' => d = i64 (cntG b.g) ∧ H = H' := by
  have hsm := bl_small hc
  refine does_of _ _ Try.func15 rfl rfl Try.ntmps15 Try.results15 (by simp only [List.length_cons, List.length_nil]; omega) fun w0 Q hret => ?_
  (have fs := And.intro @i64.eq_1 @gbdD.eq_1; (repeat (first | refine hGx _ ?_ | refine hNx _ ?_ | refine W_skip ?_ | refine W_exit ?_ | refine W_ret ?_ | refine W_label ?_ | refine W_scope ?_ | refine W_block ?_ | refine W_seq ?_ | ((first | refine tS fun N hNx => ?_ | refine WL_gE rfl rfl (by kernel_rfl) (by kernel_rfl) fun G hGx => ?_ | refine vcOpsS_sound (by kernel_rfl) ?_ | refine W_ifE fun A B hAx hBx => ?_); refine evT ?_; (first | refine hGx _ ?_ | refine hNx _ ?_ | refine hAx ?_ | refine hBx ?_ | skip)))); (try clear fs))
  intro c1 hc1
  refine hNx _ ?_
  refine W_frzp 1 rfl (Heap.upd_same _ _ _) rfl ?_; simp only [St.frzp, put_H, wdf_H, withH_H, withH_put, wdf_withH, withH_withH, init_H, init_withH, Heap.del_upd_same, Heap.del_none hc1, withH_self]
  (have fs := @i64.eq_1; (repeat (first | refine hGx _ ?_ | refine hNx _ ?_ | refine W_skip ?_ | refine W_exit ?_ | refine W_ret ?_ | refine W_label ?_ | refine W_scope ?_ | refine W_block ?_ | refine W_seq ?_ | ((first | refine tS fun N hNx => ?_ | refine WL_gE rfl rfl (by kernel_rfl) (by kernel_rfl) fun G hGx => ?_ | refine vcOpsS_sound (by kernel_rfl) ?_ | refine W_ifE fun A B hAx hBx => ?_); refine evT ?_; (first | refine hGx _ ?_ | refine hNx _ ?_ | refine hAx ?_ | refine hBx ?_ | skip)))); (try clear fs))
  refine (starts_N b _ hc).mono ?_
  rintro d _ ⟨rfl, rfl⟩
  have hll : (List.map iD (stP b.g (b.bl.length + 1))).length = b.bl.length + 1 := by rw [List.length_map, stP_len]
  have w1 : IntKind.i64.wrap (((b.bl.length + 1 : Nat) : Int) - 1) = (b.bl.length : Int) := by rw [wrap_i64_of (by omega)]; omega
  have hg := stP_cell b.g (show b.bl.length < b.bl.length + 1 by omega)
  have e : fstG b.g b.bl.length = cntG b.g := fstG_ge (by rw [b.g_len]; exact Nat.le_refl _)
  rw [e] at hg
  have hx : (b.bl.length : Int).toNat = b.bl.length := Int.toNat_natCast _
  have h00 : (0 : Int) ≤ (b.bl.length : Int) := Int.natCast_nonneg _
  have hlt : (b.bl.length : Int) < ((b.bl.length + 1 : Nat) : Int) := by omega
  (have fs := And.intro @i64.eq_1 (And.intro hll (And.intro w1 (And.intro hg (And.intro hx (And.intro h00 hlt))))); (repeat (first | refine hGx _ ?_ | refine hNx _ ?_ | refine W_skip ?_ | refine W_exit ?_ | refine W_ret ?_ | refine W_label ?_ | refine W_scope ?_ | refine W_block ?_ | refine W_seq ?_ | ((first | refine tS fun N hNx => ?_ | refine WL_gE rfl rfl (by kernel_rfl) (by kernel_rfl) fun G hGx => ?_ | refine vcOpsS_sound (by kernel_rfl) ?_ | refine W_ifE fun A B hAx hBx => ?_); refine evT ?_; (first | refine hGx _ ?_ | refine hNx _ ?_ | refine hAx ?_ | refine hBx ?_ | skip)))); (try clear fs))
  (first | (show Q .ret _) | (show Q .normal _) | skip); refine hret _ _ (by first | exact .inr rfl | exact .inl rfl) (by first | rfl | assumption | (simp only [put_df, withH_df]; assumption)) ?_; have fs := @i64.eq_1; refine evT ?_; clear fs
  exact ⟨_, Heap.le_refl _, rfl⟩
set_option maxHeartbeats 1000000 in
theorem loc_N (b : GBdy) (p : Int) (H : Heap) (hc : cntG b.g ≤ 1000000) (hp : p ≤ 9223372036854775807) : Does Try.prog 13 [.agg (gbdD b), i64 p] H fun d H' => d = locD b.g p ∧ H = H' := by
  have hbl := bl_len b
  have hsm := bl_small hc
  refine does_of _ _ Try.func13 rfl rfl Try.ntmps13 Try.results13 (by simp only [List.length_cons, List.length_nil]; omega) fun w0 Q hret => ?_
  (have fs := And.intro @i64.eq_1 @gbdD.eq_1; (repeat (first | refine hGx _ ?_ | refine hNx _ ?_ | refine W_skip ?_ | refine W_exit ?_ | refine W_ret ?_ | refine W_label ?_ | refine W_scope ?_ | refine W_block ?_ | refine W_seq ?_ | ((first | refine tS fun N hNx => ?_ | refine WL_gE rfl rfl (by kernel_rfl) (by kernel_rfl) fun G hGx => ?_ | refine vcOpsS_sound (by kernel_rfl) ?_ | refine W_ifE fun A B hAx hBx => ?_); refine evT ?_; (first | refine hGx _ ?_ | refine hNx _ ?_ | refine hAx ?_ | refine hBx ?_ | skip)))); (try clear fs))
  intro c2 hc2
  refine hNx _ ?_
  refine W_frzp 2 rfl (Heap.upd_same _ _ _) rfl ?_; simp only [St.frzp, put_H, wdf_H, withH_H, withH_put, wdf_withH, withH_withH, init_H, init_withH, Heap.del_upd_same, Heap.del_none hc2, withH_self]
  by_cases hp0 : p < 0
  · have q1 : (p < 0) = True := eq_true hp0
    have e : locD b.g p = _ := locD_no fun h => by omega
    (have fs := And.intro @i64.eq_1 q1; (repeat (first | refine hGx _ ?_ | refine hNx _ ?_ | refine W_skip ?_ | refine W_exit ?_ | refine W_ret ?_ | refine W_label ?_ | refine W_scope ?_ | refine W_block ?_ | refine W_seq ?_ | ((first | refine tS fun N hNx => ?_ | refine WL_gE rfl rfl (by kernel_rfl) (by kernel_rfl) fun G hGx => ?_ | refine vcOpsS_sound (by kernel_rfl) ?_ | refine W_ifE fun A B hAx hBx => ?_); refine evT ?_; (first | refine hGx _ ?_ | refine hNx _ ?_ | refine hAx ?_ | refine hBx ?_ | skip)))); (try clear fs))
    (first | (show Q .ret _) | (show Q .normal _) | skip); refine hret _ _ (by first | exact .inr rfl | exact .inl rfl) (by first | rfl | assumption | (simp only [put_df, withH_df]; assumption)) ?_; have fs := @i64.eq_1; refine evT ?_; clear fs
    exact ⟨_, Heap.le_refl _, e.symm, rfl⟩
  have q1 : (p < 0) = False := eq_false hp0
  (have fs := And.intro @i64.eq_1 (And.intro q1 hbl); (repeat (first | refine hGx _ ?_ | refine hNx _ ?_ | refine W_skip ?_ | refine W_exit ?_ | refine W_ret ?_ | refine W_label ?_ | refine W_scope ?_ | refine W_block ?_ | refine W_seq ?_ | ((first | refine tS fun N hNx => ?_ | refine WL_gE rfl rfl (by kernel_rfl) (by kernel_rfl) fun G hGx => ?_ | refine vcOpsS_sound (by kernel_rfl) ?_ | refine W_ifE fun A B hAx hBx => ?_); refine evT ?_; (first | refine hGx _ ?_ | refine hNx _ ?_ | refine hAx ?_ | refine hBx ?_ | skip)))); (try clear fs))
  refine W_loopN b.bl.length (fun i s => s.df = [] ∧ s.fr 1 = i64 (p - fstG b.g i) ∧ s.fr 12 = .seq 7 (b.bl.map gbkD) ∧ s.fr 13 = i64 b.bl.length ∧ s.fr 14 = i64 i ∧ s.H = H ∧ (fstG b.g i : Int) ≤ p) ⟨rfl, by rw [fstG_zero]; simp; rfl, rfl, rfl, rfl, rfl, by rw [fstG_zero]; omega⟩ ?_
  rintro i s hi ⟨hdf, f1, f12, f13, f14, hH, hin⟩
  have hx : (i : Int).toNat = i := Int.toNat_natCast _
  have h00 : (0 : Int) ≤ (i : Int) := Int.natCast_nonneg _
  by_cases hil : i < b.bl.length
  case neg =>
    have q2 : ((i : Int) < (b.bl.length : Int)) = False := eq_false (by omega)
    have e : locD b.g p = _ := locD_no fun h => by
      rw [fstG_ge (by rw [b.g_len]; omega)] at hin
      omega
    (have fs := And.intro f13 (And.intro f14 (And.intro @i64.eq_1 q2)); (repeat (first | refine hGx _ ?_ | refine hNx _ ?_ | refine W_skip ?_ | refine W_exit ?_ | refine W_ret ?_ | refine W_label ?_ | refine W_scope ?_ | refine W_block ?_ | refine W_seq ?_ | ((first | refine tS fun N hNx => ?_ | refine WL_gE rfl rfl (by kernel_rfl) (by kernel_rfl) fun G hGx => ?_ | refine vcOpsS_sound (by kernel_rfl) ?_ | refine W_ifE fun A B hAx hBx => ?_); refine evT ?_; (first | refine hGx _ ?_ | refine hNx _ ?_ | refine hAx ?_ | refine hBx ?_ | skip)))); (try clear fs))
    (first | (show Q .ret _) | (show Q .normal _) | skip); refine hret _ _ (by first | exact .inr rfl | exact .inl rfl) (by first | rfl | assumption | (simp only [put_df, withH_df]; assumption)) ?_; have fs := hdf; refine evT ?_; clear fs
    exact ⟨_, Heap.le_refl _, e.symm, hH.symm⟩
  have q2 : ((i : Int) < (b.bl.length : Int)) = True := eq_true (by omega)
  have hil' : (i : Int) < b.bl.length := by omega
  have hgi := blk_get hil
  have hst := st_small hc hil
  have hnx := fst_next b hil
  have hat := fun k => (at_b (b := b) (p := p) (i := i) (k := k)).2
  obtain ⟨x, hxe⟩ : ∃ x, x = b.bl[i] := ⟨_, rfl⟩
  rw [← hxe] at hgi hst hnx
  simp only [gbkD] at hgi
  have w3 : IntKind.i64.wrap ((i : Int) + 1) = ((i + 1 : Nat) : Int) := by rw [wrap_i64_of (by omega)]; omega
  have w1 : IntKind.i64.wrap ((x.st.length : Int) + 1) = (x.st.length : Int) + 1 := by rw [wrap_i64_of (by omega)]
  have w2 : IntKind.i64.wrap (p - (fstG b.g i : Int) - ((x.st.length : Int) + 1)) = p - ((fstG b.g (i + 1) : Nat) : Int) := by rw [wrap_i64_of (by omega)]; omega
  by_cases h5 : p - (fstG b.g i : Int) ≤ x.st.length
  · have q5 : (p - (fstG b.g i : Int) ≤ (x.st.length : Int)) = True := eq_true h5
    have e : locD b.g p = _ := locD_at (hat (p - (fstG b.g i : Int)).toNat ⟨hil, by rw [← hxe]; omega, by omega⟩)
    have e2 : (((p - (fstG b.g i : Int)).toNat : Nat) : Int) = p - (fstG b.g i : Int) := by omega
    rw [e2] at e
    (have fs := And.intro f12 (And.intro f13 (And.intro f14 (And.intro @i64.eq_1 (And.intro q2 (And.intro hgi (And.intro hx (And.intro h00 (And.intro hil (And.intro hil' hbl))))))))); (repeat (first | refine hGx _ ?_ | refine hNx _ ?_ | refine W_skip ?_ | refine W_exit ?_ | refine W_ret ?_ | refine W_label ?_ | refine W_scope ?_ | refine W_block ?_ | refine W_seq ?_ | ((first | refine tS fun N hNx => ?_ | refine WL_gE rfl rfl (by kernel_rfl) (by kernel_rfl) fun G hGx => ?_ | refine vcOpsS_sound (by kernel_rfl) ?_ | refine W_ifE fun A B hAx hBx => ?_); refine evT ?_; (first | refine hGx _ ?_ | refine hNx _ ?_ | refine hAx ?_ | refine hBx ?_ | skip)))); (try clear fs))
    intro c5 hc5
    refine hNx _ ?_
    refine W_frzp 8 rfl (Heap.upd_same _ _ _) rfl ?_; simp only [St.frzp, put_H, wdf_H, withH_H, withH_put, wdf_withH, withH_withH, init_H, init_withH, Heap.del_upd_same, Heap.del_none hc5, withH_self]
    (have fs := And.intro f1 (And.intro @i64.eq_1 q5); (repeat (first | refine hGx _ ?_ | refine hNx _ ?_ | refine W_skip ?_ | refine W_exit ?_ | refine W_ret ?_ | refine W_label ?_ | refine W_scope ?_ | refine W_block ?_ | refine W_seq ?_ | ((first | refine tS fun N hNx => ?_ | refine WL_gE rfl rfl (by kernel_rfl) (by kernel_rfl) fun G hGx => ?_ | refine vcOpsS_sound (by kernel_rfl) ?_ | refine W_ifE fun A B hAx hBx => ?_); refine evT ?_; (first | refine hGx _ ?_ | refine hNx _ ?_ | refine hAx ?_ | refine hBx ?_ | skip)))); (try clear fs))
    (first | (show Q .ret _) | (show Q .normal _) | skip); refine hret _ _ (by first | exact .inr rfl | exact .inl rfl) (by first | rfl | assumption | (simp only [put_df, withH_df]; assumption)) ?_; have fs := hdf; refine evT ?_; clear fs
    exact ⟨_, Heap.le_refl _, e.symm, hH.symm⟩
  · have q5 : (p - (fstG b.g i : Int) ≤ (x.st.length : Int)) = False := eq_false h5
    (have fs := And.intro f12 (And.intro f13 (And.intro f14 (And.intro @i64.eq_1 (And.intro q2 (And.intro hgi (And.intro hx (And.intro h00 (And.intro hil (And.intro hil' hbl))))))))); (repeat (first | refine hGx _ ?_ | refine hNx _ ?_ | refine W_skip ?_ | refine W_exit ?_ | refine W_ret ?_ | refine W_label ?_ | refine W_scope ?_ | refine W_block ?_ | refine W_seq ?_ | ((first | refine tS fun N hNx => ?_ | refine WL_gE rfl rfl (by kernel_rfl) (by kernel_rfl) fun G hGx => ?_ | refine vcOpsS_sound (by kernel_rfl) ?_ | refine W_ifE fun A B hAx hBx => ?_); refine evT ?_; (first | refine hGx _ ?_ | refine hNx _ ?_ | refine hAx ?_ | refine hBx ?_ | skip)))); (try clear fs))
    intro c5 hc5
    refine hNx _ ?_
    refine W_frzp 8 rfl (Heap.upd_same _ _ _) rfl ?_; simp only [St.frzp, put_H, wdf_H, withH_H, withH_put, wdf_withH, withH_withH, init_H, init_withH, Heap.del_upd_same, Heap.del_none hc5, withH_self]
    (have fs := And.intro f1 (And.intro f14 (And.intro @i64.eq_1 (And.intro q5 (And.intro w1 (And.intro w2 w3))))); (repeat (first | refine hGx _ ?_ | refine hNx _ ?_ | refine W_skip ?_ | refine W_exit ?_ | refine W_ret ?_ | refine W_label ?_ | refine W_scope ?_ | refine W_block ?_ | refine W_seq ?_ | ((first | refine tS fun N hNx => ?_ | refine WL_gE rfl rfl (by kernel_rfl) (by kernel_rfl) fun G hGx => ?_ | refine vcOpsS_sound (by kernel_rfl) ?_ | refine W_ifE fun A B hAx hBx => ?_); refine evT ?_; (first | refine hGx _ ?_ | refine hNx _ ?_ | refine hAx ?_ | refine hBx ?_ | skip)))); (try clear fs))
    exact ⟨hil, hdf, rfl, f12, f13, rfl, hH, by omega⟩
end Go.Proofs.Ytdbeimlancnncaa
/- slices.Equal of numbers; lists in ascending order. -/
namespace Go.Proofs.Ytdbeimlancnncaa
open Go.RowKit
set_option linter.unusedVariables false
set_option maxRecDepth 100000
set_option linter.unusedSimpArgs false
def EqI (l m : List Int) (i : Nat) (s : St) : Prop := s.df = [] ∧ s.fr 0 = .seq 1 (l.map iD) ∧ s.fr 1 = .seq 1 (m.map iD) ∧ s.fr 12 = i64 l.length ∧ s.fr 13 = i64 i ∧ s.H = Heap.none ∧ l.take i = m.take i
theorem equalI_N (l m : List Int) (hl : l.length ≤ 140737488351232) : Does Try.prog 17 [.seq 1 (l.map iD), .seq 1 (m.map iD)] .none fun d _ => d = .val (.bool (decide (l = m))) := by
  have hll : (List.map iD l).length = l.length := List.length_map _
  have hml : (List.map iD m).length = m.length := List.length_map _
  refine does_of _ _ Try.func17 rfl rfl Try.ntmps17 Try.results17 (by simp only [List.length_cons, List.length_nil]; omega) fun w0 Q hret => ?_
  by_cases hlm : l.length = m.length
  case neg =>
    have q : ((l.length : Int) = (m.length : Int)) = False := eq_false (by omega)
    (have fs := And.intro @i64.eq_1 (And.intro hll (And.intro hml q)); (repeat (first | refine hGx _ ?_ | refine hNx _ ?_ | refine W_skip ?_ | refine W_exit ?_ | refine W_ret ?_ | refine W_label ?_ | refine W_scope ?_ | refine W_block ?_ | refine W_seq ?_ | ((first | refine tS fun N hNx => ?_ | refine WL_gE rfl rfl (by kernel_rfl) (by kernel_rfl) fun G hGx => ?_ | refine vcOpsS_sound (by kernel_rfl) ?_ | refine W_ifE fun A B hAx hBx => ?_); refine evT ?_; (first | refine hGx _ ?_ | refine hNx _ ?_ | refine hAx ?_ | refine hBx ?_ | skip)))); (try clear fs))
    (first | (show Q .ret _) | (show Q .normal _) | skip); refine hret _ _ (by first | exact .inr rfl | exact .inl rfl) (by first | rfl | assumption | (simp only [put_df, withH_df]; assumption)) ?_; have fs := @i64.eq_1; refine evT ?_; clear fs
    exact ⟨_, Heap.le_refl _, by rw [decide_eq_false fun e => hlm (by rw [e])]⟩
  have q : ((l.length : Int) = (m.length : Int)) = True := eq_true (by omega)
  have hmm : (m.length : Int) = (l.length : Int) := by omega
  (have fs := And.intro @i64.eq_1 (And.intro hll (And.intro hml q)); (repeat (first | refine hGx _ ?_ | refine hNx _ ?_ | refine W_skip ?_ | refine W_exit ?_ | refine W_ret ?_ | refine W_label ?_ | refine W_scope ?_ | refine W_block ?_ | refine W_seq ?_ | ((first | refine tS fun N hNx => ?_ | refine WL_gE rfl rfl (by kernel_rfl) (by kernel_rfl) fun G hGx => ?_ | refine vcOpsS_sound (by kernel_rfl) ?_ | refine W_ifE fun A B hAx hBx => ?_); refine evT ?_; (first | refine hGx _ ?_ | refine hNx _ ?_ | refine hAx ?_ | refine hBx ?_ | skip)))); (try clear fs))
  refine W_loopN l.length (EqI l m) ⟨rfl, rfl, rfl, rfl, rfl, rfl, by simp⟩ ?_
  rintro i s hi ⟨hdf, f0, f1, f12, f13, hH, htk⟩
  have hx : (i : Int).toNat = i := Int.toNat_natCast _
  have h00 : (0 : Int) ≤ (i : Int) := Int.natCast_nonneg _
  by_cases hil : i < l.length
  case neg =>
    have q1 : ((i : Int) < (l.length : Int)) = False := eq_false (by omega)
    rw [List.take_of_length_le (by omega), List.take_of_length_le (by omega)] at htk
    (have fs := And.intro f12 (And.intro f13 (And.intro @i64.eq_1 q1)); (repeat (first | refine hGx _ ?_ | refine hNx _ ?_ | refine W_skip ?_ | refine W_exit ?_ | refine W_ret ?_ | refine W_label ?_ | refine W_scope ?_ | refine W_block ?_ | refine W_seq ?_ | ((first | refine tS fun N hNx => ?_ | refine WL_gE rfl rfl (by kernel_rfl) (by kernel_rfl) fun G hGx => ?_ | refine vcOpsS_sound (by kernel_rfl) ?_ | refine W_ifE fun A B hAx hBx => ?_); refine evT ?_; (first | refine hGx _ ?_ | refine hNx _ ?_ | refine hAx ?_ | refine hBx ?_ | skip)))); (try clear fs))
    (first | (show Q .ret _) | (show Q .normal _) | skip); refine hret _ _ (by first | exact .inr rfl | exact .inl rfl) (by first | rfl | assumption | (simp only [put_df, withH_df]; assumption)) ?_; have fs := hdf; refine evT ?_; clear fs
    exact ⟨_, Heap.le_refl _, by rw [decide_eq_true htk]⟩
  have q1 : ((i : Int) < (l.length : Int)) = True := eq_true (by omega)
  have him : i < m.length := by omega
  have hgi := get_ints hil
  have hgm := get_ints him
  have w3 : IntKind.i64.wrap ((i : Int) + 1) = ((i + 1 : Nat) : Int) := by rw [wrap_i64_of (by omega)]; omega
  by_cases h2 : l[i] = m[i]
  · have q2 : (l[i] = m[i]) = True := eq_true h2
    (have fs := And.intro f12 (And.intro f13 (And.intro @i64.eq_1 q1)); (repeat (first | refine hGx _ ?_ | refine hNx _ ?_ | refine W_skip ?_ | refine W_exit ?_ | refine W_ret ?_ | refine W_label ?_ | refine W_scope ?_ | refine W_block ?_ | refine W_seq ?_ | ((first | refine tS fun N hNx => ?_ | refine WL_gE rfl rfl (by kernel_rfl) (by kernel_rfl) fun G hGx => ?_ | refine vcOpsS_sound (by kernel_rfl) ?_ | refine W_ifE fun A B hAx hBx => ?_); refine evT ?_; (first | refine hGx _ ?_ | refine hNx _ ?_ | refine hAx ?_ | refine hBx ?_ | skip)))); (try clear fs))
    refine W_drawE (fun _ _ _ _ => False) (by kernel_rfl) (by kernel_rfl) (by kernel_rfl) fun N hNx => ?_; (have fs := And.intro f0 (And.intro f1 (And.intro @i64.eq_1 (And.intro hll (And.intro hml (And.intro hgi (And.intro hgm (And.intro hx (And.intro h00 (And.intro hil (And.intro him q2)))))))))); (repeat ((first | refine vcD_g rfl rfl fun G hGx => ?_ | refine vcDS_to ?_); refine evD ?_; (first | refine hGx _ ?_ | refine hNx _ ?_ | skip))); (try clear fs))
    (have fs := And.intro f13 (And.intro @i64.eq_1 (And.intro w3 q2)); (repeat (first | refine hGx _ ?_ | refine hNx _ ?_ | refine W_skip ?_ | refine W_exit ?_ | refine W_ret ?_ | refine W_label ?_ | refine W_scope ?_ | refine W_block ?_ | refine W_seq ?_ | ((first | refine tS fun N hNx => ?_ | refine WL_gE rfl rfl (by kernel_rfl) (by kernel_rfl) fun G hGx => ?_ | refine vcOpsS_sound (by kernel_rfl) ?_ | refine W_ifE fun A B hAx hBx => ?_); refine evT ?_; (first | refine hGx _ ?_ | refine hNx _ ?_ | refine hAx ?_ | refine hBx ?_ | skip)))); (try clear fs))
    refine ⟨hil, hdf, f0, f1, f12, rfl, hH, ?_⟩
    rw [List.take_succ_eq_append_getElem hil, List.take_succ_eq_append_getElem him, htk, h2]
  · have q2 : (l[i] = m[i]) = False := eq_false h2
    (have fs := And.intro f12 (And.intro f13 (And.intro @i64.eq_1 q1)); (repeat (first | refine hGx _ ?_ | refine hNx _ ?_ | refine W_skip ?_ | refine W_exit ?_ | refine W_ret ?_ | refine W_label ?_ | refine W_scope ?_ | refine W_block ?_ | refine W_seq ?_ | ((first | refine tS fun N hNx => ?_ | refine WL_gE rfl rfl (by kernel_rfl) (by kernel_rfl) fun G hGx => ?_ | refine vcOpsS_sound (by kernel_rfl) ?_ | refine W_ifE fun A B hAx hBx => ?_); refine evT ?_; (first | refine hGx _ ?_ | refine hNx _ ?_ | refine hAx ?_ | refine hBx ?_ | skip)))); (try clear fs))
    refine W_drawE (fun _ _ _ _ => False) (by kernel_rfl) (by kernel_rfl) (by kernel_rfl) fun N hNx => ?_; (have fs := And.intro f0 (And.intro f1 (And.intro @i64.eq_1 (And.intro hll (And.intro hml (And.intro hgi (And.intro hgm (And.intro hx (And.intro h00 (And.intro hil (And.intro him q2)))))))))); (repeat ((first | refine vcD_g rfl rfl fun G hGx => ?_ | refine vcDS_to ?_); refine evD ?_; (first | refine hGx _ ?_ | refine hNx _ ?_ | skip))); (try clear fs))
    (have fs := And.intro f13 (And.intro @i64.eq_1 (And.intro w3 q2)); (repeat (first | refine hGx _ ?_ | refine hNx _ ?_ | refine W_skip ?_ | refine W_exit ?_ | refine W_ret ?_ | refine W_label ?_ | refine W_scope ?_ | refine W_block ?_ | refine W_seq ?_ | ((first | refine tS fun N hNx => ?_ | refine WL_gE rfl rfl (by kernel_rfl) (by kernel_rfl) fun G hGx => ?_ | refine vcOpsS_sound (by kernel_rfl) ?_ | refine W_ifE fun A B hAx hBx => ?_); refine evT ?_; (first | refine hGx _ ?_ | refine hNx _ ?_ | refine hAx ?_ | refine hBx ?_ | skip)))); (try clear fs))
    (first | (show Q .ret _) | (show Q .normal _) | skip); refine hret _ _ (by first | exact .inr rfl | exact .inl rfl) (by first | rfl | assumption | (simp only [put_df, withH_df]; assumption)) ?_; have fs := hdf; refine evT ?_; clear fs
    exact ⟨_, Heap.le_refl _, by rw [decide_eq_false]; rintro rfl; exact h2 rfl⟩
theorem equalI_at (H : Heap) (l m : List Int) (hl : l.length ≤ 140737488351232) : Does Try.prog 17 [.seq 1 (l.map iD), .seq 1 (m.map iD)] H fun d H' => d = .val (.bool (decide (l = m))) ∧ H = H' :=
  pure_D (equalI_N l m hl) rfl (vws2 (vw_refl _ _) (vw_refl _ _))
theorem strict_eq : ∀ {l m : List Int}, l.Pairwise (· < ·) → m.Pairwise (· < ·) → (∀ x, x ∈ l ↔ x ∈ m) → l = m
  | [], [], _, _, _ => rfl
  | [], b :: m, _, _, h => by have := (h b).2 (by simp); simp at this
  | a :: l, [], _, _, h => by have := (h a).1 (by simp); simp at this
  | a :: l, b :: m, h1, h2, h => by
    rw [List.pairwise_cons] at h1 h2
    have hab : a = b := by
      have ha := (h a).1 (by simp)
      have hb := (h b).2 (by simp)
      rcases List.mem_cons.1 ha with e | ha
      · exact e
      rcases List.mem_cons.1 hb with e | hb
      · exact e.symm
      have := h1.1 b hb
      have := h2.1 a ha
      omega
    subst hab
    rw [strict_eq h1.2 h2.2 fun x => ?_]
    constructor
    · intro hx
      have := h1.1 x hx
      rcases List.mem_cons.1 ((h x).1 (List.mem_cons_of_mem _ hx)) with e | h
      · omega
      · exact h
    · intro hx
      have := h2.1 x hx
      rcases List.mem_cons.1 ((h x).2 (List.mem_cons_of_mem _ hx)) with e | h
      · omega
      · exact h
end Go.Proofs.Ytdbeimlancnncaa
/- Structures and arrays of two cells (numbers, strings) are compared cell by cell. -/
namespace Go.Proofs.Ytdbeimlancnncaa
open Go.RowKit
set_option linter.unusedVariables false
set_option linter.unusedSimpArgs false
/-- The type of one cell: a string or a number. -/
def KTy (P : Program) (e : TypeId) (k : Bool) : Prop := P.plainKey e = true ∧ P.underlying e = some (if k = true then .string else .int .i64)
theorem eqK_cons {ds es : List D} {k : Bool} {ks : List Bool} {r : Bool} (h : eqK ds es = some (k :: ks, r)) : ∃ v u ds' es' r1 r', ds = .val v :: ds' ∧ es = .val u :: es' ∧ eqK ds' es' = some (ks, r') ∧ r = (r1 && r') ∧ ∀ (P : Program) (e : TypeId) (d : Nat) (w : World), KTy P e k → (Op.equalIn (d + 1) e v u).run P w = .ok r1 w := by
  unfold eqK at h
  split at h
  · simp at h
  · rename_i a x b y
    split at h
    · rename_i k' r' he
      simp only [Option.some.injEq, Prod.mk.injEq, List.cons.injEq] at h
      obtain ⟨⟨rfl, rfl⟩, rfl⟩ := h
      refine ⟨_, _, _, _, _, _, rfl, rfl, he, rfl, fun P e d w ⟨h1, h2⟩ => ?_⟩
      have := run_equalIn_int (P := P) w d e .i64 .i64 a b h2
      rw [this]
      have : (a == b) = decide (a = b) := by by_cases e : a = b <;> simp [e]
      rw [this]
    · cases h
  · rename_i a x b y
    split at h
    · rename_i k' r' he
      simp only [Option.some.injEq, Prod.mk.injEq, List.cons.injEq] at h
      obtain ⟨⟨rfl, rfl⟩, rfl⟩ := h
      refine ⟨_, _, _, _, _, _, rfl, rfl, he, rfl, fun P e d w ⟨h1, h2⟩ => ?_⟩
      have := run_equalIn_string (P := P) w d e a b h2
      rw [this]
      have : (a.toList == b.toList) = decide (a.toList = b.toList) := by by_cases e : a.toList = b.toList <;> simp [e]
      rw [this]
    · cases h
  · cases h
theorem eqK_two {ds es : List D} {k l : Bool} {r : Bool} (h : eqK ds es = some ([k, l], r)) : ∃ v u v2 u2 r1 r2, ds = [.val v, .val v2] ∧ es = [.val u, .val u2] ∧ r = (r1 && r2) ∧ (∀ (P : Program) (e : TypeId) (d : Nat) (w : World), KTy P e k → (Op.equalIn (d + 1) e v u).run P w = .ok r1 w) ∧ ∀ (P : Program) (e : TypeId) (d : Nat) (w : World), KTy P e l → (Op.equalIn (d + 1) e v2 u2).run P w = .ok r2 w := by
  obtain ⟨v, u, ds', es', r1, r', rfl, rfl, h2, rfl, hr⟩ := eqK_cons h
  obtain ⟨v2, u2, ds2, es2, r2, r3, rfl, rfl, h3, rfl, hr2⟩ := eqK_cons h2
  have h4 : ds2 = [] ∧ es2 = [] ∧ r3 = true := by
    unfold eqK at h3
    split at h3
    · simpa using h3.symm
    · split at h3 <;> simp at h3
    · split at h3 <;> simp at h3
    · cases h3
  obtain ⟨rfl, rfl, rfl⟩ := h4
  exact ⟨v, u, v2, u2, r1, r2, rfl, rfl, by simp, hr, hr2⟩
theorem cells_two {w : World} {S : Nat → Prop} {a b : Value} {vs : List Value} (h : cellsAll w S [.val a, .val b] vs) : vs = [a, b] := by
  simp only [cellsAll, D.is] at h
  obtain ⟨u, us, rfl, _, rfl, v, vs, rfl, _, rfl, rfl⟩ := h
  rfl
theorem eqTy_struct2 {P : Program} {t : TypeId} {k l : Bool} (f g : Field) (hu : P.underlying t = some (.struct #[f, g])) (hh : P.stoodInHeld t = false) (hm : P.eqGuardType P.depth t = false)
    (fn : f.name ≠ "_") (gn : g.name ≠ "_") (f0 : f.offset = 0) (g1 : g.offset = 1) (kf : KTy P f.type k) (kg : KTy P g.type l) : EqTy P t [k, l] := by
  intro ds es r vs us w S op p q he hv hw
  obtain ⟨v, u, v2, u2, r1, r2, rfl, rfl, rfl, h1, h2⟩ := eqK_two he
  rw [cells_two hv, cells_two hw]
  refine ⟨run_eqGuard_agg w op t p q _ _ hm, ?_⟩
  have hf : P.fieldsOf t = #[f, g] := by unfold Program.fieldsOf; rw [hu]
  have := run_equalIn_struct (P := P) w 9999 t [v, v2].toArray [u, u2].toArray (by rw [hf]; exact hu) hh
  unfold Op.equal
  rw [show Op.maxDepth = 9999 + 1 from rfl, this, hf]
  have e1 : ∀ w, (Go.part f.type [v, v2].toArray f.offset).run P w = .ok v w := fun w => run_part_plain w kf.1 (by rw [f0]; rfl)
  have e2 : ∀ w, (Go.part f.type [u, u2].toArray f.offset).run P w = .ok u w := fun w => run_part_plain w kf.1 (by rw [f0]; rfl)
  have e3 : ∀ w, (Go.part g.type [v, v2].toArray g.offset).run P w = .ok v2 w := fun w => run_part_plain w kg.1 (by rw [g1]; rfl)
  have e4 : ∀ w, (Go.part g.type [u, u2].toArray g.offset).run P w = .ok u2 w := fun w => run_part_plain w kg.1 (by rw [g1]; rfl)
  simp only [Op.eqFields, ne_eq, fn, gn, not_false_eq_true, if_true, Sem.run_bind, e1, e2, e3, e4, h1 P _ 9998 _ kf, h2 P _ 9998 _ kg, Result.andThen]
  cases r1 <;> cases r2 <;> simp [Sem.run, e3, e4, h2 P _ 9998 _ kg, Op.eqFields, Sem.run_bind, Result.andThen]
theorem eqTy_arr2 {P : Program} {t e : TypeId} {k : Bool} {i : TypeInfo} (hu : P.underlying t = some (.array 2 e)) (hi : P.info? e = some i) (hc : P.cellsOf e = 1) (hm : P.eqGuardType P.depth t = false) (ke : KTy P e k) : EqTy P t [k, k] := by
  intro ds es r vs us w S op p q he hv hw
  obtain ⟨v, u, v2, u2, r1, r2, rfl, rfl, rfl, h1, h2⟩ := eqK_two he
  rw [cells_two hv, cells_two hw]
  refine ⟨run_eqGuard_agg w op t p q _ _ hm, ?_⟩
  have := run_equalIn_array (P := P) w 9999 [v, v2].toArray [u, u2].toArray hu hi
  unfold Op.equal
  rw [show Op.maxDepth = 9999 + 1 from rfl, this, hc]
  have e1 : ∀ w, (Go.part e [v, v2].toArray 0).run P w = .ok v w := fun w => run_part_plain w ke.1 rfl
  have e2 : ∀ w, (Go.part e [u, u2].toArray 0).run P w = .ok u w := fun w => run_part_plain w ke.1 rfl
  have e3 : ∀ w, (Go.part e [v, v2].toArray 1).run P w = .ok v2 w := fun w => run_part_plain w ke.1 rfl
  have e4 : ∀ w, (Go.part e [u, u2].toArray 1).run P w = .ok u2 w := fun w => run_part_plain w ke.1 rfl
  have hr : List.range 2 = [0, 1] := rfl
  rw [hr]
  simp only [Op.eqItems, Nat.zero_mul, Nat.one_mul, Sem.run_bind, e1, e2, e3, e4, h1 P _ 9998 _ ke, h2 P _ 9998 _ ke, Result.andThen]
  cases r1 <;> cases r2 <;> simp [Sem.run, e3, e4, h2 P _ 9998 _ ke, Op.eqItems, Sem.run_bind, Result.andThen]
end Go.Proofs.Ytdbeimlancnncaa
