/- Lemmas and contracts of functions, several texts in one: R4 R5. -/
import Derived.Test.YtdggkophnlldoaaGQ
/- The reference's Has and Outlives. -/
namespace Go.Proofs.Ytdggkophnlldoaa
open Go.RowKit
set_option linter.unusedVariables false
set_option maxRecDepth 100000
set_option linter.unusedSimpArgs false
def HsI (l : List Int) (x : Int) (H : Heap) (i : Nat) (s : St) : Prop := s.df = [] ∧ s.fr 0 = .seq 1 (l.map iD) ∧ s.fr 1 = i64 x ∧ s.fr 5 = i64 i ∧ s.H = H ∧ x ∉ l.take i
theorem hasP_N (l : List Int) (x : Int) (hl : l.length ≤ 140737488351232) : Does Try.prog 55 [.seq 1 (l.map iD), i64 x] .none fun d _ => d = .val (.bool (decide (x ∈ l))) := by
  have hll : (List.map iD l).length = l.length := List.length_map _
  refine does_of _ _ Try.func55 rfl rfl Try.ntmps55 Try.results55 (by simp only [List.length_cons, List.length_nil]; omega) fun w0 Q hret => ?_
  (have fs := @i64.eq_1; (repeat (first | refine hGx _ ?_ | refine hNx _ ?_ | refine W_skip ?_ | refine W_exit ?_ | refine W_ret ?_ | refine W_label ?_ | refine W_scope ?_ | refine W_block ?_ | refine W_seq ?_ | ((first | refine tS fun N hNx => ?_ | refine WL_gE rfl rfl (by kernel_rfl) (by kernel_rfl) fun G hGx => ?_ | refine vcOpsS_sound (by kernel_rfl) ?_ | refine W_ifE fun A B hAx hBx => ?_); refine evT ?_; (first | refine hGx _ ?_ | refine hNx _ ?_ | refine hAx ?_ | refine hBx ?_ | skip)))); (try clear fs))
  refine W_loopN l.length (HsI l x .none) ⟨rfl, rfl, rfl, rfl, rfl, by simp⟩ ?_
  rintro i s hi ⟨hdf, f0, f1, f5, hH, hn⟩
  have hx : (i : Int).toNat = i := Int.toNat_natCast _
  have h00 : (0 : Int) ≤ (i : Int) := Int.natCast_nonneg _
  by_cases hil : i < l.length
  case neg =>
    have q1 : ((i : Int) < (l.length : Int)) = False := eq_false (by omega)
    rw [List.take_of_length_le (show l.length ≤ i by omega)] at hn
    (have fs := And.intro f0 (And.intro f1 (And.intro f5 (And.intro @i64.eq_1 (And.intro hll q1)))); (repeat (first | refine hGx _ ?_ | refine hNx _ ?_ | refine W_skip ?_ | refine W_exit ?_ | refine W_ret ?_ | refine W_label ?_ | refine W_scope ?_ | refine W_block ?_ | refine W_seq ?_ | ((first | refine tS fun N hNx => ?_ | refine WL_gE rfl rfl (by kernel_rfl) (by kernel_rfl) fun G hGx => ?_ | refine vcOpsS_sound (by kernel_rfl) ?_ | refine W_ifE fun A B hAx hBx => ?_); refine evT ?_; (first | refine hGx _ ?_ | refine hNx _ ?_ | refine hAx ?_ | refine hBx ?_ | skip)))); (try clear fs))
    (first | (show Q .ret _) | (show Q .normal _) | skip); refine hret _ _ (by first | exact .inr rfl | exact .inl rfl) (by first | rfl | assumption | (simp only [put_df, withH_df]; assumption)) ?_; have fs := hdf; refine evT ?_; clear fs
    exact ⟨_, Heap.le_refl _, by rw [decide_eq_false hn]⟩
  have q1 : ((i : Int) < (l.length : Int)) = True := eq_true (by omega)
  have hgi := get_ints hil
  have w3 : IntKind.i64.wrap ((i : Int) + 1) = ((i + 1 : Nat) : Int) := by rw [wrap_i64_of (by omega)]; omega
  by_cases h2 : l[i] = x
  · have q2 : (l[i] = x) = True := eq_true h2
    have hm : x ∈ l := h2 ▸ List.getElem_mem hil
    (have fs := And.intro f0 (And.intro f1 (And.intro f5 (And.intro @i64.eq_1 (And.intro hll (And.intro q1 (And.intro q2 (And.intro hgi (And.intro hx (And.intro h00 hil))))))))); (repeat (first | refine hGx _ ?_ | refine hNx _ ?_ | refine W_skip ?_ | refine W_exit ?_ | refine W_ret ?_ | refine W_label ?_ | refine W_scope ?_ | refine W_block ?_ | refine W_seq ?_ | ((first | refine tS fun N hNx => ?_ | refine WL_gE rfl rfl (by kernel_rfl) (by kernel_rfl) fun G hGx => ?_ | refine vcOpsS_sound (by kernel_rfl) ?_ | refine W_ifE fun A B hAx hBx => ?_); refine evT ?_; (first | refine hGx _ ?_ | refine hNx _ ?_ | refine hAx ?_ | refine hBx ?_ | skip)))); (try clear fs))
    (first | (show Q .ret _) | (show Q .normal _) | skip); refine hret _ _ (by first | exact .inr rfl | exact .inl rfl) (by first | rfl | assumption | (simp only [put_df, withH_df]; assumption)) ?_; have fs := hdf; refine evT ?_; clear fs
    exact ⟨_, Heap.le_refl _, by rw [decide_eq_true hm]⟩
  · have q2 : (l[i] = x) = False := eq_false h2
    (have fs := And.intro f0 (And.intro f1 (And.intro f5 (And.intro @i64.eq_1 (And.intro hll (And.intro q1 (And.intro q2 (And.intro hgi (And.intro hx (And.intro h00 (And.intro hil w3)))))))))); (repeat (first | refine hGx _ ?_ | refine hNx _ ?_ | refine W_skip ?_ | refine W_exit ?_ | refine W_ret ?_ | refine W_label ?_ | refine W_scope ?_ | refine W_block ?_ | refine W_seq ?_ | ((first | refine tS fun N hNx => ?_ | refine WL_gE rfl rfl (by kernel_rfl) (by kernel_rfl) fun G hGx => ?_ | refine vcOpsS_sound (by kernel_rfl) ?_ | refine W_ifE fun A B hAx hBx => ?_); refine evT ?_; (first | refine hGx _ ?_ | refine hNx _ ?_ | refine hAx ?_ | refine hBx ?_ | skip)))); (try clear fs))
    refine ⟨hil, hdf, f0, f1, rfl, hH, ?_⟩
    rw [List.take_succ_eq_append_getElem hil]
    intro hm
    rcases List.mem_append.1 hm with hm | hm
    · exact hn hm
    · rw [List.mem_singleton] at hm; exact h2 hm.symm
theorem has_at {H : Heap} {d : D} {l : List Int} {x : Int} (he : elsP H 1 d (· = l.map iD)) (hl : l.length ≤ 140737488351232) : Does Try.prog 55 [d, i64 x] H fun r H' => r = .val (.bool (decide (x ∈ l))) ∧ H = H' :=
  pure_D (hasP_N l x hl) rfl (vws2 (vw_els he) (vw_refl _ _))
def KO (l : List (Int × Int)) (n a b : Int) (H : Heap) (s : St) (i : Nat) (S : List Int) (z : Option Int) : Prop :=
  s.df = [] ∧ s.fr 0 = .seq 2 (l.map pD) ∧ s.fr 1 = i64 n ∧ s.fr 2 = i64 a ∧ s.fr 3 = i64 b ∧ s.fr 10 = i64 i ∧ H.le s.H ∧ (∃ c o, s.fr 9 = .os c o 1 0 S.length ∧ H c = none ∧ s.H c = some (.row 3 o 1 (S.map iD))) ∧ Srch l n a z S (S.drop i) ∧ b ∉ S.take i
theorem koutl_N (l : List (Int × Int)) (n a b : Int) (H : Heap) (hin : ∀ p ∈ l, InR n p.1 ∧ InR n p.2) (hn : n ≤ 1000000) (hl : l.length ≤ 1000000) : Does Try.prog 39 [.seq 2 (l.map pD), i64 n, i64 a, i64 b] H fun d H' => d = .val (.bool (outlB l n a b)) ∧ H = H' := by
  refine Does.frz (K := fun d => d = .val (.bool (outlB l n a b))) ?_
  have hll : (List.map pD l).length = l.length := List.length_map _
  refine does_of _ _ Try.func39 rfl rfl Try.ntmps39 Try.results39 (by simp only [List.length_cons, List.length_nil]; omega) fun w0 Q hret => ?_
  by_cases h1 : a < 0
  · have p1 : (a < 0) = True := eq_true h1
    (have fs := And.intro @i64.eq_1 p1; (repeat (first | refine hGx _ ?_ | refine hNx _ ?_ | refine W_skip ?_ | refine W_exit ?_ | refine W_ret ?_ | refine W_label ?_ | refine W_scope ?_ | refine W_block ?_ | refine W_seq ?_ | ((first | refine tS fun N hNx => ?_ | refine WL_gE rfl rfl (by kernel_rfl) (by kernel_rfl) fun G hGx => ?_ | refine vcOpsS_sound (by kernel_rfl) ?_ | refine W_ifE fun A B hAx hBx => ?_); refine evT ?_; (first | refine hGx _ ?_ | refine hNx _ ?_ | refine hAx ?_ | refine hBx ?_ | skip)))); (try clear fs))
    (first | (show Q .ret _) | (show Q .normal _) | skip); refine hret _ _ (by first | exact .inr rfl | exact .inl rfl) (by first | rfl | assumption | (simp only [put_df, withH_df]; assumption)) ?_; have fs := @i64.eq_1; refine evT ?_; clear fs
    exact ⟨_, Heap.le_refl _, Heap.le_refl _, _, frz_refl (Heap.le_refl _), by rw [outlB_f fun h => by have := h.1.1; omega]⟩
  have p1 : (a < 0) = False := eq_false h1
  by_cases h2 : n ≤ a
  · have p2 : (n ≤ a) = True := eq_true h2
    (have fs := And.intro @i64.eq_1 (And.intro p1 p2); (repeat (first | refine hGx _ ?_ | refine hNx _ ?_ | refine W_skip ?_ | refine W_exit ?_ | refine W_ret ?_ | refine W_label ?_ | refine W_scope ?_ | refine W_block ?_ | refine W_seq ?_ | ((first | refine tS fun N hNx => ?_ | refine WL_gE rfl rfl (by kernel_rfl) (by kernel_rfl) fun G hGx => ?_ | refine vcOpsS_sound (by kernel_rfl) ?_ | refine W_ifE fun A B hAx hBx => ?_); refine evT ?_; (first | refine hGx _ ?_ | refine hNx _ ?_ | refine hAx ?_ | refine hBx ?_ | skip)))); (try clear fs))
    (first | (show Q .ret _) | (show Q .normal _) | skip); refine hret _ _ (by first | exact .inr rfl | exact .inl rfl) (by first | rfl | assumption | (simp only [put_df, withH_df]; assumption)) ?_; have fs := @i64.eq_1; refine evT ?_; clear fs
    exact ⟨_, Heap.le_refl _, Heap.le_refl _, _, frz_refl (Heap.le_refl _), by rw [outlB_f fun h => by have := h.1.2; omega]⟩
  have p2 : (n ≤ a) = False := eq_false h2
  by_cases h3 : b < 0
  · have p3 : (b < 0) = True := eq_true h3
    (have fs := And.intro @i64.eq_1 (And.intro p1 (And.intro p2 p3)); (repeat (first | refine hGx _ ?_ | refine hNx _ ?_ | refine W_skip ?_ | refine W_exit ?_ | refine W_ret ?_ | refine W_label ?_ | refine W_scope ?_ | refine W_block ?_ | refine W_seq ?_ | ((first | refine tS fun N hNx => ?_ | refine WL_gE rfl rfl (by kernel_rfl) (by kernel_rfl) fun G hGx => ?_ | refine vcOpsS_sound (by kernel_rfl) ?_ | refine W_ifE fun A B hAx hBx => ?_); refine evT ?_; (first | refine hGx _ ?_ | refine hNx _ ?_ | refine hAx ?_ | refine hBx ?_ | skip)))); (try clear fs))
    (first | (show Q .ret _) | (show Q .normal _) | skip); refine hret _ _ (by first | exact .inr rfl | exact .inl rfl) (by first | rfl | assumption | (simp only [put_df, withH_df]; assumption)) ?_; have fs := @i64.eq_1; refine evT ?_; clear fs
    exact ⟨_, Heap.le_refl _, Heap.le_refl _, _, frz_refl (Heap.le_refl _), by rw [outlB_f fun h => by have := h.2.1.1; omega]⟩
  have p3 : (b < 0) = False := eq_false h3
  by_cases h4 : n ≤ b
  · have p4 : (n ≤ b) = True := eq_true h4
    (have fs := And.intro @i64.eq_1 (And.intro p1 (And.intro p2 (And.intro p3 p4))); (repeat (first | refine hGx _ ?_ | refine hNx _ ?_ | refine W_skip ?_ | refine W_exit ?_ | refine W_ret ?_ | refine W_label ?_ | refine W_scope ?_ | refine W_block ?_ | refine W_seq ?_ | ((first | refine tS fun N hNx => ?_ | refine WL_gE rfl rfl (by kernel_rfl) (by kernel_rfl) fun G hGx => ?_ | refine vcOpsS_sound (by kernel_rfl) ?_ | refine W_ifE fun A B hAx hBx => ?_); refine evT ?_; (first | refine hGx _ ?_ | refine hNx _ ?_ | refine hAx ?_ | refine hBx ?_ | skip)))); (try clear fs))
    (first | (show Q .ret _) | (show Q .normal _) | skip); refine hret _ _ (by first | exact .inr rfl | exact .inl rfl) (by first | rfl | assumption | (simp only [put_df, withH_df]; assumption)) ?_; have fs := @i64.eq_1; refine evT ?_; clear fs
    exact ⟨_, Heap.le_refl _, Heap.le_refl _, _, frz_refl (Heap.le_refl _), by rw [outlB_f fun h => by have := h.2.1.2; omega]⟩
  have p4 : (n ≤ b) = False := eq_false h4
  have ha : InR n a := ⟨by omega, by omega⟩
  have hb : InR n b := ⟨by omega, by omega⟩
  (have fs := And.intro @i64.eq_1 (And.intro p1 (And.intro p2 (And.intro p3 p4))); (repeat (first | refine hGx _ ?_ | refine hNx _ ?_ | refine W_skip ?_ | refine W_exit ?_ | refine W_ret ?_ | refine W_label ?_ | refine W_scope ?_ | refine W_block ?_ | refine W_seq ?_ | ((first | refine tT fun N hNx => ?_ | refine WL_gO rfl rfl (by kernel_rfl) (by kernel_rfl) fun G hGx => ?_ | refine vcOpsT_sound (by kernel_rfl) ?_ | refine W_ifE fun A B hAx hBx => ?_); refine evT ?_; (first | refine hGx _ ?_ | refine hNx _ ?_ | refine hAx ?_ | refine hBx ?_ | skip)))); (try clear fs))
  intro c hc
  (have fs := @i64.eq_1; (repeat (first | refine hGx _ ?_ | refine hNx _ ?_ | refine W_skip ?_ | refine W_exit ?_ | refine W_ret ?_ | refine W_label ?_ | refine W_scope ?_ | refine W_block ?_ | refine W_seq ?_ | ((first | refine tS fun N hNx => ?_ | refine WL_gE rfl rfl (by kernel_rfl) (by kernel_rfl) fun G hGx => ?_ | refine vcOpsS_sound (by kernel_rfl) ?_ | refine W_ifE fun A B hAx hBx => ?_); refine evT ?_; (first | refine hGx _ ?_ | refine hNx _ ?_ | refine hAx ?_ | refine hBx ?_ | skip)))); (try clear fs))
  refine W_loopM (fun k s => ∃ i S, KO l n a b H s i S none ∧ i ≤ S.length ∧ k = n.toNat - i) n.toNat ⟨0, [a], ⟨rfl, rfl, rfl, rfl, rfl, rfl, Heap.le_put (Heap.le_refl _) hc, ⟨c, 0, rfl, hc, Heap.upd_same _ _ _⟩, ⟨by simp, (by intro x hx; rw [List.mem_singleton] at hx; subst hx; exact ⟨ha, .refl _⟩), by simp, by simp, (by intro x hx hq; exact absurd hx hq)⟩, by simp⟩, by simp, by omega⟩ ?_
  rintro k s ⟨i, S, ⟨hdf, f0, f1, f2, f3, f10, hle, ⟨c', o, f9, hc0, hHc⟩, hS, hbS⟩, hiS, hk⟩
  have hSn := nodup_le hS.nd fun z hz => (hS.inr z hz).1
  have hx : (i : Int).toNat = i := Int.toNat_natCast _
  have h00 : (0 : Int) ≤ (i : Int) := Int.natCast_nonneg _
  by_cases hil : i < S.length
  case neg =>
    have q1 : ((i : Int) < (S.length : Int)) = False := eq_false (by omega)
    rw [List.take_of_length_le (show S.length ≤ i by omega)] at hbS
    have hcl : ∀ x ∈ S, ∀ y, (x, y) ∈ l → y ∈ S := fun x hx y hy => hS.cl x hx (by rw [List.drop_eq_nil_of_le (by omega)]; simp) (by simp) y hy
    (have fs := And.intro f9 (And.intro f10 (And.intro @i64.eq_1 q1)); (repeat (first | refine hGx _ ?_ | refine hNx _ ?_ | refine W_skip ?_ | refine W_exit ?_ | refine W_ret ?_ | refine W_label ?_ | refine W_scope ?_ | refine W_block ?_ | refine W_seq ?_ | ((first | refine tS fun N hNx => ?_ | refine WL_gE rfl rfl (by kernel_rfl) (by kernel_rfl) fun G hGx => ?_ | refine vcOpsS_sound (by kernel_rfl) ?_ | refine W_ifE fun A B hAx hBx => ?_); refine evT ?_; (first | refine hGx _ ?_ | refine hNx _ ?_ | refine hAx ?_ | refine hBx ?_ | skip)))); (try clear fs))
    (first | (show Q .ret _) | (show Q .normal _) | skip); refine hret _ _ (by first | exact .inr rfl | exact .inl rfl) (by first | rfl | assumption | (simp only [put_df, withH_df]; assumption)) ?_; have fs := hdf; refine evT ?_; clear fs
    exact ⟨_, Heap.le_refl _, hle, _, frz_refl hle, by rw [outlB_f fun h => hbS (reach_closed hS.st hcl h.2.2)]⟩
  have q1 : ((i : Int) < (S.length : Int)) = True := eq_true (by omega)
  have hgi := get_ints hil
  obtain ⟨x, hxe⟩ : ∃ x, x = S[i] := ⟨_, rfl⟩
  rw [← hxe] at hgi
  have hxS : x ∈ S := hxe ▸ List.getElem_mem hil
  by_cases hxb : x = b
  · have q2 : (x = b) = True := eq_true hxb
    (have fs := And.intro f3 (And.intro f9 (And.intro f10 (And.intro @i64.eq_1 (And.intro q1 (And.intro q2 (And.intro hHc (And.intro hgi (And.intro hx h00)))))))); (repeat (first | refine hGx _ ?_ | refine hNx _ ?_ | refine W_skip ?_ | refine W_exit ?_ | refine W_ret ?_ | refine W_label ?_ | refine W_scope ?_ | refine W_block ?_ | refine W_seq ?_ | ((first | refine tS fun N hNx => ?_ | refine WL_gE rfl rfl (by kernel_rfl) (by kernel_rfl) fun G hGx => ?_ | refine vcOpsS_sound (by kernel_rfl) ?_ | refine W_ifE fun A B hAx hBx => ?_); refine evT ?_; (first | refine hGx _ ?_ | refine hNx _ ?_ | refine hAx ?_ | refine hBx ?_ | skip)))); (try clear fs))
    (first | (show Q .ret _) | (show Q .normal _) | skip); refine hret _ _ (by first | exact .inr rfl | exact .inl rfl) (by first | rfl | assumption | (simp only [put_df, withH_df]; assumption)) ?_; have fs := hdf; refine evT ?_; clear fs
    exact ⟨_, Heap.le_refl _, hle, _, frz_refl hle, by rw [outlB_t ⟨ha, hb, hxb ▸ (hS.inr x hxS).2⟩]⟩
  have q2 : (x = b) = False := eq_false hxb
  (have fs := And.intro f3 (And.intro f9 (And.intro f10 (And.intro @i64.eq_1 (And.intro q1 (And.intro q2 (And.intro hHc (And.intro hgi (And.intro hx h00)))))))); (repeat (first | refine hGx _ ?_ | refine hNx _ ?_ | refine W_skip ?_ | refine W_exit ?_ | refine W_ret ?_ | refine W_label ?_ | refine W_scope ?_ | refine W_block ?_ | refine W_seq ?_ | ((first | refine tS fun N hNx => ?_ | refine WL_gE rfl rfl (by kernel_rfl) (by kernel_rfl) fun G hGx => ?_ | refine vcOpsS_sound (by kernel_rfl) ?_ | refine W_ifE fun A B hAx hBx => ?_); refine evT ?_; (first | refine hGx _ ?_ | refine hNx _ ?_ | refine hAx ?_ | refine hBx ?_ | skip)))); (try clear fs))
  have hSi : S.drop i = x :: S.drop (i + 1) := by rw [List.drop_eq_getElem_cons hil, ← hxe]
  have hbS2 : b ∉ S.take (i + 1) := by
    rw [List.take_succ_eq_append_getElem hil, ← hxe]
    intro hm
    rcases List.mem_append.1 hm with hm | hm
    · exact hbS hm
    · rw [List.mem_singleton] at hm; exact hxb hm.symm
  refine W_loopN l.length (fun j s => s.df = [] ∧ s.fr 0 = .seq 2 (l.map pD) ∧ s.fr 1 = i64 n ∧ s.fr 2 = i64 a ∧ s.fr 3 = i64 b ∧ s.fr 10 = i64 i ∧ s.fr 11 = i64 j ∧ H.le s.H ∧ ∃ S, (∃ c o, s.fr 9 = .os c o 1 0 S.length ∧ H c = none ∧ s.H c = some (.row 3 o 1 (S.map iD))) ∧ Srch l n a (some x) S (S.drop (i + 1)) ∧ S[i]? = some x ∧ b ∉ S.take (i + 1) ∧ ∀ m (h : m < l.length), m < j → l[m].1 = x → l[m].2 ∈ S) ?_ ?_
  · exact ⟨hdf, f0, f1, f2, f3, f10, rfl, hle, S, ⟨c', o, f9, hc0, hHc⟩, ⟨hS.nd, hS.inr, hS.st, fun z hz => hS.qs z (by rw [hSi]; exact List.mem_cons_of_mem _ hz), fun z hz hzq hzx y hy => hS.cl z hz (by rw [hSi]; intro hm; rcases List.mem_cons.1 hm with hm | hm; exact hzx (by rw [hm]); exact hzq hm) (by simp) y hy⟩, by rw [List.getElem?_eq_getElem hil, hxe], hbS2, fun m h hm => by omega⟩
  rintro j s2 hj ⟨hdf2, g0, g1, g2, g3, g10, g11, hle2, S2, ⟨c2, o2, g9, hc02, hHc2⟩, hS2, hS2i, hbS3, hcl2⟩
  have hi2 : i < S2.length := (List.getElem?_eq_some_iff.1 hS2i).1
  have hS2n := nodup_le hS2.nd fun z hz => (hS2.inr z hz).1
  have hjx : (j : Int).toNat = j := Int.toNat_natCast _
  have h0j : (0 : Int) ≤ (j : Int) := Int.natCast_nonneg _
  by_cases hjl : j < l.length
  case neg =>
    have q3 : ((j : Int) < (l.length : Int)) = False := eq_false (by omega)
    have w3 : IntKind.i64.wrap ((i : Int) + 1) = ((i + 1 : Nat) : Int) := by rw [wrap_i64_of (by omega)]; omega
    (have fs := And.intro g0 (And.intro g10 (And.intro g11 (And.intro @i64.eq_1 (And.intro hll (And.intro q3 w3))))); (repeat (first | refine hGx _ ?_ | refine hNx _ ?_ | refine W_skip ?_ | refine W_exit ?_ | refine W_ret ?_ | refine W_label ?_ | refine W_scope ?_ | refine W_block ?_ | refine W_seq ?_ | ((first | refine tS fun N hNx => ?_ | refine WL_gE rfl rfl (by kernel_rfl) (by kernel_rfl) fun G hGx => ?_ | refine vcOpsS_sound (by kernel_rfl) ?_ | refine W_ifE fun A B hAx hBx => ?_); refine evT ?_; (first | refine hGx _ ?_ | refine hNx _ ?_ | refine hAx ?_ | refine hBx ?_ | skip)))); (try clear fs))
    refine ⟨n.toNat - (i + 1), (show _ < _ by omega), i + 1, S2, ⟨hdf2, g0, g1, g2, g3, rfl, hle2, ⟨c2, o2, g9, hc02, hHc2⟩, ⟨hS2.nd, hS2.inr, hS2.st, hS2.qs, fun z hz hzq _ y hy => ?_⟩, hbS3⟩, by omega, rfl⟩
    by_cases hzx : z = x
    · subst hzx
      obtain ⟨m, hm, he⟩ := List.getElem_of_mem hy
      have := hcl2 m hm (by omega) (by rw [he])
      rwa [he] at this
    · exact hS2.cl z hz hzq (by simpa using hzx) y hy
  have q3 : ((j : Int) < (l.length : Int)) = True := eq_true (by omega)
  have hgj := get_pairs hjl
  have hgi2 : (S2.map iD)[i]? = some [.val (.int .i64 x)] := by rw [List.getElem?_map, hS2i]; rfl
  have w4 : IntKind.i64.wrap ((j : Int) + 1) = ((j + 1 : Nat) : Int) := by rw [wrap_i64_of (by omega)]; omega
  have q4 : ((i : Int) < (S2.length : Int)) = True := eq_true (by omega)
  obtain ⟨u, hu⟩ : ∃ u, u = l[j].1 := ⟨_, rfl⟩
  obtain ⟨v, hv⟩ : ∃ v, v = l[j].2 := ⟨_, rfl⟩
  rw [← hu, ← hv] at hgj
  have huv : (u, v) ∈ l := by rw [hu, hv]; exact List.getElem_mem hjl
  (have fs := And.intro g0 (And.intro g11 (And.intro @i64.eq_1 (And.intro hll q3))); (repeat (first | refine hGx _ ?_ | refine hNx _ ?_ | refine W_skip ?_ | refine W_exit ?_ | refine W_ret ?_ | refine W_label ?_ | refine W_scope ?_ | refine W_block ?_ | refine W_seq ?_ | ((first | refine tS fun N hNx => ?_ | refine WL_gE rfl rfl (by kernel_rfl) (by kernel_rfl) fun G hGx => ?_ | refine vcOpsS_sound (by kernel_rfl) ?_ | refine W_ifE fun A B hAx hBx => ?_); refine evT ?_; (first | refine hGx _ ?_ | refine hNx _ ?_ | refine hAx ?_ | refine hBx ?_ | skip)))); (try clear fs))
  by_cases hux : u = x
  case neg =>
    have q5 : (u = x) = False := eq_false hux
    refine W_drawE (fun _ _ _ _ => False) (by kernel_rfl) (by kernel_rfl) (by kernel_rfl) fun N hNx => ?_; (have fs := And.intro g0 (And.intro g9 (And.intro g10 (And.intro g11 (And.intro @i64.eq_1 (And.intro hHc2 (And.intro hgj (And.intro hgi2 (And.intro hx (And.intro h00 (And.intro hjx (And.intro h0j (And.intro hjl (And.intro q4 q5))))))))))))); (repeat ((first | refine vcD_g rfl rfl fun G hGx => ?_ | refine vcDS_to ?_); refine evD ?_; (first | refine hGx _ ?_ | refine hNx _ ?_ | skip))); (try clear fs))
    (have fs := And.intro g11 (And.intro @i64.eq_1 w4); (repeat (first | refine hGx _ ?_ | refine hNx _ ?_ | refine W_skip ?_ | refine W_exit ?_ | refine W_ret ?_ | refine W_label ?_ | refine W_scope ?_ | refine W_block ?_ | refine W_seq ?_ | ((first | refine tS fun N hNx => ?_ | refine WL_gE rfl rfl (by kernel_rfl) (by kernel_rfl) fun G hGx => ?_ | refine vcOpsS_sound (by kernel_rfl) ?_ | refine W_ifE fun A B hAx hBx => ?_); refine evT ?_; (first | refine hGx _ ?_ | refine hNx _ ?_ | refine hAx ?_ | refine hBx ?_ | skip)))); (try clear fs))
    refine ⟨hjl, hdf2, g0, g1, g2, g3, g10, rfl, hle2, S2, ⟨c2, o2, g9, hc02, hHc2⟩, hS2, hS2i, hbS3, fun m hm hmj he => ?_⟩
    by_cases hme : m = j
    · subst hme; exact absurd he (by rw [← hu]; exact hux)
    · exact hcl2 m hm (by omega) he
  have q5 : (u = x) = True := eq_true hux
  have hcall : CallOK Try.prog 55 [.os c2 o2 1 0 S2.length, .val (.int .i64 v)] s2.H fun d A => A = Heap.none ∧ d = .val (.bool (decide (v ∈ S2))) :=
    callOK_eq fun H'' hle'' => has_at (els_own (hle'' _ _ hHc2) (by rw [List.length_map])) (by omega)
  by_cases hvS : v ∈ S2
  · have q6 : decide (v ∈ S2) = true := decide_eq_true hvS
    rw [q6] at hcall
    refine W_drawE (fun _ _ d A => A = .none ∧ d = .val (.bool true)) (by kernel_rfl) (by kernel_rfl) (by kernel_rfl) fun N hNx => ?_; (have fs := And.intro g0 (And.intro g9 (And.intro g10 (And.intro g11 (And.intro @i64.eq_1 (And.intro hHc2 (And.intro hgj (And.intro hgi2 (And.intro hx (And.intro h00 (And.intro hjx (And.intro h0j (And.intro hjl (And.intro q4 q5))))))))))))); (repeat ((first | refine vcD_g rfl rfl fun G hGx => ?_ | refine vcDS_to ?_); refine evD ?_; (first | refine hGx _ ?_ | refine hNx _ ?_ | skip))); (try clear fs))
    refine ⟨hcall, hGx _ ?_⟩
    (have fs := @i64.eq_1; (repeat ((first | refine vcD_g rfl rfl fun G hGx => ?_ | refine vcDS_to ?_); refine evD ?_; (first | refine hGx _ ?_ | refine hNx _ ?_ | skip))); (try clear fs))
    (have fs := And.intro g11 (And.intro @i64.eq_1 w4); (repeat (first | refine hGx _ ?_ | refine hNx _ ?_ | refine W_skip ?_ | refine W_exit ?_ | refine W_ret ?_ | refine W_label ?_ | refine W_scope ?_ | refine W_block ?_ | refine W_seq ?_ | ((first | refine tS fun N hNx => ?_ | refine WL_gE rfl rfl (by kernel_rfl) (by kernel_rfl) fun G hGx => ?_ | refine vcOpsS_sound (by kernel_rfl) ?_ | refine W_ifE fun A B hAx hBx => ?_); refine evT ?_; (first | refine hGx _ ?_ | refine hNx _ ?_ | refine hAx ?_ | refine hBx ?_ | skip)))); (try clear fs))
    refine ⟨hjl, hdf2, g0, g1, g2, g3, g10, rfl, hle2, S2, ⟨c2, o2, g9, hc02, hHc2⟩, hS2, hS2i, hbS3, fun m hm hmj he => ?_⟩
    by_cases hme : m = j
    · subst hme; rw [← hv]; exact hvS
    · exact hcl2 m hm (by omega) he
  · have q6 : decide (v ∈ S2) = false := decide_eq_false hvS
    rw [q6] at hcall
    refine W_drawE (fun _ _ d A => A = .none ∧ d = .val (.bool false)) (by kernel_rfl) (by kernel_rfl) (by kernel_rfl) fun N hNx => ?_; (have fs := And.intro g0 (And.intro g9 (And.intro g10 (And.intro g11 (And.intro @i64.eq_1 (And.intro hHc2 (And.intro hgj (And.intro hgi2 (And.intro hx (And.intro h00 (And.intro hjx (And.intro h0j (And.intro hjl (And.intro q4 q5))))))))))))); (repeat ((first | refine vcD_g rfl rfl fun G hGx => ?_ | refine vcDS_to ?_); refine evD ?_; (first | refine hGx _ ?_ | refine hNx _ ?_ | skip))); (try clear fs))
    refine ⟨hcall, hGx _ ?_⟩
    (have fs := @i64.eq_1; (repeat ((first | refine vcD_g rfl rfl fun G hGx => ?_ | refine vcDS_to ?_); refine evD ?_; (first | refine hGx _ ?_ | refine hNx _ ?_ | skip))); (try clear fs))
    (have fs := And.intro g0 (And.intro g9 (And.intro g10 (And.intro g11 (And.intro @i64.eq_1 (And.intro hgj (And.intro hjx (And.intro h0j hjl))))))); (repeat (first | refine hGx _ ?_ | refine hNx _ ?_ | refine W_skip ?_ | refine W_exit ?_ | refine W_ret ?_ | refine W_label ?_ | refine W_scope ?_ | refine W_block ?_ | refine W_seq ?_ | ((first | refine tS fun N hNx => ?_ | refine WL_gE rfl rfl (by kernel_rfl) (by kernel_rfl) fun G hGx => ?_ | refine vcOpsS_sound (by kernel_rfl) ?_ | refine W_ifE fun A B hAx hBx => ?_); refine evT ?_; (first | refine hGx _ ?_ | refine hNx _ ?_ | refine hAx ?_ | refine hBx ?_ | skip)))); (try clear fs))
    have hvR := (hin _ huv).2
    have hxR : Reach l a x := (hS2.inr x (List.mem_of_getElem? hS2i)).2
    have hnd : (S2 ++ [v]).Nodup := by
      rw [List.nodup_append]
      exact ⟨hS2.nd, by simp, fun z hz w hw => by rw [List.mem_singleton] at hw; subst hw; exact fun e => hvS (e ▸ hz)⟩
    have hinr : ∀ z ∈ S2 ++ [v], InR n z ∧ Reach l a z := fun z hz => by
      rcases List.mem_append.1 hz with hz | hz
      · exact hS2.inr z hz
      · rw [List.mem_singleton] at hz; subst hz; exact ⟨hvR, hxR.step (hux ▸ huv)⟩
    have hn3 := nodup_le hnd fun z hz => (hinr z hz).1
    have hgl : Gl H 3 1 (S2.map iD) (.os c2 o2 1 0 S2.length) s2.H (some c2) := .inr ⟨c2, o2, rfl, by rw [List.length_map], hc02, hHc2⟩
    refine apV_grow (e := 3) ty43 rfl ty43 rfl ty3 rfl (by decide) hle2 hgl (new := [iD v]) (by exact ⟨rfl, rfl⟩) (by rw [List.length_map]; show (_ + 1) * 8 ≤ _; omega) fun d H6 ob6 hg6 hle6 _ => ?_
    rw [show [iD v] = [v].map iD from rfl, ← List.map_append] at hg6
    have hg6' : ∃ c o, d = .os c o 1 0 (S2 ++ [v]).length ∧ H c = none ∧ H6 c = some (.row 3 o 1 ((S2 ++ [v]).map iD)) := by
      rcases hg6 with ⟨_, _, h⟩ | ⟨c, o, _, h1, h2, h3⟩
      · simp at h
      · exact ⟨c, o, by rw [h1, List.length_map], h2, h3⟩
    (have fs := And.intro g11 (And.intro @i64.eq_1 w4); (repeat (first | refine hGx _ ?_ | refine hNx _ ?_ | refine W_skip ?_ | refine W_exit ?_ | refine W_ret ?_ | refine W_label ?_ | refine W_scope ?_ | refine W_block ?_ | refine W_seq ?_ | ((first | refine tS fun N hNx => ?_ | refine WL_gE rfl rfl (by kernel_rfl) (by kernel_rfl) fun G hGx => ?_ | refine vcOpsS_sound (by kernel_rfl) ?_ | refine W_ifE fun A B hAx hBx => ?_); refine evT ?_; (first | refine hGx _ ?_ | refine hNx _ ?_ | refine hAx ?_ | refine hBx ?_ | skip)))); (try clear fs))
    refine ⟨hjl, hdf2, g0, g1, g2, g3, g10, rfl, hle6, S2 ++ [v], hg6', ⟨hnd, hinr, List.mem_append.2 (.inl hS2.st), ?_, ?_⟩, ?_, ?_, ?_⟩
    · intro z hz; exact List.mem_of_mem_drop hz
    · intro z hz hzq hzx y hy
      rcases List.mem_append.1 hz with hz | hz
      · refine List.mem_append.2 (.inl (hS2.cl z hz (fun h => hzq ?_) hzx y hy))
        rw [List.drop_append_of_le_length (by omega)]
        exact List.mem_append.2 (.inl h)
      · exact absurd (by rw [List.drop_append_of_le_length (by omega)]; exact List.mem_append.2 (.inr hz)) hzq
    · rw [List.getElem?_append_left hi2]; exact hS2i
    · rw [List.take_append_of_le_length (by omega)]; exact hbS3
    · intro m hm hmj he
      by_cases hme : m = j
      · subst hme; rw [← hv]; exact List.mem_append.2 (.inr (by simp))
      · exact List.mem_append.2 (.inl (hcl2 m hm (by omega) he))
end Go.Proofs.Ytdggkophnlldoaa
/- The reference's Closure. -/
namespace Go.Proofs.Ytdggkophnlldoaa
open Go.RowKit
set_option linter.unusedVariables false
set_option maxRecDepth 100000
set_option linter.unusedSimpArgs false
/-- The regions under i that outlive one of those given. -/
noncomputable def closT (l : List (Int × Int)) (n : Int) (o : List Int) (i : Nat) : List Int := ((List.range i).map (fun k : Nat => (k : Int))).filter fun x => o.any (outlB l n x)
theorem closT_succ (l : List (Int × Int)) (n : Int) (o : List Int) (i : Nat) : closT l n o (i + 1) = closT l n o i ++ (if o.any (outlB l n i) = true then [(i : Int)] else []) := by
  unfold closT
  rw [List.range_succ, List.map_append, List.filter_append, List.map_singleton]
  congr 1
  simp only [List.filter]
  cases o.any (outlB l n i) <;> rfl
theorem closT_len (l : List (Int × Int)) (n : Int) (o : List Int) (i : Nat) : (closT l n o i).length ≤ i := by
  unfold closT
  refine Nat.le_trans (List.length_filter_le _ _) ?_
  rw [List.length_map, List.length_range]; exact Nat.le_refl _
def KcI (l : List (Int × Int)) (n : Int) (o : List Int) (H : Heap) (i : Nat) (s : St) : Prop :=
  s.df = [] ∧ s.fr 0 = .seq 2 (l.map pD) ∧ s.fr 1 = i64 n ∧ s.fr 2 = .seq 1 (o.map iD) ∧ s.fr 8 = i64 i ∧ H.le s.H ∧ ∃ ob, Gl H 3 1 ((closT l n o i).map iD) (s.fr 7) s.H ob
theorem kclos_N (l : List (Int × Int)) (n : Int) (o : List Int) (H : Heap) (hin : ∀ p ∈ l, InR n p.1 ∧ InR n p.2) (hn : n ≤ 1000000) (hl : l.length ≤ 1000000) (ho : o.length ≤ 140737488351232) :
    Does Try.prog 41 [.seq 2 (l.map pD), i64 n, .seq 1 (o.map iD)] H fun d H' => d = .seq 1 ((closT l n o n.toNat).map iD) ∧ H = H' := by
  refine Does.frz (K := fun d => d = .seq 1 ((closT l n o n.toNat).map iD)) ?_
  have hol : (List.map iD o).length = o.length := List.length_map _
  refine does_of _ _ Try.func41 rfl rfl Try.ntmps41 Try.results41 (by simp only [List.length_cons, List.length_nil]; omega) fun w0 Q hret => ?_
  (have fs := @i64.eq_1; (repeat (first | refine hGx _ ?_ | refine hNx _ ?_ | refine W_skip ?_ | refine W_exit ?_ | refine W_ret ?_ | refine W_label ?_ | refine W_scope ?_ | refine W_block ?_ | refine W_seq ?_ | ((first | refine tS fun N hNx => ?_ | refine WL_gE rfl rfl (by kernel_rfl) (by kernel_rfl) fun G hGx => ?_ | refine vcOpsS_sound (by kernel_rfl) ?_ | refine W_ifE fun A B hAx hBx => ?_); refine evT ?_; (first | refine hGx _ ?_ | refine hNx _ ?_ | refine hAx ?_ | refine hBx ?_ | skip)))); (try clear fs))
  refine W_loopN n.toNat (KcI l n o H) ⟨rfl, rfl, rfl, rfl, rfl, Heap.le_refl _, _, Gl.nil _ _ _ _⟩ ?_
  rintro i s hi ⟨hdf, f0, f1, f2, f8, hle, ob, hg⟩
  by_cases hil : (i : Int) < n
  case neg =>
    have q1 : ((i : Int) < n) = False := eq_false hil
    have hin' : i = n.toNat := by omega
    subst hin'
    (have fs := And.intro f1 (And.intro f8 (And.intro @i64.eq_1 q1)); (repeat (first | refine hGx _ ?_ | refine hNx _ ?_ | refine W_skip ?_ | refine W_exit ?_ | refine W_ret ?_ | refine W_label ?_ | refine W_scope ?_ | refine W_block ?_ | refine W_seq ?_ | ((first | refine tS fun N hNx => ?_ | refine WL_gE rfl rfl (by kernel_rfl) (by kernel_rfl) fun G hGx => ?_ | refine vcOpsS_sound (by kernel_rfl) ?_ | refine W_ifE fun A B hAx hBx => ?_); refine evT ?_; (first | refine hGx _ ?_ | refine hNx _ ?_ | refine hAx ?_ | refine hBx ?_ | skip)))); (try clear fs))
    (first | (show Q .ret _) | (show Q .normal _) | skip); refine hret _ _ (by first | exact .inr rfl | exact .inl rfl) (by first | rfl | assumption | (simp only [put_df, withH_df]; assumption)) ?_; have fs := hdf; refine evT ?_; clear fs
    exact ⟨_, Heap.le_refl _, hle, _, frz_gl hle hg, rfl⟩
  have q1 : ((i : Int) < n) = True := eq_true hil
  (have fs := And.intro f1 (And.intro f8 (And.intro @i64.eq_1 q1)); (repeat (first | refine hGx _ ?_ | refine hNx _ ?_ | refine W_skip ?_ | refine W_exit ?_ | refine W_ret ?_ | refine W_label ?_ | refine W_scope ?_ | refine W_block ?_ | refine W_seq ?_ | ((first | refine tS fun N hNx => ?_ | refine WL_gE rfl rfl (by kernel_rfl) (by kernel_rfl) fun G hGx => ?_ | refine vcOpsS_sound (by kernel_rfl) ?_ | refine W_ifE fun A B hAx hBx => ?_); refine evT ?_; (first | refine hGx _ ?_ | refine hNx _ ?_ | refine hAx ?_ | refine hBx ?_ | skip)))); (try clear fs))
  have w4 : IntKind.i64.wrap ((i : Int) + 1) = ((i + 1 : Nat) : Int) := by rw [wrap_i64_of (by omega)]; omega
  refine W_loopN o.length (fun j s => s.df = [] ∧ s.fr 0 = .seq 2 (l.map pD) ∧ s.fr 1 = i64 n ∧ s.fr 2 = .seq 1 (o.map iD) ∧ s.fr 8 = i64 i ∧ s.fr 9 = .val (.bool ((o.take j).any (outlB l n i))) ∧ s.fr 10 = i64 j ∧ H.le s.H ∧ ∃ ob, Gl H 3 1 ((closT l n o i).map iD) (s.fr 7) s.H ob) ?_ ?_
  · exact ⟨hdf, f0, f1, f2, f8, rfl, rfl, hle, ob, hg⟩
  rintro j s2 hj ⟨hdf2, g0, g1, g2, g8, g9, g10, hle2, ob2, hg2⟩
  have hjx : (j : Int).toNat = j := Int.toNat_natCast _
  have h0j : (0 : Int) ≤ (j : Int) := Int.natCast_nonneg _
  by_cases hjl : j < o.length
  case neg =>
    have q3 : ((j : Int) < (o.length : Int)) = False := eq_false (by omega)
    rw [List.take_of_length_le (by omega)] at g9
    have hsucc := closT_succ l n o i
    cases hv : o.any (outlB l n i) with
    | false =>
      rw [hv] at g9 hsucc
      rw [if_neg (by simp), List.append_nil] at hsucc
      (have fs := And.intro g2 (And.intro g8 (And.intro g9 (And.intro g10 (And.intro @i64.eq_1 (And.intro hol (And.intro q3 w4)))))); (repeat (first | refine hGx _ ?_ | refine hNx _ ?_ | refine W_skip ?_ | refine W_exit ?_ | refine W_ret ?_ | refine W_label ?_ | refine W_scope ?_ | refine W_block ?_ | refine W_seq ?_ | ((first | refine tS fun N hNx => ?_ | refine WL_gE rfl rfl (by kernel_rfl) (by kernel_rfl) fun G hGx => ?_ | refine vcOpsS_sound (by kernel_rfl) ?_ | refine W_ifE fun A B hAx hBx => ?_); refine evT ?_; (first | refine hGx _ ?_ | refine hNx _ ?_ | refine hAx ?_ | refine hBx ?_ | skip)))); (try clear fs))
      exact ⟨(show i < n.toNat by omega), hdf2, g0, g1, g2, rfl, hle2, ob2, by rw [hsucc]; exact hg2⟩
    | true =>
      rw [hv] at g9 hsucc
      rw [if_pos rfl] at hsucc
      have hcl := closT_len l n o i
      (have fs := And.intro g2 (And.intro g8 (And.intro g9 (And.intro g10 (And.intro @i64.eq_1 (And.intro hol (And.intro q3 w4)))))); (repeat (first | refine hGx _ ?_ | refine hNx _ ?_ | refine W_skip ?_ | refine W_exit ?_ | refine W_ret ?_ | refine W_label ?_ | refine W_scope ?_ | refine W_block ?_ | refine W_seq ?_ | ((first | refine tS fun N hNx => ?_ | refine WL_gE rfl rfl (by kernel_rfl) (by kernel_rfl) fun G hGx => ?_ | refine vcOpsS_sound (by kernel_rfl) ?_ | refine W_ifE fun A B hAx hBx => ?_); refine evT ?_; (first | refine hGx _ ?_ | refine hNx _ ?_ | refine hAx ?_ | refine hBx ?_ | skip)))); (try clear fs))
      refine apV_grow (e := 3) ty43 rfl ty43 rfl ty3 rfl (by decide) hle2 hg2 (new := [iD i]) (by exact ⟨rfl, rfl⟩) (by rw [List.length_map]; show (_ + 1) * 8 ≤ _; omega) fun d H6 ob6 hg6 hle6 _ => ?_
      rw [show [iD (i : Int)] = [(i : Int)].map iD from rfl, ← List.map_append, ← hsucc] at hg6
      (have fs := And.intro g8 (And.intro @i64.eq_1 w4); (repeat (first | refine hGx _ ?_ | refine hNx _ ?_ | refine W_skip ?_ | refine W_exit ?_ | refine W_ret ?_ | refine W_label ?_ | refine W_scope ?_ | refine W_block ?_ | refine W_seq ?_ | ((first | refine tS fun N hNx => ?_ | refine WL_gE rfl rfl (by kernel_rfl) (by kernel_rfl) fun G hGx => ?_ | refine vcOpsS_sound (by kernel_rfl) ?_ | refine W_ifE fun A B hAx hBx => ?_); refine evT ?_; (first | refine hGx _ ?_ | refine hNx _ ?_ | refine hAx ?_ | refine hBx ?_ | skip)))); (try clear fs))
      exact ⟨(show i < n.toNat by omega), hdf2, g0, g1, g2, rfl, hle6, ob6, hg6⟩
  have q3 : ((j : Int) < (o.length : Int)) = True := eq_true (by omega)
  have hgj := get_ints hjl
  have w5 : IntKind.i64.wrap ((j : Int) + 1) = ((j + 1 : Nat) : Int) := by rw [wrap_i64_of (by omega)]; omega
  have hst : (o.take (j + 1)).any (outlB l n i) = ((o.take j).any (outlB l n i) || outlB l n i o[j]) := by
    rw [List.take_succ_eq_append_getElem hjl, List.any_append]; simp
  (have fs := And.intro g0 (And.intro g1 (And.intro g2 (And.intro g8 (And.intro g10 (And.intro @i64.eq_1 (And.intro hol (And.intro q3 (And.intro hgj (And.intro hjx (And.intro h0j hjl)))))))))); (repeat (first | refine hGx _ ?_ | refine hNx _ ?_ | refine W_skip ?_ | refine W_exit ?_ | refine W_ret ?_ | refine W_label ?_ | refine W_scope ?_ | refine W_block ?_ | refine W_seq ?_ | ((first | refine tS fun N hNx => ?_ | refine WL_gE rfl rfl (by kernel_rfl) (by kernel_rfl) fun G hGx => ?_ | refine vcOpsS_sound (by kernel_rfl) ?_ | refine W_ifE fun A B hAx hBx => ?_); refine evT ?_; (first | refine hGx _ ?_ | refine hNx _ ?_ | refine hAx ?_ | refine hBx ?_ | skip)))); (try clear fs))
  refine (koutl_N l n i o[j] _ hin hn hl).mono ?_
  rintro d _ ⟨rfl, rfl⟩
  cases hv : outlB l n i o[j] with
  | false =>
    rw [hv, Bool.or_false] at hst
    (have fs := And.intro g10 (And.intro @i64.eq_1 w5); (repeat (first | refine hGx _ ?_ | refine hNx _ ?_ | refine W_skip ?_ | refine W_exit ?_ | refine W_ret ?_ | refine W_label ?_ | refine W_scope ?_ | refine W_block ?_ | refine W_seq ?_ | ((first | refine tS fun N hNx => ?_ | refine WL_gE rfl rfl (by kernel_rfl) (by kernel_rfl) fun G hGx => ?_ | refine vcOpsS_sound (by kernel_rfl) ?_ | refine W_ifE fun A B hAx hBx => ?_); refine evT ?_; (first | refine hGx _ ?_ | refine hNx _ ?_ | refine hAx ?_ | refine hBx ?_ | skip)))); (try clear fs))
    exact ⟨hjl, hdf2, g0, g1, g2, g8, by rw [hst]; exact g9, rfl, hle2, ob2, hg2⟩
  | true =>
    rw [hv, Bool.or_true] at hst
    (have fs := And.intro g10 (And.intro @i64.eq_1 w5); (repeat (first | refine hGx _ ?_ | refine hNx _ ?_ | refine W_skip ?_ | refine W_exit ?_ | refine W_ret ?_ | refine W_label ?_ | refine W_scope ?_ | refine W_block ?_ | refine W_seq ?_ | ((first | refine tS fun N hNx => ?_ | refine WL_gE rfl rfl (by kernel_rfl) (by kernel_rfl) fun G hGx => ?_ | refine vcOpsS_sound (by kernel_rfl) ?_ | refine W_ifE fun A B hAx hBx => ?_); refine evT ?_; (first | refine hGx _ ?_ | refine hNx _ ?_ | refine hAx ?_ | refine hBx ?_ | skip)))); (try clear fs))
    exact ⟨hjl, hdf2, g0, g1, g2, g8, by rw [hst]; rfl, rfl, hle2, ob2, hg2⟩
end Go.Proofs.Ytdggkophnlldoaa
