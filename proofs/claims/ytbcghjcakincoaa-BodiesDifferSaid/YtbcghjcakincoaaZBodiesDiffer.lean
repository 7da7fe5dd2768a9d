/- The walk of the law BodiesDiffer. -/
import Derived.Test.YtbcghjcakincoaaGBH
/- The law BodiesDiffer. -/
namespace Go.Proofs.Ytbcghjcakincoaa
open Go.RowKit
set_option linter.unusedVariables false
set_option maxRecDepth 100000
set_option linter.unusedSimpArgs false
theorem RdR.append {A : Heap} : ∀ {ds es ds2 es2 : List (List D)}, RdR A ds es → RdR A ds2 es2 → RdR A (ds ++ ds2) (es ++ es2)
  | [], [], _, _, _, h => h
  | d :: ds, e :: es, _, _, h, h2 => ⟨h.1, RdR.append h.2 h2⟩
  | [], _ :: _, _, _, h, _ => h.elim
  | _ :: _, [], _, _, h, _ => h.elim
theorem oR.grow {A X : Heap} {T : TypeId} {sz : Nat} {d : D} {es : List (List D)} (h : oR A T sz d es) (hX : A.le X) : ∃ H0 ob els A', Gl H0 T sz els d X ob ∧ H0.le X ∧ els.length = es.length ∧ (∀ B : Heap, B.le X → Dj A B → B.le H0) ∧ A'.le H0 ∧ A'.le A ∧ RdR A' els es := by
  rcases h with ⟨rfl, rfl⟩ | ⟨c, o, els, rfl, h2, h3, h4⟩
  · exact ⟨X, none, [], Heap.none, Gl.nil _ _ _ _, Heap.le_refl _, rfl, fun B hB _ => hB, Heap.le_none _, Heap.le_none _, trivial⟩
  · refine ⟨X.del c, some c, els, A.del c, .inr ⟨c, o, rfl, rfl, Heap.del_same _ _, hX _ _ h3⟩, Heap.del_le _ _, h2, fun B hB hd k x hk => ?_, del_mono hX c, Heap.del_le _ _, h4⟩
    have hne : k ≠ c := fun e => by rw [e, hd c (by rw [h3]; simp)] at hk; cases hk
    rw [Heap.del_ne hne]; exact hB k x hk
theorem Dj.symm {A B : Heap} (h : Dj A B) : Dj B A := fun k hk => Classical.byContradiction fun hn => hk (h k hn)
def zBk : BkS := ⟨[], ⟨0, [], [], ⟨0, []⟩, ByteArray.empty⟩⟩
def zTy : TyS := ⟨0, false, 0, 0, []⟩
theorem zBk_ok : okBk zBk := ⟨⟨by unfold big; decide, fun s hs => by simp [zBk] at hs⟩, by unfold big; decide, ⟨by unfold big; decide, fun o ho => by simp [zBk] at ho⟩, by unfold okPl big; decide⟩
theorem dom0 (Y : Heap) : Dom Heap.none Y := fun _ _ => rfl
theorem Rd1.see {A Y : Heap} {d e : D} (h : Rd1 A d e) (hA : A.le Y) : Frz Heap.none Y d e := h _ _ hA (dom0 Y) fun _ _ => rfl
theorem grown {H0 X' A' Y : Heap} {T : TypeId} {sz : Nat} {els es : List (List D)} {n n' : List D} {d' : D} {ob' : Option Nat} (hg : Gl H0 T sz (els ++ [n]) d' X' ob') (hA : A'.le H0) (hr : RdR A' els es) (hn : RdL A' n n') (hY : ∀ c x, X' c = some x → H0 c = none → Y c = some x) (hY2 : A'.le Y) : Frz Heap.none Y d' (.seq sz (es ++ [n'])) := by
  rcases hg with ⟨_, _, h⟩ | ⟨c, o, _, rfl, h2, h3⟩
  · simp at h
  · have hAc : A' c = none := Heap.none_of hA h2
    exact frz_rows (dom0 Y) (hY _ _ h3 h2) rfl rfl ((hr.append ⟨hn, trivial⟩ : RdR A' (els ++ [n]) (es ++ [n'])).frz (le_del hY2 hAc) (dom0 _) fun _ _ => rfl)
/-- The copy after one of its fields has been changed. -/
def CD (b : BdS) (c5 : Nat) (s : St) : Prop := s.df = [] ∧ s.fr 2 = .rp (bdD b) ∧ s.fr 5 = .ep c5 0 7 0 0 ∧ ∃ (c : BdS) (d1 d2 d3 d4 d6 : D), s.H c5 = some (.row 28 0 7 [[strD c.nm, d1, d2, d3, d4, i64 c.ag, d6]]) ∧ Frz Heap.none s.H (.agg [strD c.nm, d1, d2, d3, d4, i64 c.ag, d6]) (.agg (bdD c)) ∧ b ≠ c ∧ okBd c
theorem frz_self {H : Heap} {d : D} : Frz Heap.none H d d := frz_same (dom0 H)
set_option maxHeartbeats 2000000 in
theorem ldiff_N (b : BdS) (u : UInt8) (ok : okBd b) : Does Try.prog 7 [.agg (bdD b), .val (.int .u8 u.toNat)] .none fun d _ => d = .val (.bool true) := by
  obtain ⟨k, hk⟩ : ∃ k : Nat, (k : Int) = ((u.toNat : Int)).tmod 6 := ⟨(((u.toNat : Int)).tmod 6).toNat, by have := Int.tmod_nonneg 6 (show (0 : Int) ≤ (u.toNat : Int) by omega); omega⟩
  have hk6 : k < 6 := by have := Int.tmod_lt_of_pos (u.toNat : Int) (show (0 : Int) < 6 by omega); omega
  refine does_of _ _ Try.func7 rfl rfl Try.ntmps7 Try.results7 (by simp only [List.length_cons, List.length_nil]; omega) fun w0 Q hret => ?_
  (have fs := And.intro @i64.eq_1 @bdD.eq_1; (repeat (first | refine hGx _ ?_ | refine hNx _ ?_ | refine W_skip ?_ | refine W_exit ?_ | refine W_ret ?_ | refine W_label ?_ | refine W_scope ?_ | refine W_block ?_ | refine W_seq ?_ | ((first | refine tS fun N hNx => ?_ | refine WL_gE rfl rfl (by kernel_rfl) (by kernel_rfl) fun G hGx => ?_ | refine vcOpsS_sound (by kernel_rfl) ?_ | refine W_ifE fun A B hAx hBx => ?_); refine evT ?_; (first | refine hGx _ ?_ | refine hNx _ ?_ | refine hAx ?_ | refine hBx ?_ | skip)))); (try clear fs))
  intro c2 hc2
  refine hNx _ ?_
  refine W_frzp 2 rfl (Heap.upd_same _ _ _) rfl ?_; simp only [St.frzp, put_H, wdf_H, withH_H, withH_put, wdf_withH, withH_withH, init_H, init_withH, Heap.del_upd_same, Heap.del_none hc2, withH_self]
  (have fs := @i64.eq_1; (repeat (first | refine hGx _ ?_ | refine hNx _ ?_ | refine W_skip ?_ | refine W_exit ?_ | refine W_ret ?_ | refine W_label ?_ | refine W_scope ?_ | refine W_block ?_ | refine W_seq ?_ | ((first | refine tS fun N hNx => ?_ | refine WL_gE rfl rfl (by kernel_rfl) (by kernel_rfl) fun G hGx => ?_ | refine vcOpsS_sound (by kernel_rfl) ?_ | refine W_ifE fun A B hAx hBx => ?_); refine evT ?_; (first | refine hGx _ ?_ | refine hNx _ ?_ | refine hAx ?_ | refine hBx ?_ | skip)))); (try clear fs))
  refine ((large_N b _ ok)).mono ?_; rintro d _ ⟨rfl, rfl⟩
  by_cases hb : 3000 < tot b
  · rw [lg_pos hb]
    (have fs := @i64.eq_1; (repeat (first | refine hGx _ ?_ | refine hNx _ ?_ | refine W_skip ?_ | refine W_exit ?_ | refine W_ret ?_ | refine W_label ?_ | refine W_scope ?_ | refine W_block ?_ | refine W_seq ?_ | ((first | refine tS fun N hNx => ?_ | refine WL_gE rfl rfl (by kernel_rfl) (by kernel_rfl) fun G hGx => ?_ | refine vcOpsS_sound (by kernel_rfl) ?_ | refine W_ifE fun A B hAx hBx => ?_); refine evT ?_; (first | refine hGx _ ?_ | refine hNx _ ?_ | refine hAx ?_ | refine hBx ?_ | skip)))); (try clear fs))
    refine (alive9_at _).mono ?_; rintro d _ ⟨rfl, rfl⟩
    (have fs := @i64.eq_1; (repeat (first | refine hGx _ ?_ | refine hNx _ ?_ | refine W_skip ?_ | refine W_exit ?_ | refine W_ret ?_ | refine W_label ?_ | refine W_scope ?_ | refine W_block ?_ | refine W_seq ?_ | ((first | refine tS fun N hNx => ?_ | refine WL_gE rfl rfl (by kernel_rfl) (by kernel_rfl) fun G hGx => ?_ | refine vcOpsS_sound (by kernel_rfl) ?_ | refine W_ifE fun A B hAx hBx => ?_); refine evT ?_; (first | refine hGx _ ?_ | refine hNx _ ?_ | refine hAx ?_ | refine hBx ?_ | skip)))); (try clear fs))
    (first | (show Q .ret _) | (show Q .normal _) | skip); refine hret _ _ (by first | exact .inr rfl | exact .inl rfl) (by first | rfl | assumption | (simp only [put_df, withH_df]; assumption)) ?_; have fs := @i64.eq_1; refine evT ?_; clear fs
    exact ⟨_, Heap.le_refl _⟩
  rw [lg_neg hb]
  obtain ⟨hsm, hby⟩ := facts9 hb
  (have fs := @i64.eq_1; (repeat (first | refine hGx _ ?_ | refine hNx _ ?_ | refine W_skip ?_ | refine W_exit ?_ | refine W_ret ?_ | refine W_label ?_ | refine W_scope ?_ | refine W_block ?_ | refine W_seq ?_ | ((first | refine tS fun N hNx => ?_ | refine WL_gE rfl rfl (by kernel_rfl) (by kernel_rfl) fun G hGx => ?_ | refine vcOpsS_sound (by kernel_rfl) ?_ | refine W_ifE fun A B hAx hBx => ?_); refine evT ?_; (first | refine hGx _ ?_ | refine hNx _ ?_ | refine hAx ?_ | refine hBx ?_ | skip)))); (try clear fs))
  refine (clone_N b _ hsm).mono ?_
  rintro d H1 ⟨A1, A2, A3, A4, A6, d1, d2, d3, d4, d6, rfl, ⟨q1, o1⟩, ⟨q2, o2⟩, ⟨q3, o3⟩, ⟨q4, o4⟩, ⟨q6, o6⟩, j12, j13, j14, j16, j23, j24, j26, j43, j46, j36⟩
  (have fs := @i64.eq_1; (repeat (first | refine hGx _ ?_ | refine hNx _ ?_ | refine W_skip ?_ | refine W_exit ?_ | refine W_ret ?_ | refine W_label ?_ | refine W_scope ?_ | refine W_block ?_ | refine W_seq ?_ | ((first | refine tS fun N hNx => ?_ | refine WL_gE rfl rfl (by kernel_rfl) (by kernel_rfl) fun G hGx => ?_ | refine vcOpsS_sound (by kernel_rfl) ?_ | refine W_ifE fun A B hAx hBx => ?_); refine evT ?_; (first | refine hGx _ ?_ | refine hNx _ ?_ | refine hAx ?_ | refine hBx ?_ | skip)))); (try clear fs))
  intro c5 hc5
  refine hNx _ ?_
  (have fs := @i64.eq_1; (repeat (first | refine hGx _ ?_ | refine hNx _ ?_ | refine W_skip ?_ | refine W_exit ?_ | refine W_ret ?_ | refine W_label ?_ | refine W_scope ?_ | refine W_block ?_ | refine W_seq ?_ | ((first | refine tS fun N hNx => ?_ | refine WL_gE rfl rfl (by kernel_rfl) (by kernel_rfl) fun G hGx => ?_ | refine vcOpsS_sound (by kernel_rfl) ?_ | refine W_ifE fun A B hAx hBx => ?_); refine evT ?_; (first | refine hGx _ ?_ | refine hNx _ ?_ | refine hAx ?_ | refine hBx ?_ | skip)))); (try clear fs))
  have l1 := Heap.le_put (x := .row 28 0 7 [[strD b.nm, d1, d2, d3, d4, i64 b.ag, d6]]) q1.2.1 (Heap.none_of q1.2.1 hc5)
  have l2 := Heap.le_put (x := .row 28 0 7 [[strD b.nm, d1, d2, d3, d4, i64 b.ag, d6]]) q2.2.1 (Heap.none_of q2.2.1 hc5)
  have l3 := Heap.le_put (x := .row 28 0 7 [[strD b.nm, d1, d2, d3, d4, i64 b.ag, d6]]) q3.2.1 (Heap.none_of q3.2.1 hc5)
  have l4 := Heap.le_put (x := .row 28 0 7 [[strD b.nm, d1, d2, d3, d4, i64 b.ag, d6]]) q4.2.1 (Heap.none_of q4.2.1 hc5)
  have l6 := Heap.le_put (x := .row 28 0 7 [[strD b.nm, d1, d2, d3, d4, i64 b.ag, d6]]) q6.2.1 (Heap.none_of q6.2.1 hc5)
  have hv : Frz Heap.none (H1.upd c5 (.row 28 0 7 [[strD b.nm, d1, d2, d3, d4, i64 b.ag, d6]])) (.agg [strD b.nm, d1, d2, d3, d4, i64 b.ag, d6]) (.agg (bdD b)) := frz_agg ⟨frz_self, o1.rd.see l1, o2.rd.see l2, o3.rd.see l3, o4.rd.see l4, frz_self, o6.rd.see l6, trivial⟩
  refine (pure_D ((kbdeq_N b b .none ok).mono fun _ _ h => h.1) rfl (vws2 (vw_refl _ _) hv)).mono ?_
  rintro d _ ⟨rfl, rfl⟩
  rw [decide_eq_true rfl]
  have z5 : (H1.upd c5 (.row 28 0 7 [[strD b.nm, d1, d2, d3, d4, i64 b.ag, d6]])) c5 = some (.row 28 0 7 [[strD b.nm, d1, d2, d3, d4, i64 b.ag, d6]]) := Heap.upd_same _ _ _
  (have fs := And.intro @i64.eq_1 @hk.symm; (iterate 6 (first | refine hGx _ ?_ | refine hNx _ ?_ | refine W_skip ?_ | refine W_exit ?_ | refine W_ret ?_ | refine W_label ?_ | refine W_scope ?_ | refine W_block ?_ | refine W_seq ?_ | ((first | refine tS fun N hNx => ?_ | refine WL_gE rfl rfl (by kernel_rfl) (by kernel_rfl) fun G hGx => ?_ | refine vcOpsS_sound (by kernel_rfl) ?_ | refine W_ifE fun A B hAx hBx => ?_); refine evT ?_; (first | refine hGx _ ?_ | refine hNx _ ?_ | refine hAx ?_ | refine hBx ?_ | skip)))); (try clear fs))
  have ly : ∀ (A : Heap) x, A.le H1 → A.le (H1.upd c5 x) := fun A x h => Heap.le_put h (Heap.none_of h hc5)
  have hnm : b.nm.size ≤ 3000 := by have := tot_eq b; omega
  obtain ⟨⟨hrg, hlc, hbl⟩, hol, hty, _⟩ := hsm
  obtain ⟨kr, ko, ⟨kt, ktx⟩, kl, kb, kbx⟩ := ok
  show W _ _ _ _
  refine W_toM (CD b c5) ?_ ?_
  · have hk' : k = 0 ∨ k = 1 ∨ k = 2 ∨ k = 3 ∨ k = 4 ∨ k = 5 := by omega
    rcases hk' with rfl | rfl | rfl | rfl | rfl | rfl
    · (have fs := And.intro @i64.eq_1 (And.intro z5 @strD.eq_1); (repeat (first | refine hGx _ ?_ | refine hNx _ ?_ | refine W_skip ?_ | refine W_exit ?_ | refine W_ret ?_ | refine W_label ?_ | refine W_scope ?_ | refine W_block ?_ | refine W_seq ?_ | ((first | refine tS fun N hNx => ?_ | refine WL_gE rfl rfl (by kernel_rfl) (by kernel_rfl) fun G hGx => ?_ | refine vcOpsS_sound (by kernel_rfl) ?_ | refine W_ifE fun A B hAx hBx => ?_); refine evT ?_; (first | refine hGx _ ?_ | refine hNx _ ?_ | refine hAx ?_ | refine hBx ?_ | skip)))); (try clear fs))
      refine ⟨by show b.nm.size + 1 ≤ _; omega, ?_⟩
      (first | refine hGx _ ?_ | refine hNx _ ?_ | skip)
      (have fs := @i64.eq_1; (repeat (first | refine hGx _ ?_ | refine hNx _ ?_ | refine W_skip ?_ | refine W_exit ?_ | refine W_ret ?_ | refine W_label ?_ | refine W_scope ?_ | refine W_block ?_ | refine W_seq ?_ | ((first | refine tS fun N hNx => ?_ | refine WL_gE rfl rfl (by kernel_rfl) (by kernel_rfl) fun G hGx => ?_ | refine vcOpsS_sound (by kernel_rfl) ?_ | refine W_ifE fun A B hAx hBx => ?_); refine evT ?_; (first | refine hGx _ ?_ | refine hNx _ ?_ | refine hAx ?_ | refine hBx ?_ | skip)))); (try clear fs))
      refine ⟨rfl, rfl, rfl, { b with nm := b.nm ++ ⟨#[120]⟩ }, d1, d2, d3, d4, d6, Heap.upd_same _ _ _, frz_agg ⟨frz_self, o1.rd.see (ly _ _ q1.2.1), o2.rd.see (ly _ _ q2.2.1), o3.rd.see (ly _ _ q3.2.1), o4.rd.see (ly _ _ q4.2.1), frz_self, o6.rd.see (ly _ _ q6.2.1), trivial⟩, fun e => ?_, kr, ko, ⟨kt, ktx⟩, kl, kb, kbx⟩
      have e2 := congrArg (fun x : BdS => x.nm.size) e
      have e3 : (b.nm ++ (⟨#[120]⟩ : ByteArray)).size = b.nm.size + 1 := by rw [ByteArray.size_append]; rfl
      simp only at e2
      omega
    · (have fs := And.intro @i64.eq_1 z5; (repeat (first | refine hGx _ ?_ | refine hNx _ ?_ | refine W_skip ?_ | refine W_exit ?_ | refine W_ret ?_ | refine W_label ?_ | refine W_scope ?_ | refine W_block ?_ | refine W_seq ?_ | ((first | refine tS fun N hNx => ?_ | refine WL_gE rfl rfl (by kernel_rfl) (by kernel_rfl) fun G hGx => ?_ | refine vcOpsS_sound (by kernel_rfl) ?_ | refine W_ifE fun A B hAx hBx => ?_); refine evT ?_; (first | refine hGx _ ?_ | refine hNx _ ?_ | refine hAx ?_ | refine hBx ?_ | skip)))); (try clear fs))
      refine ⟨rfl, rfl, rfl, { b with ag := IntKind.i64.wrap (b.ag + 1) }, d1, d2, d3, d4, d6, Heap.upd_same _ _ _, frz_agg ⟨frz_self, o1.rd.see (ly _ _ q1.2.1), o2.rd.see (ly _ _ q2.2.1), o3.rd.see (ly _ _ q3.2.1), o4.rd.see (ly _ _ q4.2.1), frz_self, o6.rd.see (ly _ _ q6.2.1), trivial⟩, fun e => ?_, kr, ko, ⟨kt, ktx⟩, kl, kb, kbx⟩
      have e2 := congrArg BdS.ag e
      simp only at e2
      rw [IntKind.wrap_i64] at e2
      omega
    · obtain ⟨H0, ob, els, A', hg, hH0, hel, hkeep, hA', hA2, hrd⟩ := o1.grow l1
      have y5 : ∀ i, i = c5 → H0 i = some (.row 28 0 7 [[strD b.nm, d1, d2, d3, d4, i64 b.ag, d6]]) := fun i hi => hkeep (Heap.none.upd c5 (.row 28 0 7 [[strD b.nm, d1, d2, d3, d4, i64 b.ag, d6]])) (fun j x hj => by
        by_cases e : j = c5
        · rw [e, Heap.upd_same] at hj ⊢; exact hj
        · rw [Heap.upd_ne e] at hj; cases hj) (fun j hj => Heap.upd_ne (fun e => hj (by rw [e]; exact Heap.none_of q1.2.1 hc5))) i _ (by rw [hi]; exact Heap.upd_same _ _ _)
      have m2 := hkeep A2 l2 j12
      have m3 := hkeep A3 l3 j13
      have m4 := hkeep A4 l4 j14
      have m6 := hkeep A6 l6 j16
      (have fs := And.intro @i64.eq_1 z5; (repeat (first | refine hGx _ ?_ | refine hNx _ ?_ | refine W_skip ?_ | refine W_exit ?_ | refine W_ret ?_ | refine W_label ?_ | refine W_scope ?_ | refine W_block ?_ | refine W_seq ?_ | ((first | refine tS fun N hNx => ?_ | refine WL_gE rfl rfl (by kernel_rfl) (by kernel_rfl) fun G hGx => ?_ | refine vcOpsS_sound (by kernel_rfl) ?_ | refine W_ifE fun A B hAx hBx => ?_); refine evT ?_; (first | refine hGx _ ?_ | refine hNx _ ?_ | refine hAx ?_ | refine hBx ?_ | skip)))); (try clear fs))
      refine apV_grow (e := 9) ty22 rfl ty22 rfl ty9 rfl (by decide) hH0 hg (new := [[strD ⟨#[120]⟩]]) (by exact ⟨rfl, rfl⟩) (by rw [hel, List.length_map]; show (_ + 1) * _ ≤ _; omega) fun d' H2 ob2 hg2 hle2 _ => ?_
      have hgk := hg2
      rcases hg2 with ⟨_, _, h⟩ | ⟨cc, oo, _, rfl, h2, h3⟩
      · simp at h
      have y6 := hle2 _ _ (y5 c5 rfl)
      (have fs := And.intro @i64.eq_1 y6; refine evT ?_; try clear fs); (first | refine hGx _ ?_ | refine hNx _ ?_ | skip)
      (have fs := And.intro @i64.eq_1 y6; (repeat (first | refine hGx _ ?_ | refine hNx _ ?_ | refine W_skip ?_ | refine W_exit ?_ | refine W_ret ?_ | refine W_label ?_ | refine W_scope ?_ | refine W_block ?_ | refine W_seq ?_ | ((first | refine tS fun N hNx => ?_ | refine WL_gE rfl rfl (by kernel_rfl) (by kernel_rfl) fun G hGx => ?_ | refine vcOpsS_sound (by kernel_rfl) ?_ | refine W_ifE fun A B hAx hBx => ?_); refine evT ?_; (first | refine hGx _ ?_ | refine hNx _ ?_ | refine hAx ?_ | refine hBx ?_ | skip)))); (try clear fs))
      have lz : ∀ (A : Heap) x, A.le H0 → A c5 = none → A.le (H2.upd c5 x) := fun A x h hc => Heap.le_put (Heap.le_trans h hle2) hc
      have n1 := Heap.none_of q1.2.1 hc5
      have n2 := Heap.none_of q2.2.1 hc5
      have n3 := Heap.none_of q3.2.1 hc5
      have n4 := Heap.none_of q4.2.1 hc5
      have n6 := Heap.none_of q6.2.1 hc5
      have hY : ∀ (v : HObj) c x, H2 c = some x → H0 c = none → (H2.upd c5 v) c = some x := fun v c x h h0 => by
        have : c ≠ c5 := fun e => by rw [y5 c e] at h0; cases h0
        rw [Heap.upd_ne this]; exact h
      have hgr := fun v => grown (n' := sD (⟨#[120]⟩ : ByteArray)) hgk hA' hrd (RdL.same _ _) (hY v) (lz A' v hA' (Heap.none_of hA2 n1))
      have em : b.rg.map sD ++ [sD (⟨#[120]⟩ : ByteArray)] = (b.rg ++ [(⟨#[120]⟩ : ByteArray)]).map sD := by rw [List.map_append]; rfl
      rw [em] at hgr
      refine ⟨rfl, rfl, rfl, { b with rg := b.rg ++ [(⟨#[120]⟩ : ByteArray)] }, _, d2, d3, d4, d6, Heap.upd_same _ _ _, frz_agg ⟨frz_self, hgr _, o2.rd.see (lz _ _ m2 n2), o3.rd.see (lz _ _ m3 n3), o4.rd.see (lz _ _ m4 n4), frz_self, o6.rd.see (lz _ _ m6 n6), trivial⟩, fun e => ?_, by unfold big; rw [List.length_append]; show _ + 1 ≤ _; omega, ko, ⟨kt, ktx⟩, kl, kb, kbx⟩
      · have e2 := congrArg (fun x : BdS => x.rg.length) e
        simp at e2
    · obtain ⟨H0, ob, els, A', hg, hH0, hel, hkeep, hA', hA2, hrd⟩ := o2.grow l2
      have y5 : ∀ i, i = c5 → H0 i = some (.row 28 0 7 [[strD b.nm, d1, d2, d3, d4, i64 b.ag, d6]]) := fun i hi => hkeep (Heap.none.upd c5 (.row 28 0 7 [[strD b.nm, d1, d2, d3, d4, i64 b.ag, d6]])) (fun j x hj => by
        by_cases e : j = c5
        · rw [e, Heap.upd_same] at hj ⊢; exact hj
        · rw [Heap.upd_ne e] at hj; cases hj) (fun j hj => Heap.upd_ne (fun e => hj (by rw [e]; exact Heap.none_of q2.2.1 hc5))) i _ (by rw [hi]; exact Heap.upd_same _ _ _)
      have m1 := hkeep A1 l1 j12.symm
      have m3 := hkeep A3 l3 j23
      have m4 := hkeep A4 l4 j24
      have m6 := hkeep A6 l6 j26
      (have fs := And.intro @i64.eq_1 z5; (repeat (first | refine hGx _ ?_ | refine hNx _ ?_ | refine W_skip ?_ | refine W_exit ?_ | refine W_ret ?_ | refine W_label ?_ | refine W_scope ?_ | refine W_block ?_ | refine W_seq ?_ | ((first | refine tS fun N hNx => ?_ | refine WL_gE rfl rfl (by kernel_rfl) (by kernel_rfl) fun G hGx => ?_ | refine vcOpsS_sound (by kernel_rfl) ?_ | refine W_ifE fun A B hAx hBx => ?_); refine evT ?_; (first | refine hGx _ ?_ | refine hNx _ ?_ | refine hAx ?_ | refine hBx ?_ | skip)))); (try clear fs))
      refine apV_grow (e := 49) ty23 rfl ty23 rfl ty49 rfl (by decide) hH0 hg (new := [[i64 0, i64 1]]) (by exact ⟨rfl, rfl⟩) (by rw [hel, List.length_map]; show (_ + 1) * _ ≤ _; omega) fun d' H2 ob2 hg2 hle2 _ => ?_
      have hgk := hg2
      rcases hg2 with ⟨_, _, h⟩ | ⟨cc, oo, _, rfl, h2, h3⟩
      · simp at h
      have y6 := hle2 _ _ (y5 c5 rfl)
      (have fs := And.intro @i64.eq_1 y6; refine evT ?_; try clear fs); (first | refine hGx _ ?_ | refine hNx _ ?_ | skip)
      (have fs := And.intro @i64.eq_1 y6; (repeat (first | refine hGx _ ?_ | refine hNx _ ?_ | refine W_skip ?_ | refine W_exit ?_ | refine W_ret ?_ | refine W_label ?_ | refine W_scope ?_ | refine W_block ?_ | refine W_seq ?_ | ((first | refine tS fun N hNx => ?_ | refine WL_gE rfl rfl (by kernel_rfl) (by kernel_rfl) fun G hGx => ?_ | refine vcOpsS_sound (by kernel_rfl) ?_ | refine W_ifE fun A B hAx hBx => ?_); refine evT ?_; (first | refine hGx _ ?_ | refine hNx _ ?_ | refine hAx ?_ | refine hBx ?_ | skip)))); (try clear fs))
      have lz : ∀ (A : Heap) x, A.le H0 → A c5 = none → A.le (H2.upd c5 x) := fun A x h hc => Heap.le_put (Heap.le_trans h hle2) hc
      have n1 := Heap.none_of q1.2.1 hc5
      have n2 := Heap.none_of q2.2.1 hc5
      have n3 := Heap.none_of q3.2.1 hc5
      have n4 := Heap.none_of q4.2.1 hc5
      have n6 := Heap.none_of q6.2.1 hc5
      have hY : ∀ (v : HObj) c x, H2 c = some x → H0 c = none → (H2.upd c5 v) c = some x := fun v c x h h0 => by
        have : c ≠ c5 := fun e => by rw [y5 c e] at h0; cases h0
        rw [Heap.upd_ne this]; exact h
      have hgr := fun v => grown (n' := pD ((0, 1) : Int × Int)) hgk hA' hrd (RdL.same _ _) (hY v) (lz A' v hA' (Heap.none_of hA2 n2))
      have em : b.ol.map pD ++ [pD ((0, 1) : Int × Int)] = (b.ol ++ [((0, 1) : Int × Int)]).map pD := by rw [List.map_append]; rfl
      rw [em] at hgr
      refine ⟨rfl, rfl, rfl, { b with ol := b.ol ++ [((0, 1) : Int × Int)] }, d1, _, d3, d4, d6, Heap.upd_same _ _ _, frz_agg ⟨frz_self, o1.rd.see (lz _ _ m1 n1), hgr _, o3.rd.see (lz _ _ m3 n3), o4.rd.see (lz _ _ m4 n4), frz_self, o6.rd.see (lz _ _ m6 n6), trivial⟩, fun e => ?_, kr, by unfold big; rw [List.length_append]; show _ + 1 ≤ _; omega, ⟨kt, ktx⟩, kl, kb, kbx⟩
      · have e2 := congrArg (fun x : BdS => x.ol.length) e
        simp at e2
    · obtain ⟨H0, ob, els, A', hg, hH0, hel, hkeep, hA', hA2, hrd⟩ := o6.grow l6
      have y5 : ∀ i, i = c5 → H0 i = some (.row 28 0 7 [[strD b.nm, d1, d2, d3, d4, i64 b.ag, d6]]) := fun i hi => hkeep (Heap.none.upd c5 (.row 28 0 7 [[strD b.nm, d1, d2, d3, d4, i64 b.ag, d6]])) (fun j x hj => by
        by_cases e : j = c5
        · rw [e, Heap.upd_same] at hj ⊢; exact hj
        · rw [Heap.upd_ne e] at hj; cases hj) (fun j hj => Heap.upd_ne (fun e => hj (by rw [e]; exact Heap.none_of q6.2.1 hc5))) i _ (by rw [hi]; exact Heap.upd_same _ _ _)
      have m1 := hkeep A1 l1 j16.symm
      have m2 := hkeep A2 l2 j26.symm
      have m3 := hkeep A3 l3 j36.symm
      have m4 := hkeep A4 l4 j46.symm
      (have fs := And.intro @i64.eq_1 z5; (repeat (first | refine hGx _ ?_ | refine hNx _ ?_ | refine W_skip ?_ | refine W_exit ?_ | refine W_ret ?_ | refine W_label ?_ | refine W_scope ?_ | refine W_block ?_ | refine W_seq ?_ | ((first | refine tS fun N hNx => ?_ | refine WL_gE rfl rfl (by kernel_rfl) (by kernel_rfl) fun G hGx => ?_ | refine vcOpsS_sound (by kernel_rfl) ?_ | refine W_ifE fun A B hAx hBx => ?_); refine evT ?_; (first | refine hGx _ ?_ | refine hNx _ ?_ | refine hAx ?_ | refine hBx ?_ | skip)))); (try clear fs))
      refine apV_grow (e := 44) ty26 rfl ty26 rfl ty44 rfl (by decide) hH0 hg (new := [[.val (.slice none 0 0), i64 0, .val (.slice none 0 0), .val (.slice none 0 0), i64 0, .val (.slice none 0 0), .val (.string ByteArray.empty)]]) (by exact ⟨rfl, rfl⟩) (by rw [hel, List.length_map]; show (_ + 1) * _ ≤ _; omega) fun d' H2 ob2 hg2 hle2 _ => ?_
      have hgk := hg2
      rcases hg2 with ⟨_, _, h⟩ | ⟨cc, oo, _, rfl, h2, h3⟩
      · simp at h
      have y6 := hle2 _ _ (y5 c5 rfl)
      (have fs := And.intro @i64.eq_1 y6; refine evT ?_; try clear fs); (first | refine hGx _ ?_ | refine hNx _ ?_ | skip)
      (have fs := And.intro @i64.eq_1 y6; (repeat (first | refine hGx _ ?_ | refine hNx _ ?_ | refine W_skip ?_ | refine W_exit ?_ | refine W_ret ?_ | refine W_label ?_ | refine W_scope ?_ | refine W_block ?_ | refine W_seq ?_ | ((first | refine tS fun N hNx => ?_ | refine WL_gE rfl rfl (by kernel_rfl) (by kernel_rfl) fun G hGx => ?_ | refine vcOpsS_sound (by kernel_rfl) ?_ | refine W_ifE fun A B hAx hBx => ?_); refine evT ?_; (first | refine hGx _ ?_ | refine hNx _ ?_ | refine hAx ?_ | refine hBx ?_ | skip)))); (try clear fs))
      have lz : ∀ (A : Heap) x, A.le H0 → A c5 = none → A.le (H2.upd c5 x) := fun A x h hc => Heap.le_put (Heap.le_trans h hle2) hc
      have n1 := Heap.none_of q1.2.1 hc5
      have n2 := Heap.none_of q2.2.1 hc5
      have n3 := Heap.none_of q3.2.1 hc5
      have n4 := Heap.none_of q4.2.1 hc5
      have n6 := Heap.none_of q6.2.1 hc5
      have hY : ∀ (v : HObj) c x, H2 c = some x → H0 c = none → (H2.upd c5 v) c = some x := fun v c x h h0 => by
        have : c ≠ c5 := fun e => by rw [y5 c e] at h0; cases h0
        rw [Heap.upd_ne this]; exact h
      have hgr := fun v => grown (n' := bkD zBk) hgk hA' hrd (⟨Rd1.nil _ _, Rd1.same _ _, Rd1.nil _ _, Rd1.nil _ _, Rd1.same _ _, Rd1.nil _ _, Rd1.same _ _, trivial⟩) (hY v) (lz A' v hA' (Heap.none_of hA2 n6))
      have em : b.bl.map bkD ++ [bkD zBk] = (b.bl ++ [zBk]).map bkD := by rw [List.map_append]; rfl
      rw [em] at hgr
      refine ⟨rfl, rfl, rfl, { b with bl := b.bl ++ [zBk] }, d1, d2, d3, d4, _, Heap.upd_same _ _ _, frz_agg ⟨frz_self, o1.rd.see (lz _ _ m1 n1), o2.rd.see (lz _ _ m2 n2), o3.rd.see (lz _ _ m3 n3), o4.rd.see (lz _ _ m4 n4), frz_self, hgr _, trivial⟩, fun e => ?_, kr, ko, ⟨kt, ktx⟩, kl, by unfold big; rw [List.length_append]; show _ + 1 ≤ _; omega, fun t ht => ?_⟩
      · have e2 := congrArg (fun x : BdS => x.bl.length) e
        simp at e2
      · rcases List.mem_append.1 ht with h | h
        · exact kbx t h
        · rw [List.mem_singleton.1 h]; exact zBk_ok
    · obtain ⟨H0, ob, els, A', hg, hH0, hel, hkeep, hA', hA2, hrd⟩ := o3.grow l3
      have y5 : ∀ i, i = c5 → H0 i = some (.row 28 0 7 [[strD b.nm, d1, d2, d3, d4, i64 b.ag, d6]]) := fun i hi => hkeep (Heap.none.upd c5 (.row 28 0 7 [[strD b.nm, d1, d2, d3, d4, i64 b.ag, d6]])) (fun j x hj => by
        by_cases e : j = c5
        · rw [e, Heap.upd_same] at hj ⊢; exact hj
        · rw [Heap.upd_ne e] at hj; cases hj) (fun j hj => Heap.upd_ne (fun e => hj (by rw [e]; exact Heap.none_of q3.2.1 hc5))) i _ (by rw [hi]; exact Heap.upd_same _ _ _)
      have m1 := hkeep A1 l1 j13.symm
      have m2 := hkeep A2 l2 j23.symm
      have m4 := hkeep A4 l4 j43.symm
      have m6 := hkeep A6 l6 j36
      (have fs := And.intro @i64.eq_1 z5; (repeat (first | refine hGx _ ?_ | refine hNx _ ?_ | refine W_skip ?_ | refine W_exit ?_ | refine W_ret ?_ | refine W_label ?_ | refine W_scope ?_ | refine W_block ?_ | refine W_seq ?_ | ((first | refine tS fun N hNx => ?_ | refine WL_gE rfl rfl (by kernel_rfl) (by kernel_rfl) fun G hGx => ?_ | refine vcOpsS_sound (by kernel_rfl) ?_ | refine W_ifE fun A B hAx hBx => ?_); refine evT ?_; (first | refine hGx _ ?_ | refine hNx _ ?_ | refine hAx ?_ | refine hBx ?_ | skip)))); (try clear fs))
      refine apV_grow (e := 51) ty24 rfl ty24 rfl ty51 rfl (by decide) hH0 hg (new := [[i64 0, .val (.bool false), i64 0, i64 0, .val (.slice none 0 0)]]) (by exact ⟨rfl, rfl⟩) (by rw [hel, List.length_map]; show (_ + 1) * _ ≤ _; omega) fun d' H2 ob2 hg2 hle2 _ => ?_
      have hgk := hg2
      rcases hg2 with ⟨_, _, h⟩ | ⟨cc, oo, _, rfl, h2, h3⟩
      · simp at h
      have y6 := hle2 _ _ (y5 c5 rfl)
      (have fs := And.intro @i64.eq_1 y6; refine evT ?_; try clear fs); (first | refine hGx _ ?_ | refine hNx _ ?_ | skip)
      (have fs := And.intro @i64.eq_1 y6; (repeat (first | refine hGx _ ?_ | refine hNx _ ?_ | refine W_skip ?_ | refine W_exit ?_ | refine W_ret ?_ | refine W_label ?_ | refine W_scope ?_ | refine W_block ?_ | refine W_seq ?_ | ((first | refine tS fun N hNx => ?_ | refine WL_gE rfl rfl (by kernel_rfl) (by kernel_rfl) fun G hGx => ?_ | refine vcOpsS_sound (by kernel_rfl) ?_ | refine W_ifE fun A B hAx hBx => ?_); refine evT ?_; (first | refine hGx _ ?_ | refine hNx _ ?_ | refine hAx ?_ | refine hBx ?_ | skip)))); (try clear fs))
      have lz : ∀ (A : Heap) x, A.le H0 → A c5 = none → A.le (H2.upd c5 x) := fun A x h hc => Heap.le_put (Heap.le_trans h hle2) hc
      have n1 := Heap.none_of q1.2.1 hc5
      have n2 := Heap.none_of q2.2.1 hc5
      have n3 := Heap.none_of q3.2.1 hc5
      have n4 := Heap.none_of q4.2.1 hc5
      have n6 := Heap.none_of q6.2.1 hc5
      have hY : ∀ (v : HObj) c x, H2 c = some x → H0 c = none → (H2.upd c5 v) c = some x := fun v c x h h0 => by
        have : c ≠ c5 := fun e => by rw [y5 c e] at h0; cases h0
        rw [Heap.upd_ne this]; exact h
      have hgr := fun v => grown (n' := tyD zTy) hgk hA' hrd (⟨Rd1.same _ _, Rd1.same _ _, Rd1.same _ _, Rd1.same _ _, Rd1.nil _ _, trivial⟩) (hY v) (lz A' v hA' (Heap.none_of hA2 n3))
      have em : b.ty.map tyD ++ [tyD zTy] = (b.ty ++ [zTy]).map tyD := by rw [List.map_append]; rfl
      rw [em] at hgr
      refine ⟨rfl, rfl, rfl, { b with ty := b.ty ++ [zTy] }, d1, d2, _, d4, d6, Heap.upd_same _ _ _, frz_agg ⟨frz_self, o1.rd.see (lz _ _ m1 n1), o2.rd.see (lz _ _ m2 n2), hgr _, o4.rd.see (lz _ _ m4 n4), frz_self, o6.rd.see (lz _ _ m6 n6), trivial⟩, fun e => ?_, kr, ko, ⟨by unfold big; rw [List.length_append]; show _ + 1 ≤ _; omega, fun t ht => ?_⟩, kl, kb, kbx⟩
      · have e2 := congrArg (fun x : BdS => x.ty.length) e
        simp at e2
      · rcases List.mem_append.1 ht with h | h
        · exact ktx t h
        · rw [List.mem_singleton.1 h]; unfold big; decide
  rintro s ⟨hdf, f2, f5, c, e1, e2, e3, e4, e6, hc5r, hfz, hne, okc⟩
  show W _ _ _ _
  simp only [bdD] at f2
  have okb : okBd b := ⟨kr, ko, ⟨kt, ktx⟩, kl, kb, kbx⟩
  (have fs := And.intro @i64.eq_1 (And.intro f2 (And.intro f5 hc5r)); (repeat (first | refine hGx _ ?_ | refine hNx _ ?_ | refine W_skip ?_ | refine W_exit ?_ | refine W_ret ?_ | refine W_label ?_ | refine W_scope ?_ | refine W_block ?_ | refine W_seq ?_ | ((first | refine tS fun N hNx => ?_ | refine WL_gE rfl rfl (by kernel_rfl) (by kernel_rfl) fun G hGx => ?_ | refine vcOpsS_sound (by kernel_rfl) ?_ | refine W_ifE fun A B hAx hBx => ?_); refine evT ?_; (first | refine hGx _ ?_ | refine hNx _ ?_ | refine hAx ?_ | refine hBx ?_ | skip)))); (try clear fs))
  refine (alive9_at _).mono ?_; rintro d _ ⟨rfl, rfl⟩
  (have fs := And.intro @i64.eq_1 (And.intro f2 (And.intro f5 hc5r)); (repeat (first | refine hGx _ ?_ | refine hNx _ ?_ | refine W_skip ?_ | refine W_exit ?_ | refine W_ret ?_ | refine W_label ?_ | refine W_scope ?_ | refine W_block ?_ | refine W_seq ?_ | ((first | refine tS fun N hNx => ?_ | refine WL_gE rfl rfl (by kernel_rfl) (by kernel_rfl) fun G hGx => ?_ | refine vcOpsS_sound (by kernel_rfl) ?_ | refine W_ifE fun A B hAx hBx => ?_); refine evT ?_; (first | refine hGx _ ?_ | refine hNx _ ?_ | refine hAx ?_ | refine hBx ?_ | skip)))); (try clear fs))
  refine (pure_D ((bdeq_N b c .none okb).mono fun _ _ h => h.1) rfl (vws2 (vw_refl _ _) hfz)).mono ?_
  rintro d _ ⟨rfl, rfl⟩
  rw [decide_eq_false hne]
  (have fs := And.intro @i64.eq_1 (And.intro f2 (And.intro f5 hc5r)); (repeat (first | refine hGx _ ?_ | refine hNx _ ?_ | refine W_skip ?_ | refine W_exit ?_ | refine W_ret ?_ | refine W_label ?_ | refine W_scope ?_ | refine W_block ?_ | refine W_seq ?_ | ((first | refine tS fun N hNx => ?_ | refine WL_gE rfl rfl (by kernel_rfl) (by kernel_rfl) fun G hGx => ?_ | refine vcOpsS_sound (by kernel_rfl) ?_ | refine W_ifE fun A B hAx hBx => ?_); refine evT ?_; (first | refine hGx _ ?_ | refine hNx _ ?_ | refine hAx ?_ | refine hBx ?_ | skip)))); (try clear fs))
  refine (pure_D ((bdeq_N c b .none okc).mono fun _ _ h => h.1) rfl (vws2 hfz (vw_refl _ _))).mono ?_
  rintro d _ ⟨rfl, rfl⟩
  rw [decide_eq_false (Ne.symm hne)]
  (have fs := @i64.eq_1; (repeat (first | refine hGx _ ?_ | refine hNx _ ?_ | refine W_skip ?_ | refine W_exit ?_ | refine W_ret ?_ | refine W_label ?_ | refine W_scope ?_ | refine W_block ?_ | refine W_seq ?_ | ((first | refine tS fun N hNx => ?_ | refine WL_gE rfl rfl (by kernel_rfl) (by kernel_rfl) fun G hGx => ?_ | refine vcOpsS_sound (by kernel_rfl) ?_ | refine W_ifE fun A B hAx hBx => ?_); refine evT ?_; (first | refine hGx _ ?_ | refine hNx _ ?_ | refine hAx ?_ | refine hBx ?_ | skip)))); (try clear fs))
  (first | (show Q .ret _) | (show Q .normal _) | skip); refine hret _ _ (by first | exact .inr rfl | exact .inl rfl) (by first | rfl | assumption | (simp only [put_df, withH_df]; assumption)) ?_; have fs := hdf; refine evT ?_; clear fs
  exact ⟨_, Heap.le_refl _⟩
theorem BodiesDiffer_walk (x0 : X) (v0 : Value) (x1 : X) (v1 : Value) (w : World) (o0 : DT.ok (DT.struct [DT.string, DT.slice 1 16 (DT.string), DT.slice 2 16 (DT.array 2 (DT.int .i64)), DT.slice 5 56 (DT.struct [DT.int .i64, DT.bool, DT.int .i64, DT.int .i64, DT.slice 1 8 (DT.int .i64)]), DT.slice 2 24 (DT.struct [DT.string, DT.int .i64]), DT.int .i64, DT.slice 7 128 (DT.struct [DT.slice 11 136 (DT.struct [DT.int .i64, DT.struct [DT.int .i64, DT.slice 2 16 (DT.struct [DT.int .i64, DT.int .i64])], DT.struct [DT.int .i64, DT.int .i64, DT.int .i64, DT.bool, DT.struct [DT.int .i64, DT.slice 2 16 (DT.struct [DT.int .i64, DT.int .i64])], DT.slice 4 48 (DT.struct [DT.int .i64, DT.struct [DT.int .i64, DT.slice 2 16 (DT.struct [DT.int .i64, DT.int .i64])], DT.int .i64])], DT.int .i64]), DT.struct [DT.int .i64, DT.slice 1 8 (DT.int .i64), DT.slice 4 48 (DT.struct [DT.int .i64, DT.struct [DT.int .i64, DT.slice 2 16 (DT.struct [DT.int .i64, DT.int .i64])], DT.int .i64]), DT.struct [DT.int .i64, DT.slice 2 16 (DT.struct [DT.int .i64, DT.int .i64])], DT.string]])]) x0) (i0 : D.is w Heap.none.others x0.d v0) (o1 : DT.ok (DT.int .u8) x1) (i1 : D.is w Heap.none.others x1.d v1) :
    Calls Try.prog 7 #[v0, v1] w fun e w' => e = .returned (.bool true) ∧ Below w.heap.size w w' := by
  obtain ⟨a, ha, hoka⟩ := ok_body o0
  obtain ⟨u, rfl⟩ := ok_u8 o1
  rw [ha] at i0
  exact walk_of (ldiff_N a u hoka) ⟨_, _, rfl, i0, _, _, rfl, i1, rfl⟩
end Go.Proofs.Ytbcghjcakincoaa
