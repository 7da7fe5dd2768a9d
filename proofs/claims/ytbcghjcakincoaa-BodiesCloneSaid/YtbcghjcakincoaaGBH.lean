/- Lemmas and contracts of functions, several texts in one: E1 E2 BO E3. -/
import Derived.Test.YtbcghjcakincoaaGBE
import Derived.Test.YtbcghjcakincoaaGBS
import Derived.Test.YtbcghjcakincoaaGBX
import Derived.Test.YtbcghjcakincoaaGBQ
import Derived.Test.YtbcghjcakincoaaGY
/- Chapter 9: the example of the chapter (XBL over XBQ). -/
namespace Go.Proofs.Ytbcghjcakincoaa
open Go.RowKit
set_option linter.unusedVariables false
set_option maxRecDepth 100000
set_option linter.unusedSimpArgs false
/-- What has been copied, seen by one who owns H0. -/
theorem ClB.sees {b : BdS} {H H' : Heap} {d : D} (h : ClB b H d H') (H0 : Heap) (h0 : H0.le H) (hD : Dom H0 H') : Frz H0 H' d (.agg (bdD b)) := by
  obtain ⟨A1, A2, A3, A4, A6, d1, d2, d3, d4, d6, rfl, ⟨c1, o1⟩, ⟨c2, o2⟩, ⟨c3, o3⟩, ⟨c4, o4⟩, ⟨c6, o6⟩, _⟩ := h
  have hn : ∀ A : Heap, (∀ k, A k ≠ none → H k = none) → ∀ k, A k ≠ none → H0 k = none := fun A hA k hk => Heap.none_of h0 (hA k hk)
  exact frz_agg ⟨frz_same hD, o1.rd _ _ c1.2.1 hD (hn _ c1.2.2.1), o2.rd _ _ c2.2.1 hD (hn _ c2.2.2.1), o3.rd _ _ c3.2.1 hD (hn _ c3.2.2.1), o4.rd _ _ c4.2.1 hD (hn _ c4.2.2.1), frz_same hD, o6.rd _ _ c6.2.1 hD (hn _ c6.2.2.1), trivial⟩
theorem ClB.le {b : BdS} {H H' : Heap} {d : D} (h : ClB b H d H') : H.le H' := by
  obtain ⟨A1, A2, A3, A4, A6, d1, d2, d3, d4, d6, rfl, ⟨c1, o1⟩, _⟩ := h
  exact c1.1
theorem ClB.frz {b : BdS} {H H' : Heap} {d : D} (h : ClB b H d H') : ∃ B, H.le B ∧ B.le H' ∧ ∃ e, Frz H H' d e ∧ e = .agg (bdD b) :=
  ⟨H, Heap.le_refl _, h.le, _, h.sees H (Heap.le_refl _) (fun b hb => Heap.none_of h.le hb), rfl⟩
theorem cloneZ_N (b : BdS) (H : Heap) (hs : smB b) : Does Try.prog 29 [.agg (bdD b)] H fun d H' => d = .agg (bdD b) ∧ H = H' :=
  Does.frz (K := fun d => d = .agg (bdD b)) ((clone_N b H hs).mono fun d H' h => by
    obtain ⟨B, h1, h2, e, h3, h4⟩ := h.frz
    exact ⟨Heap.le_trans h1 h2, e, h3, h4⟩)
theorem ImpL.cellsB {w : World} {S : Nat → Prop} : ∀ {ds es : List D} {vs : List Value}, ImpL ds es → cellsAll w S ds vs → cellsAll w S es vs
  | [], [], vs, _, h => by simp only [cellsAll] at h ⊢; exact h
  | d :: ds, e :: es, vs, hv, h => by
    simp only [cellsAll] at h ⊢
    obtain ⟨u, us, rfl, h0, h1, h2⟩ := h
    exact ⟨u, us, rfl, h0, hv.1 w S u h1, ImpL.cellsB hv.2 h2⟩
  | [], _ :: _, _, hv, _ => hv.elim
  | _ :: _, [], _, hv, _ => hv.elim
theorem imp_aggB {ds es : List D} (h : ImpL ds es) : Imp (.agg ds) (.agg es) := fun w S v hv => by
  simp only [D.is] at hv ⊢
  obtain ⟨vs, rfl, h1⟩ := hv
  exact ⟨vs, rfl, h.cellsB h1⟩
theorem imp_rpB {ds es : List D} (h : ImpL ds es) : Imp (.rp ds) (.rp es) := fun w S v hv => by
  simp only [D.is] at hv ⊢
  obtain ⟨b, o, h1, h2, h3, h4⟩ := hv
  exact ⟨b, o, h1, h2, h3, h.at h4⟩
def fS : ByteArray := ⟨#[102]⟩
def aB9 : BdS := ⟨fS, [], [], [], [], 0, [⟨[], ⟨2, [], [], ⟨0, []⟩, ByteArray.empty⟩⟩]⟩
def zB9 : BdS := ⟨ByteArray.empty, [], [], [], [], 0, []⟩
theorem aB9_sm : smB aB9 := by
  refine ⟨⟨by decide, by decide, by decide⟩, by decide, by decide, ?_, by decide⟩
  intro x hx
  have : x = ⟨[], ⟨2, [], [], ⟨0, []⟩, ByteArray.empty⟩⟩ := by simpa [aB9] using hx
  subst this
  exact ⟨by decide, fun s hs => by simp at hs, by decide, ⟨by decide, fun o ho => by simp at ho⟩, by unfold smP; decide, by decide⟩
theorem aB9_ok : okBd aB9 := by
  refine ⟨by unfold big; decide, by unfold big; decide, ⟨by unfold big; decide, fun t ht => by simp [aB9] at ht⟩, by unfold big; decide, by unfold big; decide, ?_⟩
  intro x hx
  have : x = ⟨[], ⟨2, [], [], ⟨0, []⟩, ByteArray.empty⟩⟩ := by simpa [aB9] using hx
  subst this
  exact ⟨⟨by unfold big; decide, fun s hs => by simp at hs⟩, by unfold big; decide, ⟨by unfold big; decide, fun o ho => by simp at ho⟩, by unfold okPl big; decide⟩
theorem aB9_nd : nodesT aB9 = 4 := by decide
theorem aB9_by : bytB aB9 = 1 := by decide
theorem aB9_nm : namesT aB9 = [fS] := by decide
theorem aB9_ne : decide (aB9 = zB9) = false := by decide
theorem aB9_eq : decide (aB9 = aB9) = true := by decide
set_option maxHeartbeats 2000000 in
theorem alive9_at (H : Heap) : Does Try.prog 16 [] H fun d H' => d = .val (.bool true) ∧ H = H' := by
  refine does_of _ _ Try.func16 rfl rfl Try.ntmps16 Try.results16 (by simp only [List.length_cons, List.length_nil]; omega) fun w0 Q hret => ?_
  (have fs := @i64.eq_1; (repeat (first | refine hGx _ ?_ | refine hNx _ ?_ | refine W_skip ?_ | refine W_exit ?_ | refine W_ret ?_ | refine W_label ?_ | refine W_scope ?_ | refine W_block ?_ | refine W_seq ?_ | ((first | refine tS fun N hNx => ?_ | refine WL_gE rfl rfl (by kernel_rfl) (by kernel_rfl) fun G hGx => ?_ | refine vcOpsS_sound (by kernel_rfl) ?_ | refine W_ifE fun A B hAx hBx => ?_); refine evT ?_; (first | refine hGx _ ?_ | refine hNx _ ?_ | refine hAx ?_ | refine hBx ?_ | skip)))); (try clear fs))
  intro c1 hc1
  refine hNx _ ?_
  refine W_frzp 1 rfl (Heap.upd_same _ _ _) rfl ?_; simp only [St.frzp, put_H, wdf_H, withH_H, withH_put, wdf_withH, withH_withH, init_H, init_withH, Heap.del_upd_same, Heap.del_none hc1, withH_self]
  refine W_as 1 (.rp (bdD aB9)) (fun w v hv => imp_rpB ?_ _ _ _ hv) ?_
  · exact ⟨imp_refl _, imp_nil, imp_nil, imp_nil, imp_nil, imp_refl _, imp_seq ⟨⟨imp_nil, imp_refl _, imp_nil, imp_nil, imp_refl _, imp_nil, imp_refl _, trivial⟩, trivial⟩, trivial⟩
  simp only [bdD]
  refine W_seq ?_
  refine W_drawE (fun t _ d A => A = .none ∧ d = (if t = some 7 then i64 4 else if t = some 11 then i64 1 else if t = some 16 then .seq 1 (namesT aB9 |>.map sD) else if t = some 18 then .val (.bool true) else if t = some 23 then .agg (bdD aB9) else if t = some 24 then .val (.bool true) else if t = some 29 then .val (.bool false) else d)) (by kernel_rfl) (by kernel_rfl) (by kernel_rfl) fun N hNx => ?_; (have fs := And.intro @i64.eq_1 (And.intro @Bool.and_true @Bool.not_false); (repeat ((first | refine vcD_g rfl rfl fun G hGx => ?_ | refine vcDS_to ?_); refine evD ?_; (first | refine hGx _ ?_ | refine hNx _ ?_ | skip))); (try clear fs))
  refine ⟨callOK_eq fun H'' hle'' => (nodes_N aB9 _ aB9_sm).mono fun d H' h => ⟨h.1.trans (by rw [aB9_nd]; rfl), h.2⟩, ?_⟩
  (first | refine hGx _ ?_ | refine hNx _ ?_ | skip)
  (have fs := And.intro @i64.eq_1 (And.intro @Bool.and_true @Bool.not_false); (repeat ((first | refine vcD_g rfl rfl fun G hGx => ?_ | refine vcDS_to ?_); refine evD ?_; (first | refine hGx _ ?_ | refine hNx _ ?_ | skip))); (try clear fs))
  refine ⟨callOK_eq fun H'' hle'' => (bytes_N aB9 _ aB9_sm.1 (by rw [aB9_by]; decide)).mono fun d H' h => ⟨h.1.trans (by rw [aB9_by]; rfl), h.2⟩, ?_⟩
  (first | refine hGx _ ?_ | refine hNx _ ?_ | skip)
  (have fs := And.intro @i64.eq_1 (And.intro @Bool.and_true @Bool.not_false); (repeat ((first | refine vcD_g rfl rfl fun G hGx => ?_ | refine vcDS_to ?_); refine evD ?_; (first | refine hGx _ ?_ | refine hNx _ ?_ | skip))); (try clear fs))
  refine ⟨callOK_eq fun H'' hle'' => (names_N aB9 _ aB9_sm.1).mono fun d H' h => h, ?_⟩
  (first | refine hGx _ ?_ | refine hNx _ ?_ | skip)
  (have fs := And.intro @i64.eq_1 (And.intro @Bool.and_true @Bool.not_false); (repeat ((first | refine vcD_g rfl rfl fun G hGx => ?_ | refine vcDS_to ?_); refine evD ?_; (first | refine hGx _ ?_ | refine hNx _ ?_ | skip))); (try clear fs))
  refine ⟨callOK_eq fun H'' hle'' => (equalS_at H'' (namesT aB9) [fS] (by rw [aB9_nm]; unfold big; decide)).mono fun d H' h => ⟨h.1.trans (by rw [aB9_nm]; rfl), h.2⟩, ?_⟩
  (first | refine hGx _ ?_ | refine hNx _ ?_ | skip)
  (have fs := And.intro @i64.eq_1 (And.intro @Bool.and_true @Bool.not_false); (repeat ((first | refine vcD_g rfl rfl fun G hGx => ?_ | refine vcDS_to ?_); refine evD ?_; (first | refine hGx _ ?_ | refine hNx _ ?_ | skip))); (try clear fs))
  refine ⟨callOK_eq fun H'' hle'' => (cloneZ_N aB9 _ aB9_sm).mono fun d H' h => h, ?_⟩
  (first | refine hGx _ ?_ | refine hNx _ ?_ | skip)
  (have fs := And.intro @i64.eq_1 (And.intro @Bool.and_true @Bool.not_false); (repeat ((first | refine vcD_g rfl rfl fun G hGx => ?_ | refine vcDS_to ?_); refine evD ?_; (first | refine hGx _ ?_ | refine hNx _ ?_ | skip))); (try clear fs))
  refine ⟨callOK_eq fun H'' hle'' => (bdeq_N aB9 aB9 _ aB9_ok).mono fun d H' h => ⟨h.1.trans (by rw [aB9_eq]), h.2⟩, ?_⟩
  (first | refine hGx _ ?_ | refine hNx _ ?_ | skip)
  (have fs := And.intro @i64.eq_1 (And.intro @Bool.and_true @Bool.not_false); (repeat ((first | refine vcD_g rfl rfl fun G hGx => ?_ | refine vcDS_to ?_); refine evD ?_; (first | refine hGx _ ?_ | refine hNx _ ?_ | skip))); (try clear fs))
  refine ⟨callOK_eq fun H'' hle'' => (Does.imp (ds := [.agg (bdD aB9), .agg [strD ByteArray.empty, .val (.slice none 0 0), .val (.slice none 0 0), .val (.slice none 0 0), .val (.slice none 0 0), i64 0, .val (.slice none 0 0)]]) (bdeq_N aB9 zB9 _ aB9_ok) ⟨imp_refl _, imp_aggB ⟨imp_refl _, imp_nil, imp_nil, imp_nil, imp_nil, imp_refl _, imp_nil, trivial⟩, trivial⟩).mono fun d H' h => ⟨h.1.trans (by rw [aB9_ne]), h.2⟩, ?_⟩
  (first | refine hGx _ ?_ | refine hNx _ ?_ | skip)
  (have fs := And.intro @i64.eq_1 (And.intro @Bool.and_true @Bool.not_false); (repeat ((first | refine vcD_g rfl rfl fun G hGx => ?_ | refine vcDS_to ?_); refine evD ?_; (first | refine hGx _ ?_ | refine hNx _ ?_ | skip))); (try clear fs))
  (first | refine hGx _ ?_ | refine hNx _ ?_ | skip)
  (have fs := @i64.eq_1; (repeat (first | refine hGx _ ?_ | refine hNx _ ?_ | refine W_skip ?_ | refine W_exit ?_ | refine W_ret ?_ | refine W_label ?_ | refine W_scope ?_ | refine W_block ?_ | refine W_seq ?_ | ((first | refine tS fun N hNx => ?_ | refine WL_gE rfl rfl (by kernel_rfl) (by kernel_rfl) fun G hGx => ?_ | refine vcOpsS_sound (by kernel_rfl) ?_ | refine W_ifE fun A B hAx hBx => ?_); refine evT ?_; (first | refine hGx _ ?_ | refine hNx _ ?_ | refine hAx ?_ | refine hBx ?_ | skip)))); (try clear fs))
  (first | (show Q .ret _) | (show Q .normal _) | skip); refine hret _ _ (by first | exact .inr rfl | exact .inl rfl) (by first | rfl | assumption | (simp only [put_df, withH_df]; assumption)) ?_; have fs := @i64.eq_1; refine evT ?_; clear fs
  exact ⟨_, Heap.le_refl _, rfl⟩
/-- Counted up to a limit. -/
def Ab (T n : Nat) : Prop := n ≤ T ∧ min T 9000 ≤ n
theorem Ab.add {T n X v : Nat} (h : Ab T n) (h2 : Ab X v) : Ab (T + X) (n + v) := by unfold Ab at *; omega
theorem Ab.same (X : Nat) : Ab X X := by unfold Ab; omega
theorem Ab.cut (X : Nat) : Ab X (min X 9000) := by unfold Ab; omega
theorem Ab.more {T n T' : Nat} (h : Ab T n) (hn : 9000 ≤ n) (hl : T ≤ T') : Ab T' n := by unfold Ab at *; omega
def opz (l : List OpS) : Nat := l.length + sm (fun o => o.pl.pr.length) l
def upTo {α : Type} (f : α → Nat) : List α → Nat → Nat
  | [], n => n
  | x :: l, n => if 9000 < n + f x then n + f x else upTo f l (n + f x)
theorem upTo_ab {α : Type} (f : α → Nat) (hf : ∀ x, f x ≤ 9000) : ∀ (l : List α) (n : Nat), n ≤ 9000 → upTo f l n ≤ n + sm f l ∧ min (n + sm f l) 9000 ≤ upTo f l n ∧ upTo f l n ≤ 18000
  | [], n, h => by simp only [upTo, sm]; omega
  | x :: l, n, h => by
    have hx := hf x
    simp only [upTo, sm]
    by_cases hb : 9000 < n + f x
    · rw [if_pos hb]; omega
    · rw [if_neg hb]
      have := upTo_ab f hf l (n + f x) (by omega)
      omega
def opV (l : List OpS) : Nat := upTo (fun o : OpS => min o.pl.pr.length 9000) (l.take (min l.length 9000)) (min l.length 9000)
theorem opV_ab (l : List OpS) : Ab (opz l) (opV l) ∧ opV l ≤ 18000 := by
  have h0 := upTo_ab (fun o : OpS => min o.pl.pr.length 9000) (fun x => Nat.min_le_right _ _) (l.take (min l.length 9000)) (min l.length 9000) (Nat.min_le_right _ _)
  have e1 : ∀ m : List OpS, Ab (sm (fun o : OpS => o.pl.pr.length) m) (sm (fun o : OpS => min o.pl.pr.length 9000) m) := fun m => by
    induction m with
    | nil => exact Ab.same 0
    | cons x m ih => exact (Ab.cut _).add ih
  have h1 := (Ab.cut l.length).add (e1 (l.take (min l.length 9000)))
  have h3 : sm (fun o : OpS => o.pl.pr.length) (l.take (min l.length 9000)) ≤ sm (fun o : OpS => o.pl.pr.length) l := sm_le _ _ _
  refine ⟨?_, h0.2.2⟩
  by_cases h : l.length ≤ 9000
  · have e : l.take (min l.length 9000) = l := List.take_of_length_le (by omega)
    unfold opV
    rw [e] at h1 h0 ⊢
    unfold Ab opz at *
    omega
  · unfold opV
    unfold Ab opz at *
    omega
set_option maxHeartbeats 1000000 in
theorem lops_N (l : List OpS) (H : Heap) (hl : l.length ≤ 140737488351232) (hlx : ∀ o ∈ l, o.pl.pr.length ≤ 140737488351232) : Does Try.prog 47 [.seq 4 (l.map opD)] H fun d H' => d = i64 (opV l) ∧ H = H' := by
  have hll : (List.map opD l).length = l.length := List.length_map _
  obtain ⟨a, ha⟩ : ∃ a, a = min l.length 9000 := ⟨_, rfl⟩
  have hm : min (l.length : Int) 9000 = (a : Int) := by omega
  obtain ⟨l', hl'⟩ : ∃ l', l' = l.take a := ⟨_, rfl⟩
  have hla : l'.length = a := by rw [hl', List.length_take]; omega
  have hln : (List.map opD l').length = a := by rw [List.length_map, hla]
  have ht : List.take a (List.map opD l) = List.map opD l' := by rw [hl', List.map_take]
  have g1 : ((0 : Int) ≤ (a : Int)) = True := eq_true (by omega)
  have g2 : ((a : Int) ≤ (l.length : Int)) = True := eq_true (by omega)
  have hlx' : ∀ o ∈ l', o.pl.pr.length ≤ 140737488351232 := fun o ho => hlx o (by rw [hl'] at ho; exact List.mem_of_mem_take ho)
  refine does_of _ _ Try.func47 rfl rfl Try.ntmps47 Try.results47 (by simp only [List.length_cons, List.length_nil]; omega) fun w0 Q hret => ?_
  (have fs := And.intro @i64.eq_1 (And.intro hll (And.intro hm (And.intro ht (And.intro g1 (And.intro g2 hln))))); (repeat (first | refine hGx _ ?_ | refine hNx _ ?_ | refine W_skip ?_ | refine W_exit ?_ | refine W_ret ?_ | refine W_label ?_ | refine W_scope ?_ | refine W_block ?_ | refine W_seq ?_ | ((first | refine tS fun N hNx => ?_ | refine WL_gE rfl rfl (by kernel_rfl) (by kernel_rfl) fun G hGx => ?_ | refine vcOpsS_sound (by kernel_rfl) ?_ | refine W_ifE fun A B hAx hBx => ?_); refine evT ?_; (first | refine hGx _ ?_ | refine hNx _ ?_ | refine hAx ?_ | refine hBx ?_ | skip)))); (try clear fs))
  refine W_loopN a (fun i s => s.df = [] ∧ s.fr 11 = .seq 4 (l'.map opD) ∧ s.fr 12 = i64 a ∧ s.fr 13 = i64 i ∧ s.fr 3 = i64 ((a + sm (fun o : OpS => min o.pl.pr.length 9000) (l'.take i) : Nat) : Int) ∧ a + sm (fun o : OpS => min o.pl.pr.length 9000) (l'.take i) ≤ 9000 ∧ opV l = upTo (fun o : OpS => min o.pl.pr.length 9000) (l'.drop i) (a + sm (fun o : OpS => min o.pl.pr.length 9000) (l'.take i)) ∧ s.H = H) ⟨rfl, rfl, rfl, rfl, rfl, by simp only [List.take_zero, sm]; omega, by simp only [List.take_zero, sm, List.drop_zero, Nat.add_zero]; unfold opV; rw [← ha, ← hl'], rfl⟩ ?_
  rintro i s hi ⟨hdf, f11, f12, f13, f3, hb, hV, hH⟩
  have hx : (i : Int).toNat = i := Int.toNat_natCast _
  have h00 : (0 : Int) ≤ (i : Int) := Int.natCast_nonneg _
  by_cases hil : i < a
  case neg =>
    have p1 : ((i : Int) < (a : Int)) = False := eq_false (by omega)
    rw [List.take_of_length_le (by omega)] at f3 hb hV
    rw [List.drop_eq_nil_of_le (by omega)] at hV
    simp only [upTo] at hV
    rw [← hV] at f3
    (have fs := And.intro f3 (And.intro f11 (And.intro f12 (And.intro f13 (And.intro @i64.eq_1 p1)))); (repeat (first | refine hGx _ ?_ | refine hNx _ ?_ | refine W_skip ?_ | refine W_exit ?_ | refine W_ret ?_ | refine W_label ?_ | refine W_scope ?_ | refine W_block ?_ | refine W_seq ?_ | ((first | refine tS fun N hNx => ?_ | refine WL_gE rfl rfl (by kernel_rfl) (by kernel_rfl) fun G hGx => ?_ | refine vcOpsS_sound (by kernel_rfl) ?_ | refine W_ifE fun A B hAx hBx => ?_); refine evT ?_; (first | refine hGx _ ?_ | refine hNx _ ?_ | refine hAx ?_ | refine hBx ?_ | skip)))); (try clear fs))
    (first | (show Q .ret _) | (show Q .normal _) | skip); refine hret _ _ (by first | exact .inr rfl | exact .inl rfl) (by first | rfl | assumption | (simp only [put_df, withH_df]; assumption)) ?_; have fs := hdf; refine evT ?_; clear fs
    exact ⟨_, Heap.le_refl _, rfl, hH.symm⟩
  have p1 : ((i : Int) < (a : Int)) = True := eq_true (by omega)
  have hil' : i < l'.length := by omega
  have hgi := map_get (f := opD) hil'
  have htk : sm (fun o : OpS => min o.pl.pr.length 9000) (l'.take (i + 1)) = sm (fun o : OpS => min o.pl.pr.length 9000) (l'.take i) + min l'[i].pl.pr.length 9000 := sm_take hil'
  rw [List.drop_eq_getElem_cons hil'] at hV
  have hxp := hlx' l'[i] (List.getElem_mem hil')
  obtain ⟨x, hxe⟩ : ∃ x, x = l'[i] := ⟨_, rfl⟩
  rw [← hxe] at hgi htk hxp hV
  simp only [opD] at hgi
  have hlp : (List.map pD x.pl.pr).length = x.pl.pr.length := List.length_map _
  have hm2 : min (x.pl.pr.length : Int) 9000 = ((min x.pl.pr.length 9000 : Nat) : Int) := by omega
  obtain ⟨n, hn⟩ : ∃ n, n = a + sm (fun o : OpS => min o.pl.pr.length 9000) (l'.take (i + 1)) := ⟨_, rfl⟩
  have w3 : IntKind.i64.wrap ((i : Int) + 1) = ((i + 1 : Nat) : Int) := by rw [wrap_i64_of (by omega)]; omega
  have w4 : IntKind.i64.wrap (((a + sm (fun o : OpS => min o.pl.pr.length 9000) (l'.take i) : Nat) : Int) + ((min x.pl.pr.length 9000 : Nat) : Int)) = (n : Int) := by rw [wrap_i64_of (by omega)]; omega
  (have fs := And.intro f3 (And.intro f11 (And.intro f12 (And.intro f13 (And.intro @i64.eq_1 (And.intro p1 (And.intro hgi (And.intro hx (And.intro h00 (And.intro hil hln))))))))); (repeat (first | refine hGx _ ?_ | refine hNx _ ?_ | refine W_skip ?_ | refine W_exit ?_ | refine W_ret ?_ | refine W_label ?_ | refine W_scope ?_ | refine W_block ?_ | refine W_seq ?_ | ((first | refine tS fun N hNx => ?_ | refine WL_gE rfl rfl (by kernel_rfl) (by kernel_rfl) fun G hGx => ?_ | refine vcOpsS_sound (by kernel_rfl) ?_ | refine W_ifE fun A B hAx hBx => ?_); refine evT ?_; (first | refine hGx _ ?_ | refine hNx _ ?_ | refine hAx ?_ | refine hBx ?_ | skip)))); (try clear fs))
  intro c5 hc5
  refine hNx _ ?_
  refine W_frzp 5 rfl (Heap.upd_same _ _ _) rfl ?_; simp only [St.frzp, put_H, wdf_H, withH_H, withH_put, wdf_withH, withH_withH, init_H, init_withH, Heap.del_upd_same, Heap.del_none hc5, withH_self]
  simp only [upTo] at hV
  have hnn : a + sm (fun o : OpS => min o.pl.pr.length 9000) (l'.take i) + min x.pl.pr.length 9000 = n := by omega
  rw [hnn] at hV
  by_cases hbig : 9000 < n
  · have p2 : ((9000 : Int) < (n : Int)) = True := eq_true (by omega)
    (have fs := And.intro f3 (And.intro f13 (And.intro @i64.eq_1 (And.intro hlp (And.intro hm2 (And.intro w4 p2))))); (repeat (first | refine hGx _ ?_ | refine hNx _ ?_ | refine W_skip ?_ | refine W_exit ?_ | refine W_ret ?_ | refine W_label ?_ | refine W_scope ?_ | refine W_block ?_ | refine W_seq ?_ | ((first | refine tS fun N hNx => ?_ | refine WL_gE rfl rfl (by kernel_rfl) (by kernel_rfl) fun G hGx => ?_ | refine vcOpsS_sound (by kernel_rfl) ?_ | refine W_ifE fun A B hAx hBx => ?_); refine evT ?_; (first | refine hGx _ ?_ | refine hNx _ ?_ | refine hAx ?_ | refine hBx ?_ | skip)))); (try clear fs))
    (first | (show Q .ret _) | (show Q .normal _) | skip); refine hret _ _ (by first | exact .inr rfl | exact .inl rfl) (by first | rfl | assumption | (simp only [put_df, withH_df]; assumption)) ?_; have fs := hdf; refine evT ?_; clear fs
    rw [if_pos hbig] at hV
    exact ⟨_, Heap.le_refl _, by rw [hV]; rfl, hH.symm⟩
  · have p2 : ((9000 : Int) < (n : Int)) = False := eq_false (by omega)
    (have fs := And.intro f3 (And.intro f13 (And.intro @i64.eq_1 (And.intro hlp (And.intro hm2 (And.intro w3 (And.intro w4 p2)))))); (repeat (first | refine hGx _ ?_ | refine hNx _ ?_ | refine W_skip ?_ | refine W_exit ?_ | refine W_ret ?_ | refine W_label ?_ | refine W_scope ?_ | refine W_block ?_ | refine W_seq ?_ | ((first | refine tS fun N hNx => ?_ | refine WL_gE rfl rfl (by kernel_rfl) (by kernel_rfl) fun G hGx => ?_ | refine vcOpsS_sound (by kernel_rfl) ?_ | refine W_ifE fun A B hAx hBx => ?_); refine evT ?_; (first | refine hGx _ ?_ | refine hNx _ ?_ | refine hAx ?_ | refine hBx ?_ | skip)))); (try clear fs))
    rw [if_neg hbig] at hV
    exact ⟨hil, hdf, f11, f12, rfl, by rw [← hn]; rfl, by omega, by rw [← hn]; exact hV, hH⟩
def szS (s : StS) : Nat := s.pl.pr.length + s.rv.pl.pr.length + opz s.rv.ar
def szB (x : BkS) : Nat := 1 + x.st.length + x.tm.tg.length + x.tm.pl.pr.length + x.tm.nm.size + sm szS x.st + opz x.tm.ar
def t1 (b : BdS) (i : Nat) : Nat := b.nm.size + b.ol.length + sm (fun s : ByteArray => 1 + s.size) (b.rg.take i)
def t2 (b : BdS) (i : Nat) : Nat := t1 b b.rg.length + sm (fun t : TyS => 1 + t.ar.length) (b.ty.take i)
def t3 (b : BdS) (i : Nat) : Nat := t2 b b.ty.length + sm (fun l : LcS => 1 + l.nm.size) (b.lc.take i)
def t4 (b : BdS) (i : Nat) : Nat := t3 b b.lc.length + sm szB (b.bl.take i)
def tot (b : BdS) : Nat := t4 b b.bl.length
def lg (b : BdS) : Int := if 3000 < tot b then 1 else 0
theorem t4_le (b : BdS) (i : Nat) : t4 b i ≤ tot b := by
  have := sm_le szB b.bl i
  unfold tot t4; rw [List.take_length]; omega
theorem t4_succ {b : BdS} {i : Nat} (h : i < b.bl.length) : t4 b (i + 1) = t4 b i + szB b.bl[i] := by
  have := sm_take (f := szB) h
  unfold t4; omega
set_option maxHeartbeats 2000000 in
theorem large_N (b : BdS) (H : Heap) (ok : okBd b) : Does Try.prog 15 [.agg (bdD b)] H fun d H' => d = i64 (lg b) ∧ H = H' := by
  refine Does.frz (K := fun d => d = i64 (lg b)) ?_
  obtain ⟨hrg, hol, ⟨hty, htx⟩, hlc, hbl, hbx⟩ := ok
  unfold big at hrg hol hty hlc hbl
  have lrg : (List.map sD b.rg).length = b.rg.length := List.length_map _
  have lol : (List.map pD b.ol).length = b.ol.length := List.length_map _
  have llc : (List.map lcD b.lc).length = b.lc.length := List.length_map _
  have lty : (List.map tyD b.ty).length = b.ty.length := List.length_map _
  have lbl : (List.map bkD b.bl).length = b.bl.length := List.length_map _
  have mq : min (b.nm.size : Int) 9000 = ((min b.nm.size 9000 : Nat) : Int) := by omega
  have wq : IntKind.i64.wrap (((min b.nm.size 9000 : Nat) : Int) + (b.ol.length : Int)) = ((min b.nm.size 9000 + b.ol.length : Nat) : Int) := by rw [wrap_i64_of (by omega)]; omega
  have a0 : Ab (t1 b 0) (min b.nm.size 9000 + b.ol.length) := by have := (Ab.cut b.nm.size).add (Ab.same b.ol.length); exact this
  refine does_of _ _ Try.func15 rfl rfl Try.ntmps15 Try.results15 (by simp only [List.length_cons, List.length_nil]; omega) fun w0 Q hret => ?_
  (have fs := And.intro @i64.eq_1 (And.intro @bdD.eq_1 @strD.eq_1); (repeat (first | refine hGx _ ?_ | refine hNx _ ?_ | refine W_skip ?_ | refine W_exit ?_ | refine W_ret ?_ | refine W_label ?_ | refine W_scope ?_ | refine W_block ?_ | refine W_seq ?_ | ((first | refine tS fun N hNx => ?_ | refine WL_gE rfl rfl (by kernel_rfl) (by kernel_rfl) fun G hGx => ?_ | refine vcOpsS_sound (by kernel_rfl) ?_ | refine W_ifE fun A B hAx hBx => ?_); refine evT ?_; (first | refine hGx _ ?_ | refine hNx _ ?_ | refine hAx ?_ | refine hBx ?_ | skip)))); (try clear fs))
  intro c1 hc1
  refine hNx _ ?_
  refine W_frzp 1 rfl (Heap.upd_same _ _ _) rfl ?_; simp only [St.frzp, put_H, wdf_H, withH_H, withH_put, wdf_withH, withH_withH, init_H, init_withH, Heap.del_upd_same, Heap.del_none hc1, withH_self]
  (have fs := And.intro @i64.eq_1 (And.intro lrg (And.intro lol (And.intro llc (And.intro lty (And.intro lbl (And.intro mq wq)))))); (repeat (first | refine hGx _ ?_ | refine hNx _ ?_ | refine W_skip ?_ | refine W_exit ?_ | refine W_ret ?_ | refine W_label ?_ | refine W_scope ?_ | refine W_block ?_ | refine W_seq ?_ | ((first | refine tS fun N hNx => ?_ | refine WL_gE rfl rfl (by kernel_rfl) (by kernel_rfl) fun G hGx => ?_ | refine vcOpsS_sound (by kernel_rfl) ?_ | refine W_ifE fun A B hAx hBx => ?_); refine evT ?_; (first | refine hGx _ ?_ | refine hNx _ ?_ | refine hAx ?_ | refine hBx ?_ | skip)))); (try clear fs))
  refine W_loopN b.rg.length (fun i s => s.df = [] ∧ s.fr 1 = .rp (bdD b) ∧ s.fr 23 = .seq 1 (b.rg.map sD) ∧ s.fr 24 = i64 b.rg.length ∧ s.fr 25 = i64 i ∧ (∃ n, s.fr 3 = i64 (n : Nat) ∧ Ab (t1 b i) n ∧ n ≤ (9000 + 140737488351232) + 9001 * i) ∧ H.le s.H) ⟨rfl, rfl, rfl, rfl, rfl, ⟨_, rfl, a0, by omega⟩, Heap.le_refl _⟩ ?_
  rintro i s hi ⟨hdf, f1, f23, f24, f25, ⟨n, f3, hA, hn⟩, hle⟩
  have hx : (i : Int).toNat = i := Int.toNat_natCast _
  have h00 : (0 : Int) ≤ (i : Int) := Int.natCast_nonneg _
  have w3 : IntKind.i64.wrap ((i : Int) + 1) = ((i + 1 : Nat) : Int) := by rw [wrap_i64_of (by omega)]; omega
  by_cases hil : i < b.rg.length
  case pos =>
    have p1 : ((i : Int) < (b.rg.length : Int)) = True := eq_true (by omega)
    have hgi := map_get (f := sD) hil
    have hsu : t1 b (i + 1) = t1 b i + (1 + b.rg[i].size) := by have := sm_take (f := fun x => 1 + x.size) hil; unfold t1; omega
    obtain ⟨x, hxe⟩ : ∃ x, x = b.rg[i] := ⟨_, rfl⟩
    rw [← hxe] at hgi hsu
    simp only [sD, strD] at hgi
    have m1 : min (x.size : Int) 9000 = ((min (x.size) 9000 : Nat) : Int) := by omega
    have w4 : IntKind.i64.wrap (1 + ((min (x.size) 9000 : Nat) : Int)) = ((1 + min (x.size) 9000 : Nat) : Int) := by rw [wrap_i64_of (by omega)]; omega
    have w5 : IntKind.i64.wrap ((n : Int) + ((1 + min (x.size) 9000 : Nat) : Int)) = ((n + (1 + min (x.size) 9000) : Nat) : Int) := by rw [wrap_i64_of (by omega)]; omega
    (have fs := And.intro f3 (And.intro f23 (And.intro f24 (And.intro f25 (And.intro @i64.eq_1 (And.intro p1 (And.intro hgi (And.intro hx (And.intro h00 (And.intro hil (And.intro lrg (And.intro m1 (And.intro w3 (And.intro w4 w5))))))))))))); (repeat (first | refine hGx _ ?_ | refine hNx _ ?_ | refine W_skip ?_ | refine W_exit ?_ | refine W_ret ?_ | refine W_label ?_ | refine W_scope ?_ | refine W_block ?_ | refine W_seq ?_ | ((first | refine tS fun N hNx => ?_ | refine WL_gE rfl rfl (by kernel_rfl) (by kernel_rfl) fun G hGx => ?_ | refine vcOpsS_sound (by kernel_rfl) ?_ | refine W_ifE fun A B hAx hBx => ?_); refine evT ?_; (first | refine hGx _ ?_ | refine hNx _ ?_ | refine hAx ?_ | refine hBx ?_ | skip)))); (try clear fs))
    exact ⟨hil, hdf, f1, f23, f24, rfl, ⟨_, rfl, by rw [hsu]; exact hA.add ((Ab.same 1).add (Ab.cut _)), by omega⟩, hle⟩
  have p1 : ((i : Int) < (b.rg.length : Int)) = False := eq_false (by omega)
  have ei : i = b.rg.length := by omega
  subst ei
  have f1' := f1
  simp only [bdD] at f1
  have a1 : Ab (t2 b 0) n := hA
  clear hx h00 w3 hi hil
  (have fs := And.intro f1 (And.intro f3 (And.intro f23 (And.intro f24 (And.intro f25 (And.intro @i64.eq_1 (And.intro p1 lty)))))); (repeat (first | refine hGx _ ?_ | refine hNx _ ?_ | refine W_skip ?_ | refine W_exit ?_ | refine W_ret ?_ | refine W_label ?_ | refine W_scope ?_ | refine W_block ?_ | refine W_seq ?_ | ((first | refine tS fun N hNx => ?_ | refine WL_gE rfl rfl (by kernel_rfl) (by kernel_rfl) fun G hGx => ?_ | refine vcOpsS_sound (by kernel_rfl) ?_ | refine W_ifE fun A B hAx hBx => ?_); refine evT ?_; (first | refine hGx _ ?_ | refine hNx _ ?_ | refine hAx ?_ | refine hBx ?_ | skip)))); (try clear fs))
  refine W_loopN b.ty.length (fun i s => s.df = [] ∧ s.fr 1 = .rp (bdD b) ∧ s.fr 37 = .seq 5 (b.ty.map tyD) ∧ s.fr 38 = i64 b.ty.length ∧ s.fr 39 = i64 i ∧ (∃ n, s.fr 3 = i64 (n : Nat) ∧ Ab (t2 b i) n ∧ n ≤ (9000 + 9002 * 140737488351232) + 9001 * i) ∧ H.le s.H) ⟨hdf, f1', rfl, rfl, rfl, ⟨_, f3, a1, by omega⟩, hle⟩ ?_
  clear hdf f1 f1' f23 f24 f25 f3 hA a1 hn hle p1
  rintro i s hi ⟨hdf, f1, f37, f38, f39, ⟨n, f3, hA, hn⟩, hle⟩
  have hx : (i : Int).toNat = i := Int.toNat_natCast _
  have h00 : (0 : Int) ≤ (i : Int) := Int.natCast_nonneg _
  have w3 : IntKind.i64.wrap ((i : Int) + 1) = ((i + 1 : Nat) : Int) := by rw [wrap_i64_of (by omega)]; omega
  by_cases hil : i < b.ty.length
  case pos =>
    have p1 : ((i : Int) < (b.ty.length : Int)) = True := eq_true (by omega)
    have hgi := map_get (f := tyD) hil
    have hsu : t2 b (i + 1) = t2 b i + (1 + b.ty[i].ar.length) := by have := sm_take (f := fun x => 1 + x.ar.length) hil; unfold t2; omega
    obtain ⟨x, hxe⟩ : ∃ x, x = b.ty[i] := ⟨_, rfl⟩
    rw [← hxe] at hgi hsu
    simp only [tyD, strD] at hgi
    have m1 : min (x.ar.length : Int) 9000 = ((min (x.ar.length) 9000 : Nat) : Int) := by omega
    have w4 : IntKind.i64.wrap (1 + ((min (x.ar.length) 9000 : Nat) : Int)) = ((1 + min (x.ar.length) 9000 : Nat) : Int) := by rw [wrap_i64_of (by omega)]; omega
    have w5 : IntKind.i64.wrap ((n : Int) + ((1 + min (x.ar.length) 9000 : Nat) : Int)) = ((n + (1 + min (x.ar.length) 9000) : Nat) : Int) := by rw [wrap_i64_of (by omega)]; omega
    have hlx : (List.map iD x.ar).length = x.ar.length := List.length_map _
    (have fs := And.intro f3 (And.intro f37 (And.intro f38 (And.intro f39 (And.intro @i64.eq_1 (And.intro p1 (And.intro hgi (And.intro hx (And.intro h00 (And.intro hil lty))))))))); (repeat (first | refine hGx _ ?_ | refine hNx _ ?_ | refine W_skip ?_ | refine W_exit ?_ | refine W_ret ?_ | refine W_label ?_ | refine W_scope ?_ | refine W_block ?_ | refine W_seq ?_ | ((first | refine tS fun N hNx => ?_ | refine WL_gE rfl rfl (by kernel_rfl) (by kernel_rfl) fun G hGx => ?_ | refine vcOpsS_sound (by kernel_rfl) ?_ | refine W_ifE fun A B hAx hBx => ?_); refine evT ?_; (first | refine hGx _ ?_ | refine hNx _ ?_ | refine hAx ?_ | refine hBx ?_ | skip)))); (try clear fs))
    intro c5 hc5
    refine hNx _ ?_
    refine W_frzp 7 rfl (Heap.upd_same _ _ _) rfl ?_; simp only [St.frzp, put_H, wdf_H, withH_H, withH_put, wdf_withH, withH_withH, init_H, init_withH, Heap.del_upd_same, Heap.del_none hc5, withH_self]
    (have fs := And.intro f3 (And.intro f39 (And.intro @i64.eq_1 (And.intro m1 (And.intro w3 (And.intro w4 (And.intro w5 hlx)))))); (repeat (first | refine hGx _ ?_ | refine hNx _ ?_ | refine W_skip ?_ | refine W_exit ?_ | refine W_ret ?_ | refine W_label ?_ | refine W_scope ?_ | refine W_block ?_ | refine W_seq ?_ | ((first | refine tS fun N hNx => ?_ | refine WL_gE rfl rfl (by kernel_rfl) (by kernel_rfl) fun G hGx => ?_ | refine vcOpsS_sound (by kernel_rfl) ?_ | refine W_ifE fun A B hAx hBx => ?_); refine evT ?_; (first | refine hGx _ ?_ | refine hNx _ ?_ | refine hAx ?_ | refine hBx ?_ | skip)))); (try clear fs))
    exact ⟨hil, hdf, f1, f37, f38, rfl, ⟨_, rfl, by rw [hsu]; exact hA.add ((Ab.same 1).add (Ab.cut _)), by omega⟩, hle⟩
  have p1 : ((i : Int) < (b.ty.length : Int)) = False := eq_false (by omega)
  have ei : i = b.ty.length := by omega
  subst ei
  have f1' := f1
  simp only [bdD] at f1
  have a1 : Ab (t3 b 0) n := hA
  clear hx h00 w3 hi hil
  (have fs := And.intro f1 (And.intro f3 (And.intro f37 (And.intro f38 (And.intro f39 (And.intro @i64.eq_1 (And.intro p1 llc)))))); (repeat (first | refine hGx _ ?_ | refine hNx _ ?_ | refine W_skip ?_ | refine W_exit ?_ | refine W_ret ?_ | refine W_label ?_ | refine W_scope ?_ | refine W_block ?_ | refine W_seq ?_ | ((first | refine tS fun N hNx => ?_ | refine WL_gE rfl rfl (by kernel_rfl) (by kernel_rfl) fun G hGx => ?_ | refine vcOpsS_sound (by kernel_rfl) ?_ | refine W_ifE fun A B hAx hBx => ?_); refine evT ?_; (first | refine hGx _ ?_ | refine hNx _ ?_ | refine hAx ?_ | refine hBx ?_ | skip)))); (try clear fs))
  refine W_loopN b.lc.length (fun i s => s.df = [] ∧ s.fr 1 = .rp (bdD b) ∧ s.fr 52 = .seq 2 (b.lc.map lcD) ∧ s.fr 53 = i64 b.lc.length ∧ s.fr 54 = i64 i ∧ (∃ n, s.fr 3 = i64 (n : Nat) ∧ Ab (t3 b i) n ∧ n ≤ (9000 + 18003 * 140737488351232) + 9001 * i) ∧ H.le s.H) ⟨hdf, f1', rfl, rfl, rfl, ⟨_, f3, a1, by omega⟩, hle⟩ ?_
  clear hdf f1 f1' f37 f38 f39 f3 hA a1 hn hle p1
  rintro i s hi ⟨hdf, f1, f52, f53, f54, ⟨n, f3, hA, hn⟩, hle⟩
  have hx : (i : Int).toNat = i := Int.toNat_natCast _
  have h00 : (0 : Int) ≤ (i : Int) := Int.natCast_nonneg _
  have w3 : IntKind.i64.wrap ((i : Int) + 1) = ((i + 1 : Nat) : Int) := by rw [wrap_i64_of (by omega)]; omega
  by_cases hil : i < b.lc.length
  case pos =>
    have p1 : ((i : Int) < (b.lc.length : Int)) = True := eq_true (by omega)
    have hgi := map_get (f := lcD) hil
    have hsu : t3 b (i + 1) = t3 b i + (1 + b.lc[i].nm.size) := by have := sm_take (f := fun x => 1 + x.nm.size) hil; unfold t3; omega
    obtain ⟨x, hxe⟩ : ∃ x, x = b.lc[i] := ⟨_, rfl⟩
    rw [← hxe] at hgi hsu
    simp only [lcD, strD] at hgi
    have m1 : min (x.nm.size : Int) 9000 = ((min (x.nm.size) 9000 : Nat) : Int) := by omega
    have w4 : IntKind.i64.wrap (1 + ((min (x.nm.size) 9000 : Nat) : Int)) = ((1 + min (x.nm.size) 9000 : Nat) : Int) := by rw [wrap_i64_of (by omega)]; omega
    have w5 : IntKind.i64.wrap ((n : Int) + ((1 + min (x.nm.size) 9000 : Nat) : Int)) = ((n + (1 + min (x.nm.size) 9000) : Nat) : Int) := by rw [wrap_i64_of (by omega)]; omega
    (have fs := And.intro f3 (And.intro f52 (And.intro f53 (And.intro f54 (And.intro @i64.eq_1 (And.intro p1 (And.intro hgi (And.intro hx (And.intro h00 (And.intro hil llc))))))))); (repeat (first | refine hGx _ ?_ | refine hNx _ ?_ | refine W_skip ?_ | refine W_exit ?_ | refine W_ret ?_ | refine W_label ?_ | refine W_scope ?_ | refine W_block ?_ | refine W_seq ?_ | ((first | refine tS fun N hNx => ?_ | refine WL_gE rfl rfl (by kernel_rfl) (by kernel_rfl) fun G hGx => ?_ | refine vcOpsS_sound (by kernel_rfl) ?_ | refine W_ifE fun A B hAx hBx => ?_); refine evT ?_; (first | refine hGx _ ?_ | refine hNx _ ?_ | refine hAx ?_ | refine hBx ?_ | skip)))); (try clear fs))
    intro c5 hc5
    refine hNx _ ?_
    refine W_frzp 9 rfl (Heap.upd_same _ _ _) rfl ?_; simp only [St.frzp, put_H, wdf_H, withH_H, withH_put, wdf_withH, withH_withH, init_H, init_withH, Heap.del_upd_same, Heap.del_none hc5, withH_self]
    (have fs := And.intro f3 (And.intro f54 (And.intro @i64.eq_1 (And.intro m1 (And.intro w3 (And.intro w4 w5))))); (repeat (first | refine hGx _ ?_ | refine hNx _ ?_ | refine W_skip ?_ | refine W_exit ?_ | refine W_ret ?_ | refine W_label ?_ | refine W_scope ?_ | refine W_block ?_ | refine W_seq ?_ | ((first | refine tS fun N hNx => ?_ | refine WL_gE rfl rfl (by kernel_rfl) (by kernel_rfl) fun G hGx => ?_ | refine vcOpsS_sound (by kernel_rfl) ?_ | refine W_ifE fun A B hAx hBx => ?_); refine evT ?_; (first | refine hGx _ ?_ | refine hNx _ ?_ | refine hAx ?_ | refine hBx ?_ | skip)))); (try clear fs))
    exact ⟨hil, hdf, f1, f52, f53, rfl, ⟨_, rfl, by rw [hsu]; exact hA.add ((Ab.same 1).add (Ab.cut _)), by omega⟩, hle⟩
  have p1 : ((i : Int) < (b.lc.length : Int)) = False := eq_false (by omega)
  have ei : i = b.lc.length := by omega
  subst ei
  have f1' := f1
  simp only [bdD] at f1
  have a1 : Ab (t4 b 0) n := hA
  clear hx h00 w3 hi hil
  by_cases hbig : 3000 < n
  · have p2 : ((3000 : Int) < (n : Int)) = True := eq_true (by omega)
    have e : lg b = 1 := by
      have := t4_le b 0
      unfold lg; rw [if_pos (by unfold Ab at a1; omega)]
    rw [e] at hret
    (have fs := And.intro f1 (And.intro f3 (And.intro f52 (And.intro f53 (And.intro f54 (And.intro @i64.eq_1 (And.intro p1 p2)))))); (repeat (first | refine hGx _ ?_ | refine hNx _ ?_ | refine W_skip ?_ | refine W_exit ?_ | refine W_ret ?_ | refine W_label ?_ | refine W_scope ?_ | refine W_block ?_ | refine W_seq ?_ | ((first | refine tS fun N hNx => ?_ | refine WL_gE rfl rfl (by kernel_rfl) (by kernel_rfl) fun G hGx => ?_ | refine vcOpsS_sound (by kernel_rfl) ?_ | refine W_ifE fun A B hAx hBx => ?_); refine evT ?_; (first | refine hGx _ ?_ | refine hNx _ ?_ | refine hAx ?_ | refine hBx ?_ | skip)))); (try clear fs))
    (first | (show Q .ret _) | (show Q .normal _) | skip); refine hret _ _ (by first | exact .inr rfl | exact .inl rfl) (by first | rfl | assumption | (simp only [put_df, withH_df]; assumption)) ?_; have fs := hdf; refine evT ?_; clear fs
    exact ⟨_, Heap.le_refl _, hle, _, frz_refl hle, rfl⟩
  have p2 : ((3000 : Int) < (n : Int)) = False := eq_false (by omega)
  (have fs := And.intro f1 (And.intro f3 (And.intro f52 (And.intro f53 (And.intro f54 (And.intro @i64.eq_1 (And.intro p1 (And.intro p2 lbl))))))); (repeat (first | refine hGx _ ?_ | refine hNx _ ?_ | refine W_skip ?_ | refine W_exit ?_ | refine W_ret ?_ | refine W_label ?_ | refine W_scope ?_ | refine W_block ?_ | refine W_seq ?_ | ((first | refine tS fun N hNx => ?_ | refine WL_gE rfl rfl (by kernel_rfl) (by kernel_rfl) fun G hGx => ?_ | refine vcOpsS_sound (by kernel_rfl) ?_ | refine W_ifE fun A B hAx hBx => ?_); refine evT ?_; (first | refine hGx _ ?_ | refine hNx _ ?_ | refine hAx ?_ | refine hBx ?_ | skip)))); (try clear fs))
  refine W_loopN b.bl.length (fun i s => s.df = [] ∧ s.fr 69 = .seq 7 (b.bl.map bkD) ∧ s.fr 70 = i64 b.bl.length ∧ s.fr 71 = i64 i ∧ (∃ n, s.fr 3 = i64 (n : Nat) ∧ Ab (t4 b i) n ∧ n ≤ 23000) ∧ H.le s.H) ⟨hdf, rfl, rfl, rfl, ⟨_, f3, a1, by omega⟩, hle⟩ ?_
  clear hdf f1 f1' f52 f53 f54 f3 hA a1 hn hle p1 p2 hbig
  rintro i s hi ⟨hdf, f69, f70, f71, ⟨n, f3, hA, hn⟩, hle⟩
  have hx : (i : Int).toNat = i := Int.toNat_natCast _
  have h00 : (0 : Int) ≤ (i : Int) := Int.natCast_nonneg _
  have w3 : IntKind.i64.wrap ((i : Int) + 1) = ((i + 1 : Nat) : Int) := by rw [wrap_i64_of (by omega)]; omega
  have one : 3000 < tot b → lg b = 1 := fun h => if_pos h
  by_cases hil : i < b.bl.length
  case neg =>
    have p1 : ((i : Int) < (b.bl.length : Int)) = False := eq_false (by omega)
    have ei : i = b.bl.length := by omega
    subst ei
    by_cases hbig : 3000 < n
    · have p2 : ((3000 : Int) < (n : Int)) = True := eq_true (by omega)
      have e : lg b = 1 := one (by unfold tot; unfold Ab at hA; omega)
      rw [e] at hret
      (have fs := And.intro f3 (And.intro f69 (And.intro f70 (And.intro f71 (And.intro @i64.eq_1 (And.intro p1 p2))))); (repeat (first | refine hGx _ ?_ | refine hNx _ ?_ | refine W_skip ?_ | refine W_exit ?_ | refine W_ret ?_ | refine W_label ?_ | refine W_scope ?_ | refine W_block ?_ | refine W_seq ?_ | ((first | refine tS fun N hNx => ?_ | refine WL_gE rfl rfl (by kernel_rfl) (by kernel_rfl) fun G hGx => ?_ | refine vcOpsS_sound (by kernel_rfl) ?_ | refine W_ifE fun A B hAx hBx => ?_); refine evT ?_; (first | refine hGx _ ?_ | refine hNx _ ?_ | refine hAx ?_ | refine hBx ?_ | skip)))); (try clear fs))
      (first | (show Q .ret _) | (show Q .normal _) | skip); refine hret _ _ (by first | exact .inr rfl | exact .inl rfl) (by first | rfl | assumption | (simp only [put_df, withH_df]; assumption)) ?_; have fs := hdf; refine evT ?_; clear fs
      exact ⟨_, Heap.le_refl _, hle, _, frz_refl hle, rfl⟩
    · have p2 : ((3000 : Int) < (n : Int)) = False := eq_false (by omega)
      have e : lg b = 0 := if_neg (by unfold tot; unfold Ab at hA; omega)
      rw [e] at hret
      (have fs := And.intro f3 (And.intro f69 (And.intro f70 (And.intro f71 (And.intro @i64.eq_1 (And.intro p1 p2))))); (repeat (first | refine hGx _ ?_ | refine hNx _ ?_ | refine W_skip ?_ | refine W_exit ?_ | refine W_ret ?_ | refine W_label ?_ | refine W_scope ?_ | refine W_block ?_ | refine W_seq ?_ | ((first | refine tS fun N hNx => ?_ | refine WL_gE rfl rfl (by kernel_rfl) (by kernel_rfl) fun G hGx => ?_ | refine vcOpsS_sound (by kernel_rfl) ?_ | refine W_ifE fun A B hAx hBx => ?_); refine evT ?_; (first | refine hGx _ ?_ | refine hNx _ ?_ | refine hAx ?_ | refine hBx ?_ | skip)))); (try clear fs))
      (first | (show Q .ret _) | (show Q .normal _) | skip); refine hret _ _ (by first | exact .inr rfl | exact .inl rfl) (by first | rfl | assumption | (simp only [put_df, withH_df]; assumption)) ?_; have fs := hdf; refine evT ?_; clear fs
      exact ⟨_, Heap.le_refl _, hle, _, frz_refl hle, rfl⟩
  have p1 : ((i : Int) < (b.bl.length : Int)) = True := eq_true (by omega)
  have hgi := map_get (f := bkD) hil
  have hsu := t4_succ hil
  have hsl := t4_le b (i + 1)
  obtain ⟨⟨hst, hsx⟩, htg, ⟨har, harx⟩, hpl⟩ := hbx b.bl[i] (List.getElem_mem hil)
  unfold okPl at hpl
  unfold big at hst htg har hpl
  obtain ⟨x, hxe⟩ : ∃ x, x = b.bl[i] := ⟨_, rfl⟩
  rw [← hxe] at hgi hsu hst hsx htg har harx hpl
  simp only [bkD, strD] at hgi
  have ls : (List.map stD x.st).length = x.st.length := List.length_map _
  have lt : (List.map iD x.tm.tg).length = x.tm.tg.length := List.length_map _
  have lp : (List.map pD x.tm.pl.pr).length = x.tm.pl.pr.length := List.length_map _
  have mx : min (x.tm.nm.size : Int) 9000 = ((min x.tm.nm.size 9000 : Nat) : Int) := by omega
  have v1 : IntKind.i64.wrap (1 + (x.st.length : Int)) = ((1 + x.st.length : Nat) : Int) := by rw [wrap_i64_of (by omega)]; omega
  have v2 : IntKind.i64.wrap (((1 + x.st.length : Nat) : Int) + (x.tm.tg.length : Int)) = ((1 + x.st.length + x.tm.tg.length : Nat) : Int) := by rw [wrap_i64_of (by omega)]; omega
  have v3 : IntKind.i64.wrap (((1 + x.st.length + x.tm.tg.length : Nat) : Int) + (x.tm.pl.pr.length : Int)) = ((1 + x.st.length + x.tm.tg.length + x.tm.pl.pr.length : Nat) : Int) := by rw [wrap_i64_of (by omega)]; omega
  have v4 : IntKind.i64.wrap (((1 + x.st.length + x.tm.tg.length + x.tm.pl.pr.length : Nat) : Int) + ((min x.tm.nm.size 9000 : Nat) : Int)) = ((1 + x.st.length + x.tm.tg.length + x.tm.pl.pr.length + min x.tm.nm.size 9000 : Nat) : Int) := by rw [wrap_i64_of (by omega)]; omega
  obtain ⟨m, hm⟩ : ∃ m, m = n + (1 + x.st.length + x.tm.tg.length + x.tm.pl.pr.length + min x.tm.nm.size 9000) := ⟨_, rfl⟩
  have v5 : IntKind.i64.wrap ((n : Int) + ((1 + x.st.length + x.tm.tg.length + x.tm.pl.pr.length + min x.tm.nm.size 9000 : Nat) : Int)) = (m : Int) := by rw [wrap_i64_of (by omega)]; omega
  obtain ⟨T5, hT5⟩ : ∃ T5, T5 = t4 b i + (1 + x.st.length + x.tm.tg.length + x.tm.pl.pr.length + x.tm.nm.size) := ⟨_, rfl⟩
  have hAm : Ab T5 m := by rw [hT5, hm]; exact hA.add ((Ab.same _).add (Ab.cut _))
  have hT : T5 + sm szS x.st + opz x.tm.ar ≤ tot b := by unfold szB at hsu; omega
  have hTe : T5 + sm szS x.st + opz x.tm.ar = t4 b (i + 1) := by unfold szB at hsu; omega
  (have fs := And.intro f3 (And.intro f69 (And.intro f70 (And.intro f71 (And.intro @i64.eq_1 (And.intro p1 (And.intro hgi (And.intro hx (And.intro h00 (And.intro hil lbl))))))))); (repeat (first | refine hGx _ ?_ | refine hNx _ ?_ | refine W_skip ?_ | refine W_exit ?_ | refine W_ret ?_ | refine W_label ?_ | refine W_scope ?_ | refine W_block ?_ | refine W_seq ?_ | ((first | refine tS fun N hNx => ?_ | refine WL_gE rfl rfl (by kernel_rfl) (by kernel_rfl) fun G hGx => ?_ | refine vcOpsS_sound (by kernel_rfl) ?_ | refine W_ifE fun A B hAx hBx => ?_); refine evT ?_; (first | refine hGx _ ?_ | refine hNx _ ?_ | refine hAx ?_ | refine hBx ?_ | skip)))); (try clear fs))
  intro c11 hc11
  refine hNx _ ?_
  refine W_frzp 11 rfl (Heap.upd_same _ _ _) rfl ?_; simp only [St.frzp, put_H, wdf_H, withH_H, withH_put, wdf_withH, withH_withH, init_H, init_withH, Heap.del_upd_same, Heap.del_none hc11, withH_self]
  by_cases hbig : 3000 < m
  · have p2 : ((3000 : Int) < (m : Int)) = True := eq_true (by omega)
    have e : lg b = 1 := one (by unfold Ab at hAm; omega)
    rw [e] at hret
    (have fs := And.intro f3 (And.intro @i64.eq_1 (And.intro ls (And.intro lt (And.intro lp (And.intro mx (And.intro v1 (And.intro v2 (And.intro v3 (And.intro v4 (And.intro v5 p2)))))))))); (repeat (first | refine hGx _ ?_ | refine hNx _ ?_ | refine W_skip ?_ | refine W_exit ?_ | refine W_ret ?_ | refine W_label ?_ | refine W_scope ?_ | refine W_block ?_ | refine W_seq ?_ | ((first | refine tS fun N hNx => ?_ | refine WL_gE rfl rfl (by kernel_rfl) (by kernel_rfl) fun G hGx => ?_ | refine vcOpsS_sound (by kernel_rfl) ?_ | refine W_ifE fun A B hAx hBx => ?_); refine evT ?_; (first | refine hGx _ ?_ | refine hNx _ ?_ | refine hAx ?_ | refine hBx ?_ | skip)))); (try clear fs))
    (first | (show Q .ret _) | (show Q .normal _) | skip); refine hret _ _ (by first | exact .inr rfl | exact .inl rfl) (by first | rfl | assumption | (simp only [put_df, withH_df]; assumption)) ?_; have fs := hdf; refine evT ?_; clear fs
    exact ⟨_, Heap.le_refl _, hle, _, frz_refl hle, rfl⟩
  have p2 : ((3000 : Int) < (m : Int)) = False := eq_false (by omega)
  (have fs := And.intro f3 (And.intro @i64.eq_1 (And.intro ls (And.intro lt (And.intro lp (And.intro mx (And.intro v1 (And.intro v2 (And.intro v3 (And.intro v4 (And.intro v5 p2)))))))))); (repeat (first | refine hGx _ ?_ | refine hNx _ ?_ | refine W_skip ?_ | refine W_exit ?_ | refine W_ret ?_ | refine W_label ?_ | refine W_scope ?_ | refine W_block ?_ | refine W_seq ?_ | ((first | refine tS fun N hNx => ?_ | refine WL_gE rfl rfl (by kernel_rfl) (by kernel_rfl) fun G hGx => ?_ | refine vcOpsS_sound (by kernel_rfl) ?_ | refine W_ifE fun A B hAx hBx => ?_); refine evT ?_; (first | refine hGx _ ?_ | refine hNx _ ?_ | refine hAx ?_ | refine hBx ?_ | skip)))); (try clear fs))
  refine W_loopN x.st.length (fun j s => s.df = [] ∧ s.fr 69 = .seq 7 (b.bl.map bkD) ∧ s.fr 70 = i64 b.bl.length ∧ s.fr 71 = i64 i ∧ s.fr 11 = .rp (bkD x) ∧ s.fr 101 = .seq 11 (x.st.map stD) ∧ s.fr 102 = i64 x.st.length ∧ s.fr 103 = i64 j ∧ (∃ n, s.fr 3 = i64 (n : Nat) ∧ Ab (T5 + sm szS (x.st.take j)) n ∧ n ≤ 3000) ∧ H.le s.H) ⟨hdf, f69, f70, f71, rfl, rfl, rfl, rfl, ⟨_, rfl, hAm, by omega⟩, hle⟩ ?_
  clear hdf f69 f70 f71 f3 hA hAm hn hle hm v5 hbig p2
  rintro j s hj ⟨hdf, f69, f70, f71, f11, f101, f102, f103, ⟨n, f3, hA, hn⟩, hle⟩
  have hx2 : (j : Int).toNat = j := Int.toNat_natCast _
  have h002 : (0 : Int) ≤ (j : Int) := Int.natCast_nonneg _
  have v6 : IntKind.i64.wrap ((j : Int) + 1) = ((j + 1 : Nat) : Int) := by rw [wrap_i64_of (by omega)]; omega
  by_cases hjl : j < x.st.length
  case neg =>
    have p2 : ((j : Int) < (x.st.length : Int)) = False := eq_false (by omega)
    rw [List.take_of_length_le (by omega)] at hA
    obtain ⟨hoA, hob⟩ := opV_ab x.tm.ar
    have u1 : IntKind.i64.wrap ((n : Int) + (opV x.tm.ar : Int)) = ((n + opV x.tm.ar : Nat) : Int) := by rw [wrap_i64_of (by omega)]; omega
    simp only [bkD] at f11
    (have fs := And.intro f3 (And.intro f11 (And.intro f101 (And.intro f102 (And.intro f103 (And.intro @i64.eq_1 p2))))); (repeat (first | refine hGx _ ?_ | refine hNx _ ?_ | refine W_skip ?_ | refine W_exit ?_ | refine W_ret ?_ | refine W_label ?_ | refine W_scope ?_ | refine W_block ?_ | refine W_seq ?_ | ((first | refine tS fun N hNx => ?_ | refine WL_gE rfl rfl (by kernel_rfl) (by kernel_rfl) fun G hGx => ?_ | refine vcOpsS_sound (by kernel_rfl) ?_ | refine W_ifE fun A B hAx hBx => ?_); refine evT ?_; (first | refine hGx _ ?_ | refine hNx _ ?_ | refine hAx ?_ | refine hBx ?_ | skip)))); (try clear fs))
    refine (lops_N x.tm.ar _ har harx).mono ?_
    rintro d _ ⟨rfl, rfl⟩
    (have fs := And.intro f71 (And.intro @i64.eq_1 (And.intro u1 w3)); (repeat (first | refine hGx _ ?_ | refine hNx _ ?_ | refine W_skip ?_ | refine W_exit ?_ | refine W_ret ?_ | refine W_label ?_ | refine W_scope ?_ | refine W_block ?_ | refine W_seq ?_ | ((first | refine tS fun N hNx => ?_ | refine WL_gE rfl rfl (by kernel_rfl) (by kernel_rfl) fun G hGx => ?_ | refine vcOpsS_sound (by kernel_rfl) ?_ | refine W_ifE fun A B hAx hBx => ?_); refine evT ?_; (first | refine hGx _ ?_ | refine hNx _ ?_ | refine hAx ?_ | refine hBx ?_ | skip)))); (try clear fs))
    exact ⟨hil, hdf, f69, f70, rfl, ⟨_, rfl, by rw [← hTe]; exact hA.add hoA, by omega⟩, hle⟩
  have p2 : ((j : Int) < (x.st.length : Int)) = True := eq_true (by omega)
  have hgj := map_get (f := stD) hjl
  have htk : sm szS (x.st.take (j + 1)) = sm szS (x.st.take j) + szS x.st[j] := sm_take hjl
  have htl := sm_le szS x.st (j + 1)
  obtain ⟨hyp, hyq, hya, hyax⟩ := hsx x.st[j] (List.getElem_mem hjl)
  unfold okPl at hyp hyq
  unfold big at hyp hyq hya
  obtain ⟨y, hye⟩ : ∃ y, y = x.st[j] := ⟨_, rfl⟩
  rw [← hye] at hgj htk hyp hyq hya hyax
  simp only [stD] at hgj
  have lq : (List.map pD y.pl.pr).length = y.pl.pr.length := List.length_map _
  have lr : (List.map pD y.rv.pl.pr).length = y.rv.pl.pr.length := List.length_map _
  obtain ⟨hoA, hob⟩ := opV_ab y.rv.ar
  have u1 : IntKind.i64.wrap ((y.pl.pr.length : Int) + (y.rv.pl.pr.length : Int)) = ((y.pl.pr.length + y.rv.pl.pr.length : Nat) : Int) := by rw [wrap_i64_of (by omega)]; omega
  have u2 : IntKind.i64.wrap (((y.pl.pr.length + y.rv.pl.pr.length : Nat) : Int) + (opV y.rv.ar : Int)) = ((y.pl.pr.length + y.rv.pl.pr.length + opV y.rv.ar : Nat) : Int) := by rw [wrap_i64_of (by omega)]; omega
  obtain ⟨k, hk⟩ : ∃ k, k = n + (y.pl.pr.length + y.rv.pl.pr.length + opV y.rv.ar) := ⟨_, rfl⟩
  have u3 : IntKind.i64.wrap ((n : Int) + ((y.pl.pr.length + y.rv.pl.pr.length + opV y.rv.ar : Nat) : Int)) = (k : Int) := by rw [wrap_i64_of (by omega)]; omega
  have hAk : Ab (T5 + sm szS (x.st.take (j + 1))) k := by
    have h := hA.add ((Ab.same (y.pl.pr.length + y.rv.pl.pr.length)).add hoA)
    rw [htk, hk]
    unfold szS
    rw [← Nat.add_assoc]
    exact h
  (have fs := And.intro f3 (And.intro f101 (And.intro f102 (And.intro f103 (And.intro @i64.eq_1 (And.intro p2 (And.intro hgj (And.intro hx2 (And.intro h002 (And.intro hjl ls))))))))); (repeat (first | refine hGx _ ?_ | refine hNx _ ?_ | refine W_skip ?_ | refine W_exit ?_ | refine W_ret ?_ | refine W_label ?_ | refine W_scope ?_ | refine W_block ?_ | refine W_seq ?_ | ((first | refine tS fun N hNx => ?_ | refine WL_gE rfl rfl (by kernel_rfl) (by kernel_rfl) fun G hGx => ?_ | refine vcOpsS_sound (by kernel_rfl) ?_ | refine W_ifE fun A B hAx hBx => ?_); refine evT ?_; (first | refine hGx _ ?_ | refine hNx _ ?_ | refine hAx ?_ | refine hBx ?_ | skip)))); (try clear fs))
  intro c13 hc13
  refine hNx _ ?_
  refine W_frzp 13 rfl (Heap.upd_same _ _ _) rfl ?_; simp only [St.frzp, put_H, wdf_H, withH_H, withH_put, wdf_withH, withH_withH, init_H, init_withH, Heap.del_upd_same, Heap.del_none hc13, withH_self]
  (have fs := @i64.eq_1; (repeat (first | refine hGx _ ?_ | refine hNx _ ?_ | refine W_skip ?_ | refine W_exit ?_ | refine W_ret ?_ | refine W_label ?_ | refine W_scope ?_ | refine W_block ?_ | refine W_seq ?_ | ((first | refine tS fun N hNx => ?_ | refine WL_gE rfl rfl (by kernel_rfl) (by kernel_rfl) fun G hGx => ?_ | refine vcOpsS_sound (by kernel_rfl) ?_ | refine W_ifE fun A B hAx hBx => ?_); refine evT ?_; (first | refine hGx _ ?_ | refine hNx _ ?_ | refine hAx ?_ | refine hBx ?_ | skip)))); (try clear fs))
  refine W_drawE (fun t _ d A => A = .none ∧ d = (if t = some 121 then i64 (opV y.rv.ar) else d)) (by kernel_rfl) (by kernel_rfl) (by kernel_rfl) fun N hNx => ?_; (have fs := And.intro f3 (And.intro @i64.eq_1 (And.intro lq (And.intro lr (And.intro u1 (And.intro u2 u3))))); (repeat ((first | refine vcD_g rfl rfl fun G hGx => ?_ | refine vcDS_to ?_); refine evD ?_; (first | refine hGx _ ?_ | refine hNx _ ?_ | skip))); (try clear fs))
  refine ⟨callOK_eq fun H'' hle'' => (lops_N y.rv.ar _ hya hyax).mono fun d H' h => h, ?_⟩
  (first | refine hGx _ ?_ | refine hNx _ ?_ | skip)
  by_cases hbig : 3000 < k
  · have p3 : ((3000 : Int) < (k : Int)) = True := eq_true (by omega)
    have e : lg b = 1 := one (by unfold Ab at hAk; omega)
    rw [e] at hret
    (have fs := And.intro f103 (And.intro @i64.eq_1 (And.intro p3 v6)); (repeat (first | refine hGx _ ?_ | refine hNx _ ?_ | refine W_skip ?_ | refine W_exit ?_ | refine W_ret ?_ | refine W_label ?_ | refine W_scope ?_ | refine W_block ?_ | refine W_seq ?_ | ((first | refine tS fun N hNx => ?_ | refine WL_gE rfl rfl (by kernel_rfl) (by kernel_rfl) fun G hGx => ?_ | refine vcOpsS_sound (by kernel_rfl) ?_ | refine W_ifE fun A B hAx hBx => ?_); refine evT ?_; (first | refine hGx _ ?_ | refine hNx _ ?_ | refine hAx ?_ | refine hBx ?_ | skip)))); (try clear fs))
    (first | (show Q .ret _) | (show Q .normal _) | skip); refine hret _ _ (by first | exact .inr rfl | exact .inl rfl) (by first | rfl | assumption | (simp only [put_df, withH_df]; assumption)) ?_; have fs := hdf; refine evT ?_; clear fs
    exact ⟨_, Heap.le_refl _, hle, _, frz_refl hle, rfl⟩
  have p3 : ((3000 : Int) < (k : Int)) = False := eq_false (by omega)
  (have fs := And.intro f103 (And.intro @i64.eq_1 (And.intro p3 v6)); (repeat (first | refine hGx _ ?_ | refine hNx _ ?_ | refine W_skip ?_ | refine W_exit ?_ | refine W_ret ?_ | refine W_label ?_ | refine W_scope ?_ | refine W_block ?_ | refine W_seq ?_ | ((first | refine tS fun N hNx => ?_ | refine WL_gE rfl rfl (by kernel_rfl) (by kernel_rfl) fun G hGx => ?_ | refine vcOpsS_sound (by kernel_rfl) ?_ | refine W_ifE fun A B hAx hBx => ?_); refine evT ?_; (first | refine hGx _ ?_ | refine hNx _ ?_ | refine hAx ?_ | refine hBx ?_ | skip)))); (try clear fs))
  exact ⟨hjl, hdf, f69, f70, f71, f11, f101, f102, rfl, ⟨_, rfl, hAk, by omega⟩, hle⟩
theorem ok_s {fs : List DT} {x : X} (h : DT.ok (.struct fs) x) : ∃ xs, x = .agg xs ∧ DT.oks fs xs := by simpa only [DT.ok] using h
theorem oks_c {f : DT} {fs : List DT} {xs : List X} (h : DT.oks (f :: fs) xs) : ∃ y ys, xs = y :: ys ∧ DT.ok f y ∧ DT.oks fs ys := by simpa only [DT.oks] using h
theorem oks_n {xs : List X} (h : DT.oks [] xs) : xs = [] := by simpa only [DT.oks] using h
theorem cs_int {x : X} (h : DT.ok (.int .i64) x) : ∃ n, X.cs x = [i64 n] := by
  obtain ⟨n, rfl, _⟩ := ok_i64 h
  exact ⟨n, rfl⟩
theorem cs_str {x : X} (h : DT.ok .string x) : ∃ s, X.cs x = [strD s] := by
  simp only [DT.ok] at h
  obtain ⟨s, rfl, _⟩ := h
  exact ⟨s, rfl⟩
theorem cs_bool {x : X} (h : DT.ok .bool x) : ∃ s, X.cs x = [.val (.bool s)] := by
  simp only [DT.ok] at h
  obtain ⟨s, rfl⟩ := h
  exact ⟨s, rfl⟩
theorem list_cs {α : Type} {f : α → List D} {p : α → Prop} {e : DT} (h : ∀ x, e.ok x → ∃ a, X.cs x = f a ∧ p a) : ∀ {xs : List X}, (∀ y ∈ xs, e.ok y) → ∃ l : List α, X.css xs = l.map f ∧ (∀ a ∈ l, p a) ∧ l.length = xs.length
  | [], _ => ⟨[], by simp [X.css], (fun a ha => by cases ha), rfl⟩
  | x :: xs, hx => by
    obtain ⟨a, ha, hp⟩ := h x (hx x List.mem_cons_self)
    obtain ⟨l, hl, hq, hn⟩ := list_cs h fun y hy => hx y (List.mem_cons_of_mem _ hy)
    refine ⟨a :: l, by simp only [X.css, List.map_cons, ha, hl], fun b hb => ?_, by simp [hn]⟩
    rcases List.mem_cons.1 hb with rfl | hb
    · exact hp
    · exact hq b hb
theorem cs_slice {α : Type} {f : α → List D} {p : α → Prop} {e : DT} {sz by_ : Nat} {x : X} (hb : 0 < by_) (he : ∀ x, e.ok x → ∃ a, X.cs x = f a ∧ p a) (h : DT.ok (.slice sz by_ e) x) : ∃ l : List α, X.cs x = [.seq sz (l.map f)] ∧ (∀ a ∈ l, p a) ∧ big l.length := by
  simp only [DT.ok] at h
  obtain ⟨xs, rfl, hl, hx⟩ := h
  obtain ⟨l, h1, h2, h3⟩ := list_cs he hx
  refine ⟨l, by simp only [X.cs, h1], h2, ?_⟩
  unfold big
  have : xs.length * 1 ≤ xs.length * by_ := Nat.mul_le_mul_left _ hb
  omega
abbrev dP : DT := .struct [.int .i64, .int .i64]
abbrev dPl : DT := .struct [.int .i64, .slice 2 16 dP]
abbrev dOp : DT := .struct [.int .i64, dPl, .int .i64]
abbrev dRv : DT := .struct [.int .i64, .int .i64, .int .i64, .bool, dPl, .slice 4 48 dOp]
abbrev dSt : DT := .struct [.int .i64, dPl, dRv, .int .i64]
abbrev dTm : DT := .struct [.int .i64, .slice 1 8 (.int .i64), .slice 4 48 dOp, dPl, .string]
abbrev dBk : DT := .struct [.slice 11 136 dSt, dTm]
abbrev dTy : DT := .struct [.int .i64, .bool, .int .i64, .int .i64, .slice 1 8 (.int .i64)]
abbrev dLc : DT := .struct [.string, .int .i64]
abbrev dBd : DT := .struct [.string, .slice 1 16 .string, .slice 2 16 (.array 2 (.int .i64)), .slice 5 56 dTy, .slice 2 24 dLc, .int .i64, .slice 7 128 dBk]
theorem c_i (x : X) (h : DT.ok (.int .i64) x) : ∃ n, X.cs x = iD n ∧ True := by
  obtain ⟨n, h⟩ := cs_int h
  exact ⟨n, h, trivial⟩
theorem c_s (x : X) (h : DT.ok .string x) : ∃ n, X.cs x = sD n ∧ True := by
  obtain ⟨n, h⟩ := cs_str h
  exact ⟨n, h, trivial⟩
theorem c_pr (x : X) (h : DT.ok (.array 2 (.int .i64)) x) : ∃ p : Int × Int, X.cs x = pD p ∧ True := by
  obtain ⟨a, b, rfl, _, _⟩ := ok_pair h
  exact ⟨(a, b), rfl, trivial⟩
theorem c_P (x : X) (h : DT.ok dP x) : ∃ p : Int × Int, X.cs x = pD p ∧ True := by
  obtain ⟨xs, rfl, g0⟩ := ok_s h
  obtain ⟨y1, xs0, rfl, h1, g1⟩ := oks_c g0
  obtain ⟨y2, xs1, rfl, h2, g2⟩ := oks_c g1
  obtain rfl := oks_n g2
  obtain ⟨a, h1⟩ := cs_int h1
  obtain ⟨b, h2⟩ := cs_int h2
  exact ⟨(a, b), by simp only [X.cs, X.csf, h1, h2]; rfl, trivial⟩
theorem c_Pl (x : X) (h : DT.ok dPl x) : ∃ p, X.cs x = plD p ∧ okPl p := by
  obtain ⟨xs, rfl, g0⟩ := ok_s h
  obtain ⟨y1, xs0, rfl, h1, g1⟩ := oks_c g0
  obtain ⟨y2, xs1, rfl, h2, g2⟩ := oks_c g1
  obtain rfl := oks_n g2
  obtain ⟨a, h1⟩ := cs_int h1
  obtain ⟨b, h2, _, hb⟩ := cs_slice (by decide) c_P h2
  exact ⟨⟨a, b⟩, by simp only [X.cs, X.csf, h1, h2]; rfl, hb⟩
theorem c_Op (x : X) (h : DT.ok dOp x) : ∃ p, X.cs x = opD p ∧ okOp p := by
  obtain ⟨xs, rfl, g0⟩ := ok_s h
  obtain ⟨y1, xs0, rfl, h1, g1⟩ := oks_c g0
  obtain ⟨y2, xs1, rfl, h2, g2⟩ := oks_c g1
  obtain ⟨y3, xs2, rfl, h3, g3⟩ := oks_c g2
  obtain rfl := oks_n g3
  obtain ⟨a, h1⟩ := cs_int h1
  obtain ⟨b, h2, hb⟩ := c_Pl _ h2
  obtain ⟨c, h3⟩ := cs_int h3
  exact ⟨⟨a, b, c⟩, by simp only [X.cs, X.csf, h1, h2, h3]; rfl, hb⟩
theorem c_Rv (x : X) (h : DT.ok dRv x) : ∃ p, X.cs x = rvD p ∧ okRv p := by
  obtain ⟨xs, rfl, g0⟩ := ok_s h
  obtain ⟨y1, xs0, rfl, h1, g1⟩ := oks_c g0
  obtain ⟨y2, xs1, rfl, h2, g2⟩ := oks_c g1
  obtain ⟨y3, xs2, rfl, h3, g3⟩ := oks_c g2
  obtain ⟨y4, xs3, rfl, h4, g4⟩ := oks_c g3
  obtain ⟨y5, xs4, rfl, h5, g5⟩ := oks_c g4
  obtain ⟨y6, xs5, rfl, h6, g6⟩ := oks_c g5
  obtain rfl := oks_n g6
  obtain ⟨a, h1⟩ := cs_int h1
  obtain ⟨b, h2⟩ := cs_int h2
  obtain ⟨c, h3⟩ := cs_int h3
  obtain ⟨d, h4⟩ := cs_bool h4
  obtain ⟨e, h5, h5o⟩ := c_Pl _ h5
  obtain ⟨f, h6, h6o, h6b⟩ := cs_slice (by decide) c_Op h6
  exact ⟨⟨a, b, c, d, e, f⟩, by simp only [X.cs, X.csf, h1, h2, h3, h4, h5, h6]; rfl, h5o, h6b, h6o⟩
theorem c_St (x : X) (h : DT.ok dSt x) : ∃ p, X.cs x = stD p ∧ okSt p := by
  obtain ⟨xs, rfl, g0⟩ := ok_s h
  obtain ⟨y1, xs0, rfl, h1, g1⟩ := oks_c g0
  obtain ⟨y2, xs1, rfl, h2, g2⟩ := oks_c g1
  obtain ⟨y3, xs2, rfl, h3, g3⟩ := oks_c g2
  obtain ⟨y4, xs3, rfl, h4, g4⟩ := oks_c g3
  obtain rfl := oks_n g4
  obtain ⟨a, h1⟩ := cs_int h1
  obtain ⟨b, h2, hb⟩ := c_Pl _ h2
  obtain ⟨c, h3, hc⟩ := c_Rv _ h3
  obtain ⟨d, h4⟩ := cs_int h4
  exact ⟨⟨a, b, c, d⟩, by simp only [X.cs, X.csf, h1, h2, h3, h4]; rfl, hb, hc⟩
theorem c_Tm (x : X) (h : DT.ok dTm x) : ∃ p, X.cs x = tmD p ∧ okTm p := by
  obtain ⟨xs, rfl, g0⟩ := ok_s h
  obtain ⟨y1, xs0, rfl, h1, g1⟩ := oks_c g0
  obtain ⟨y2, xs1, rfl, h2, g2⟩ := oks_c g1
  obtain ⟨y3, xs2, rfl, h3, g3⟩ := oks_c g2
  obtain ⟨y4, xs3, rfl, h4, g4⟩ := oks_c g3
  obtain ⟨y5, xs4, rfl, h5, g5⟩ := oks_c g4
  obtain rfl := oks_n g5
  obtain ⟨a, h1⟩ := cs_int h1
  obtain ⟨b, h2, _, hb⟩ := cs_slice (by decide) c_i h2
  obtain ⟨c, h3, hco, hc⟩ := cs_slice (by decide) c_Op h3
  obtain ⟨d, h4, hd⟩ := c_Pl _ h4
  obtain ⟨e, h5⟩ := cs_str h5
  exact ⟨⟨a, b, c, d, e⟩, by simp only [X.cs, X.csf, h1, h2, h3, h4, h5]; rfl, hb, ⟨hc, hco⟩, hd⟩
theorem c_Bk (x : X) (h : DT.ok dBk x) : ∃ p, X.cs x = bkD p ∧ okBk p := by
  obtain ⟨xs, rfl, g0⟩ := ok_s h
  obtain ⟨y1, xs0, rfl, h1, g1⟩ := oks_c g0
  obtain ⟨y2, xs1, rfl, h2, g2⟩ := oks_c g1
  obtain rfl := oks_n g2
  obtain ⟨a, h1, hao, ha⟩ := cs_slice (by decide) c_St h1
  obtain ⟨b, h2, hb⟩ := c_Tm _ h2
  exact ⟨⟨a, b⟩, by simp only [X.cs, X.csf, h1, h2]; rfl, ⟨ha, hao⟩, hb⟩
theorem c_Ty (x : X) (h : DT.ok dTy x) : ∃ p, X.cs x = tyD p ∧ big p.ar.length := by
  obtain ⟨xs, rfl, g0⟩ := ok_s h
  obtain ⟨y1, xs0, rfl, h1, g1⟩ := oks_c g0
  obtain ⟨y2, xs1, rfl, h2, g2⟩ := oks_c g1
  obtain ⟨y3, xs2, rfl, h3, g3⟩ := oks_c g2
  obtain ⟨y4, xs3, rfl, h4, g4⟩ := oks_c g3
  obtain ⟨y5, xs4, rfl, h5, g5⟩ := oks_c g4
  obtain rfl := oks_n g5
  obtain ⟨a, h1⟩ := cs_int h1
  obtain ⟨b, h2⟩ := cs_bool h2
  obtain ⟨c, h3⟩ := cs_int h3
  obtain ⟨d, h4⟩ := cs_int h4
  obtain ⟨e, h5, _, he⟩ := cs_slice (by decide) c_i h5
  exact ⟨⟨a, b, c, d, e⟩, by simp only [X.cs, X.csf, h1, h2, h3, h4, h5]; rfl, he⟩
theorem c_Lc (x : X) (h : DT.ok dLc x) : ∃ p, X.cs x = lcD p ∧ True := by
  obtain ⟨xs, rfl, g0⟩ := ok_s h
  obtain ⟨y1, xs0, rfl, h1, g1⟩ := oks_c g0
  obtain ⟨y2, xs1, rfl, h2, g2⟩ := oks_c g1
  obtain rfl := oks_n g2
  obtain ⟨a, h1⟩ := cs_str h1
  obtain ⟨b, h2⟩ := cs_int h2
  exact ⟨⟨a, b⟩, by simp only [X.cs, X.csf, h1, h2]; rfl, trivial⟩
theorem ok_body {x : X} (h : DT.ok (DT.struct [DT.string, DT.slice 1 16 (DT.string), DT.slice 2 16 (DT.array 2 (DT.int .i64)), DT.slice 5 56 (DT.struct [DT.int .i64, DT.bool, DT.int .i64, DT.int .i64, DT.slice 1 8 (DT.int .i64)]), DT.slice 2 24 (DT.struct [DT.string, DT.int .i64]), DT.int .i64, DT.slice 7 128 (DT.struct [DT.slice 11 136 (DT.struct [DT.int .i64, DT.struct [DT.int .i64, DT.slice 2 16 (DT.struct [DT.int .i64, DT.int .i64])], DT.struct [DT.int .i64, DT.int .i64, DT.int .i64, DT.bool, DT.struct [DT.int .i64, DT.slice 2 16 (DT.struct [DT.int .i64, DT.int .i64])], DT.slice 4 48 (DT.struct [DT.int .i64, DT.struct [DT.int .i64, DT.slice 2 16 (DT.struct [DT.int .i64, DT.int .i64])], DT.int .i64])], DT.int .i64]), DT.struct [DT.int .i64, DT.slice 1 8 (DT.int .i64), DT.slice 4 48 (DT.struct [DT.int .i64, DT.struct [DT.int .i64, DT.slice 2 16 (DT.struct [DT.int .i64, DT.int .i64])], DT.int .i64]), DT.struct [DT.int .i64, DT.slice 2 16 (DT.struct [DT.int .i64, DT.int .i64])], DT.string]])]) x) : ∃ b, x.d = .agg (bdD b) ∧ okBd b := by
  obtain ⟨xs, rfl, g0⟩ := ok_s (show DT.ok dBd x from h)
  obtain ⟨y1, xs0, rfl, h1, g1⟩ := oks_c g0
  obtain ⟨y2, xs1, rfl, h2, g2⟩ := oks_c g1
  obtain ⟨y3, xs2, rfl, h3, g3⟩ := oks_c g2
  obtain ⟨y4, xs3, rfl, h4, g4⟩ := oks_c g3
  obtain ⟨y5, xs4, rfl, h5, g5⟩ := oks_c g4
  obtain ⟨y6, xs5, rfl, h6, g6⟩ := oks_c g5
  obtain ⟨y7, xs6, rfl, h7, g7⟩ := oks_c g6
  obtain rfl := oks_n g7
  obtain ⟨a1, h1⟩ := cs_str h1
  obtain ⟨a2, h2, _, k2⟩ := cs_slice (by decide) c_s h2
  obtain ⟨a3, h3, _, k3⟩ := cs_slice (by decide) c_pr h3
  obtain ⟨a4, h4, j4, k4⟩ := cs_slice (by decide) c_Ty h4
  obtain ⟨a5, h5, _, k5⟩ := cs_slice (by decide) c_Lc h5
  obtain ⟨a6, h6⟩ := cs_int h6
  obtain ⟨a7, h7, j7, k7⟩ := cs_slice (by decide) c_Bk h7
  exact ⟨⟨a1, a2, a3, a4, a5, a6, a7⟩, by simp only [X.d, X.csf, h1, h2, h3, h4, h5, h6, h7]; rfl, k2, k3, ⟨k4, j4⟩, k5, k7, j7⟩
theorem sm_lenle {α : Type} {f : α → Nat} (hf : ∀ x, 1 ≤ f x) : ∀ l : List α, l.length ≤ sm f l
  | [] => Nat.zero_le _
  | x :: l => by
    have h1 := hf x
    have h2 := sm_lenle hf l
    simp only [sm, List.length_cons]; omega
theorem nOps_opz (l : List OpS) : nOps l = l.length + opz l := by
  unfold nOps opz
  rw [sm_add]
  have : sm (fun _ : OpS => 2) l = 2 * l.length := by
    have h := sm_mul (fun _ : OpS => 1) 2 l
    rw [sm_len] at h
    exact h
  omega
theorem nBk_szB (x : BkS) : nBk x ≤ 6 * szB x := by
  have h1 : sm nSt x.st ≤ 4 * x.st.length + 2 * sm szS x.st := by
    have e : sm nSt x.st ≤ sm (fun s => 4 * 1 + 2 * szS s) x.st := sm_mono fun s _ => by
      have := nOps_opz s.rv.ar
      have h2 : s.rv.ar.length ≤ opz s.rv.ar := by unfold opz; omega
      unfold nSt szS; omega
    rw [sm_add, sm_mul, sm_len, sm_mul] at e
    exact e
  have h2 := nOps_opz x.tm.ar
  have h3 : x.tm.ar.length ≤ opz x.tm.ar := by unfold opz; omega
  unfold nBk nTm szB; omega
theorem tot_eq (b : BdS) : tot b = b.nm.size + b.ol.length + sm (fun s : ByteArray => 1 + s.size) b.rg + sm (fun t : TyS => 1 + t.ar.length) b.ty + sm (fun l : LcS => 1 + l.nm.size) b.lc + sm szB b.bl := by
  unfold tot t4 t3 t2 t1; rw [List.take_length, List.take_length, List.take_length, List.take_length]
theorem smO_of {l : List OpS} (h : opz l ≤ 3000) : smO l := by
  refine ⟨by unfold opz at h; omega, fun o ho => ?_⟩
  have := sm_mem (f := fun o : OpS => o.pl.pr.length) ho
  unfold opz at h; unfold smP; omega
theorem byt_sm : ∀ l : List ByteArray, byt l ≤ sm (fun s : ByteArray => 1 + s.size) l
  | [] => Nat.le_refl _
  | s :: l => by have := byt_sm l; simp only [byt, sm]; omega
theorem byt_cl : ∀ l : List BkS, byt (clN l) ≤ sm szB l
  | [] => Nat.le_refl _
  | x :: l => by
    have h := byt_cl l
    have hx : x.tm.nm.size ≤ szB x := by unfold szB; omega
    unfold clN at h ⊢
    rw [List.filter_cons]
    by_cases e : x.tm.k = 3
    · rw [if_pos (decide_eq_true e)]; simp only [List.map_cons, byt, sm]; omega
    · rw [if_neg (by simp [e])]; simp only [sm]; omega
theorem byt_lc : ∀ l : List LcS, byt (l.map (·.nm)) ≤ sm (fun l : LcS => 1 + l.nm.size) l
  | [] => Nat.le_refl _
  | x :: l => by have := byt_lc l; simp only [List.map_cons, byt, sm]; omega
theorem facts9 {b : BdS} (h : ¬ 3000 < tot b) : smB b ∧ bytB b ≤ 1000000000 := by
  rw [tot_eq] at h
  have r1 := sm_lenle (f := fun s : ByteArray => 1 + s.size) (fun x => by omega) b.rg
  have r2 := sm_lenle (f := fun t : TyS => 1 + t.ar.length) (fun x => by omega) b.ty
  have r3 := sm_lenle (f := fun l : LcS => 1 + l.nm.size) (fun x => by omega) b.lc
  have r4 := sm_lenle (f := szB) (fun x => by unfold szB; omega) b.bl
  have r5 : sm nBk b.bl ≤ 6 * sm szB b.bl := by
    have e : sm nBk b.bl ≤ sm (fun x => 6 * szB x) b.bl := sm_mono fun x _ => nBk_szB x
    rwa [sm_mul] at e
  have r6 : sm (fun t : TyS => t.ar.length) b.ty ≤ sm (fun t : TyS => 1 + t.ar.length) b.ty := sm_mono fun t _ => by omega
  refine ⟨⟨⟨by omega, by omega, by omega⟩, by omega, by omega, fun x hx => ?_, by unfold nodesT; omega⟩, ?_⟩
  · have hz := sm_mem (f := szB) hx
    have hn := nBk_szB x
    have hs := fun s hs => sm_mem (f := szS) (x := s) (l := x.st) hs
    have ez : szB x = 1 + x.st.length + x.tm.tg.length + x.tm.pl.pr.length + x.tm.nm.size + sm szS x.st + opz x.tm.ar := rfl
    refine ⟨by omega, fun s hm => ?_, by omega, smO_of (by omega), by unfold smP; omega, by omega⟩
    have := hs s hm
    have es : szS s = s.pl.pr.length + s.rv.pl.pr.length + opz s.rv.ar := rfl
    exact ⟨by unfold smP; omega, by unfold smP; omega, smO_of (by omega)⟩
  · have e1 := byt_sm b.rg
    have e2 := byt_lc b.lc
    have e3 := byt_cl b.bl
    unfold bytB idL idP
    simp only [byt, byt_append, List.take_length]
    omega
theorem names_big {b : BdS} (h : smB b) : big (namesT b).length := by
  have h1 := insAll_len (idL b)
  have h2 := idP_len b b.lc.length b.bl.length
  obtain ⟨⟨h3, h4, h5⟩, _⟩ := h
  unfold big namesT
  unfold idL at h1 ⊢
  omega
theorem eqn_at (H : Heap) (l : List ByteArray) (h : big l.length) : Does Try.prog 19 [.seq 1 (l.map sD), .seq 1 (l.map sD)] H fun d H' => d = .val (.bool true) ∧ H = H' :=
  (equalS_at H l l h).mono fun d H' k => ⟨k.1.trans (by rw [decide_eq_true rfl]), k.2⟩
theorem lg_pos {b : BdS} (h : 3000 < tot b) : lg b = 1 := if_pos h
theorem lg_neg {b : BdS} (h : ¬ 3000 < tot b) : lg b = 0 := if_neg h
end Go.Proofs.Ytbcghjcakincoaa
