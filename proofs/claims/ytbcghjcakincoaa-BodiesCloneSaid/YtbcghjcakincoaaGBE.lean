/- Lemmas and contracts of functions, several texts in one: BQ. -/
import Derived.Test.YtbcghjcakincoaaGBT
import Derived.Test.YtbcghjcakincoaaGBY
/- Bodies: Clone (written by gen_bod5.py). -/
namespace Go.Proofs.Ytbcghjcakincoaa
open Go.RowKit
set_option linter.unusedVariables false
set_option maxRecDepth 100000
set_option linter.unusedSimpArgs false
def bRow (d1 d2 d3 d4 d6 : D) (b : BdS) : HObj := .row 28 0 7 [[strD b.nm, d1, d2, d3, d4, i64 b.ag, d6]]
def zRow : HObj := .row 28 0 7 [[.val (.string ByteArray.empty), .val (.slice none 0 0), .val (.slice none 0 0), .val (.slice none 0 0), .val (.slice none 0 0), i64 0, .val (.slice none 0 0)]]
/-- After the copies of the regions, the outlives pairs and the locals. -/
def CM1 (b : BdS) (H : Heap) (c1 c2 : Nat) (s : St) : Prop := s.df = [] ∧ s.fr 1 = .ep c1 0 7 0 0 ∧ s.fr 2 = .ep c2 0 7 0 0 ∧ ∃ H1 H2 H3 d1 d2 d4, ClR 9 1 (b.rg.map sD) ((H.upd c1 (bRow (.seq 1 (b.rg.map sD)) (.seq 2 (b.ol.map pD)) (.seq 5 (b.ty.map tyD)) (.seq 2 (b.lc.map lcD)) (.seq 7 (b.bl.map bkD)) b)).upd c2 zRow) d1 H1 ∧ ClR 49 2 (b.ol.map pD) H1 d2 H2 ∧ ClR 71 2 (b.lc.map lcD) H2 d4 H3 ∧ s.H = H3.upd c1 (bRow d1 d2 (.seq 5 (b.ty.map tyD)) d4 (.seq 7 (b.bl.map bkD)) b)
/-- After the copies of the types and the blocks. -/
def CM2 (b : BdS) (d1 d2 d4 : D) (H4 : Heap) (c1 c2 : Nat) (s : St) : Prop := s.df = [] ∧ s.fr 1 = .ep c1 0 7 0 0 ∧ s.fr 2 = .ep c2 0 7 0 0 ∧ ∃ H5 H6 d3 d6, ClR 51 5 (b.ty.map tyD) H4 d3 H5 ∧ ClR 44 7 (b.bl.map bkD) H5 d6 H6 ∧ s.H = H6.upd c1 (bRow d1 d2 d3 d4 d6 b)
theorem W_toM {cx : Cx} {x : Code} {Q : Exit → St → Prop} {s : St} (M : St → Prop) (h1 : W cx x (thenQ M (fun _ _ => False)) s) (h2 : ∀ s, M s → Q .normal s) : W cx x Q s :=
  W_mono h1 fun e s' q => by cases e <;> first | exact h2 s' q | exact q.elim
/-- One type's fields have been copied. -/
def CT (b : BdS) (x : TyS) (H : Heap) (els : List (List D)) (c1 c2 ct ot i : Nat) (s : St) : Prop := s.df = [] ∧ s.fr 1 = .ep c1 0 7 0 0 ∧ s.fr 2 = .ep c2 0 7 0 0 ∧ s.fr 30 = i64 b.ty.length ∧ s.fr 31 = i64 i ∧ ∃ f Hx, ClR 3 1 (x.ar.map iD) H f Hx ∧ s.H = Hx.upd ct (.row 51 ot 5 (els.set i [i64 x.k, .val (.bool x.m), i64 x.r, i64 x.e, f]))
/-- After the loop over the types. -/
def CM3 (b : BdS) (d3 : D) (H4 H5 G : Heap) (c1 c2 : Nat) (s : St) : Prop := s.df = [] ∧ s.fr 1 = .ep c1 0 7 0 0 ∧ s.fr 2 = .ep c2 0 7 0 0 ∧ ∃ F, (∀ k x, G k = some x → (H4 k ≠ none ∨ H5 k = none) → F k = some x) ∧ Part F s.H 51 5 d3 (b.ty.map tyD)
theorem oS.cells {A : Heap} {T : TypeId} {sz : Nat} {d : D} (h : oS A T sz d) : d.cells = some [d] := by
  rcases h with rfl | ⟨c, o, n, rfl, _⟩ <;> rfl
theorem ClR.clos {T : TypeId} {sz : Nat} {els : List (List D)} {H H' : Heap} {d : D} (h : ClR T sz els H d H') (hl : els.length ≤ 1000000) (he : ∀ el ∈ els, OkEl Heap.none T el) : ∃ c o, Imp d (.os c o sz 0 els.length) ∧ ∃ A, Cl H H' A ∧ oS A T sz (.os c o sz 0 els.length) ∧ Rd1 A (.os c o sz 0 els.length) (.seq sz els) := by
  obtain ⟨A, h1, h2, h3⟩ := h.cl hl he
  rcases h with ⟨rfl, rfl, rfl⟩ | ⟨b, o, hb, rfl, rfl⟩
  · exact ⟨0, 0, imp_nil_os _ _ _, Heap.none, Cl.none _ _ (Heap.le_refl _), .inr ⟨0, 0, 0, rfl, .inl rfl⟩, Rd1.zero _ _ _ _⟩
  · exact ⟨b, o, imp_refl _, A, h1, h2, h3⟩
/-- The slots that the loop over the statements keeps. -/
def SlB (b : BdS) (c1 c2 cb ob i : Nat) (s : St) : Prop := s.df = [] ∧ s.fr 1 = .ep c1 0 7 0 0 ∧ s.fr 2 = .ep c2 0 7 0 0 ∧ s.fr 49 = i64 b.bl.length ∧ s.fr 50 = i64 i ∧ s.fr 5 = .ep cb ob 7 i 0
/-- A statement's places have been copied. -/
def CS (b : BdS) (y : StS) (n : Nat) (H : Heap) (els : List (List D)) (c1 c2 cb ob i cs os j : Nat) (s : St) : Prop := SlB b c1 c2 cb ob i s ∧ s.fr 69 = i64 n ∧ s.fr 70 = i64 j ∧ s.fr 7 = .ep cs os 11 j 0 ∧ ∃ dp dq H1 H2 els5, ClR 139 2 (y.pl.pr.map pD) H dp H1 ∧ ClR 139 2 (y.rv.pl.pr.map pD) H1 dq H2 ∧ s.H = H2.upd cs (.row 75 os 11 els5) ∧ els5[j]? = some [i64 y.k, i64 y.pl.lo, dp, i64 y.rv.k, i64 y.rv.op, i64 y.rv.rg, .val (.bool y.rv.mu), i64 y.rv.pl.lo, dq, .seq 4 (y.rv.ar.map opD), i64 y.lo] ∧ els5.length = els.length ∧ ∀ k, k ≠ j → els5[k]? = els[k]?
theorem cpl_ok (p : PlS) (hp : smP p) (H : Heap) : CallOK Try.prog 73 [.agg (plD p)] H fun d A => (A = .none ∧ d = .agg [i64 p.lo, .val (.slice none 0 0)] ∧ p.pr.map pD = []) ∨ ∃ c o, A = Heap.none.upd c (.row 139 o 2 (p.pr.map pD)) ∧ d = .agg [i64 p.lo, .os c o 2 0 p.pr.length] :=
  callOK_of (fun H'' _ => cpl_N p H'' hp) fun H'' d H' ⟨dp, hd, hk⟩ => by
    subst hd
    rcases hk with ⟨rfl, he, rfl⟩ | ⟨b, o, hb, rfl, rfl⟩
    · exact ⟨.none, Disj.none _, rfl, .inl ⟨rfl, rfl, he⟩⟩
    · exact ⟨Heap.none.upd b (.row 139 o 2 (p.pr.map pD)), disj_upd hb, (Heap.add_upd _ _ _).symm, .inr ⟨b, o, rfl, by rw [List.length_map]⟩⟩
/-- After the loop over the blocks. -/
def CM4 (b : BdS) (d6 : D) (H5 G G2 : Heap) (c1 c2 : Nat) (s : St) : Prop := s.df = [] ∧ s.fr 1 = .ep c1 0 7 0 0 ∧ s.fr 2 = .ep c2 0 7 0 0 ∧ ∃ F, (∀ k x, G2 k = some x → (G k = none ∨ H5 k ≠ none) → F k = some x) ∧ Part F s.H 44 7 d6 (b.bl.map bkD)
theorem ClR.le {T : TypeId} {sz : Nat} {els : List (List D)} {H H' : Heap} {d : D} (h : ClR T sz els H d H') : H.le H' := by
  rcases h with ⟨_, _, rfl⟩ | ⟨c, o, h1, _, rfl⟩
  · exact Heap.le_refl _
  · exact Heap.le_put (Heap.le_refl _) h1
def Dj (A B : Heap) : Prop := ∀ k, A k ≠ none → B k = none
theorem Dj.of {A B X : Heap} (h : A.le X) (hB : ∀ k, B k ≠ none → X k = none) : Dj A B := fun k hk => Classical.byContradiction fun hn => by
  have h1 := hB k hn
  cases e : A k with
  | none => exact hk e
  | some y => rw [h k y e] at h1; cases h1
/-- A copy of strings, exactly. -/
def exS (A : Heap) (d : D) (l : List ByteArray) : Prop := d = .val (.slice none 0 0) ∨ ∃ c o, d = .os c o 1 0 l.length ∧ A c = some (.row 9 o 1 (l.map sD))
/-- A body that has been copied: each slice leans on blocks of its own. -/
def ClB (b : BdS) (H : Heap) (d : D) (H' : Heap) : Prop := ∃ A1 A2 A3 A4 A6 d1 d2 d3 d4 d6, d = .agg [strD b.nm, d1, d2, d3, d4, i64 b.ag, d6] ∧ (Cl H H' A1 ∧ oR A1 9 1 d1 (b.rg.map sD)) ∧ (Cl H H' A2 ∧ oR A2 49 2 d2 (b.ol.map pD)) ∧ (Cl H H' A3 ∧ oR A3 51 5 d3 (b.ty.map tyD)) ∧ (Cl H H' A4 ∧ oR A4 71 2 d4 (b.lc.map lcD)) ∧ (Cl H H' A6 ∧ oR A6 44 7 d6 (b.bl.map bkD)) ∧
  Dj A1 A2 ∧ Dj A1 A3 ∧ Dj A1 A4 ∧ Dj A1 A6 ∧ Dj A2 A3 ∧ Dj A2 A4 ∧ Dj A2 A6 ∧ Dj A4 A3 ∧ Dj A4 A6 ∧ Dj A3 A6 ∧ exS A1 d1 b.rg
set_option maxHeartbeats 4000000 in
theorem clone_N (b : BdS) (H : Heap) (hs : smB b) : Does Try.prog 29 [.agg (bdD b)] H (ClB b H) := by
  have hsm := hs
  obtain ⟨⟨hrg, hlc, hbl⟩, hol, hty, hbx, hN⟩ := hs
  have htx : ∀ t ∈ b.ty, t.ar.length ≤ 1000000 := fun t ht => by have h1 := sm_mem (f := fun t : TyS => t.ar.length) ht; have h2 : sm (fun t : TyS => t.ar.length) b.ty ≤ nodesT b := (by unfold nodesT; omega); omega
  have k1 : ∀ H, CallOK Try.prog 66 [.seq 1 (b.rg.map sD)] H (fun d A => (A = .none ∧ d = .val (.slice none 0 0) ∧ b.rg.map sD = []) ∨ ∃ c o, A = Heap.none.upd c (.row 9 o 1 (b.rg.map sD)) ∧ d = .os c o 1 0 b.rg.length) := fun H => by have h := ClR.ok (fun H => clS_N (b.rg.map sD) H (by rw [List.length_map]; exact hrg)) H; refine Eq.mp (congrArg (CallOK _ _ _ _) ?_) h; funext d A; simp only [ClA, List.length_map]
  have k2 : ∀ H, CallOK Try.prog 67 [.seq 2 (b.ol.map pD)] H (fun d A => (A = .none ∧ d = .val (.slice none 0 0) ∧ b.ol.map pD = []) ∨ ∃ c o, A = Heap.none.upd c (.row 49 o 2 (b.ol.map pD)) ∧ d = .os c o 2 0 b.ol.length) := fun H => by have h := ClR.ok (fun H => clP_N (b.ol.map pD) H (by rw [List.length_map]; exact hol)) H; refine Eq.mp (congrArg (CallOK _ _ _ _) ?_) h; funext d A; simp only [ClA, List.length_map]
  have k4 : ∀ H, CallOK Try.prog 68 [.seq 2 (b.lc.map lcD)] H (fun d A => (A = .none ∧ d = .val (.slice none 0 0) ∧ b.lc.map lcD = []) ∨ ∃ c o, A = Heap.none.upd c (.row 71 o 2 (b.lc.map lcD)) ∧ d = .os c o 2 0 b.lc.length) := fun H => by have h := ClR.ok (fun H => clL_N (b.lc.map lcD) H (by rw [List.length_map]; exact hlc)) H; refine Eq.mp (congrArg (CallOK _ _ _ _) ?_) h; funext d A; simp only [ClA, List.length_map]
  have k3 : ∀ H, CallOK Try.prog 69 [.seq 5 (b.ty.map tyD)] H (fun d A => (A = .none ∧ d = .val (.slice none 0 0) ∧ b.ty.map tyD = []) ∨ ∃ c o, A = Heap.none.upd c (.row 51 o 5 (b.ty.map tyD)) ∧ d = .os c o 5 0 b.ty.length) := fun H => by have h := ClR.ok (fun H => clT_N (b.ty.map tyD) H (by rw [List.length_map]; exact hty)) H; refine Eq.mp (congrArg (CallOK _ _ _ _) ?_) h; funext d A; simp only [ClA, List.length_map]
  have k6 : ∀ H, CallOK Try.prog 70 [.seq 7 (b.bl.map bkD)] H (fun d A => (A = .none ∧ d = .val (.slice none 0 0) ∧ b.bl.map bkD = []) ∨ ∃ c o, A = Heap.none.upd c (.row 44 o 7 (b.bl.map bkD)) ∧ d = .os c o 7 0 b.bl.length) := fun H => by have h := ClR.ok (fun H => clB_N (b.bl.map bkD) H (by rw [List.length_map]; exact hbl)) H; refine Eq.mp (congrArg (CallOK _ _ _ _) ?_) h; funext d A; simp only [ClA, List.length_map]
  refine does_of _ _ Try.func29 rfl rfl Try.ntmps29 Try.results29 (by simp only [List.length_cons, List.length_nil]; omega) fun w0 Q hret => ?_
  (have fs := And.intro @i64.eq_1 @bdD.eq_1; (repeat (first | refine hGx _ ?_ | refine hNx _ ?_ | refine W_skip ?_ | refine W_exit ?_ | refine W_ret ?_ | refine W_label ?_ | refine W_scope ?_ | refine W_block ?_ | refine W_seq ?_ | ((first | refine tS fun N hNx => ?_ | refine WL_gE rfl rfl (by kernel_rfl) (by kernel_rfl) fun G hGx => ?_ | refine vcOpsS_sound (by kernel_rfl) ?_ | refine W_ifE fun A B hAx hBx => ?_); refine evT ?_; (first | refine hGx _ ?_ | refine hNx _ ?_ | refine hAx ?_ | refine hBx ?_ | skip)))); (try clear fs))
  intro c1 hc1 c2 hc2
  have n21 : c2 ≠ c1 := (Heap.upd_none.1 hc2).1
  have hc20 := (Heap.upd_none.1 hc2).2
  refine hNx _ ?_
  have q21 : ∀ (H : Heap) x, (H.upd c2 x) c1 = H c1 := fun H x => Heap.upd_ne n21.symm
  have q12 : ∀ (H : Heap) x, (H.upd c1 x) c2 = H c2 := fun H x => Heap.upd_ne n21
  refine W_seq ?_
  refine W_to (CM1 b H c1 c2) ?_ ?_
  · refine W_wildE (fun _ => false) (fun _ => false) (fun t args d A => (A = .none ∧ d = .val (.slice none 0 0) ∧ (if t = some 10 then b.rg.map sD else if t = some 13 then b.ol.map pD else b.lc.map lcD) = []) ∨ ∃ c o, A = Heap.none.upd c (.row (if t = some 10 then 9 else if t = some 13 then 49 else 71) o (if t = some 10 then 1 else 2) (if t = some 10 then b.rg.map sD else if t = some 13 then b.ol.map pD else b.lc.map lcD)) ∧ d = .os c o (if t = some 10 then 1 else 2) 0 (if t = some 10 then b.rg.map sD else if t = some 13 then b.ol.map pD else b.lc.map lcD).length) (fun _ _ _ _ _ => False) (by kernel_rfl) (by kernel_rfl) (by kernel_rfl) (by kernel_rfl) (by kernel_rfl) fun N hNx => ?_; refine vcWS_to ?_; have fs := And.intro @i64.eq_1 q21; refine evX ?_; (try clear fs)
    refine ⟨k1 _, fun hn0 => ?_, fun b0 o0 hb0 => ?_⟩
    · have hcl0 : ∀ Hx, ClR 9 1 (b.rg.map sD) Hx (.val (.slice none 0 0)) Hx := fun Hx => .inl ⟨rfl, hn0, rfl⟩
      refine ⟨k2 _, fun hn1 => ?_, fun b1 o1 hb1 => ?_⟩
      · have hcl1 : ∀ Hx, ClR 49 2 (b.ol.map pD) Hx (.val (.slice none 0 0)) Hx := fun Hx => .inl ⟨rfl, hn1, rfl⟩
        refine ⟨k4 _, fun hn2 => ?_, fun b2 o2 hb2 => ?_⟩
        · have hcl2 : ∀ Hx, ClR 71 2 (b.lc.map lcD) Hx (.val (.slice none 0 0)) Hx := fun Hx => .inl ⟨rfl, hn2, rfl⟩
          exact hNx _ ⟨rfl, rfl, rfl, _, _, _, _, _, _, (hcl0 _), (hcl1 _), (hcl2 _), rfl⟩
        · have m2 := (Heap.upd_none.1 (Heap.upd_none.1 hb2).2).1
          have q2 : ∀ (H : Heap) x, (H.upd b2 x) c1 = H c1 := fun H x => Heap.upd_ne (Ne.symm m2)
          have hcl2 : ClR 71 2 (b.lc.map lcD) _ (.os b2 o2 2 0 b.lc.length) _ := .inr ⟨b2, o2, hb2, by rw [List.length_map], rfl⟩
          (have fs := And.intro @i64.eq_1 (And.intro q21 q2); refine evX ?_; (try clear fs))
          exact hNx _ ⟨rfl, rfl, rfl, _, _, _, _, _, _, (hcl0 _), (hcl1 _), hcl2, rfl⟩
      · have m1 := (Heap.upd_none.1 (Heap.upd_none.1 hb1).2).1
        have q1 : ∀ (H : Heap) x, (H.upd b1 x) c1 = H c1 := fun H x => Heap.upd_ne (Ne.symm m1)
        have hcl1 : ClR 49 2 (b.ol.map pD) _ (.os b1 o1 2 0 b.ol.length) _ := .inr ⟨b1, o1, hb1, by rw [List.length_map], rfl⟩
        (have fs := And.intro @i64.eq_1 (And.intro q21 q1); refine evX ?_; (try clear fs))
        refine ⟨k4 _, fun hn2 => ?_, fun b2 o2 hb2 => ?_⟩
        · have hcl2 : ∀ Hx, ClR 71 2 (b.lc.map lcD) Hx (.val (.slice none 0 0)) Hx := fun Hx => .inl ⟨rfl, hn2, rfl⟩
          exact hNx _ ⟨rfl, rfl, rfl, _, _, _, _, _, _, (hcl0 _), hcl1, (hcl2 _), rfl⟩
        · have m2 := (Heap.upd_none.1 (Heap.upd_none.1 (Heap.upd_none.1 hb2).2).2).1
          have q2 : ∀ (H : Heap) x, (H.upd b2 x) c1 = H c1 := fun H x => Heap.upd_ne (Ne.symm m2)
          have hcl2 : ClR 71 2 (b.lc.map lcD) _ (.os b2 o2 2 0 b.lc.length) _ := .inr ⟨b2, o2, hb2, by rw [List.length_map], rfl⟩
          (have fs := And.intro @i64.eq_1 (And.intro q21 (And.intro q1 q2)); refine evX ?_; (try clear fs))
          exact hNx _ ⟨rfl, rfl, rfl, _, _, _, _, _, _, (hcl0 _), hcl1, hcl2, rfl⟩
    · have m0 := (Heap.upd_none.1 (Heap.upd_none.1 hb0).2).1
      have q0 : ∀ (H : Heap) x, (H.upd b0 x) c1 = H c1 := fun H x => Heap.upd_ne (Ne.symm m0)
      have hcl0 : ClR 9 1 (b.rg.map sD) _ (.os b0 o0 1 0 b.rg.length) _ := .inr ⟨b0, o0, hb0, by rw [List.length_map], rfl⟩
      (have fs := And.intro @i64.eq_1 (And.intro q21 q0); refine evX ?_; (try clear fs))
      refine ⟨k2 _, fun hn1 => ?_, fun b1 o1 hb1 => ?_⟩
      · have hcl1 : ∀ Hx, ClR 49 2 (b.ol.map pD) Hx (.val (.slice none 0 0)) Hx := fun Hx => .inl ⟨rfl, hn1, rfl⟩
        refine ⟨k4 _, fun hn2 => ?_, fun b2 o2 hb2 => ?_⟩
        · have hcl2 : ∀ Hx, ClR 71 2 (b.lc.map lcD) Hx (.val (.slice none 0 0)) Hx := fun Hx => .inl ⟨rfl, hn2, rfl⟩
          exact hNx _ ⟨rfl, rfl, rfl, _, _, _, _, _, _, hcl0, (hcl1 _), (hcl2 _), rfl⟩
        · have m2 := (Heap.upd_none.1 (Heap.upd_none.1 (Heap.upd_none.1 hb2).2).2).1
          have q2 : ∀ (H : Heap) x, (H.upd b2 x) c1 = H c1 := fun H x => Heap.upd_ne (Ne.symm m2)
          have hcl2 : ClR 71 2 (b.lc.map lcD) _ (.os b2 o2 2 0 b.lc.length) _ := .inr ⟨b2, o2, hb2, by rw [List.length_map], rfl⟩
          (have fs := And.intro @i64.eq_1 (And.intro q21 (And.intro q0 q2)); refine evX ?_; (try clear fs))
          exact hNx _ ⟨rfl, rfl, rfl, _, _, _, _, _, _, hcl0, (hcl1 _), hcl2, rfl⟩
      · have m1 := (Heap.upd_none.1 (Heap.upd_none.1 (Heap.upd_none.1 hb1).2).2).1
        have q1 : ∀ (H : Heap) x, (H.upd b1 x) c1 = H c1 := fun H x => Heap.upd_ne (Ne.symm m1)
        have hcl1 : ClR 49 2 (b.ol.map pD) _ (.os b1 o1 2 0 b.ol.length) _ := .inr ⟨b1, o1, hb1, by rw [List.length_map], rfl⟩
        (have fs := And.intro @i64.eq_1 (And.intro q21 (And.intro q0 q1)); refine evX ?_; (try clear fs))
        refine ⟨k4 _, fun hn2 => ?_, fun b2 o2 hb2 => ?_⟩
        · have hcl2 : ∀ Hx, ClR 71 2 (b.lc.map lcD) Hx (.val (.slice none 0 0)) Hx := fun Hx => .inl ⟨rfl, hn2, rfl⟩
          exact hNx _ ⟨rfl, rfl, rfl, _, _, _, _, _, _, hcl0, hcl1, (hcl2 _), rfl⟩
        · have m2 := (Heap.upd_none.1 (Heap.upd_none.1 (Heap.upd_none.1 (Heap.upd_none.1 hb2).2).2).2).1
          have q2 : ∀ (H : Heap) x, (H.upd b2 x) c1 = H c1 := fun H x => Heap.upd_ne (Ne.symm m2)
          have hcl2 : ClR 71 2 (b.lc.map lcD) _ (.os b2 o2 2 0 b.lc.length) _ := .inr ⟨b2, o2, hb2, by rw [List.length_map], rfl⟩
          (have fs := And.intro @i64.eq_1 (And.intro q21 (And.intro q0 (And.intro q1 q2))); refine evX ?_; (try clear fs))
          exact hNx _ ⟨rfl, rfl, rfl, _, _, _, _, _, _, hcl0, hcl1, hcl2, rfl⟩
  rintro s ⟨hdf, f1, f2, H1, H2, H3, d1, d2, d4, hR1, hR2, hR4, hH⟩
  have hr1 : s.H c1 = some (bRow d1 d2 (.seq 5 (b.ty.map tyD)) d4 (.seq 7 (b.bl.map bkD)) b) := by rw [hH, Heap.upd_same]
  unfold bRow at hr1
  refine W_seq ?_
  refine W_to (CM2 b d1 d2 d4 s.H c1 c2) ?_ ?_
  · refine W_wildE (fun _ => false) (fun _ => false) (fun t args d A => (A = .none ∧ d = .val (.slice none 0 0) ∧ (if t = some 22 then b.ty.map tyD else b.bl.map bkD) = []) ∨ ∃ c o, A = Heap.none.upd c (.row (if t = some 22 then 51 else 44) o (if t = some 22 then 5 else 7) (if t = some 22 then b.ty.map tyD else b.bl.map bkD)) ∧ d = .os c o (if t = some 22 then 5 else 7) 0 (if t = some 22 then b.ty.map tyD else b.bl.map bkD).length) (fun _ _ _ _ _ => False) (by kernel_rfl) (by kernel_rfl) (by kernel_rfl) (by kernel_rfl) (by kernel_rfl) fun N hNx => ?_; refine vcWS_to ?_; have fs := And.intro @i64.eq_1 (And.intro f1 hr1); refine evX ?_; (try clear fs)
    refine ⟨k3 _, fun hn0 => ?_, fun b0 o0 hb0 => ?_⟩
    · have hcl0 : ∀ Hx, ClR 51 5 (b.ty.map tyD) Hx (.val (.slice none 0 0)) Hx := fun Hx => .inl ⟨rfl, hn0, rfl⟩
      refine ⟨k6 _, fun hn1 => ?_, fun b1 o1 hb1 => ?_⟩
      · have hcl1 : ∀ Hx, ClR 44 7 (b.bl.map bkD) Hx (.val (.slice none 0 0)) Hx := fun Hx => .inl ⟨rfl, hn1, rfl⟩
        exact hNx _ ⟨hdf, f1, f2, _, _, _, _, (hcl0 _), (hcl1 _), rfl⟩
      · have m1 : b1 ≠ c1 := by intro e; have h := hb1; rw [e, hr1] at h; cases h
        have q1 : ∀ (H : Heap) x, (H.upd b1 x) c1 = H c1 := fun H x => Heap.upd_ne (Ne.symm m1)
        have hcl1 : ClR 44 7 (b.bl.map bkD) _ (.os b1 o1 7 0 b.bl.length) _ := .inr ⟨b1, o1, hb1, by rw [List.length_map], rfl⟩
        (have fs := And.intro @i64.eq_1 (And.intro f1 (And.intro hr1 q1)); refine evX ?_; (try clear fs))
        exact hNx _ ⟨hdf, f1, f2, _, _, _, _, (hcl0 _), hcl1, rfl⟩
    · have m0 : b0 ≠ c1 := by intro e; have h := hb0; rw [e, hr1] at h; cases h
      have q0 : ∀ (H : Heap) x, (H.upd b0 x) c1 = H c1 := fun H x => Heap.upd_ne (Ne.symm m0)
      have hcl0 : ClR 51 5 (b.ty.map tyD) _ (.os b0 o0 5 0 b.ty.length) _ := .inr ⟨b0, o0, hb0, by rw [List.length_map], rfl⟩
      (have fs := And.intro @i64.eq_1 (And.intro f1 (And.intro hr1 q0)); refine evX ?_; (try clear fs))
      refine ⟨k6 _, fun hn1 => ?_, fun b1 o1 hb1 => ?_⟩
      · have hcl1 : ∀ Hx, ClR 44 7 (b.bl.map bkD) Hx (.val (.slice none 0 0)) Hx := fun Hx => .inl ⟨rfl, hn1, rfl⟩
        exact hNx _ ⟨hdf, f1, f2, _, _, _, _, hcl0, (hcl1 _), rfl⟩
      · have m1 : b1 ≠ c1 := by intro e; have h := (Heap.upd_none.1 hb1).2; rw [e, hr1] at h; cases h
        have q1 : ∀ (H : Heap) x, (H.upd b1 x) c1 = H c1 := fun H x => Heap.upd_ne (Ne.symm m1)
        have hcl1 : ClR 44 7 (b.bl.map bkD) _ (.os b1 o1 7 0 b.bl.length) _ := .inr ⟨b1, o1, hb1, by rw [List.length_map], rfl⟩
        (have fs := And.intro @i64.eq_1 (And.intro f1 (And.intro hr1 (And.intro q0 q1))); refine evX ?_; (try clear fs))
        exact hNx _ ⟨hdf, f1, f2, _, _, _, _, hcl0, hcl1, rfl⟩
  rintro s2 ⟨hdf2, g1, g2, H5, H6, d3, d6, hR3, hR6, hH2⟩
  have hle5 := hR3.le
  have hle6 := hR6.le
  have hc15 := hle6 _ _ (hle5 _ _ hr1)
  have hr2 : s2.H c1 = some (bRow d1 d2 d3 d4 d6 b) := by rw [hH2, Heap.upd_same]
  refine W_seq ?_
  refine W_to (CM3 b d3 s.H H5 s2.H c1 c2) ?_ ?_
  · rcases hR3 with ⟨rfl, hn3, rfl⟩ | ⟨ct, ot, hct, rfl, rfl⟩
    · unfold bRow at hr2
      (have fs := And.intro @i64.eq_1 (And.intro g1 hr2); (repeat (first | refine hGx _ ?_ | refine hNx _ ?_ | refine W_skip ?_ | refine W_exit ?_ | refine W_ret ?_ | refine W_label ?_ | refine W_scope ?_ | refine W_block ?_ | refine W_seq ?_ | ((first | refine tS fun N hNx => ?_ | refine WL_gE rfl rfl (by kernel_rfl) (by kernel_rfl) fun G hGx => ?_ | refine vcOpsS_sound (by kernel_rfl) ?_ | refine W_ifE fun A B hAx hBx => ?_); refine evT ?_; (first | refine hGx _ ?_ | refine hNx _ ?_ | refine hAx ?_ | refine hBx ?_ | skip)))); (try clear fs))
      refine W_loopN 0 (fun i s' => s'.df = [] ∧ s'.fr 1 = .ep c1 0 7 0 0 ∧ s'.fr 2 = .ep c2 0 7 0 0 ∧ s'.fr 30 = i64 0 ∧ s'.fr 31 = i64 i ∧ s'.H = s2.H) ⟨hdf2, g1, g2, rfl, rfl, rfl⟩ ?_
      rintro i s' hi ⟨hdf', k1, k2, k30, k31, hH'⟩
      have hi0 : i = 0 := by omega
      subst hi0
      (have fs := And.intro @i64.eq_1 (And.intro k30 k31); (repeat (first | refine hGx _ ?_ | refine hNx _ ?_ | refine W_skip ?_ | refine W_exit ?_ | refine W_ret ?_ | refine W_label ?_ | refine W_scope ?_ | refine W_block ?_ | refine W_seq ?_ | ((first | refine tS fun N hNx => ?_ | refine WL_gE rfl rfl (by kernel_rfl) (by kernel_rfl) fun G hGx => ?_ | refine vcOpsS_sound (by kernel_rfl) ?_ | refine W_ifE fun A B hAx hBx => ?_); refine evT ?_; (first | refine hGx _ ?_ | refine hNx _ ?_ | refine hAx ?_ | refine hBx ?_ | skip)))); (try clear fs))
      exact ⟨hdf', k1, k2, s2.H, fun k x h _ => h, by show Part s2.H s'.H _ _ _ _; rw [hH']; exact ⟨Heap.none, Cl.none _ _ (Heap.le_refl _), .inl ⟨rfl, hn3⟩⟩⟩
    · rw [List.length_map] at hr2
      have hnc : ct ≠ c1 := by intro e; rw [e, hr1] at hct; cases hct
      have hsc : s2.H ct = some (.row 51 ot 5 (b.ty.map tyD)) := by rw [hH2, Heap.upd_ne hnc]; exact hle6 _ _ (Heap.upd_same _ _ _)
      have hF1 : (s2.H.del ct) c1 = some (bRow d1 d2 (.os ct ot 5 0 b.ty.length) d4 d6 b) := by rw [Heap.del_ne (Ne.symm hnc)]; exact hr2
      unfold bRow at hr2 hF1
      (have fs := And.intro @i64.eq_1 (And.intro g1 hr2); (repeat (first | refine hGx _ ?_ | refine hNx _ ?_ | refine W_skip ?_ | refine W_exit ?_ | refine W_ret ?_ | refine W_label ?_ | refine W_scope ?_ | refine W_block ?_ | refine W_seq ?_ | ((first | refine tS fun N hNx => ?_ | refine WL_gE rfl rfl (by kernel_rfl) (by kernel_rfl) fun G hGx => ?_ | refine vcOpsS_sound (by kernel_rfl) ?_ | refine W_ifE fun A B hAx hBx => ?_); refine evT ?_; (first | refine hGx _ ?_ | refine hNx _ ?_ | refine hAx ?_ | refine hBx ?_ | skip)))); (try clear fs))
      refine W_loopN b.ty.length (fun i s' => s'.df = [] ∧ s'.fr 1 = .ep c1 0 7 0 0 ∧ s'.fr 2 = .ep c2 0 7 0 0 ∧ s'.fr 30 = i64 b.ty.length ∧ s'.fr 31 = i64 i ∧ LpI tyO tyD 51 5 b.ty (s2.H.del ct) ct ot i s'.H) ⟨hdf2, g1, g2, rfl, rfl, LpI.init hsc⟩ ?_
      rintro i s' hi ⟨hdf', k1, k2, k30, k31, hL⟩
      have hx : (i : Int).toNat = i := Int.toNat_natCast _
      have h00 : (0 : Int) ≤ (i : Int) := Int.natCast_nonneg _
      by_cases hil : i < b.ty.length
      case neg =>
        have p1 : ((i : Int) < (b.ty.length : Int)) = False := eq_false (by omega)
        (have fs := And.intro @i64.eq_1 (And.intro k30 (And.intro k31 p1)); (repeat (first | refine hGx _ ?_ | refine hNx _ ?_ | refine W_skip ?_ | refine W_exit ?_ | refine W_ret ?_ | refine W_label ?_ | refine W_scope ?_ | refine W_block ?_ | refine W_seq ?_ | ((first | refine tS fun N hNx => ?_ | refine WL_gE rfl rfl (by kernel_rfl) (by kernel_rfl) fun G hGx => ?_ | refine vcOpsS_sound (by kernel_rfl) ?_ | refine W_ifE fun A B hAx hBx => ?_); refine evT ?_; (first | refine hGx _ ?_ | refine hNx _ ?_ | refine hAx ?_ | refine hBx ?_ | skip)))); (try clear fs))
        refine ⟨hdf', k1, k2, s2.H.del ct, fun k x h h2 => ?_, ?_⟩
        · have : k ≠ ct := by
            rintro rfl
            rcases h2 with h2 | h2
            · exact h2 hct
            · rw [Heap.upd_same] at h2; cases h2
          rw [Heap.del_ne this]; exact h
        · rw [List.length_map]
          exact hL.fin (by omega) hty tyO.ok tyO.rd
      obtain ⟨hFc, Ah, els, hC, hAc, hHc, hel, hj⟩ := hL
      have hHc1 := hC.1 _ _ hF1
      have hil' : (i : Int) < (b.ty.length : Int) := by omega
      have p1 : ((i : Int) < (b.ty.length : Int)) = True := eq_true hil'
      have w3 : IntKind.i64.wrap ((i : Int) + 1) = ((i + 1 : Nat) : Int) := by rw [wrap_i64_of (by omega)]; omega
      obtain ⟨el, hge, _, hel2⟩ := hj i hil
      have hel3 := hel2 (Nat.le_refl _)
      obtain ⟨x, hxe⟩ : ∃ x, x = b.ty[i] := ⟨_, rfl⟩
      rw [← hxe] at hel3
      subst hel3
      simp only [tyD] at hge
      have hxl := htx b.ty[i] (List.getElem_mem hil)
      rw [← hxe] at hxl
      have kI : ∀ H, CallOK Try.prog 71 [.seq 1 (x.ar.map iD)] H (fun d A => (A = .none ∧ d = .val (.slice none 0 0) ∧ x.ar.map iD = []) ∨ ∃ c o, A = Heap.none.upd c (.row 3 o 1 (x.ar.map iD)) ∧ d = .os c o 1 0 x.ar.length) := fun H => by have h := ClR.ok (fun H => clI_N (x.ar.map iD) H (by rw [List.length_map]; exact hxl)) H; refine Eq.mp (congrArg (CallOK _ _ _ _) ?_) h; funext d A; simp only [ClA, List.length_map]
      (have fs := And.intro @i64.eq_1 (And.intro k1 (And.intro k30 (And.intro k31 p1))); (repeat (first | refine hGx _ ?_ | refine hNx _ ?_ | refine W_skip ?_ | refine W_exit ?_ | refine W_ret ?_ | refine W_label ?_ | refine W_scope ?_ | refine W_block ?_ | refine W_seq ?_ | ((first | refine tS fun N hNx => ?_ | refine WL_gE rfl rfl (by kernel_rfl) (by kernel_rfl) fun G hGx => ?_ | refine vcOpsS_sound (by kernel_rfl) ?_ | refine W_ifE fun A B hAx hBx => ?_); refine evT ?_; (first | refine hGx _ ?_ | refine hNx _ ?_ | refine hAx ?_ | refine hBx ?_ | skip)))); (try clear fs))
      refine W_toM (CT b x s'.H els c1 c2 ct ot i) ?_ ?_
      · refine W_wildE (fun _ => false) (fun _ => false) (fun t args d A => (A = .none ∧ d = .val (.slice none 0 0) ∧ x.ar.map iD = []) ∨ ∃ c o, A = Heap.none.upd c (.row 3 o 1 (x.ar.map iD)) ∧ d = .os c o 1 0 x.ar.length) (fun _ _ _ _ _ => False) (by kernel_rfl) (by kernel_rfl) (by kernel_rfl) (by kernel_rfl) (by kernel_rfl) fun N hNx => ?_; refine vcWS_to ?_; have fs := And.intro @i64.eq_1 (And.intro k1 (And.intro hHc1 (And.intro hHc (And.intro hge (And.intro hx (And.intro h00 hil')))))); refine evX ?_; (try clear fs)
        refine ⟨kI _, fun hn0 => ?_, fun b0 o0 hb0 => ?_⟩
        · have hcl0 : ∀ Hx, ClR 3 1 (x.ar.map iD) Hx (.val (.slice none 0 0)) Hx := fun Hx => .inl ⟨rfl, hn0, rfl⟩
          exact hNx _ ⟨hdf', k1, k2, k30, k31, _, _, (hcl0 _), rfl⟩
        · have m0 : b0 ≠ c1 := by intro e; have h := hb0; rw [e] at h; exact absurd (h.symm.trans hHc1) (by simp)
          have mt : b0 ≠ ct := by intro e; have h := hb0; rw [e] at h; exact absurd (h.symm.trans hHc) (by simp)
          have qt : ∀ (H : Heap) x, (H.upd b0 x) ct = H ct := fun H x => Heap.upd_ne (Ne.symm mt)
          have q0 : ∀ (H : Heap) x, (H.upd b0 x) c1 = H c1 := fun H x => Heap.upd_ne (Ne.symm m0)
          have hcl0 : ClR 3 1 (x.ar.map iD) _ (.os b0 o0 1 0 x.ar.length) _ := .inr ⟨b0, o0, hb0, by rw [List.length_map], rfl⟩
          (have fs := And.intro @i64.eq_1 (And.intro k1 (And.intro q0 (And.intro qt (And.intro hHc1 (And.intro hHc (And.intro hge (And.intro hx (And.intro h00 hil')))))))); refine evX ?_; (try clear fs))
          exact hNx _ ⟨hdf', k1, k2, k30, k31, _, _, hcl0, rfl⟩
      rintro s3 ⟨hdf3, v1, v2, v30, v31, f, Hx, hcl, hH3⟩
      show W _ _ _ _
      (have fs := And.intro @i64.eq_1 (And.intro v31 w3); (repeat (first | refine hGx _ ?_ | refine hNx _ ?_ | refine W_skip ?_ | refine W_exit ?_ | refine W_ret ?_ | refine W_label ?_ | refine W_scope ?_ | refine W_block ?_ | refine W_seq ?_ | ((first | refine tS fun N hNx => ?_ | refine WL_gE rfl rfl (by kernel_rfl) (by kernel_rfl) fun G hGx => ?_ | refine vcOpsS_sound (by kernel_rfl) ?_ | refine W_ifE fun A B hAx hBx => ?_); refine evT ?_; (first | refine hGx _ ?_ | refine hNx _ ?_ | refine hAx ?_ | refine hBx ?_ | skip)))); (try clear fs))
      obtain ⟨B, hB, hBo, hBr⟩ := hcl.cl (by rw [List.length_map]; exact hxl) fun el hm => by
        obtain ⟨y, _, rfl⟩ := List.mem_map.1 hm
        exact ok_it _ _
      obtain ⟨hAB, hA2, hB2, hc2⟩ := hC.more hB
      have hABc := hc2 ct _ hHc hAc
      refine ⟨hil, hdf3, v1, v2, v30, rfl, ?_⟩
      show LpI _ _ _ _ _ _ _ _ _ s3.H
      rw [hH3]
      exact LpI.next hFc hj (fun el x h => h.mono hA2) (hAB.upd hFc hABc) hABc (Heap.upd_same _ _ _) (by rw [List.length_set]; exact hel) (fun j hne => List.getElem?_set_ne (Ne.symm hne)) (List.getElem?_set_self (by omega)) hil (by rw [← hxe]; exact ⟨f, rfl, oS_mono hB2 hBo, hBr.mono hB2⟩)
  rintro s3 ⟨hdf3, e1, e2, F3, hF3, hP3⟩
  have hl3 : F3.le s3.H := by obtain ⟨_, h, _⟩ := hP3; exact h.1
  have hF31 := hF3 _ _ hr2 (.inl (by rw [hr1]; simp))
  have hr3 := hl3 _ _ hF31
  refine W_seq ?_
  refine W_to (CM4 b d6 H5 s2.H s3.H c1 c2) ?_ ?_
  · rcases hR6 with ⟨rfl, hn6, rfl⟩ | ⟨cb, ob, hcb, rfl, rfl⟩
    · unfold bRow at hr3
      (have fs := And.intro @i64.eq_1 (And.intro e1 hr3); (repeat (first | refine hGx _ ?_ | refine hNx _ ?_ | refine W_skip ?_ | refine W_exit ?_ | refine W_ret ?_ | refine W_label ?_ | refine W_scope ?_ | refine W_block ?_ | refine W_seq ?_ | ((first | refine tS fun N hNx => ?_ | refine WL_gE rfl rfl (by kernel_rfl) (by kernel_rfl) fun G hGx => ?_ | refine vcOpsS_sound (by kernel_rfl) ?_ | refine W_ifE fun A B hAx hBx => ?_); refine evT ?_; (first | refine hGx _ ?_ | refine hNx _ ?_ | refine hAx ?_ | refine hBx ?_ | skip)))); (try clear fs))
      refine W_loopN 0 (fun i s' => s'.df = [] ∧ s'.fr 1 = .ep c1 0 7 0 0 ∧ s'.fr 2 = .ep c2 0 7 0 0 ∧ s'.fr 49 = i64 0 ∧ s'.fr 50 = i64 i ∧ s'.H = s3.H) ⟨hdf3, e1, e2, rfl, rfl, rfl⟩ ?_
      rintro i s' hi ⟨hdf', k1, k2, k30, k31, hH'⟩
      have hi0 : i = 0 := by omega
      subst hi0
      (have fs := And.intro @i64.eq_1 (And.intro k30 k31); (repeat (first | refine hGx _ ?_ | refine hNx _ ?_ | refine W_skip ?_ | refine W_exit ?_ | refine W_ret ?_ | refine W_label ?_ | refine W_scope ?_ | refine W_block ?_ | refine W_seq ?_ | ((first | refine tS fun N hNx => ?_ | refine WL_gE rfl rfl (by kernel_rfl) (by kernel_rfl) fun G hGx => ?_ | refine vcOpsS_sound (by kernel_rfl) ?_ | refine W_ifE fun A B hAx hBx => ?_); refine evT ?_; (first | refine hGx _ ?_ | refine hNx _ ?_ | refine hAx ?_ | refine hBx ?_ | skip)))); (try clear fs))
      exact ⟨hdf', k1, k2, s3.H, fun k x h _ => h, by show Part s3.H s'.H _ _ _ _; rw [hH']; exact ⟨Heap.none, Cl.none _ _ (Heap.le_refl _), .inl ⟨rfl, hn6⟩⟩⟩
    · rw [List.length_map] at hr3
      have hc51 := hle5 _ _ hr1
      have hnc : cb ≠ c1 := by intro e; rw [e, hc51] at hcb; cases hcb
      have hsc2 : s2.H cb = some (.row 44 ob 7 (b.bl.map bkD)) := by rw [hH2, Heap.upd_ne hnc]; exact Heap.upd_same _ _ _
      have hsc : s3.H cb = some (.row 44 ob 7 (b.bl.map bkD)) := hl3 _ _ (hF3 _ _ hsc2 (.inr hcb))
      have hF1 : (s3.H.del cb) c1 = some (bRow d1 d2 d3 d4 (.os cb ob 7 0 b.bl.length) b) := by rw [Heap.del_ne (Ne.symm hnc)]; exact hr3
      unfold bRow at hr3 hF1
      (have fs := And.intro @i64.eq_1 (And.intro e1 hr3); (repeat (first | refine hGx _ ?_ | refine hNx _ ?_ | refine W_skip ?_ | refine W_exit ?_ | refine W_ret ?_ | refine W_label ?_ | refine W_scope ?_ | refine W_block ?_ | refine W_seq ?_ | ((first | refine tS fun N hNx => ?_ | refine WL_gE rfl rfl (by kernel_rfl) (by kernel_rfl) fun G hGx => ?_ | refine vcOpsS_sound (by kernel_rfl) ?_ | refine W_ifE fun A B hAx hBx => ?_); refine evT ?_; (first | refine hGx _ ?_ | refine hNx _ ?_ | refine hAx ?_ | refine hBx ?_ | skip)))); (try clear fs))
      refine W_loopN b.bl.length (fun i s' => s'.df = [] ∧ s'.fr 1 = .ep c1 0 7 0 0 ∧ s'.fr 2 = .ep c2 0 7 0 0 ∧ s'.fr 49 = i64 b.bl.length ∧ s'.fr 50 = i64 i ∧ LpI bkO bkD 44 7 b.bl (s3.H.del cb) cb ob i s'.H) ⟨hdf3, e1, e2, rfl, rfl, LpI.init hsc⟩ ?_
      rintro i s' hi ⟨hdf', k1, k2, k30, k31, hL⟩
      have hx : (i : Int).toNat = i := Int.toNat_natCast _
      have h00 : (0 : Int) ≤ (i : Int) := Int.natCast_nonneg _
      by_cases hil : i < b.bl.length
      case neg =>
        have p1 : ((i : Int) < (b.bl.length : Int)) = False := eq_false (by omega)
        (have fs := And.intro @i64.eq_1 (And.intro k30 (And.intro k31 p1)); (repeat (first | refine hGx _ ?_ | refine hNx _ ?_ | refine W_skip ?_ | refine W_exit ?_ | refine W_ret ?_ | refine W_label ?_ | refine W_scope ?_ | refine W_block ?_ | refine W_seq ?_ | ((first | refine tS fun N hNx => ?_ | refine WL_gE rfl rfl (by kernel_rfl) (by kernel_rfl) fun G hGx => ?_ | refine vcOpsS_sound (by kernel_rfl) ?_ | refine W_ifE fun A B hAx hBx => ?_); refine evT ?_; (first | refine hGx _ ?_ | refine hNx _ ?_ | refine hAx ?_ | refine hBx ?_ | skip)))); (try clear fs))
        refine ⟨hdf', k1, k2, s3.H.del cb, fun k x h h2 => ?_, ?_⟩
        · have : k ≠ cb := by
            rintro rfl
            rcases h2 with h2 | h2
            · rw [h2] at hsc2; cases hsc2
            · exact h2 hcb
          rw [Heap.del_ne this]; exact h
        · rw [List.length_map]
          exact hL.fin (by omega) hbl bkO.ok bkO.rd
      obtain ⟨hFc, Ah, els, hC, hAc, hHc, hel, hj⟩ := hL
      have hHc1 := hC.1 _ _ hF1
      have hil' : (i : Int) < (b.bl.length : Int) := by omega
      have p1 : ((i : Int) < (b.bl.length : Int)) = True := eq_true hil'
      have w3 : IntKind.i64.wrap ((i : Int) + 1) = ((i + 1 : Nat) : Int) := by rw [wrap_i64_of (by omega)]; omega
      obtain ⟨el, hge, _, hel2⟩ := hj i hil
      have hel3 := hel2 (Nat.le_refl _)
      have hsx := hbx b.bl[i] (List.getElem_mem hil)
      obtain ⟨x, hxe⟩ : ∃ x, x = b.bl[i] := ⟨_, rfl⟩
      rw [← hxe] at hel3 hsx
      subst hel3
      simp only [bkD] at hge
      (have fs := And.intro @i64.eq_1 (And.intro k1 (And.intro k30 (And.intro k31 (And.intro p1 (And.intro hHc1 (And.intro hHc (And.intro hge (And.intro hx (And.intro h00 hil'))))))))); (repeat (first | refine hGx _ ?_ | refine hNx _ ?_ | refine W_skip ?_ | refine W_exit ?_ | refine W_ret ?_ | refine W_label ?_ | refine W_scope ?_ | refine W_block ?_ | refine W_seq ?_ | ((first | refine tS fun N hNx => ?_ | refine WL_gE rfl rfl (by kernel_rfl) (by kernel_rfl) fun G hGx => ?_ | refine vcOpsS_sound (by kernel_rfl) ?_ | refine W_ifE fun A B hAx hBx => ?_); refine evT ?_; (first | refine hGx _ ?_ | refine hNx _ ?_ | refine hAx ?_ | refine hBx ?_ | skip)))); (try clear fs))
      refine (clM_N (x.st.map stD) _ (by rw [List.length_map]; exact hsx.1)).mono ?_
      rintro d X1 hcl
      obtain ⟨cs, os, himp, hrow, hle1, hcs⟩ := hcl.os
      rw [List.length_map] at himp
      refine WL_as 62 (.os cs os 11 0 x.st.length) (fun w v hv => himp _ _ _ hv) ?_
      have hX1b := hle1 _ _ hHc
      have hset : ∀ e, (els.set i e)[i]? = some e := fun e => List.getElem?_set_self (by omega)
      (have fs := And.intro @i64.eq_1 (And.intro hX1b (And.intro hge (And.intro hset (And.intro hx (And.intro h00 hil'))))); (repeat (first | refine hGx _ ?_ | refine hNx _ ?_ | refine W_skip ?_ | refine W_exit ?_ | refine W_ret ?_ | refine W_label ?_ | refine W_scope ?_ | refine W_block ?_ | refine W_seq ?_ | ((first | refine tS fun N hNx => ?_ | refine WL_gE rfl rfl (by kernel_rfl) (by kernel_rfl) fun G hGx => ?_ | refine vcOpsS_sound (by kernel_rfl) ?_ | refine W_ifE fun A B hAx hBx => ?_); refine evT ?_; (first | refine hGx _ ?_ | refine hNx _ ?_ | refine hAx ?_ | refine hBx ?_ | skip)))); (try clear fs))
      have hll : (x.st.map stD).length = x.st.length := List.length_map _
      obtain ⟨els1, hels1⟩ : ∃ e, e = els.set i [D.os cs os 11 0 x.st.length, i64 x.tm.k, D.seq 1 (List.map iD x.tm.tg), D.seq 4 (List.map opD x.tm.ar), i64 x.tm.pl.lo, D.seq 2 (List.map pD x.tm.pl.pr), strD x.tm.nm] := ⟨_, rfl⟩
      have hge1 : els1[i]? = some [D.os cs os 11 0 x.st.length, i64 x.tm.k, D.seq 1 (List.map iD x.tm.tg), D.seq 4 (List.map opD x.tm.ar), i64 x.tm.pl.lo, D.seq 2 (List.map pD x.tm.pl.pr), strD x.tm.nm] := by rw [hels1]; exact hset _
      have hln1 : els1.length = b.bl.length := by rw [hels1, List.length_set]; exact hel
      obtain ⟨X2, hX2⟩ : ∃ X, X = X1.upd cb (.row 44 ob 7 els1) := ⟨_, rfl⟩
      have hX2b : X2 cb = some (.row 44 ob 7 els1) := by rw [hX2, Heap.upd_same]
      have hX2s : x.st ≠ [] → s'.H cs = none ∧ X2 cs = some (.row 75 os 11 (x.st.map stD)) := fun h => by
        obtain ⟨h1, h2⟩ := hrow (by simpa using h)
        refine ⟨h1, ?_⟩
        rw [hX2, Heap.upd_ne (by intro e; rw [e, hHc] at h1; cases h1)]
        exact h2
      refine W_loopN x.st.length (fun j s4 => SlB b c1 c2 cb ob i s4 ∧ s4.fr 69 = i64 x.st.length ∧ s4.fr 70 = i64 j ∧ ((x.st = [] ∧ s4.H = X2) ∨ (x.st ≠ [] ∧ LpI stO stD 75 11 x.st (X2.del cs) cs os j s4.H))) ⟨⟨hdf', k1, k2, k30, k31, rfl⟩, rfl, rfl, ?_⟩ ?_
      · by_cases h : x.st = []
        · exact .inl ⟨h, by rw [hX2, hels1]; rfl⟩
        · refine .inr ⟨h, ?_⟩
          have e : X2 = (X1.upd cb (.row 44 ob 7 (els.set i [D.os cs os 11 0 x.st.length, i64 x.tm.k, D.seq 1 (List.map iD x.tm.tg), D.seq 4 (List.map opD x.tm.ar), i64 x.tm.pl.lo, D.seq 2 (List.map pD x.tm.pl.pr), strD x.tm.nm]))) := by rw [hX2, hels1]
          exact Eq.mp (congrArg (LpI stO stD 75 11 x.st (X2.del cs) cs os 0) e) (LpI.init (hX2s h).2)
      rintro j s4 hj4 ⟨⟨hdf4, y1, y2, y49, y50, y5⟩, y69, y70, hL4⟩
      have hx2 : (j : Int).toNat = j := Int.toNat_natCast _
      have h002 : (0 : Int) ≤ (j : Int) := Int.natCast_nonneg _
      by_cases hjl : j < x.st.length
      case neg =>
        have p2 : ((j : Int) < (x.st.length : Int)) = False := eq_false (by omega)
        obtain ⟨F4, hF4, B, hB, hBo, hBr⟩ : ∃ F, (∀ k y, X2 k = some y → s'.H k ≠ none → F k = some y) ∧ ∃ B, Cl F s4.H B ∧ oS B 75 11 (.os cs os 11 0 x.st.length) ∧ Rd1 B (.os cs os 11 0 x.st.length) (.seq 11 (x.st.map stD)) := by
          rcases hL4 with ⟨h, h2⟩ | ⟨h, h2⟩
          · rw [h, h2]
            exact ⟨X2, fun k y h _ => h, Heap.none, Cl.none _ _ (Heap.le_refl _), .inr ⟨cs, os, 0, rfl, .inl rfl⟩, Rd1.zero _ _ _ _⟩
          · obtain ⟨B, hB, hR⟩ := h2.fin (by omega) hsx.1 stO.ok stO.rd
            refine ⟨X2.del cs, fun k y h1 h3 => ?_, B, hB, hR.os, hR.rd⟩
            rw [Heap.del_ne (fun e => h3 (by rw [e]; exact (hX2s h).1))]
            exact h1
        have hF4b : F4 cb = some (.row 44 ob 7 els1) := hF4 _ _ hX2b (by rw [hHc]; simp)
        have hs4b := hB.1 _ _ hF4b
        have hG : ∀ k y, k ≠ cb → s'.H k = some y → F4 k = some y := fun k y hne hk => hF4 k y (by rw [hX2, Heap.upd_ne hne]; exact hle1 _ _ hk) (by rw [hk]; simp)
        have C0 : Cl (s3.H.del cb) F4 Ah := ⟨fun k y hk => hG k y (fun e => by rw [e, hFc] at hk; cases hk) (hC.1 _ _ hk), fun k y hk => hG k y (fun e => by rw [e, hAc] at hk; cases hk) (hC.2.1 _ _ hk), hC.2.2.1, hC.2.2.2⟩
        obtain ⟨C1, a1, b1, n1⟩ := C0.more hB
        have z1 := n1 cb _ hF4b hAc
        (have fs := And.intro @i64.eq_1 (And.intro y1 (And.intro y5 (And.intro y69 (And.intro y70 (And.intro p2 (And.intro hs4b (And.intro hge1 (And.intro hx (And.intro h00 hil'))))))))); (repeat (first | refine hGx _ ?_ | refine hNx _ ?_ | refine W_skip ?_ | refine W_exit ?_ | refine W_ret ?_ | refine W_label ?_ | refine W_scope ?_ | refine W_block ?_ | refine W_seq ?_ | ((first | refine tS fun N hNx => ?_ | refine WL_gE rfl rfl (by kernel_rfl) (by kernel_rfl) fun G hGx => ?_ | refine vcOpsS_sound (by kernel_rfl) ?_ | refine W_ifE fun A B hAx hBx => ?_); refine evT ?_; (first | refine hGx _ ?_ | refine hNx _ ?_ | refine hAx ?_ | refine hBx ?_ | skip)))); (try clear fs))
        refine (clI_N (x.tm.tg.map iD) _ (by rw [List.length_map]; exact hsx.2.2.1)).mono ?_
        rintro d X5 hcl5
        obtain ⟨c5, o5, himp5, B5, hB5, hB5o, hB5r⟩ := hcl5.clos (by rw [List.length_map]; exact hsx.2.2.1) fun el hm => by
          obtain ⟨y, _, rfl⟩ := List.mem_map.1 hm
          exact ok_it _ _
        rw [List.length_map] at himp5 hB5o hB5r
        refine WL_as 114 (.os c5 o5 1 0 x.tm.tg.length) (fun w v hv => himp5 _ _ _ hv) ?_
        obtain ⟨C2, a2, b2, n2⟩ := C1.more hB5
        have z2 := n2 cb _ hs4b z1
        have hX5b := hB5.1 _ _ hs4b
        have hset1 : ∀ e, (els1.set i e)[i]? = some e := fun e => List.getElem?_set_self (by omega)
        (have fs := And.intro @i64.eq_1 (And.intro hX5b (And.intro hge1 (And.intro hset1 (And.intro hx (And.intro h00 (And.intro hil' y5)))))); (repeat (first | refine hGx _ ?_ | refine hNx _ ?_ | refine W_skip ?_ | refine W_exit ?_ | refine W_ret ?_ | refine W_label ?_ | refine W_scope ?_ | refine W_block ?_ | refine W_seq ?_ | ((first | refine tS fun N hNx => ?_ | refine WL_gE rfl rfl (by kernel_rfl) (by kernel_rfl) fun G hGx => ?_ | refine vcOpsS_sound (by kernel_rfl) ?_ | refine W_ifE fun A B hAx hBx => ?_); refine evT ?_; (first | refine hGx _ ?_ | refine hNx _ ?_ | refine hAx ?_ | refine hBx ?_ | skip)))); (try clear fs))
        refine (cops_N x.tm.ar _ hsx.2.2.2.1).mono ?_
        rintro d6 X6 ⟨B6, hB6, hB6o, hB6r⟩
        have hcs6 := hB6o.cells
        obtain ⟨C3, a3, b3, n3⟩ := (C2.upd hFc z2).more hB6
        have z3 := n3 cb _ (Heap.upd_same _ _ _) z2
        have hX6b := hB6.1 _ _ (Heap.upd_same _ _ _)
        have hset2 : ∀ e e', ((els1.set i e).set i e')[i]? = some e' := fun e e' => List.getElem?_set_self (by rw [List.length_set]; omega)
        have hset3 : ∀ e e' e2, (((els1.set i e).set i e').set i e2)[i]? = some e2 := fun e e' e2 => List.getElem?_set_self (by rw [List.length_set, List.length_set]; omega)
        have hB6o' := hB6o
        rcases hB6o' with rfl | ⟨c6, o6, n6, rfl, _⟩
        · (have fs := And.intro @i64.eq_1 (And.intro hX6b (And.intro hge1 (And.intro hset1 (And.intro hset2 (And.intro hx (And.intro h00 (And.intro hil' y5))))))); (repeat (first | refine hGx _ ?_ | refine hNx _ ?_ | refine W_skip ?_ | refine W_exit ?_ | refine W_ret ?_ | refine W_label ?_ | refine W_scope ?_ | refine W_block ?_ | refine W_seq ?_ | ((first | refine tS fun N hNx => ?_ | refine WL_gE rfl rfl (by kernel_rfl) (by kernel_rfl) fun G hGx => ?_ | refine vcOpsS_sound (by kernel_rfl) ?_ | refine W_ifE fun A B hAx hBx => ?_); refine evT ?_; (first | refine hGx _ ?_ | refine hNx _ ?_ | refine hAx ?_ | refine hBx ?_ | skip)))); (try clear fs))
          refine (cpl_N x.tm.pl _ hsx.2.2.2.2.1).mono ?_
          rintro d7 X7 ⟨dp, rfl, hcl7⟩
          obtain ⟨B7, hB7, hB7o, hB7r⟩ := hcl7.cl (by rw [List.length_map]; exact hsx.2.2.2.2.1) fun el hm => by
            obtain ⟨y, _, rfl⟩ := List.mem_map.1 hm
            exact ok_pj _ _ _
          obtain ⟨C4, a4, b4, n4⟩ := (C3.upd hFc z3).more hB7
          have z4 := n4 cb _ (Heap.upd_same _ _ _) z3
          have hX7b := hB7.1 _ _ (Heap.upd_same _ _ _)
          (have fs := And.intro @i64.eq_1 (And.intro hX7b (And.intro hge1 (And.intro hset1 (And.intro hset2 (And.intro hset3 (And.intro hx (And.intro h00 (And.intro hil' (And.intro y5 (And.intro y50 w3)))))))))); (repeat (first | refine hGx _ ?_ | refine hNx _ ?_ | refine W_skip ?_ | refine W_exit ?_ | refine W_ret ?_ | refine W_label ?_ | refine W_scope ?_ | refine W_block ?_ | refine W_seq ?_ | ((first | refine tS fun N hNx => ?_ | refine WL_gE rfl rfl (by kernel_rfl) (by kernel_rfl) fun G hGx => ?_ | refine vcOpsS_sound (by kernel_rfl) ?_ | refine W_ifE fun A B hAx hBx => ?_); refine evT ?_; (first | refine hGx _ ?_ | refine hNx _ ?_ | refine hAx ?_ | refine hBx ?_ | skip)))); (try clear fs))
          refine ⟨hil, hdf4, y1, y2, y49, rfl, LpI.next hFc hj (fun el x h => bkO.mono (Heap.le_trans a1 (Heap.le_trans a2 (Heap.le_trans a3 a4))) el x h) (C4.upd hFc z4) z4 (Heap.upd_same _ _ _) (by simp only [List.length_set]; exact hln1) (fun j hne => ?_) (hset3 _ _ _) hil ?_⟩
          · simp only [List.getElem?_set_ne (Ne.symm hne)]
            rw [hels1, List.getElem?_set_ne (Ne.symm hne)]
          · rw [← hxe]
            exact ⟨_, _, _, _, rfl, oS_mono (Heap.le_trans b1 (Heap.le_trans a2 (Heap.le_trans a3 a4))) hBo, oS_mono (Heap.le_trans b2 (Heap.le_trans a3 a4)) hB5o, oS_mono (Heap.le_trans b3 a4) hB6o, oS_mono b4 hB7o, hBr.mono (Heap.le_trans b1 (Heap.le_trans a2 (Heap.le_trans a3 a4))), hB5r.mono (Heap.le_trans b2 (Heap.le_trans a3 a4)), hB6r.mono (Heap.le_trans b3 a4), hB7r.mono b4⟩
        · (have fs := And.intro @i64.eq_1 (And.intro hX6b (And.intro hge1 (And.intro hset1 (And.intro hset2 (And.intro hx (And.intro h00 (And.intro hil' y5))))))); (repeat (first | refine hGx _ ?_ | refine hNx _ ?_ | refine W_skip ?_ | refine W_exit ?_ | refine W_ret ?_ | refine W_label ?_ | refine W_scope ?_ | refine W_block ?_ | refine W_seq ?_ | ((first | refine tS fun N hNx => ?_ | refine WL_gE rfl rfl (by kernel_rfl) (by kernel_rfl) fun G hGx => ?_ | refine vcOpsS_sound (by kernel_rfl) ?_ | refine W_ifE fun A B hAx hBx => ?_); refine evT ?_; (first | refine hGx _ ?_ | refine hNx _ ?_ | refine hAx ?_ | refine hBx ?_ | skip)))); (try clear fs))
          refine (cpl_N x.tm.pl _ hsx.2.2.2.2.1).mono ?_
          rintro d7 X7 ⟨dp, rfl, hcl7⟩
          obtain ⟨B7, hB7, hB7o, hB7r⟩ := hcl7.cl (by rw [List.length_map]; exact hsx.2.2.2.2.1) fun el hm => by
            obtain ⟨y, _, rfl⟩ := List.mem_map.1 hm
            exact ok_pj _ _ _
          obtain ⟨C4, a4, b4, n4⟩ := (C3.upd hFc z3).more hB7
          have z4 := n4 cb _ (Heap.upd_same _ _ _) z3
          have hX7b := hB7.1 _ _ (Heap.upd_same _ _ _)
          (have fs := And.intro @i64.eq_1 (And.intro hX7b (And.intro hge1 (And.intro hset1 (And.intro hset2 (And.intro hset3 (And.intro hx (And.intro h00 (And.intro hil' (And.intro y5 (And.intro y50 w3)))))))))); (repeat (first | refine hGx _ ?_ | refine hNx _ ?_ | refine W_skip ?_ | refine W_exit ?_ | refine W_ret ?_ | refine W_label ?_ | refine W_scope ?_ | refine W_block ?_ | refine W_seq ?_ | ((first | refine tS fun N hNx => ?_ | refine WL_gE rfl rfl (by kernel_rfl) (by kernel_rfl) fun G hGx => ?_ | refine vcOpsS_sound (by kernel_rfl) ?_ | refine W_ifE fun A B hAx hBx => ?_); refine evT ?_; (first | refine hGx _ ?_ | refine hNx _ ?_ | refine hAx ?_ | refine hBx ?_ | skip)))); (try clear fs))
          refine ⟨hil, hdf4, y1, y2, y49, rfl, LpI.next hFc hj (fun el x h => bkO.mono (Heap.le_trans a1 (Heap.le_trans a2 (Heap.le_trans a3 a4))) el x h) (C4.upd hFc z4) z4 (Heap.upd_same _ _ _) (by simp only [List.length_set]; exact hln1) (fun j hne => ?_) (hset3 _ _ _) hil ?_⟩
          · simp only [List.getElem?_set_ne (Ne.symm hne)]
            rw [hels1, List.getElem?_set_ne (Ne.symm hne)]
          · rw [← hxe]
            exact ⟨_, _, _, _, rfl, oS_mono (Heap.le_trans b1 (Heap.le_trans a2 (Heap.le_trans a3 a4))) hBo, oS_mono (Heap.le_trans b2 (Heap.le_trans a3 a4)) hB5o, oS_mono (Heap.le_trans b3 a4) hB6o, oS_mono b4 hB7o, hBr.mono (Heap.le_trans b1 (Heap.le_trans a2 (Heap.le_trans a3 a4))), hB5r.mono (Heap.le_trans b2 (Heap.le_trans a3 a4)), hB6r.mono (Heap.le_trans b3 a4), hB7r.mono b4⟩
      have hjl' : (j : Int) < (x.st.length : Int) := by omega
      have p2 : ((j : Int) < (x.st.length : Int)) = True := eq_true hjl'
      have v3 : IntKind.i64.wrap ((j : Int) + 1) = ((j + 1 : Nat) : Int) := by rw [wrap_i64_of (by have := hsx.1; omega)]; omega
      have hst0 : x.st ≠ [] := fun e => by rw [e] at hjl; simp at hjl
      rcases hL4 with ⟨h, _⟩ | ⟨_, hFs, A4, els4, hC4, hA4, hH4, hel4, hj5⟩
      · exact absurd h hst0
      have hcsb : cb ≠ cs := fun e => by have h := (hX2s hst0).1; rw [← e, hHc] at h; cases h
      have hF4b : (X2.del cs) cb = some (.row 44 ob 7 els1) := by rw [Heap.del_ne hcsb]; exact hX2b
      have hs4b := hC4.1 _ _ hF4b
      obtain ⟨ey, hgy, _, hey⟩ := hj5 j hjl
      have hey2 := hey (Nat.le_refl _)
      have hsy := hsx.2.1 x.st[j] (List.getElem_mem hjl)
      obtain ⟨y, hye⟩ : ∃ y, y = x.st[j] := ⟨_, rfl⟩
      rw [← hye] at hey2 hsy
      subst hey2
      simp only [stD] at hgy
      (have fs := And.intro @i64.eq_1 (And.intro y5 (And.intro y69 (And.intro y70 (And.intro p2 (And.intro hs4b (And.intro hge1 (And.intro hx (And.intro h00 (And.intro hil' (And.intro hx2 (And.intro h002 (And.intro hjl' hH4)))))))))))); (repeat (first | refine hGx _ ?_ | refine hNx _ ?_ | refine W_skip ?_ | refine W_exit ?_ | refine W_ret ?_ | refine W_label ?_ | refine W_scope ?_ | refine W_block ?_ | refine W_seq ?_ | ((first | refine tS fun N hNx => ?_ | refine WL_gE rfl rfl (by kernel_rfl) (by kernel_rfl) fun G hGx => ?_ | refine vcOpsS_sound (by kernel_rfl) ?_ | refine W_ifE fun A B hAx hBx => ?_); refine evT ?_; (first | refine hGx _ ?_ | refine hNx _ ?_ | refine hAx ?_ | refine hBx ?_ | skip)))); (try clear fs))
      have hset4 : ∀ e, (els4.set j e)[j]? = some e := fun e => List.getElem?_set_self (by omega)
      have hset5 : ∀ e e', ((els4.set j e).set j e')[j]? = some e' := fun e e' => List.getElem?_set_self (by rw [List.length_set]; omega)
      refine W_toM (CS b y x.st.length s4.H els4 c1 c2 cb ob i cs os j) ?_ ?_
      · refine W_wildE (fun _ => false) (fun _ => false) (fun t args d A => (A = .none ∧ d = .agg [i64 (if t = some 85 then y.pl.lo else y.rv.pl.lo), .val (.slice none 0 0)] ∧ (if t = some 85 then y.pl.pr.map pD else y.rv.pl.pr.map pD) = []) ∨ ∃ c o, A = Heap.none.upd c (.row 139 o 2 (if t = some 85 then y.pl.pr.map pD else y.rv.pl.pr.map pD)) ∧ d = .agg [i64 (if t = some 85 then y.pl.lo else y.rv.pl.lo), .os c o 2 0 (if t = some 85 then y.pl.pr.length else y.rv.pl.pr.length)]) (fun _ _ _ _ _ => False) (by kernel_rfl) (by kernel_rfl) (by kernel_rfl) (by kernel_rfl) (by kernel_rfl) fun N hNx => ?_; refine vcWS_to ?_; have fs := And.intro @i64.eq_1 (And.intro hH4 (And.intro hgy (And.intro hset4 (And.intro hx2 (And.intro h002 hjl'))))); refine evX ?_; (try clear fs)
        refine ⟨cpl_ok y.pl hsy.1 _, fun hn0 => ?_, fun b0 o0 hb0 => ?_⟩
        · have hcl0 : ∀ Hx, ClR 139 2 (y.pl.pr.map pD) Hx (.val (.slice none 0 0)) Hx := fun Hx => .inl ⟨rfl, hn0, rfl⟩
          refine ⟨cpl_ok y.rv.pl hsy.2.1 _, fun hn1 => ?_, fun b1 o1 hb1 => ?_⟩
          · have hcl1 : ∀ Hx, ClR 139 2 (y.rv.pl.pr.map pD) Hx (.val (.slice none 0 0)) Hx := fun Hx => .inl ⟨rfl, hn1, rfl⟩
            exact hNx _ ⟨⟨hdf4, y1, y2, y49, y50, y5⟩, y69, y70, rfl, _, _, _, _, _, (hcl0 _), (hcl1 _), rfl, hset5 _ _, by simp only [List.length_set], fun k hk => by simp only [List.getElem?_set_ne (Ne.symm hk)]⟩
          · have m1 : b1 ≠ cs := by intro e; have h := hb1; rw [e] at h; exact absurd (h.symm.trans hH4) (by simp)
            have q1 : ∀ (H : Heap) x, (H.upd b1 x) cs = H cs := fun H x => Heap.upd_ne (Ne.symm m1)
            have hcl1 : ClR 139 2 (y.rv.pl.pr.map pD) _ (.os b1 o1 2 0 y.rv.pl.pr.length) _ := .inr ⟨b1, o1, hb1, by rw [List.length_map], rfl⟩
            (have fs := And.intro @i64.eq_1 (And.intro hH4 (And.intro hgy (And.intro hset4 (And.intro hx2 (And.intro h002 (And.intro hjl' q1)))))); refine evX ?_; (try clear fs))
            exact hNx _ ⟨⟨hdf4, y1, y2, y49, y50, y5⟩, y69, y70, rfl, _, _, _, _, _, (hcl0 _), hcl1, rfl, hset5 _ _, by simp only [List.length_set], fun k hk => by simp only [List.getElem?_set_ne (Ne.symm hk)]⟩
        · have m0 : b0 ≠ cs := by intro e; have h := hb0; rw [e] at h; exact absurd (h.symm.trans hH4) (by simp)
          have q0 : ∀ (H : Heap) x, (H.upd b0 x) cs = H cs := fun H x => Heap.upd_ne (Ne.symm m0)
          have hcl0 : ClR 139 2 (y.pl.pr.map pD) _ (.os b0 o0 2 0 y.pl.pr.length) _ := .inr ⟨b0, o0, hb0, by rw [List.length_map], rfl⟩
          (have fs := And.intro @i64.eq_1 (And.intro hH4 (And.intro hgy (And.intro hset4 (And.intro hx2 (And.intro h002 (And.intro hjl' q0)))))); refine evX ?_; (try clear fs))
          refine ⟨cpl_ok y.rv.pl hsy.2.1 _, fun hn1 => ?_, fun b1 o1 hb1 => ?_⟩
          · have hcl1 : ∀ Hx, ClR 139 2 (y.rv.pl.pr.map pD) Hx (.val (.slice none 0 0)) Hx := fun Hx => .inl ⟨rfl, hn1, rfl⟩
            exact hNx _ ⟨⟨hdf4, y1, y2, y49, y50, y5⟩, y69, y70, rfl, _, _, _, _, _, hcl0, (hcl1 _), rfl, hset5 _ _, by simp only [List.length_set], fun k hk => by simp only [List.getElem?_set_ne (Ne.symm hk)]⟩
          · have m1 : b1 ≠ cs := by intro e; have h := (Heap.upd_none.1 hb1).2; rw [e] at h; exact absurd (h.symm.trans hH4) (by simp)
            have q1 : ∀ (H : Heap) x, (H.upd b1 x) cs = H cs := fun H x => Heap.upd_ne (Ne.symm m1)
            have hcl1 : ClR 139 2 (y.rv.pl.pr.map pD) _ (.os b1 o1 2 0 y.rv.pl.pr.length) _ := .inr ⟨b1, o1, hb1, by rw [List.length_map], rfl⟩
            (have fs := And.intro @i64.eq_1 (And.intro hH4 (And.intro hgy (And.intro hset4 (And.intro hx2 (And.intro h002 (And.intro hjl' (And.intro q0 q1))))))); refine evX ?_; (try clear fs))
            exact hNx _ ⟨⟨hdf4, y1, y2, y49, y50, y5⟩, y69, y70, rfl, _, _, _, _, _, hcl0, hcl1, rfl, hset5 _ _, by simp only [List.length_set], fun k hk => by simp only [List.getElem?_set_ne (Ne.symm hk)]⟩
      rintro s5 ⟨⟨hdf5, t1, t2, t49, t50, t5⟩, t69, t70, t7, dp, dq, G1, G2, els5, hcl1, hcl2, hG, hg5, hl5, ho5⟩
      show W _ _ _ _
      have okP : ∀ (l : List (Int × Int)), ∀ el ∈ l.map pD, OkEl Heap.none 139 el := fun l el hm => by
        obtain ⟨y, _, rfl⟩ := List.mem_map.1 hm
        exact ok_pj _ _ _
      obtain ⟨B1, hB1, hB1o, hB1r⟩ := hcl1.cl (by rw [List.length_map]; exact hsy.1) (okP _)
      obtain ⟨B2, hB2, hB2o, hB2r⟩ := hcl2.cl (by rw [List.length_map]; exact hsy.2.1) (okP _)
      obtain ⟨D1, a1, b1, n1⟩ := hC4.more hB1
      have z1 := n1 cs _ hH4 hA4
      have hG1 := hB1.1 _ _ hH4
      obtain ⟨D2, a2, b2, n2⟩ := D1.more hB2
      have z2 := n2 cs _ hG1 z1
      have D3 := D2.upd (v := .row 75 os 11 els5) hFs z2
      rw [← hG] at D3
      have h5c : s5.H cs = some (.row 75 os 11 els5) := by rw [hG, Heap.upd_same]
      have hset6 : ∀ e, (els5.set j e)[j]? = some e := fun e => List.getElem?_set_self (by omega)
      (have fs := And.intro @i64.eq_1 (And.intro t7 (And.intro h5c (And.intro hg5 (And.intro hx2 (And.intro h002 hjl'))))); (repeat (first | refine hGx _ ?_ | refine hNx _ ?_ | refine W_skip ?_ | refine W_exit ?_ | refine W_ret ?_ | refine W_label ?_ | refine W_scope ?_ | refine W_block ?_ | refine W_seq ?_ | ((first | refine tS fun N hNx => ?_ | refine WL_gE rfl rfl (by kernel_rfl) (by kernel_rfl) fun G hGx => ?_ | refine vcOpsS_sound (by kernel_rfl) ?_ | refine W_ifE fun A B hAx hBx => ?_); refine evT ?_; (first | refine hGx _ ?_ | refine hNx _ ?_ | refine hAx ?_ | refine hBx ?_ | skip)))); (try clear fs))
      refine (cops_N y.rv.ar _ hsy.2.2).mono ?_
      rintro d6 X6 ⟨B6, hB6, hB6o, hB6r⟩
      obtain ⟨D4, a4, b4, n4⟩ := D3.more hB6
      have z4 := n4 cs _ h5c z2
      have h6c := hB6.1 _ _ h5c
      have hB6o' := hB6o
      rcases hB6o' with rfl | ⟨c6, o6, n6, rfl, _⟩
      · (have fs := And.intro @i64.eq_1 (And.intro h6c (And.intro hg5 (And.intro hset6 (And.intro hx2 (And.intro h002 (And.intro hjl' (And.intro t7 (And.intro t69 (And.intro t70 v3))))))))); (repeat (first | refine hGx _ ?_ | refine hNx _ ?_ | refine W_skip ?_ | refine W_exit ?_ | refine W_ret ?_ | refine W_label ?_ | refine W_scope ?_ | refine W_block ?_ | refine W_seq ?_ | ((first | refine tS fun N hNx => ?_ | refine WL_gE rfl rfl (by kernel_rfl) (by kernel_rfl) fun G hGx => ?_ | refine vcOpsS_sound (by kernel_rfl) ?_ | refine W_ifE fun A B hAx hBx => ?_); refine evT ?_; (first | refine hGx _ ?_ | refine hNx _ ?_ | refine hAx ?_ | refine hBx ?_ | skip)))); (try clear fs))
        refine ⟨hjl, ⟨hdf5, t1, t2, t49, t50, t5⟩, t69, rfl, .inr ⟨hst0, LpI.next hFs hj5 (fun el x h => stO.mono (Heap.le_trans a1 (Heap.le_trans a2 a4)) el x h) (D4.upd hFs z4) z4 (Heap.upd_same _ _ _) (by simp only [List.length_set]; rw [hl5]; exact hel4) (fun k hk => by rw [List.getElem?_set_ne (Ne.symm hk)]; exact ho5 k hk) (hset6 _) hjl ?_⟩⟩
        rw [← hye]
        exact ⟨_, _, _, rfl, oS_mono (Heap.le_trans b1 (Heap.le_trans a2 a4)) hB1o, oS_mono (Heap.le_trans b2 a4) hB2o, oS_mono b4 hB6o, hB1r.mono (Heap.le_trans b1 (Heap.le_trans a2 a4)), hB2r.mono (Heap.le_trans b2 a4), hB6r.mono b4⟩
      · (have fs := And.intro @i64.eq_1 (And.intro h6c (And.intro hg5 (And.intro hset6 (And.intro hx2 (And.intro h002 (And.intro hjl' (And.intro t7 (And.intro t69 (And.intro t70 v3))))))))); (repeat (first | refine hGx _ ?_ | refine hNx _ ?_ | refine W_skip ?_ | refine W_exit ?_ | refine W_ret ?_ | refine W_label ?_ | refine W_scope ?_ | refine W_block ?_ | refine W_seq ?_ | ((first | refine tS fun N hNx => ?_ | refine WL_gE rfl rfl (by kernel_rfl) (by kernel_rfl) fun G hGx => ?_ | refine vcOpsS_sound (by kernel_rfl) ?_ | refine W_ifE fun A B hAx hBx => ?_); refine evT ?_; (first | refine hGx _ ?_ | refine hNx _ ?_ | refine hAx ?_ | refine hBx ?_ | skip)))); (try clear fs))
        refine ⟨hjl, ⟨hdf5, t1, t2, t49, t50, t5⟩, t69, rfl, .inr ⟨hst0, LpI.next hFs hj5 (fun el x h => stO.mono (Heap.le_trans a1 (Heap.le_trans a2 a4)) el x h) (D4.upd hFs z4) z4 (Heap.upd_same _ _ _) (by simp only [List.length_set]; rw [hl5]; exact hel4) (fun k hk => by rw [List.getElem?_set_ne (Ne.symm hk)]; exact ho5 k hk) (hset6 _) hjl ?_⟩⟩
        rw [← hye]
        exact ⟨_, _, _, rfl, oS_mono (Heap.le_trans b1 (Heap.le_trans a2 a4)) hB1o, oS_mono (Heap.le_trans b2 a4) hB2o, oS_mono b4 hB6o, hB1r.mono (Heap.le_trans b1 (Heap.le_trans a2 a4)), hB2r.mono (Heap.le_trans b2 a4), hB6r.mono b4⟩
  rintro s4 ⟨hdf4, u1, u2, F6, hF6, hP6⟩
  obtain ⟨A1, ⟨hA1, o1⟩, oE⟩ := hR1.partE (by rw [List.length_map]; exact hrg) fun el hm => by obtain ⟨y, _, rfl⟩ := List.mem_map.1 hm; exact ok_st _ _
  obtain ⟨A2, hA2, o2⟩ := hR2.part (by rw [List.length_map]; exact hol) fun el hm => by obtain ⟨y, _, rfl⟩ := List.mem_map.1 hm; exact ok_pr _ _ _
  obtain ⟨A4, hA4, o4⟩ := hR4.part (by rw [List.length_map]; exact hlc) fun el hm => by obtain ⟨y, _, rfl⟩ := List.mem_map.1 hm; exact ok_lc _ _ _
  obtain ⟨A3, hA3, o3⟩ := hP3
  obtain ⟨A6, hA6, o6⟩ := hP6
  have hB1 : ∀ x, ((H.upd c1 x).upd c2 zRow) c1 = some x := fun x => by rw [q21, Heap.upd_same]
  have hB2 : ∀ x, ((H.upd c1 x).upd c2 zRow) c2 = some zRow := fun x => Heap.upd_same _ _ _
  have z11 := hA1.fresh (hB1 _)
  have z12 := hA1.fresh (hB2 _)
  have h11 := hA1.1 _ _ (hB1 _)
  have h12 := hA1.1 _ _ (hB2 _)
  have z21 := hA2.fresh h11
  have z22 := hA2.fresh h12
  have h21 := hA2.1 _ _ h11
  have h22 := hA2.1 _ _ h12
  have z41 := hA4.fresh h21
  have z42 := hA4.fresh h22
  have h32 := hA4.1 _ _ h22
  have hs2 : s.H c2 = some zRow := by rw [hH, Heap.upd_ne n21]; exact h32
  have hs22 : s2.H c2 = some zRow := by rw [hH2, Heap.upd_ne n21]; exact hle6 _ _ (hle5 _ _ hs2)
  have hF32 := hF3 _ _ hs22 (.inl (by rw [hs2]; simp))
  have hs32 := hl3 _ _ hF32
  have h5n : ∀ k, s.H k ≠ none → H5 k ≠ none := fun k hk => by
    cases e : s.H k with
    | none => exact absurd e hk
    | some y => rw [hle5 _ _ e]; simp
  have hF61 := hF6 _ _ hr3 (.inr (h5n _ (by rw [hr1]; simp)))
  have hF62 := hF6 _ _ hs32 (.inr (h5n _ (by rw [hs2]; simp)))
  have hr4 := hA6.1 _ _ hF61
  have hz4 := hA6.1 _ _ hF62
  have z32 := hA3.fresh hF32
  have z62 := hA6.fresh hF62
  have hHB : H.le ((H.upd c1 (bRow (.seq 1 (b.rg.map sD)) (.seq 2 (b.ol.map pD)) (.seq 5 (b.ty.map tyD)) (.seq 2 (b.lc.map lcD)) (.seq 7 (b.bl.map bkD)) b)).upd c2 zRow) := Heap.le_put (Heap.le_put (Heap.le_refl _) hc1) hc20
  have hH1 := Heap.le_trans hHB hA1.1
  have hHH2 := Heap.le_trans hH1 hA2.1
  have hH3 := Heap.le_trans hHH2 hA4.1
  have g : ∀ A : Heap, A.le H3 → A c1 = none → A.le F3 ∧ A.le F6 := fun A hA hc => by
    have hk : ∀ k y, A k = some y → k ≠ c1 ∧ s.H k = some y := fun k y hk => by
      have hne : k ≠ c1 := fun e => by rw [e, hc] at hk; cases hk
      exact ⟨hne, by rw [hH, Heap.upd_ne hne]; exact hA k y hk⟩
    have h3 : A.le F3 := fun k y hky => by
      obtain ⟨hne, hs⟩ := hk k y hky
      exact hF3 k y (by rw [hH2, Heap.upd_ne hne]; exact hle6 _ _ (hle5 _ _ hs)) (.inl (by rw [hs]; simp))
    exact ⟨h3, fun k y hky => hF6 k y (hl3 _ _ (h3 _ _ hky)) (.inr (h5n _ (by rw [(hk k y hky).2]; simp)))⟩
  obtain ⟨gH3, gH6⟩ := g H hH3 hc1
  have a12 := Heap.le_trans hA1.2.1 hA2.1
  obtain ⟨g13, g16⟩ := g A1 (Heap.le_trans a12 hA4.1) z11
  obtain ⟨g23, g26⟩ := g A2 (Heap.le_trans hA2.2.1 hA4.1) z21
  obtain ⟨g43, g46⟩ := g A4 hA4.2.1 z41
  have g36 : A3.le F6 := fun k y hk => hF6 k y (hA3.2.1 _ _ hk) (by
    have hn := hA3.2.2.1 k (by rw [hk]; simp)
    cases e2 : s2.H k with
    | none => exact .inl rfl
    | some z =>
      refine .inr fun h5 => ?_
      have := hF3 k z e2 (.inr h5)
      rw [hn] at this
      cases this)
  have fin : ∀ (F A : Heap) (v : HObj), H.le F → (∀ k, A k ≠ none → F k = none) → TyH A → A.le s4.H → A c2 = none → Cl H (s4.H.upd c2 v) A := fun F A v h1 h2 h3 h4 h5 => ⟨Heap.le_put (Heap.le_trans gH6 hA6.1) hc20, Heap.le_put h4 h5, fun k hk => Heap.none_of h1 (h2 k hk), h3⟩
  unfold bRow at hr4
  unfold zRow at hz4
  (have fs := And.intro @i64.eq_1 (And.intro u1 (And.intro u2 (And.intro hr4 (And.intro hz4 q12)))); (repeat (first | refine hGx _ ?_ | refine hNx _ ?_ | refine W_skip ?_ | refine W_exit ?_ | refine W_ret ?_ | refine W_label ?_ | refine W_scope ?_ | refine W_block ?_ | refine W_seq ?_ | ((first | refine tS fun N hNx => ?_ | refine WL_gE rfl rfl (by kernel_rfl) (by kernel_rfl) fun G hGx => ?_ | refine vcOpsS_sound (by kernel_rfl) ?_ | refine W_ifE fun A B hAx hBx => ?_); refine evT ?_; (first | refine hGx _ ?_ | refine hNx _ ?_ | refine hAx ?_ | refine hBx ?_ | skip)))); (try clear fs))
  (first | (show Q .ret _) | (show Q .normal _) | skip); refine hret _ _ (by first | exact .inr rfl | exact .inl rfl) (by first | rfl | assumption | (simp only [put_df, withH_df]; assumption)) ?_; have fs := u2; refine evT ?_; clear fs
  exact ⟨_, Heap.le_refl _, A1, A2, A3, A4, A6, _, _, _, _, _, rfl, ⟨fin _ A1 _ hHB hA1.2.2.1 hA1.2.2.2 (Heap.le_trans g16 hA6.1) z12, o1⟩, ⟨fin _ A2 _ hH1 hA2.2.2.1 hA2.2.2.2 (Heap.le_trans g26 hA6.1) z22, o2⟩, ⟨fin _ A3 _ gH3 hA3.2.2.1 hA3.2.2.2 (Heap.le_trans g36 hA6.1) z32, o3⟩, ⟨fin _ A4 _ hHH2 hA4.2.2.1 hA4.2.2.2 (Heap.le_trans g46 hA6.1) z42, o4⟩, ⟨fin _ A6 _ gH6 hA6.2.2.1 hA6.2.2.2 hA6.2.1 z62, o6⟩,
    Dj.of hA1.2.1 hA2.2.2.1, Dj.of g13 hA3.2.2.1, Dj.of a12 hA4.2.2.1, Dj.of g16 hA6.2.2.1, Dj.of g23 hA3.2.2.1, Dj.of hA2.2.1 hA4.2.2.1, Dj.of g26 hA6.2.2.1, Dj.of g43 hA3.2.2.1, Dj.of g46 hA6.2.2.1, Dj.of g36 hA6.2.2.1, by unfold exS; rw [List.length_map] at oE; exact oE⟩
end Go.Proofs.Ytbcghjcakincoaa
