/- The walk of the law BodiesClone. -/
import Derived.Test.YtbcghjcakincoaaGBR
import Derived.Test.YtbcghjcakincoaaGBY
import Derived.Test.YtbcghjcakincoaaGBH
/- Chapter 9: changing a body in place. -/
namespace Go.Proofs.Ytbcghjcakincoaa
open Go.RowKit
set_option linter.unusedVariables false
set_option maxRecDepth 100000
set_option linter.unusedSimpArgs false
/-- What is a slice of one's own stays one. -/
def Pres (A B : Heap) : Prop := ∀ T sz d, oS A T sz d → oS B T sz d
theorem Pres.refl (A : Heap) : Pres A A := fun _ _ _ h => h
theorem Pres.trans {A B C : Heap} (h : Pres A B) (h2 : Pres B C) : Pres A C := fun _ _ _ k => h2 _ _ _ (h _ _ _ k)
theorem Pres.le {A B : Heap} (h : A.le B) : Pres A B := fun _ _ _ k => oS_mono h k
theorem Pres.set {A : Heap} {b o sz : Nat} {t : TypeId} {els els' : List (List D)} (hb : A b = some (.row t o sz els)) (hl : els'.length = els.length) : Pres A (A.upd b (.row t o sz els')) := fun T z d h => by
  rcases h with h | ⟨c, o2, n, h1, h2⟩
  · exact .inl h
  · refine .inr ⟨c, o2, n, h1, h2.imp id fun ⟨es, h3, h4⟩ => ?_⟩
    by_cases e : c = b
    · subst e
      rw [hb] at h4
      injection h4 with h4
      injection h4 with e1 e2 e3 e4
      subst e1 e2 e3 e4
      exact ⟨els', hl.trans h3, Heap.upd_same _ _ _⟩
    · exact ⟨es, h3, by rw [Heap.upd_ne e]; exact h4⟩
theorem OkEl.pres {A B : Heap} {T : TypeId} {el : List D} (h : Pres A B) (k : OkEl A T el) : OkEl B T el where
  pj := k.pj
  it := k.it
  st := k.st
  pr := k.pr
  lc := k.lc
  ty := fun e => by obtain ⟨a, b, c, d, f, h1, h2⟩ := k.ty e; exact ⟨a, b, c, d, f, h1, h _ _ _ h2⟩
  op := fun e => by obtain ⟨a, b, c, d, h1, h2⟩ := k.op e; exact ⟨a, b, c, d, h1, h _ _ _ h2⟩
  sm := fun e => by obtain ⟨a, b, c, d, e, f, g, i, j, l, m, h1, h2, h3, h4⟩ := k.sm e; exact ⟨a, b, c, d, e, f, g, i, j, l, m, h1, h _ _ _ h2, h _ _ _ h3, h _ _ _ h4⟩
  bk := fun e => by obtain ⟨a, b, c, d, e, f, g, h1, h2, h3, h4, h5⟩ := k.bk e; exact ⟨a, b, c, d, e, f, g, h1, h _ _ _ h2, h _ _ _ h3, h _ _ _ h4, h _ _ _ h5⟩
theorem TyH.set {A : Heap} {b o sz i : Nat} {t : TypeId} {els : List (List D)} {el' : List D} (h : TyH A) (hb : A b = some (.row t o sz els)) (he : OkEl A t el') : TyH (A.upd b (.row t o sz (els.set i el'))) := fun c T o2 sz2 es hc => by
  have hp := Pres.set (els' := els.set i el') hb (List.length_set ..)
  by_cases e : c = b
  · subst e
    rw [Heap.upd_same] at hc
    injection hc with hc
    injection hc with h1 h2 h3 h4
    subst h1 h2 h3 h4
    refine ⟨by rw [List.length_set]; exact (h c t o sz els hb).1, fun el hel => ?_⟩
    rcases List.mem_or_eq_of_mem_set hel with h5 | h5
    · exact ((h c t o sz els hb).2 el h5).pres hp
    · rw [h5]; exact he.pres hp
  · rw [Heap.upd_ne e] at hc
    exact ⟨(h c T o2 sz2 es hc).1, fun el hel => ((h c T o2 sz2 es hc).2 el hel).pres hp⟩
theorem TyH.get {A : Heap} {b o sz i : Nat} {t : TypeId} {els : List (List D)} (h : TyH A) (hb : A b = some (.row t o sz els)) (hi : i < els.length) : ∃ el, els[i]? = some el ∧ OkEl A t el := ⟨els[i], List.getElem?_eq_getElem hi, (h b t o sz els hb).2 _ (List.getElem_mem hi)⟩
/-- Types of cells that say nothing. -/
theorem ok_free {A : Heap} {T : TypeId} {el : List D} (h : T = 40 ∨ T = 28) : OkEl A T el := by
  rcases h with rfl | rfl <;> exact ⟨fun e => absurd e (by decide), fun e => absurd e (by decide), fun e => absurd e (by decide), fun e => absurd e (by decide), fun e => absurd e (by decide), fun e => absurd e (by decide), fun e => absurd e (by decide), fun e => absurd e (by decide), fun e => absurd e (by decide)⟩
/-- No row is long. -/
def Bd (A : Heap) : Prop := ∀ b t o sz els, A b = some (.row t o sz els) → els.length ≤ 1000000
theorem Bd.upd {A : Heap} {b o sz : Nat} {t : TypeId} {els : List (List D)} (h : Bd A) (hl : els.length ≤ 1000000) : Bd (A.upd b (.row t o sz els)) := fun c T o2 sz2 es hc => by
  by_cases e : c = b
  · subst e
    rw [Heap.upd_same] at hc
    injection hc with hc
    injection hc with h1 h2 h3 h4
    subst h4
    exact hl
  · rw [Heap.upd_ne e] at hc
    exact h c T o2 sz2 es hc
/-- A change that keeps what is there well typed; rows of other types than those named stay as they are. -/
def Chg (ts : List TypeId) (H : Heap) (_ : D) (H' : Heap) : Prop := (TyH H' ∧ Bd H') ∧ Pres H H' ∧ ∀ b t o sz els, t ∉ ts → H b = some (.row t o sz els) → H' b = some (.row t o sz els)
set_option maxHeartbeats 1000000 in
theorem plc_N (lo : Int) (dp : D) (H : Heap) (hT : TyH H) (hB : Bd H) (hp : oS H 139 2 dp) : Does Try.prog 75 [.agg [i64 lo, dp]] H (Chg [139] H) := by
  refine does_of _ _ Try.func75 rfl rfl Try.ntmps75 Try.results75 (by simp only [List.length_cons, List.length_nil]; omega) fun w0 Q hret => ?_
  (have fs := @i64.eq_1; (repeat (first | refine hGx _ ?_ | refine hNx _ ?_ | refine W_skip ?_ | refine W_exit ?_ | refine W_ret ?_ | refine W_label ?_ | refine W_scope ?_ | refine W_block ?_ | refine W_seq ?_ | ((first | refine tS fun N hNx => ?_ | refine WL_gE rfl rfl (by kernel_rfl) (by kernel_rfl) fun G hGx => ?_ | refine vcOpsS_sound (by kernel_rfl) ?_ | refine W_ifE fun A B hAx hBx => ?_); refine evT ?_; (first | refine hGx _ ?_ | refine hNx _ ?_ | refine hAx ?_ | refine hBx ?_ | skip)))); (try clear fs))
  intro c1 hc1
  refine hNx _ ?_
  have hTn : TyH (H.upd c1 (.row 40 0 2 [[i64 lo, dp]])) := hT.new hc1 (by simp) fun el hel => ok_free (.inl rfl)
  have hle : H.le (H.upd c1 (.row 40 0 2 [[i64 lo, dp]])) := Heap.le_put (Heap.le_refl _) hc1
  have z1 : (H.upd c1 (.row 40 0 2 [[i64 lo, dp]])) c1 = some (.row 40 0 2 [[i64 lo, dp]]) := Heap.upd_same _ _ _
  rcases hp with rfl | ⟨c, o, n, rfl, hn⟩
  · (have fs := And.intro @i64.eq_1 z1; (repeat (first | refine hGx _ ?_ | refine hNx _ ?_ | refine W_skip ?_ | refine W_exit ?_ | refine W_ret ?_ | refine W_label ?_ | refine W_scope ?_ | refine W_block ?_ | refine W_seq ?_ | ((first | refine tS fun N hNx => ?_ | refine WL_gE rfl rfl (by kernel_rfl) (by kernel_rfl) fun G hGx => ?_ | refine vcOpsS_sound (by kernel_rfl) ?_ | refine W_ifE fun A B hAx hBx => ?_); refine evT ?_; (first | refine hGx _ ?_ | refine hNx _ ?_ | refine hAx ?_ | refine hBx ?_ | skip)))); (try clear fs))
    refine W_loopN 0 (fun i s => s.df = [] ∧ s.fr 5 = i64 0 ∧ s.fr 6 = i64 i ∧ s.H = H.upd c1 (.row 40 0 2 [[i64 lo, .val (.slice none 0 0)]])) ⟨rfl, rfl, rfl, rfl⟩ ?_
    rintro i s hi ⟨hdf, f5, f6, hH⟩
    have hi0 : i = 0 := by omega
    subst hi0
    (have fs := And.intro @i64.eq_1 (And.intro f5 f6); (repeat (first | refine hGx _ ?_ | refine hNx _ ?_ | refine W_skip ?_ | refine W_exit ?_ | refine W_ret ?_ | refine W_label ?_ | refine W_scope ?_ | refine W_block ?_ | refine W_seq ?_ | ((first | refine tS fun N hNx => ?_ | refine WL_gE rfl rfl (by kernel_rfl) (by kernel_rfl) fun G hGx => ?_ | refine vcOpsS_sound (by kernel_rfl) ?_ | refine W_ifE fun A B hAx hBx => ?_); refine evT ?_; (first | refine hGx _ ?_ | refine hNx _ ?_ | refine hAx ?_ | refine hBx ?_ | skip)))); (try clear fs))
    (first | (show Q .ret _) | (show Q .normal _) | skip); refine hret _ _ (by first | exact .inr rfl | exact .inl rfl) (by first | rfl | assumption | (simp only [put_df, withH_df]; assumption)) ?_; have fs := hdf; refine evT ?_; clear fs
    exact ⟨s.H, Heap.le_refl _, by rw [hH]; exact ⟨hTn, hB.upd (by simp)⟩, by rw [hH]; exact Pres.le hle, fun b t o sz els ht hb => by rw [hH]; exact hle _ _ hb⟩
  · have hp : oS (H.upd c1 (.row 40 0 2 [[i64 lo, .os c o 2 0 n]])) 139 2 (.os c o 2 0 n) := .inr ⟨c, o, n, rfl, hn.imp id fun ⟨els, h1, h2⟩ => ⟨els, h1, hle _ _ h2⟩⟩
    (have fs := And.intro @i64.eq_1 z1; (repeat (first | refine hGx _ ?_ | refine hNx _ ?_ | refine W_skip ?_ | refine W_exit ?_ | refine W_ret ?_ | refine W_label ?_ | refine W_scope ?_ | refine W_block ?_ | refine W_seq ?_ | ((first | refine tS fun N hNx => ?_ | refine WL_gE rfl rfl (by kernel_rfl) (by kernel_rfl) fun G hGx => ?_ | refine vcOpsS_sound (by kernel_rfl) ?_ | refine W_ifE fun A B hAx hBx => ?_); refine evT ?_; (first | refine hGx _ ?_ | refine hNx _ ?_ | refine hAx ?_ | refine hBx ?_ | skip)))); (try clear fs))
    refine W_loopN n (fun i s => s.df = [] ∧ s.fr 1 = .ep c1 0 2 0 0 ∧ s.fr 5 = i64 n ∧ s.fr 6 = i64 i ∧ s.H c1 = some (.row 40 0 2 [[i64 lo, .os c o 2 0 n]]) ∧ TyH s.H ∧ Bd s.H ∧ Pres (H.upd c1 (.row 40 0 2 [[i64 lo, .os c o 2 0 n]])) s.H ∧ ∀ b t o sz els, t ∉ [139] → H b = some (.row t o sz els) → s.H b = some (.row t o sz els)) ⟨rfl, rfl, rfl, rfl, z1, hTn, hB.upd (by simp), Pres.refl _, fun b t o sz els _ hb => hle _ _ hb⟩ ?_
    rintro i s hi ⟨hdf, f1, f5, f6, hH1, hTs, hBs, hPs, hKs⟩
    have hx : (i : Int).toNat = i := Int.toNat_natCast _
    have h00 : (0 : Int) ≤ (i : Int) := Int.natCast_nonneg _
    by_cases hil : i < n
    case neg =>
      have p1 : ((i : Int) < (n : Int)) = False := eq_false (by omega)
      (have fs := And.intro @i64.eq_1 (And.intro f5 (And.intro f6 p1)); (repeat (first | refine hGx _ ?_ | refine hNx _ ?_ | refine W_skip ?_ | refine W_exit ?_ | refine W_ret ?_ | refine W_label ?_ | refine W_scope ?_ | refine W_block ?_ | refine W_seq ?_ | ((first | refine tS fun N hNx => ?_ | refine WL_gE rfl rfl (by kernel_rfl) (by kernel_rfl) fun G hGx => ?_ | refine vcOpsS_sound (by kernel_rfl) ?_ | refine W_ifE fun A B hAx hBx => ?_); refine evT ?_; (first | refine hGx _ ?_ | refine hNx _ ?_ | refine hAx ?_ | refine hBx ?_ | skip)))); (try clear fs))
      (first | (show Q .ret _) | (show Q .normal _) | skip); refine hret _ _ (by first | exact .inr rfl | exact .inl rfl) (by first | rfl | assumption | (simp only [put_df, withH_df]; assumption)) ?_; have fs := hdf; refine evT ?_; clear fs
      exact ⟨s.H, Heap.le_refl _, ⟨hTs, hBs⟩, (Pres.le hle).trans hPs, hKs⟩
    have hil' : (i : Int) < (n : Int) := by omega
    have p1 : ((i : Int) < (n : Int)) = True := eq_true hil'
    rcases hPs _ _ _ hp with h | ⟨c', o', n', h1, h2⟩
    · cases h
    injection h1 with e1 e2 e3 e4 e5
    subst e1 e2 e5
    rcases h2 with h2 | ⟨els, hel, hHc⟩
    · omega
    have hbd := hBs _ _ _ _ _ hHc
    have w3 : IntKind.i64.wrap ((i : Int) + 1) = ((i + 1 : Nat) : Int) := by rw [wrap_i64_of (by omega)]; omega
    obtain ⟨el, hge, hok⟩ := hTs.get hHc (i := i) (by omega)
    obtain ⟨x, y, rfl⟩ := hok.pj rfl
    have hne : c ≠ c1 := fun e => by rw [e, hH1] at hHc; injection hHc with h; injection h with h; exact absurd h (by decide)
    (have fs := And.intro @i64.eq_1 (And.intro f1 (And.intro f5 (And.intro f6 (And.intro p1 (And.intro hH1 (And.intro hHc (And.intro hge (And.intro hx (And.intro h00 (And.intro hil' w3)))))))))); (repeat (first | refine hGx _ ?_ | refine hNx _ ?_ | refine W_skip ?_ | refine W_exit ?_ | refine W_ret ?_ | refine W_label ?_ | refine W_scope ?_ | refine W_block ?_ | refine W_seq ?_ | ((first | refine tS fun N hNx => ?_ | refine WL_gE rfl rfl (by kernel_rfl) (by kernel_rfl) fun G hGx => ?_ | refine vcOpsS_sound (by kernel_rfl) ?_ | refine W_ifE fun A B hAx hBx => ?_); refine evT ?_; (first | refine hGx _ ?_ | refine hNx _ ?_ | refine hAx ?_ | refine hBx ?_ | skip)))); (try clear fs))
    refine ⟨hil, hdf, f1, f5, rfl, ?_, hTs.set hHc (ok_pj _ _ _), hBs.upd (by rw [List.length_set]; exact hbd), hPs.trans (Pres.set hHc (List.length_set ..)), fun b t o2 sz els2 ht hb => ?_⟩
    · exact (Heap.upd_ne (Ne.symm hne)).trans hH1
    · have h3 := hKs b t o2 sz els2 ht hb
      refine (Heap.upd_ne fun e => ?_).trans h3
      rw [e, hHc] at h3
      injection h3 with h3
      injection h3 with h3
      subst h3
      exact ht (by simp)
theorem Chg.more {ts ts' : List TypeId} {H H1 : Heap} {d : D} (h : Chg ts H d H1) (hs : ∀ t, t ∈ ts → t ∈ ts') : Chg ts' H d H1 := ⟨h.1, h.2.1, fun b t o sz els ht hb => h.2.2 b t o sz els (fun k => ht (hs t k)) hb⟩
theorem Chg.trans {ts : List TypeId} {H H1 H2 : Heap} {d d' : D} (h : Chg ts H d H1) (h2 : Chg ts H1 d' H2) : Chg ts H d' H2 := ⟨h2.1, h.2.1.trans h2.2.1, fun b t o sz els ht hb => h2.2.2 b t o sz els ht (h.2.2 b t o sz els ht hb)⟩
theorem Chg.set {ts : List TypeId} {H : Heap} {b o sz i : Nat} {t : TypeId} {els : List (List D)} {el' : List D} (hT : TyH H) (hB : Bd H) (hb : H b = some (.row t o sz els)) (he : OkEl H t el') (ht : t ∈ ts) (d : D) : Chg ts H d (H.upd b (.row t o sz (els.set i el'))) :=
  ⟨⟨hT.set hb he, hB.upd (by rw [List.length_set]; exact hB _ _ _ _ _ hb)⟩, Pres.set hb (List.length_set ..), fun c t2 o2 sz2 els2 h2 hc => by
    refine (Heap.upd_ne fun e => ?_).trans hc
    rw [e, hb] at hc
    injection hc with hc
    injection hc with hc
    subst hc
    exact h2 ht⟩
/-- The row of a slice that is not empty. -/
theorem oS.row {A : Heap} {T : TypeId} {c o sz n i : Nat} (h : oS A T sz (.os c o sz 0 n)) (hi : i < n) : ∃ els, els.length = n ∧ A c = some (.row T o sz els) := by
  rcases h with h | ⟨c', o', n', h1, h2⟩
  · cases h
  injection h1 with e1 e2 e3 e4 e5
  subst e1 e2 e5
  rcases h2 with h2 | ⟨els, h3, h4⟩
  · omega
  · exact ⟨els, h3, h4⟩
set_option maxHeartbeats 1000000 in
theorem opc_N (d : D) (H : Heap) (hT : TyH H) (hB : Bd H) (hp : oS H 91 4 d) : Does Try.prog 74 [d] H (Chg [139, 91] H) := by
  have hp' := hp
  rcases hp' with rfl | ⟨c, o, n, rfl, hn⟩
  · refine does_of _ _ Try.func74 rfl rfl Try.ntmps74 Try.results74 (by simp only [List.length_cons, List.length_nil]; omega) fun w0 Q hret => ?_
    (have fs := @i64.eq_1; (repeat (first | refine hGx _ ?_ | refine hNx _ ?_ | refine W_skip ?_ | refine W_exit ?_ | refine W_ret ?_ | refine W_label ?_ | refine W_scope ?_ | refine W_block ?_ | refine W_seq ?_ | ((first | refine tS fun N hNx => ?_ | refine WL_gE rfl rfl (by kernel_rfl) (by kernel_rfl) fun G hGx => ?_ | refine vcOpsS_sound (by kernel_rfl) ?_ | refine W_ifE fun A B hAx hBx => ?_); refine evT ?_; (first | refine hGx _ ?_ | refine hNx _ ?_ | refine hAx ?_ | refine hBx ?_ | skip)))); (try clear fs))
    refine W_loopN 0 (fun i s => s.df = [] ∧ s.fr 4 = i64 0 ∧ s.fr 5 = i64 i ∧ s.H = H) ⟨rfl, rfl, rfl, rfl⟩ ?_
    rintro i s hi ⟨hdf, f4, f5, hH⟩
    have hi0 : i = 0 := by omega
    subst hi0
    (have fs := And.intro @i64.eq_1 (And.intro f4 f5); (repeat (first | refine hGx _ ?_ | refine hNx _ ?_ | refine W_skip ?_ | refine W_exit ?_ | refine W_ret ?_ | refine W_label ?_ | refine W_scope ?_ | refine W_block ?_ | refine W_seq ?_ | ((first | refine tS fun N hNx => ?_ | refine WL_gE rfl rfl (by kernel_rfl) (by kernel_rfl) fun G hGx => ?_ | refine vcOpsS_sound (by kernel_rfl) ?_ | refine W_ifE fun A B hAx hBx => ?_); refine evT ?_; (first | refine hGx _ ?_ | refine hNx _ ?_ | refine hAx ?_ | refine hBx ?_ | skip)))); (try clear fs))
    (first | (show Q .ret _) | (show Q .normal _) | skip); refine hret _ _ (by first | exact .inr rfl | exact .inl rfl) (by first | rfl | assumption | (simp only [put_df, withH_df]; assumption)) ?_; have fs := hdf; refine evT ?_; clear fs
    exact ⟨s.H, Heap.le_refl _, by rw [hH]; exact ⟨hT, hB⟩, by rw [hH]; exact Pres.refl _, fun b t o sz els ht hb => by rw [hH]; exact hb⟩
  · refine does_of _ _ Try.func74 rfl rfl Try.ntmps74 Try.results74 (by simp only [List.length_cons, List.length_nil]; omega) fun w0 Q hret => ?_
    (have fs := @i64.eq_1; (repeat (first | refine hGx _ ?_ | refine hNx _ ?_ | refine W_skip ?_ | refine W_exit ?_ | refine W_ret ?_ | refine W_label ?_ | refine W_scope ?_ | refine W_block ?_ | refine W_seq ?_ | ((first | refine tS fun N hNx => ?_ | refine WL_gE rfl rfl (by kernel_rfl) (by kernel_rfl) fun G hGx => ?_ | refine vcOpsS_sound (by kernel_rfl) ?_ | refine W_ifE fun A B hAx hBx => ?_); refine evT ?_; (first | refine hGx _ ?_ | refine hNx _ ?_ | refine hAx ?_ | refine hBx ?_ | skip)))); (try clear fs))
    refine W_loopN n (fun i s => s.df = [] ∧ s.fr 0 = .os c o 4 0 n ∧ s.fr 4 = i64 n ∧ s.fr 5 = i64 i ∧ Chg [139, 91] H (.tup []) s.H) ⟨rfl, rfl, rfl, rfl, ⟨hT, hB⟩, Pres.refl _, fun b t o sz els _ hb => hb⟩ ?_
    rintro i s hi ⟨hdf, f0, f4, f5, hC⟩
    have hx : (i : Int).toNat = i := Int.toNat_natCast _
    have h00 : (0 : Int) ≤ (i : Int) := Int.natCast_nonneg _
    by_cases hil : i < n
    case neg =>
      have p1 : ((i : Int) < (n : Int)) = False := eq_false (by omega)
      (have fs := And.intro @i64.eq_1 (And.intro f4 (And.intro f5 p1)); (repeat (first | refine hGx _ ?_ | refine hNx _ ?_ | refine W_skip ?_ | refine W_exit ?_ | refine W_ret ?_ | refine W_label ?_ | refine W_scope ?_ | refine W_block ?_ | refine W_seq ?_ | ((first | refine tS fun N hNx => ?_ | refine WL_gE rfl rfl (by kernel_rfl) (by kernel_rfl) fun G hGx => ?_ | refine vcOpsS_sound (by kernel_rfl) ?_ | refine W_ifE fun A B hAx hBx => ?_); refine evT ?_; (first | refine hGx _ ?_ | refine hNx _ ?_ | refine hAx ?_ | refine hBx ?_ | skip)))); (try clear fs))
      (first | (show Q .ret _) | (show Q .normal _) | skip); refine hret _ _ (by first | exact .inr rfl | exact .inl rfl) (by first | rfl | assumption | (simp only [put_df, withH_df]; assumption)) ?_; have fs := hdf; refine evT ?_; clear fs
      exact ⟨s.H, Heap.le_refl _, hC⟩
    have hil' : (i : Int) < (n : Int) := by omega
    have p1 : ((i : Int) < (n : Int)) = True := eq_true hil'
    obtain ⟨⟨hTs, hBs⟩, hPs, hKs⟩ := id hC
    obtain ⟨els, hel, hHc⟩ := (hPs _ _ _ hp).row hil
    have hbd := hBs _ _ _ _ _ hHc
    have w3 : IntKind.i64.wrap ((i : Int) + 1) = ((i + 1 : Nat) : Int) := by rw [wrap_i64_of (by omega)]; omega
    obtain ⟨el, hge, hok⟩ := hTs.get hHc (i := i) (by omega)
    obtain ⟨k, lo, p, m, rfl, hpp⟩ := hok.op rfl
    have hset : ∀ e, (els.set i e)[i]? = some e := fun e => List.getElem?_set_self (by omega)
    have hC2 := fun (v : Int) => Chg.set (ts := [139, 91]) (i := i) hTs hBs hHc (ok_op (k := k) (lo := lo) (n := v) hpp) (by decide) (.tup [])
    (have fs := And.intro @i64.eq_1 (And.intro f0 (And.intro f4 (And.intro f5 (And.intro p1 (And.intro hHc (And.intro hge (And.intro hset (And.intro hx (And.intro h00 (And.intro hil' w3)))))))))); (repeat (first | refine hGx _ ?_ | refine hNx _ ?_ | refine W_skip ?_ | refine W_exit ?_ | refine W_ret ?_ | refine W_label ?_ | refine W_scope ?_ | refine W_block ?_ | refine W_seq ?_ | ((first | refine tS fun N hNx => ?_ | refine WL_gE rfl rfl (by kernel_rfl) (by kernel_rfl) fun G hGx => ?_ | refine vcOpsS_sound (by kernel_rfl) ?_ | refine W_ifE fun A B hAx hBx => ?_); refine evT ?_; (first | refine hGx _ ?_ | refine hNx _ ?_ | refine hAx ?_ | refine hBx ?_ | skip)))); (try clear fs))
    refine (plc_N lo p _ (hC2 _).1.1 (hC2 _).1.2 ((hC2 _).2.1 _ _ _ hpp)).mono ?_
    rintro d H2 hC3
    (have fs := And.intro @i64.eq_1 (And.intro f5 w3); (repeat (first | refine hGx _ ?_ | refine hNx _ ?_ | refine W_skip ?_ | refine W_exit ?_ | refine W_ret ?_ | refine W_label ?_ | refine W_scope ?_ | refine W_block ?_ | refine W_seq ?_ | ((first | refine tS fun N hNx => ?_ | refine WL_gE rfl rfl (by kernel_rfl) (by kernel_rfl) fun G hGx => ?_ | refine vcOpsS_sound (by kernel_rfl) ?_ | refine W_ifE fun A B hAx hBx => ?_); refine evT ?_; (first | refine hGx _ ?_ | refine hNx _ ?_ | refine hAx ?_ | refine hBx ?_ | skip)))); (try clear fs))
    exact ⟨hil, hdf, f0, f4, rfl, (hC.trans (hC2 _)).trans (hC3.more (by decide))⟩
structure Sl5 where
  nm : ByteArray
  d1 : D
  d2 : D
  d3 : D
  d4 : D
  ag : Int
  d6 : D
def Sl5.row (x : Sl5) : HObj := .row 28 0 7 [[strD x.nm, x.d1, x.d2, x.d3, x.d4, i64 x.ag, x.d6]]
structure Sl5.ok (x : Sl5) (H : Heap) : Prop where
  ty : TyH H
  bd : Bd H
  o2 : oS H 49 2 x.d2
  o3 : oS H 51 5 x.d3
  o4 : oS H 71 2 x.d4
  o6 : oS H 44 7 x.d6
theorem Sl5.ok.chg {x : Sl5} {H H' : Heap} {ts : List TypeId} {d : D} (h : x.ok H) (c : Chg ts H d H') : x.ok H' := ⟨c.1.1, c.1.2, c.2.1 _ _ _ h.o2, c.2.1 _ _ _ h.o3, c.2.1 _ _ _ h.o4, c.2.1 _ _ _ h.o6⟩
theorem W_toN {cx : Cx} {x : Code} {Q : Exit → St → Prop} {s : St} (M : St → Prop) (h1 : W cx x (thenQ M (fun _ _ => False)) s) (h2 : ∀ s, M s → Q .normal s) : W cx x Q s :=
  W_mono h1 fun e s' q => by cases e <;> first | exact h2 s' q | exact q.elim
/-- Between the loops. -/
def SK (x : Sl5) (c1 : Nat) (s : St) : Prop := s.df = [] ∧ s.fr 1 = .ep c1 0 7 0 0 ∧ s.H c1 = some x.row ∧ x.ok s.H
theorem SK.step {x : Sl5} {c1 : Nat} {H H' : Heap} {ts : List TypeId} {d : D} (h1 : H c1 = some x.row) (c : Chg ts H d H') (hb : 28 ∉ ts) : H' c1 = some x.row := c.2.2 _ _ _ _ _ hb h1
/-- In the block i. -/
def BK (x : Sl5) (c1 c o n i : Nat) (u t a : D) (lo : Int) (p : D) (nb : ByteArray) (s : St) : Prop := s.df = [] ∧ s.fr 1 = .ep c1 0 7 0 0 ∧ s.fr 7 = i64 i ∧ s.fr 8 = .ep c o 7 i 1 ∧ s.fr 98 = i64 n ∧ s.fr 99 = i64 i ∧ s.H c1 = some x.row ∧ x.ok s.H ∧ (oS s.H 75 11 u ∧ oS s.H 3 1 t ∧ oS s.H 91 4 a ∧ oS s.H 139 2 p) ∧ ∃ v els, s.H c = some (.row 44 o 7 els) ∧ els[i]? = some [u, i64 v, t, a, i64 lo, p, strD nb]
set_option maxHeartbeats 4000000 in
theorem scr_N (x : Sl5) (H : Heap) (hok : x.ok H) (h1 : x.d1 = .val (.slice none 0 0) ∨ ∃ (c o : Nat) (l : List ByteArray), x.d1 = .os c o 1 0 l.length ∧ H c = some (.row 9 o 1 (l.map sD)) ∧ ∀ s ∈ l, s.size ≤ 1000000) : Does Try.prog 30 [.agg [strD x.nm, x.d1, x.d2, x.d3, x.d4, i64 x.ag, x.d6]] H fun d H' => True := by
  refine does_of _ _ Try.func30 rfl rfl Try.ntmps30 Try.results30 (by simp only [List.length_cons, List.length_nil]; omega) fun w0 Q hret => ?_
  (have fs := @i64.eq_1; (repeat (first | refine hGx _ ?_ | refine hNx _ ?_ | refine W_skip ?_ | refine W_exit ?_ | refine W_ret ?_ | refine W_label ?_ | refine W_scope ?_ | refine W_block ?_ | refine W_seq ?_ | ((first | refine tS fun N hNx => ?_ | refine WL_gE rfl rfl (by kernel_rfl) (by kernel_rfl) fun G hGx => ?_ | refine vcOpsS_sound (by kernel_rfl) ?_ | refine W_ifE fun A B hAx hBx => ?_); refine evT ?_; (first | refine hGx _ ?_ | refine hNx _ ?_ | refine hAx ?_ | refine hBx ?_ | skip)))); (try clear fs))
  intro c1 hc1
  refine hNx _ ?_
  have z1 : (H.upd c1 x.row) c1 = some x.row := Heap.upd_same _ _ _
  have hle : H.le (H.upd c1 x.row) := Heap.le_put (Heap.le_refl _) hc1
  have hok1 : x.ok (H.upd c1 x.row) := ⟨hok.ty.new hc1 (by simp) fun el hel => ok_free (.inr rfl), hok.bd.upd (by simp), oS_mono hle hok.o2, oS_mono hle hok.o3, oS_mono hle hok.o4, oS_mono hle hok.o6⟩
  show W _ _ _ _
  refine W_seq ?_
  refine W_to (SK x c1) ?_ ?_
  · obtain ⟨nm, d1, d2, d3, d4, ag, d6⟩ := x
    simp only [Sl5.row] at z1 hle hok1 ⊢
    rcases h1 with h1 | ⟨c, o, l, h1, hrow, hsz⟩
    · simp only at h1
      subst h1
      (have fs := And.intro @i64.eq_1 z1; (repeat (first | refine hGx _ ?_ | refine hNx _ ?_ | refine W_skip ?_ | refine W_exit ?_ | refine W_ret ?_ | refine W_label ?_ | refine W_scope ?_ | refine W_block ?_ | refine W_seq ?_ | ((first | refine tS fun N hNx => ?_ | refine WL_gE rfl rfl (by kernel_rfl) (by kernel_rfl) fun G hGx => ?_ | refine vcOpsS_sound (by kernel_rfl) ?_ | refine W_ifE fun A B hAx hBx => ?_); refine evT ?_; (first | refine hGx _ ?_ | refine hNx _ ?_ | refine hAx ?_ | refine hBx ?_ | skip)))); (try clear fs))
      refine W_loopN 0 (fun i s => s.df = [] ∧ s.fr 1 = .ep c1 0 7 0 0 ∧ s.fr 14 = i64 0 ∧ s.fr 15 = i64 i ∧ s.H = H.upd c1 (.row 28 0 7 [[strD nm, .val (.slice none 0 0), d2, d3, d4, i64 ag, d6]])) ⟨rfl, rfl, rfl, rfl, rfl⟩ ?_
      rintro i s hi ⟨hdf, f1, f14, f15, hH⟩
      have hi0 : i = 0 := by omega
      subst hi0
      (have fs := And.intro @i64.eq_1 (And.intro f14 f15); (repeat (first | refine hGx _ ?_ | refine hNx _ ?_ | refine W_skip ?_ | refine W_exit ?_ | refine W_ret ?_ | refine W_label ?_ | refine W_scope ?_ | refine W_block ?_ | refine W_seq ?_ | ((first | refine tS fun N hNx => ?_ | refine WL_gE rfl rfl (by kernel_rfl) (by kernel_rfl) fun G hGx => ?_ | refine vcOpsS_sound (by kernel_rfl) ?_ | refine W_ifE fun A B hAx hBx => ?_); refine evT ?_; (first | refine hGx _ ?_ | refine hNx _ ?_ | refine hAx ?_ | refine hBx ?_ | skip)))); (try clear fs))
      exact ⟨hdf, f1, by show s.H c1 = _; rw [hH]; exact z1, by show Sl5.ok _ s.H; rw [hH]; exact hok1⟩
    · simp only at h1
      subst h1
      have hrow1 := hle _ _ hrow
      have hlm : (l.map sD).length = l.length := List.length_map _
      have hbd := hok.bd _ _ _ _ _ hrow
      rw [hlm] at hbd
      have hne : c ≠ c1 := fun e => by rw [e, hc1] at hrow; cases hrow
      (have fs := And.intro @i64.eq_1 z1; (repeat (first | refine hGx _ ?_ | refine hNx _ ?_ | refine W_skip ?_ | refine W_exit ?_ | refine W_ret ?_ | refine W_label ?_ | refine W_scope ?_ | refine W_block ?_ | refine W_seq ?_ | ((first | refine tS fun N hNx => ?_ | refine WL_gE rfl rfl (by kernel_rfl) (by kernel_rfl) fun G hGx => ?_ | refine vcOpsS_sound (by kernel_rfl) ?_ | refine W_ifE fun A B hAx hBx => ?_); refine evT ?_; (first | refine hGx _ ?_ | refine hNx _ ?_ | refine hAx ?_ | refine hBx ?_ | skip)))); (try clear fs))
      refine W_loopN l.length (fun i s => s.df = [] ∧ s.fr 1 = .ep c1 0 7 0 0 ∧ s.fr 14 = i64 l.length ∧ s.fr 15 = i64 i ∧ s.H c1 = some (.row 28 0 7 [[strD nm, .os c o 1 0 l.length, d2, d3, d4, i64 ag, d6]]) ∧ Sl5.ok ⟨nm, .os c o 1 0 l.length, d2, d3, d4, ag, d6⟩ s.H ∧ ∃ els, s.H c = some (.row 9 o 1 els) ∧ els.length = l.length ∧ ∀ (j : Nat) (h : j < l.length), i ≤ j → els[j]? = some (sD l[j])) ⟨rfl, rfl, rfl, rfl, z1, hok1, _, hrow1, hlm, fun j h _ => map_get h⟩ ?_
      rintro i s hi ⟨hdf, f1, f14, f15, hz, hk, els, hHc, hel, hj⟩
      have hx : (i : Int).toNat = i := Int.toNat_natCast _
      have h00 : (0 : Int) ≤ (i : Int) := Int.natCast_nonneg _
      by_cases hil : i < l.length
      case neg =>
        have p1 : ((i : Int) < (l.length : Int)) = False := eq_false (by omega)
        (have fs := And.intro @i64.eq_1 (And.intro f14 (And.intro f15 p1)); (repeat (first | refine hGx _ ?_ | refine hNx _ ?_ | refine W_skip ?_ | refine W_exit ?_ | refine W_ret ?_ | refine W_label ?_ | refine W_scope ?_ | refine W_block ?_ | refine W_seq ?_ | ((first | refine tS fun N hNx => ?_ | refine WL_gE rfl rfl (by kernel_rfl) (by kernel_rfl) fun G hGx => ?_ | refine vcOpsS_sound (by kernel_rfl) ?_ | refine W_ifE fun A B hAx hBx => ?_); refine evT ?_; (first | refine hGx _ ?_ | refine hNx _ ?_ | refine hAx ?_ | refine hBx ?_ | skip)))); (try clear fs))
        exact ⟨hdf, f1, hz, hk⟩
      have hil' : (i : Int) < (l.length : Int) := by omega
      have p1 : ((i : Int) < (l.length : Int)) = True := eq_true hil'
      have w3 : IntKind.i64.wrap ((i : Int) + 1) = ((i + 1 : Nat) : Int) := by rw [wrap_i64_of (by omega)]; omega
      have hge := hj i hil (Nat.le_refl _)
      have hsi := hsz l[i] (List.getElem_mem hil)
      obtain ⟨y, hye⟩ : ∃ y, y = l[i] := ⟨_, rfl⟩
      rw [← hye] at hge hsi
      simp only [sD, strD] at hge
      have hC := Chg.set (ts := [9]) (i := i) hk.ty hk.bd hHc (ok_st s.H (y ++ ⟨#[63]⟩)) (by simp) (.tup [])
      (have fs := And.intro @i64.eq_1 (And.intro f1 (And.intro f14 (And.intro f15 (And.intro p1 (And.intro hz (And.intro hHc (And.intro hge (And.intro hx (And.intro h00 hil'))))))))); (repeat (first | refine hGx _ ?_ | refine hNx _ ?_ | refine W_skip ?_ | refine W_exit ?_ | refine W_ret ?_ | refine W_label ?_ | refine W_scope ?_ | refine W_block ?_ | refine W_seq ?_ | ((first | refine tS fun N hNx => ?_ | refine WL_gE rfl rfl (by kernel_rfl) (by kernel_rfl) fun G hGx => ?_ | refine vcOpsS_sound (by kernel_rfl) ?_ | refine W_ifE fun A B hAx hBx => ?_); refine evT ?_; (first | refine hGx _ ?_ | refine hNx _ ?_ | refine hAx ?_ | refine hBx ?_ | skip)))); (try clear fs))
      refine ⟨by show y.size + 1 ≤ _; omega, ?_⟩
      (first | refine hGx _ ?_ | refine hNx _ ?_ | skip)
      (have fs := And.intro @i64.eq_1 (And.intro f15 w3); (repeat (first | refine hGx _ ?_ | refine hNx _ ?_ | refine W_skip ?_ | refine W_exit ?_ | refine W_ret ?_ | refine W_label ?_ | refine W_scope ?_ | refine W_block ?_ | refine W_seq ?_ | ((first | refine tS fun N hNx => ?_ | refine WL_gE rfl rfl (by kernel_rfl) (by kernel_rfl) fun G hGx => ?_ | refine vcOpsS_sound (by kernel_rfl) ?_ | refine W_ifE fun A B hAx hBx => ?_); refine evT ?_; (first | refine hGx _ ?_ | refine hNx _ ?_ | refine hAx ?_ | refine hBx ?_ | skip)))); (try clear fs))
      refine ⟨hil, hdf, f1, f14, rfl, SK.step (x := ⟨nm, .os c o 1 0 l.length, d2, d3, d4, ag, d6⟩) hz hC (by decide), hk.chg hC, _, Heap.upd_same _ _ _, by rw [List.length_set]; exact hel, fun j h hij => ?_⟩
      rw [List.getElem?_set_ne (by omega)]
      exact hj j h (by omega)
  -- (gen_bod9)
  rintro s ⟨hdf, f1, hz, hk⟩
  refine W_seq ?_
  refine W_to (SK x c1) ?_ ?_
  · obtain ⟨nm, d1, d2, d3, d4, ag, d6⟩ := x
    clear z1 hle hok1 h1 hok
    simp only [Sl5.row] at hz
    have ho := hk.o2
    simp only at ho
    have ho' := ho
    rcases ho' with rfl | ⟨c, o, n, rfl, _⟩
    · (have fs := And.intro @i64.eq_1 (And.intro f1 hz); (repeat (first | refine hGx _ ?_ | refine hNx _ ?_ | refine W_skip ?_ | refine W_exit ?_ | refine W_ret ?_ | refine W_label ?_ | refine W_scope ?_ | refine W_block ?_ | refine W_seq ?_ | ((first | refine tS fun N hNx => ?_ | refine WL_gE rfl rfl (by kernel_rfl) (by kernel_rfl) fun G hGx => ?_ | refine vcOpsS_sound (by kernel_rfl) ?_ | refine W_ifE fun A B hAx hBx => ?_); refine evT ?_; (first | refine hGx _ ?_ | refine hNx _ ?_ | refine hAx ?_ | refine hBx ?_ | skip)))); (try clear fs))
      refine W_loopN 0 (fun i s' => s'.df = [] ∧ s'.fr 1 = .ep c1 0 7 0 0 ∧ s'.fr 28 = i64 0 ∧ s'.fr 29 = i64 i ∧ s'.H = s.H) ⟨hdf, f1, rfl, rfl, rfl⟩ ?_
      rintro i s' hi ⟨hdf', f1', fL, fI, hH⟩
      have hi0 : i = 0 := by omega
      subst hi0
      (have fs := And.intro @i64.eq_1 (And.intro fL fI); (repeat (first | refine hGx _ ?_ | refine hNx _ ?_ | refine W_skip ?_ | refine W_exit ?_ | refine W_ret ?_ | refine W_label ?_ | refine W_scope ?_ | refine W_block ?_ | refine W_seq ?_ | ((first | refine tS fun N hNx => ?_ | refine WL_gE rfl rfl (by kernel_rfl) (by kernel_rfl) fun G hGx => ?_ | refine vcOpsS_sound (by kernel_rfl) ?_ | refine W_ifE fun A B hAx hBx => ?_); refine evT ?_; (first | refine hGx _ ?_ | refine hNx _ ?_ | refine hAx ?_ | refine hBx ?_ | skip)))); (try clear fs))
      exact ⟨hdf', f1', by show s'.H c1 = _; rw [hH]; exact hz, by show Sl5.ok _ s'.H; rw [hH]; exact hk⟩
    · (have fs := And.intro @i64.eq_1 (And.intro f1 hz); (repeat (first | refine hGx _ ?_ | refine hNx _ ?_ | refine W_skip ?_ | refine W_exit ?_ | refine W_ret ?_ | refine W_label ?_ | refine W_scope ?_ | refine W_block ?_ | refine W_seq ?_ | ((first | refine tS fun N hNx => ?_ | refine WL_gE rfl rfl (by kernel_rfl) (by kernel_rfl) fun G hGx => ?_ | refine vcOpsS_sound (by kernel_rfl) ?_ | refine W_ifE fun A B hAx hBx => ?_); refine evT ?_; (first | refine hGx _ ?_ | refine hNx _ ?_ | refine hAx ?_ | refine hBx ?_ | skip)))); (try clear fs))
      refine W_loopN n (fun i s' => s'.df = [] ∧ s'.fr 1 = .ep c1 0 7 0 0 ∧ s'.fr 28 = i64 n ∧ s'.fr 29 = i64 i ∧ s'.H c1 = some (.row 28 0 7 [[strD nm, d1, (.os c o 2 0 n), d3, d4, i64 ag, d6]]) ∧ Sl5.ok ⟨nm, d1, (.os c o 2 0 n), d3, d4, ag, d6⟩ s'.H) ⟨hdf, f1, rfl, rfl, hz, hk⟩ ?_
      rintro i s' hi ⟨hdf', f1', fL, fI, hz', hk'⟩
      have hx : (i : Int).toNat = i := Int.toNat_natCast _
      have h00 : (0 : Int) ≤ (i : Int) := Int.natCast_nonneg _
      by_cases hil : i < n
      case neg =>
        have p1 : ((i : Int) < (n : Int)) = False := eq_false (by omega)
        (have fs := And.intro @i64.eq_1 (And.intro fL (And.intro fI p1)); (repeat (first | refine hGx _ ?_ | refine hNx _ ?_ | refine W_skip ?_ | refine W_exit ?_ | refine W_ret ?_ | refine W_label ?_ | refine W_scope ?_ | refine W_block ?_ | refine W_seq ?_ | ((first | refine tS fun N hNx => ?_ | refine WL_gE rfl rfl (by kernel_rfl) (by kernel_rfl) fun G hGx => ?_ | refine vcOpsS_sound (by kernel_rfl) ?_ | refine W_ifE fun A B hAx hBx => ?_); refine evT ?_; (first | refine hGx _ ?_ | refine hNx _ ?_ | refine hAx ?_ | refine hBx ?_ | skip)))); (try clear fs))
        exact ⟨hdf', f1', hz', hk'⟩
      have hil' : (i : Int) < (n : Int) := by omega
      have p1 : ((i : Int) < (n : Int)) = True := eq_true hil'
      obtain ⟨els, hel, hHc⟩ := (hk'.o2).row hil
      have hbd := hk'.bd _ _ _ _ _ hHc
      have w3 : IntKind.i64.wrap ((i : Int) + 1) = ((i + 1 : Nat) : Int) := by rw [wrap_i64_of (by omega)]; omega
      obtain ⟨el, hge, hok⟩ := hk'.ty.get hHc (i := i) (by omega)
      have hset : ∀ e, (els.set i e)[i]? = some e := fun e => List.getElem?_set_self (by omega)
      obtain ⟨a, b, rfl⟩ := hok.pr rfl
      have hC := fun (v : Int) => Chg.set (ts := [49]) (i := i) hk'.ty hk'.bd hHc (ok_pr s'.H v b) (by simp) (.tup [])
      (have fs := And.intro @i64.eq_1 (And.intro fL (And.intro fI p1)); (repeat (first | refine hGx _ ?_ | refine hNx _ ?_ | refine W_skip ?_ | refine W_exit ?_ | refine W_ret ?_ | refine W_label ?_ | refine W_scope ?_ | refine W_block ?_ | refine W_seq ?_ | ((first | refine tS fun N hNx => ?_ | refine WL_gE rfl rfl (by kernel_rfl) (by kernel_rfl) fun G hGx => ?_ | refine vcOpsS_sound (by kernel_rfl) ?_ | refine W_ifE fun A B hAx hBx => ?_); refine evT ?_; (first | refine hGx _ ?_ | refine hNx _ ?_ | refine hAx ?_ | refine hBx ?_ | skip)))); (try clear fs))
      refine W_wildE (fun _ => false) (fun _ => false) (fun _ _ _ _ => False) (fun _ _ _ _ _ => False) (by kernel_rfl) (by kernel_rfl) (by kernel_rfl) (by kernel_rfl) (by kernel_rfl) fun N hNx => ?_; refine vcWS_to ?_; have fs := And.intro @i64.eq_1 (And.intro f1' (And.intro hz' (And.intro hHc (And.intro hge (And.intro hx (And.intro h00 hil')))))); refine evD ?_; (first | refine hGx _ ?_ | refine hNx _ ?_ | skip); (try clear fs)
      (have fs := And.intro @i64.eq_1 (And.intro fI w3); (repeat (first | refine hGx _ ?_ | refine hNx _ ?_ | refine W_skip ?_ | refine W_exit ?_ | refine W_ret ?_ | refine W_label ?_ | refine W_scope ?_ | refine W_block ?_ | refine W_seq ?_ | ((first | refine tS fun N hNx => ?_ | refine WL_gE rfl rfl (by kernel_rfl) (by kernel_rfl) fun G hGx => ?_ | refine vcOpsS_sound (by kernel_rfl) ?_ | refine W_ifE fun A B hAx hBx => ?_); refine evT ?_; (first | refine hGx _ ?_ | refine hNx _ ?_ | refine hAx ?_ | refine hBx ?_ | skip)))); (try clear fs))
      exact ⟨hil, hdf', f1', fL, rfl, SK.step (x := ⟨nm, d1, (.os c o 2 0 n), d3, d4, ag, d6⟩) hz' (hC _) (by decide), hk'.chg (hC _)⟩
  rintro s ⟨hdf, f1, hz, hk⟩
  refine W_seq ?_
  refine W_to (SK x c1) ?_ ?_
  · obtain ⟨nm, d1, d2, d3, d4, ag, d6⟩ := x
    clear z1 hle hok1 h1 hok
    simp only [Sl5.row] at hz
    have ho := hk.o3
    simp only at ho
    have ho' := ho
    rcases ho' with rfl | ⟨c, o, n, rfl, _⟩
    · (have fs := And.intro @i64.eq_1 (And.intro f1 hz); (repeat (first | refine hGx _ ?_ | refine hNx _ ?_ | refine W_skip ?_ | refine W_exit ?_ | refine W_ret ?_ | refine W_label ?_ | refine W_scope ?_ | refine W_block ?_ | refine W_seq ?_ | ((first | refine tS fun N hNx => ?_ | refine WL_gE rfl rfl (by kernel_rfl) (by kernel_rfl) fun G hGx => ?_ | refine vcOpsS_sound (by kernel_rfl) ?_ | refine W_ifE fun A B hAx hBx => ?_); refine evT ?_; (first | refine hGx _ ?_ | refine hNx _ ?_ | refine hAx ?_ | refine hBx ?_ | skip)))); (try clear fs))
      refine W_loopN 0 (fun i s' => s'.df = [] ∧ s'.fr 1 = .ep c1 0 7 0 0 ∧ s'.fr 44 = i64 0 ∧ s'.fr 45 = i64 i ∧ s'.H = s.H) ⟨hdf, f1, rfl, rfl, rfl⟩ ?_
      rintro i s' hi ⟨hdf', f1', fL, fI, hH⟩
      have hi0 : i = 0 := by omega
      subst hi0
      (have fs := And.intro @i64.eq_1 (And.intro fL fI); (repeat (first | refine hGx _ ?_ | refine hNx _ ?_ | refine W_skip ?_ | refine W_exit ?_ | refine W_ret ?_ | refine W_label ?_ | refine W_scope ?_ | refine W_block ?_ | refine W_seq ?_ | ((first | refine tS fun N hNx => ?_ | refine WL_gE rfl rfl (by kernel_rfl) (by kernel_rfl) fun G hGx => ?_ | refine vcOpsS_sound (by kernel_rfl) ?_ | refine W_ifE fun A B hAx hBx => ?_); refine evT ?_; (first | refine hGx _ ?_ | refine hNx _ ?_ | refine hAx ?_ | refine hBx ?_ | skip)))); (try clear fs))
      exact ⟨hdf', f1', by show s'.H c1 = _; rw [hH]; exact hz, by show Sl5.ok _ s'.H; rw [hH]; exact hk⟩
    · (have fs := And.intro @i64.eq_1 (And.intro f1 hz); (repeat (first | refine hGx _ ?_ | refine hNx _ ?_ | refine W_skip ?_ | refine W_exit ?_ | refine W_ret ?_ | refine W_label ?_ | refine W_scope ?_ | refine W_block ?_ | refine W_seq ?_ | ((first | refine tS fun N hNx => ?_ | refine WL_gE rfl rfl (by kernel_rfl) (by kernel_rfl) fun G hGx => ?_ | refine vcOpsS_sound (by kernel_rfl) ?_ | refine W_ifE fun A B hAx hBx => ?_); refine evT ?_; (first | refine hGx _ ?_ | refine hNx _ ?_ | refine hAx ?_ | refine hBx ?_ | skip)))); (try clear fs))
      refine W_loopN n (fun i s' => s'.df = [] ∧ s'.fr 1 = .ep c1 0 7 0 0 ∧ s'.fr 44 = i64 n ∧ s'.fr 45 = i64 i ∧ s'.H c1 = some (.row 28 0 7 [[strD nm, d1, d2, (.os c o 5 0 n), d4, i64 ag, d6]]) ∧ Sl5.ok ⟨nm, d1, d2, (.os c o 5 0 n), d4, ag, d6⟩ s'.H) ⟨hdf, f1, rfl, rfl, hz, hk⟩ ?_
      rintro i s' hi ⟨hdf', f1', fL, fI, hz', hk'⟩
      have hx : (i : Int).toNat = i := Int.toNat_natCast _
      have h00 : (0 : Int) ≤ (i : Int) := Int.natCast_nonneg _
      by_cases hil : i < n
      case neg =>
        have p1 : ((i : Int) < (n : Int)) = False := eq_false (by omega)
        (have fs := And.intro @i64.eq_1 (And.intro fL (And.intro fI p1)); (repeat (first | refine hGx _ ?_ | refine hNx _ ?_ | refine W_skip ?_ | refine W_exit ?_ | refine W_ret ?_ | refine W_label ?_ | refine W_scope ?_ | refine W_block ?_ | refine W_seq ?_ | ((first | refine tS fun N hNx => ?_ | refine WL_gE rfl rfl (by kernel_rfl) (by kernel_rfl) fun G hGx => ?_ | refine vcOpsS_sound (by kernel_rfl) ?_ | refine W_ifE fun A B hAx hBx => ?_); refine evT ?_; (first | refine hGx _ ?_ | refine hNx _ ?_ | refine hAx ?_ | refine hBx ?_ | skip)))); (try clear fs))
        exact ⟨hdf', f1', hz', hk'⟩
      have hil' : (i : Int) < (n : Int) := by omega
      have p1 : ((i : Int) < (n : Int)) = True := eq_true hil'
      obtain ⟨els, hel, hHc⟩ := (hk'.o3).row hil
      have hbd := hk'.bd _ _ _ _ _ hHc
      have w3 : IntKind.i64.wrap ((i : Int) + 1) = ((i + 1 : Nat) : Int) := by rw [wrap_i64_of (by omega)]; omega
      obtain ⟨el, hge, hok⟩ := hk'.ty.get hHc (i := i) (by omega)
      have hset : ∀ e, (els.set i e)[i]? = some e := fun e => List.getElem?_set_self (by omega)
      obtain ⟨k, m, r, e, f, rfl, hf⟩ := hok.ty rfl
      have hC := fun (v : Int) => Chg.set (ts := [51]) (i := i) hk'.ty hk'.bd hHc (ok_ty (k := v) (m := m) (r := r) (e := e) hf) (by simp) (.tup [])
      have hf' := fun (v : Int) => (hC v).2.1 _ _ _ hf
      have hf2 := hf
      have hnc : c1 ≠ c := fun e => by rw [e, hHc] at hz'; injection hz' with h; injection h with h; exact absurd h (by decide)
      have hq : ∀ v, (s'.H.upd c v) c1 = s'.H c1 := fun v => Heap.upd_ne hnc
      rcases hf2 with rfl | ⟨cf, of, nf, rfl, _⟩
      · have hzn := fun (v : Int) => SK.step (x := ⟨nm, d1, d2, (.os c o 5 0 n), d4, ag, d6⟩) hz' (hC v) (by decide)
        simp only [Sl5.row] at hzn
        (have fs := And.intro @i64.eq_1 (And.intro f1' (And.intro fL (And.intro fI (And.intro p1 (And.intro hz' (And.intro hq (And.intro hHc (And.intro hge (And.intro hset (And.intro hx (And.intro h00 hil'))))))))))); (repeat (first | refine hGx _ ?_ | refine hNx _ ?_ | refine W_skip ?_ | refine W_exit ?_ | refine W_ret ?_ | refine W_label ?_ | refine W_scope ?_ | refine W_block ?_ | refine W_seq ?_ | ((first | refine tS fun N hNx => ?_ | refine WL_gE rfl rfl (by kernel_rfl) (by kernel_rfl) fun G hGx => ?_ | refine vcOpsS_sound (by kernel_rfl) ?_ | refine W_ifE fun A B hAx hBx => ?_); refine evT ?_; (first | refine hGx _ ?_ | refine hNx _ ?_ | refine hAx ?_ | refine hBx ?_ | skip)))); (try clear fs))
        refine W_loopN 0 (fun j s4 => s4.df = [] ∧ s4.fr 1 = .ep c1 0 7 0 0 ∧ s4.fr 44 = i64 n ∧ s4.fr 45 = i64 i ∧ s4.fr 63 = i64 0 ∧ s4.fr 64 = i64 j ∧ s4.H c1 = some (.row 28 0 7 [[strD nm, d1, d2, (.os c o 5 0 n), d4, i64 ag, d6]]) ∧ Sl5.ok ⟨nm, d1, d2, (.os c o 5 0 n), d4, ag, d6⟩ s4.H) ⟨hdf', f1', fL, fI, rfl, rfl, hzn _, hk'.chg (hC _)⟩ ?_
        rintro j s4 hj ⟨hdf4, g1, gL, gI, g63, g64, gz, gk⟩
        have hj0 : j = 0 := by omega
        subst hj0
        (have fs := And.intro @i64.eq_1 (And.intro gL (And.intro gI (And.intro g63 (And.intro g64 w3)))); (repeat (first | refine hGx _ ?_ | refine hNx _ ?_ | refine W_skip ?_ | refine W_exit ?_ | refine W_ret ?_ | refine W_label ?_ | refine W_scope ?_ | refine W_block ?_ | refine W_seq ?_ | ((first | refine tS fun N hNx => ?_ | refine WL_gE rfl rfl (by kernel_rfl) (by kernel_rfl) fun G hGx => ?_ | refine vcOpsS_sound (by kernel_rfl) ?_ | refine W_ifE fun A B hAx hBx => ?_); refine evT ?_; (first | refine hGx _ ?_ | refine hNx _ ?_ | refine hAx ?_ | refine hBx ?_ | skip)))); (try clear fs))
        exact ⟨hil, hdf4, g1, gL, rfl, gz, gk⟩
      · have hzn := fun (v : Int) => SK.step (x := ⟨nm, d1, d2, (.os c o 5 0 n), d4, ag, d6⟩) hz' (hC v) (by decide)
        simp only [Sl5.row] at hzn
        (have fs := And.intro @i64.eq_1 (And.intro f1' (And.intro fL (And.intro fI (And.intro p1 (And.intro hz' (And.intro hq (And.intro hHc (And.intro hge (And.intro hset (And.intro hx (And.intro h00 hil'))))))))))); (repeat (first | refine hGx _ ?_ | refine hNx _ ?_ | refine W_skip ?_ | refine W_exit ?_ | refine W_ret ?_ | refine W_label ?_ | refine W_scope ?_ | refine W_block ?_ | refine W_seq ?_ | ((first | refine tS fun N hNx => ?_ | refine WL_gE rfl rfl (by kernel_rfl) (by kernel_rfl) fun G hGx => ?_ | refine vcOpsS_sound (by kernel_rfl) ?_ | refine W_ifE fun A B hAx hBx => ?_); refine evT ?_; (first | refine hGx _ ?_ | refine hNx _ ?_ | refine hAx ?_ | refine hBx ?_ | skip)))); (try clear fs))
        refine W_loopN nf (fun j s4 => s4.df = [] ∧ s4.fr 1 = .ep c1 0 7 0 0 ∧ s4.fr 4 = i64 i ∧ s4.fr 44 = i64 n ∧ s4.fr 45 = i64 i ∧ s4.fr 63 = i64 nf ∧ s4.fr 64 = i64 j ∧ s4.H c1 = some (.row 28 0 7 [[strD nm, d1, d2, (.os c o 5 0 n), d4, i64 ag, d6]]) ∧ Sl5.ok ⟨nm, d1, d2, (.os c o 5 0 n), d4, ag, d6⟩ s4.H ∧ oS s4.H 3 1 (.os cf of 1 0 nf) ∧ ∃ v, s4.H c = some (.row 51 o 5 (els.set i [i64 v, .val (.bool m), i64 r, i64 e, .os cf of 1 0 nf]))) ⟨hdf', f1', rfl, fL, fI, rfl, rfl, hzn _, hk'.chg (hC _), hf' _, _, Heap.upd_same _ _ _⟩ ?_
        rintro j s4 hj ⟨hdf4, g1, g4, gL, gI, g63, g64, gz, gk, gf, v, gc⟩
        have hx2 : (j : Int).toNat = j := Int.toNat_natCast _
        have h002 : (0 : Int) ≤ (j : Int) := Int.natCast_nonneg _
        by_cases hjl : j < nf
        case neg =>
          have p2 : ((j : Int) < (nf : Int)) = False := eq_false (by omega)
          (have fs := And.intro @i64.eq_1 (And.intro gL (And.intro gI (And.intro g63 (And.intro g64 (And.intro w3 p2))))); (repeat (first | refine hGx _ ?_ | refine hNx _ ?_ | refine W_skip ?_ | refine W_exit ?_ | refine W_ret ?_ | refine W_label ?_ | refine W_scope ?_ | refine W_block ?_ | refine W_seq ?_ | ((first | refine tS fun N hNx => ?_ | refine WL_gE rfl rfl (by kernel_rfl) (by kernel_rfl) fun G hGx => ?_ | refine vcOpsS_sound (by kernel_rfl) ?_ | refine W_ifE fun A B hAx hBx => ?_); refine evT ?_; (first | refine hGx _ ?_ | refine hNx _ ?_ | refine hAx ?_ | refine hBx ?_ | skip)))); (try clear fs))
          exact ⟨hil, hdf4, g1, gL, rfl, gz, gk⟩
        have hjl' : (j : Int) < (nf : Int) := by omega
        have p2 : ((j : Int) < (nf : Int)) = True := eq_true hjl'
        obtain ⟨els5, hel5, hHf⟩ := gf.row hjl
        have hbd5 := gk.bd _ _ _ _ _ hHf
        have v3 : IntKind.i64.wrap ((j : Int) + 1) = ((j + 1 : Nat) : Int) := by rw [wrap_i64_of (by omega)]; omega
        obtain ⟨el5, hge5, hok5⟩ := gk.ty.get hHf (i := j) (by omega)
        obtain ⟨a, rfl⟩ := hok5.it rfl
        have hC5 := fun (v : Int) => Chg.set (ts := [3]) (i := j) gk.ty gk.bd hHf (ok_it s4.H v) (by simp) (.tup [])
        (have fs := And.intro @i64.eq_1 (And.intro g1 (And.intro g4 (And.intro gL (And.intro gI (And.intro g63 (And.intro g64 (And.intro p2 (And.intro gz (And.intro gc (And.intro hset (And.intro hHf (And.intro hge5 (And.intro hx (And.intro h00 (And.intro hil' (And.intro hx2 (And.intro h002 (And.intro hjl' v3)))))))))))))))))); (repeat (first | refine hGx _ ?_ | refine hNx _ ?_ | refine W_skip ?_ | refine W_exit ?_ | refine W_ret ?_ | refine W_label ?_ | refine W_scope ?_ | refine W_block ?_ | refine W_seq ?_ | ((first | refine tS fun N hNx => ?_ | refine WL_gE rfl rfl (by kernel_rfl) (by kernel_rfl) fun G hGx => ?_ | refine vcOpsS_sound (by kernel_rfl) ?_ | refine W_ifE fun A B hAx hBx => ?_); refine evT ?_; (first | refine hGx _ ?_ | refine hNx _ ?_ | refine hAx ?_ | refine hBx ?_ | skip)))); (try clear fs))
        exact ⟨hjl, hdf4, g1, g4, gL, gI, g63, rfl, SK.step (x := ⟨nm, d1, d2, (.os c o 5 0 n), d4, ag, d6⟩) gz (hC5 _) (by decide), gk.chg (hC5 _), (hC5 _).2.1 _ _ _ gf, v, (hC5 _).2.2 _ _ _ _ _ (by decide) gc⟩
  rintro s ⟨hdf, f1, hz, hk⟩
  refine W_seq ?_
  refine W_to (SK x c1) ?_ ?_
  · obtain ⟨nm, d1, d2, d3, d4, ag, d6⟩ := x
    clear z1 hle hok1 h1 hok
    simp only [Sl5.row] at hz
    have ho := hk.o4
    simp only at ho
    have ho' := ho
    rcases ho' with rfl | ⟨c, o, n, rfl, _⟩
    · (have fs := And.intro @i64.eq_1 (And.intro f1 hz); (repeat (first | refine hGx _ ?_ | refine hNx _ ?_ | refine W_skip ?_ | refine W_exit ?_ | refine W_ret ?_ | refine W_label ?_ | refine W_scope ?_ | refine W_block ?_ | refine W_seq ?_ | ((first | refine tS fun N hNx => ?_ | refine WL_gE rfl rfl (by kernel_rfl) (by kernel_rfl) fun G hGx => ?_ | refine vcOpsS_sound (by kernel_rfl) ?_ | refine W_ifE fun A B hAx hBx => ?_); refine evT ?_; (first | refine hGx _ ?_ | refine hNx _ ?_ | refine hAx ?_ | refine hBx ?_ | skip)))); (try clear fs))
      refine W_loopN 0 (fun i s' => s'.df = [] ∧ s'.fr 1 = .ep c1 0 7 0 0 ∧ s'.fr 82 = i64 0 ∧ s'.fr 83 = i64 i ∧ s'.H = s.H) ⟨hdf, f1, rfl, rfl, rfl⟩ ?_
      rintro i s' hi ⟨hdf', f1', fL, fI, hH⟩
      have hi0 : i = 0 := by omega
      subst hi0
      (have fs := And.intro @i64.eq_1 (And.intro fL fI); (repeat (first | refine hGx _ ?_ | refine hNx _ ?_ | refine W_skip ?_ | refine W_exit ?_ | refine W_ret ?_ | refine W_label ?_ | refine W_scope ?_ | refine W_block ?_ | refine W_seq ?_ | ((first | refine tS fun N hNx => ?_ | refine WL_gE rfl rfl (by kernel_rfl) (by kernel_rfl) fun G hGx => ?_ | refine vcOpsS_sound (by kernel_rfl) ?_ | refine W_ifE fun A B hAx hBx => ?_); refine evT ?_; (first | refine hGx _ ?_ | refine hNx _ ?_ | refine hAx ?_ | refine hBx ?_ | skip)))); (try clear fs))
      exact ⟨hdf', f1', by show s'.H c1 = _; rw [hH]; exact hz, by show Sl5.ok _ s'.H; rw [hH]; exact hk⟩
    · (have fs := And.intro @i64.eq_1 (And.intro f1 hz); (repeat (first | refine hGx _ ?_ | refine hNx _ ?_ | refine W_skip ?_ | refine W_exit ?_ | refine W_ret ?_ | refine W_label ?_ | refine W_scope ?_ | refine W_block ?_ | refine W_seq ?_ | ((first | refine tS fun N hNx => ?_ | refine WL_gE rfl rfl (by kernel_rfl) (by kernel_rfl) fun G hGx => ?_ | refine vcOpsS_sound (by kernel_rfl) ?_ | refine W_ifE fun A B hAx hBx => ?_); refine evT ?_; (first | refine hGx _ ?_ | refine hNx _ ?_ | refine hAx ?_ | refine hBx ?_ | skip)))); (try clear fs))
      refine W_loopN n (fun i s' => s'.df = [] ∧ s'.fr 1 = .ep c1 0 7 0 0 ∧ s'.fr 82 = i64 n ∧ s'.fr 83 = i64 i ∧ s'.H c1 = some (.row 28 0 7 [[strD nm, d1, d2, d3, (.os c o 2 0 n), i64 ag, d6]]) ∧ Sl5.ok ⟨nm, d1, d2, d3, (.os c o 2 0 n), ag, d6⟩ s'.H) ⟨hdf, f1, rfl, rfl, hz, hk⟩ ?_
      rintro i s' hi ⟨hdf', f1', fL, fI, hz', hk'⟩
      have hx : (i : Int).toNat = i := Int.toNat_natCast _
      have h00 : (0 : Int) ≤ (i : Int) := Int.natCast_nonneg _
      by_cases hil : i < n
      case neg =>
        have p1 : ((i : Int) < (n : Int)) = False := eq_false (by omega)
        (have fs := And.intro @i64.eq_1 (And.intro fL (And.intro fI p1)); (repeat (first | refine hGx _ ?_ | refine hNx _ ?_ | refine W_skip ?_ | refine W_exit ?_ | refine W_ret ?_ | refine W_label ?_ | refine W_scope ?_ | refine W_block ?_ | refine W_seq ?_ | ((first | refine tS fun N hNx => ?_ | refine WL_gE rfl rfl (by kernel_rfl) (by kernel_rfl) fun G hGx => ?_ | refine vcOpsS_sound (by kernel_rfl) ?_ | refine W_ifE fun A B hAx hBx => ?_); refine evT ?_; (first | refine hGx _ ?_ | refine hNx _ ?_ | refine hAx ?_ | refine hBx ?_ | skip)))); (try clear fs))
        exact ⟨hdf', f1', hz', hk'⟩
      have hil' : (i : Int) < (n : Int) := by omega
      have p1 : ((i : Int) < (n : Int)) = True := eq_true hil'
      obtain ⟨els, hel, hHc⟩ := (hk'.o4).row hil
      have hbd := hk'.bd _ _ _ _ _ hHc
      have w3 : IntKind.i64.wrap ((i : Int) + 1) = ((i + 1 : Nat) : Int) := by rw [wrap_i64_of (by omega)]; omega
      obtain ⟨el, hge, hok⟩ := hk'.ty.get hHc (i := i) (by omega)
      have hset : ∀ e, (els.set i e)[i]? = some e := fun e => List.getElem?_set_self (by omega)
      obtain ⟨st, a, rfl⟩ := hok.lc rfl
      have hC := fun (v : Int) => Chg.set (ts := [71]) (i := i) hk'.ty hk'.bd hHc (ok_lc s'.H st v) (by simp) (.tup [])
      (have fs := And.intro @i64.eq_1 (And.intro f1' (And.intro fL (And.intro fI (And.intro p1 (And.intro hz' (And.intro hHc (And.intro hge (And.intro hx (And.intro h00 (And.intro hil' w3)))))))))); (repeat (first | refine hGx _ ?_ | refine hNx _ ?_ | refine W_skip ?_ | refine W_exit ?_ | refine W_ret ?_ | refine W_label ?_ | refine W_scope ?_ | refine W_block ?_ | refine W_seq ?_ | ((first | refine tS fun N hNx => ?_ | refine WL_gE rfl rfl (by kernel_rfl) (by kernel_rfl) fun G hGx => ?_ | refine vcOpsS_sound (by kernel_rfl) ?_ | refine W_ifE fun A B hAx hBx => ?_); refine evT ?_; (first | refine hGx _ ?_ | refine hNx _ ?_ | refine hAx ?_ | refine hBx ?_ | skip)))); (try clear fs))
      exact ⟨hil, hdf', f1', fL, rfl, SK.step (x := ⟨nm, d1, d2, d3, (.os c o 2 0 n), ag, d6⟩) hz' (hC _) (by decide), hk'.chg (hC _)⟩
  rintro s ⟨hdf, f1, hz, hk⟩
  refine W_toN (fun s' => s'.df = []) ?_ ?_
  · obtain ⟨nm, d1, d2, d3, d4, ag, d6⟩ := x
    clear z1 hle hok1 h1 hok
    simp only [Sl5.row] at hz
    have ho := hk.o6
    simp only at ho
    have ho' := ho
    rcases ho' with rfl | ⟨c, o, n, rfl, _⟩
    · (have fs := And.intro @i64.eq_1 (And.intro f1 hz); (repeat (first | refine hGx _ ?_ | refine hNx _ ?_ | refine W_skip ?_ | refine W_exit ?_ | refine W_ret ?_ | refine W_label ?_ | refine W_scope ?_ | refine W_block ?_ | refine W_seq ?_ | ((first | refine tS fun N hNx => ?_ | refine WL_gE rfl rfl (by kernel_rfl) (by kernel_rfl) fun G hGx => ?_ | refine vcOpsS_sound (by kernel_rfl) ?_ | refine W_ifE fun A B hAx hBx => ?_); refine evT ?_; (first | refine hGx _ ?_ | refine hNx _ ?_ | refine hAx ?_ | refine hBx ?_ | skip)))); (try clear fs))
      refine W_loopN 0 (fun i s' => s'.df = [] ∧ s'.fr 1 = .ep c1 0 7 0 0 ∧ s'.fr 98 = i64 0 ∧ s'.fr 99 = i64 i ∧ s'.H = s.H) ⟨hdf, f1, rfl, rfl, rfl⟩ ?_
      rintro i s' hi ⟨hdf', f1', fL, fI, hH⟩
      have hi0 : i = 0 := by omega
      subst hi0
      (have fs := And.intro @i64.eq_1 (And.intro fL fI); (repeat (first | refine hGx _ ?_ | refine hNx _ ?_ | refine W_skip ?_ | refine W_exit ?_ | refine W_ret ?_ | refine W_label ?_ | refine W_scope ?_ | refine W_block ?_ | refine W_seq ?_ | ((first | refine tS fun N hNx => ?_ | refine WL_gE rfl rfl (by kernel_rfl) (by kernel_rfl) fun G hGx => ?_ | refine vcOpsS_sound (by kernel_rfl) ?_ | refine W_ifE fun A B hAx hBx => ?_); refine evT ?_; (first | refine hGx _ ?_ | refine hNx _ ?_ | refine hAx ?_ | refine hBx ?_ | skip)))); (try clear fs))
      exact hdf'
    · (have fs := And.intro @i64.eq_1 (And.intro f1 hz); (repeat (first | refine hGx _ ?_ | refine hNx _ ?_ | refine W_skip ?_ | refine W_exit ?_ | refine W_ret ?_ | refine W_label ?_ | refine W_scope ?_ | refine W_block ?_ | refine W_seq ?_ | ((first | refine tS fun N hNx => ?_ | refine WL_gE rfl rfl (by kernel_rfl) (by kernel_rfl) fun G hGx => ?_ | refine vcOpsS_sound (by kernel_rfl) ?_ | refine W_ifE fun A B hAx hBx => ?_); refine evT ?_; (first | refine hGx _ ?_ | refine hNx _ ?_ | refine hAx ?_ | refine hBx ?_ | skip)))); (try clear fs))
      refine W_loopN n (fun i s' => s'.df = [] ∧ s'.fr 1 = .ep c1 0 7 0 0 ∧ s'.fr 98 = i64 n ∧ s'.fr 99 = i64 i ∧ s'.H c1 = some (.row 28 0 7 [[strD nm, d1, d2, d3, d4, i64 ag, (.os c o 7 0 n)]]) ∧ Sl5.ok ⟨nm, d1, d2, d3, d4, ag, (.os c o 7 0 n)⟩ s'.H) ⟨hdf, f1, rfl, rfl, hz, hk⟩ ?_
      rintro i s' hi ⟨hdf', f1', fL, fI, hz', hk'⟩
      have hx : (i : Int).toNat = i := Int.toNat_natCast _
      have h00 : (0 : Int) ≤ (i : Int) := Int.natCast_nonneg _
      by_cases hil : i < n
      case neg =>
        have p1 : ((i : Int) < (n : Int)) = False := eq_false (by omega)
        (have fs := And.intro @i64.eq_1 (And.intro fL (And.intro fI p1)); (repeat (first | refine hGx _ ?_ | refine hNx _ ?_ | refine W_skip ?_ | refine W_exit ?_ | refine W_ret ?_ | refine W_label ?_ | refine W_scope ?_ | refine W_block ?_ | refine W_seq ?_ | ((first | refine tS fun N hNx => ?_ | refine WL_gE rfl rfl (by kernel_rfl) (by kernel_rfl) fun G hGx => ?_ | refine vcOpsS_sound (by kernel_rfl) ?_ | refine W_ifE fun A B hAx hBx => ?_); refine evT ?_; (first | refine hGx _ ?_ | refine hNx _ ?_ | refine hAx ?_ | refine hBx ?_ | skip)))); (try clear fs))
        exact hdf'
      have hil' : (i : Int) < (n : Int) := by omega
      have p1 : ((i : Int) < (n : Int)) = True := eq_true hil'
      obtain ⟨els, hel, hHc⟩ := (hk'.o6).row hil
      have hbd := hk'.bd _ _ _ _ _ hHc
      have w3 : IntKind.i64.wrap ((i : Int) + 1) = ((i + 1 : Nat) : Int) := by rw [wrap_i64_of (by omega)]; omega
      obtain ⟨el, hge, hok⟩ := hk'.ty.get hHc (i := i) (by omega)
      have hset : ∀ e, (els.set i e)[i]? = some e := fun e => List.getElem?_set_self (by omega)
      obtain ⟨u, k, t, a, lo, p, nb, rfl, hu, ht, ha, hp⟩ := hok.bk rfl
      have hC := fun (v : Int) => Chg.set (ts := [44]) (i := i) hk'.ty hk'.bd hHc (ok_bk (s := u) (k := v) (tg := t) (ar := a) (lo := lo) (p := p) (nm := nb) hu ht ha hp) (by simp) (.tup [])
      have hnc : c1 ≠ c := fun e => by rw [e, hHc] at hz'; injection hz' with h; injection h with h; exact absurd h (by decide)
      have hq : ∀ v, (s'.H.upd c v) c1 = s'.H c1 := fun v => Heap.upd_ne hnc
      (have fs := And.intro @i64.eq_1 (And.intro f1' (And.intro fL (And.intro fI (And.intro p1 (And.intro hz' (And.intro hq (And.intro hHc (And.intro hge (And.intro hset (And.intro hx (And.intro h00 hil'))))))))))); (iterate 13 (first | refine hGx _ ?_ | refine hNx _ ?_ | refine W_skip ?_ | refine W_exit ?_ | refine W_ret ?_ | refine W_label ?_ | refine W_scope ?_ | refine W_block ?_ | refine W_seq ?_ | ((first | refine tS fun N hNx => ?_ | refine WL_gE rfl rfl (by kernel_rfl) (by kernel_rfl) fun G hGx => ?_ | refine vcOpsS_sound (by kernel_rfl) ?_ | refine W_ifE fun A B hAx hBx => ?_); refine evT ?_; (first | refine hGx _ ?_ | refine hNx _ ?_ | refine hAx ?_ | refine hBx ?_ | skip)))); (try clear fs))
      show W _ _ _ _
      refine W_seq ?_
      refine W_to (BK ⟨nm, d1, d2, d3, d4, ag, .os c o 7 0 n⟩ c1 c o n i u t a lo p nb) ?_ ?_
      · have hzn := fun (v : Int) => SK.step (x := ⟨nm, d1, d2, d3, d4, ag, .os c o 7 0 n⟩) hz' (hC v) (by decide)
        have ht2 := ht
        rcases ht2 with rfl | ⟨cf, of, nf, rfl, _⟩
        · (have fs := And.intro @i64.eq_1 (And.intro hset (And.intro hx (And.intro h00 hil'))); (repeat (first | refine hGx _ ?_ | refine hNx _ ?_ | refine W_skip ?_ | refine W_exit ?_ | refine W_ret ?_ | refine W_label ?_ | refine W_scope ?_ | refine W_block ?_ | refine W_seq ?_ | ((first | refine tS fun N hNx => ?_ | refine WL_gE rfl rfl (by kernel_rfl) (by kernel_rfl) fun G hGx => ?_ | refine vcOpsS_sound (by kernel_rfl) ?_ | refine W_ifE fun A B hAx hBx => ?_); refine evT ?_; (first | refine hGx _ ?_ | refine hNx _ ?_ | refine hAx ?_ | refine hBx ?_ | skip)))); (try clear fs))
          refine W_loopN 0 (fun j s4 => BK ⟨nm, d1, d2, d3, d4, ag, .os c o 7 0 n⟩ c1 c o n i u (.val (.slice none 0 0)) a lo p nb s4 ∧ s4.fr 118 = i64 0 ∧ s4.fr 119 = i64 j) ⟨⟨hdf', f1', rfl, rfl, fL, fI, hzn _, hk'.chg (hC _), ⟨(hC _).2.1 _ _ _ hu, (hC _).2.1 _ _ _ ht, (hC _).2.1 _ _ _ ha, (hC _).2.1 _ _ _ hp⟩, _, _, Heap.upd_same _ _ _, hset _⟩, rfl, rfl⟩ ?_
          rintro j s4 hj ⟨hK, g1, g2⟩
          have hj0 : j = 0 := by omega
          subst hj0
          (have fs := And.intro @i64.eq_1 (And.intro g1 g2); (repeat (first | refine hGx _ ?_ | refine hNx _ ?_ | refine W_skip ?_ | refine W_exit ?_ | refine W_ret ?_ | refine W_label ?_ | refine W_scope ?_ | refine W_block ?_ | refine W_seq ?_ | ((first | refine tS fun N hNx => ?_ | refine WL_gE rfl rfl (by kernel_rfl) (by kernel_rfl) fun G hGx => ?_ | refine vcOpsS_sound (by kernel_rfl) ?_ | refine W_ifE fun A B hAx hBx => ?_); refine evT ?_; (first | refine hGx _ ?_ | refine hNx _ ?_ | refine hAx ?_ | refine hBx ?_ | skip)))); (try clear fs))
          exact hK
        · (have fs := And.intro @i64.eq_1 (And.intro hset (And.intro hx (And.intro h00 hil'))); (repeat (first | refine hGx _ ?_ | refine hNx _ ?_ | refine W_skip ?_ | refine W_exit ?_ | refine W_ret ?_ | refine W_label ?_ | refine W_scope ?_ | refine W_block ?_ | refine W_seq ?_ | ((first | refine tS fun N hNx => ?_ | refine WL_gE rfl rfl (by kernel_rfl) (by kernel_rfl) fun G hGx => ?_ | refine vcOpsS_sound (by kernel_rfl) ?_ | refine W_ifE fun A B hAx hBx => ?_); refine evT ?_; (first | refine hGx _ ?_ | refine hNx _ ?_ | refine hAx ?_ | refine hBx ?_ | skip)))); (try clear fs))
          refine W_loopN nf (fun j s4 => BK ⟨nm, d1, d2, d3, d4, ag, .os c o 7 0 n⟩ c1 c o n i u (.os cf of 1 0 nf) a lo p nb s4 ∧ s4.fr 118 = i64 nf ∧ s4.fr 119 = i64 j) ⟨⟨hdf', f1', rfl, rfl, fL, fI, hzn _, hk'.chg (hC _), ⟨(hC _).2.1 _ _ _ hu, (hC _).2.1 _ _ _ ht, (hC _).2.1 _ _ _ ha, (hC _).2.1 _ _ _ hp⟩, _, _, Heap.upd_same _ _ _, hset _⟩, rfl, rfl⟩ ?_
          rintro j s4 hj ⟨hK, g1, g2⟩
          have hx2 : (j : Int).toNat = j := Int.toNat_natCast _
          have h002 : (0 : Int) ≤ (j : Int) := Int.natCast_nonneg _
          by_cases hjl : j < nf
          case neg =>
            have p2 : ((j : Int) < (nf : Int)) = False := eq_false (by omega)
            (have fs := And.intro @i64.eq_1 (And.intro g1 (And.intro g2 p2)); (repeat (first | refine hGx _ ?_ | refine hNx _ ?_ | refine W_skip ?_ | refine W_exit ?_ | refine W_ret ?_ | refine W_label ?_ | refine W_scope ?_ | refine W_block ?_ | refine W_seq ?_ | ((first | refine tS fun N hNx => ?_ | refine WL_gE rfl rfl (by kernel_rfl) (by kernel_rfl) fun G hGx => ?_ | refine vcOpsS_sound (by kernel_rfl) ?_ | refine W_ifE fun A B hAx hBx => ?_); refine evT ?_; (first | refine hGx _ ?_ | refine hNx _ ?_ | refine hAx ?_ | refine hBx ?_ | skip)))); (try clear fs))
            exact hK
          have hjl' : (j : Int) < (nf : Int) := by omega
          have p2 : ((j : Int) < (nf : Int)) = True := eq_true hjl'
          obtain ⟨y0, y1, y7, y8, yL, yI, yz, yk, ⟨ou, ot, oa, op⟩, v, els4, yc, ye⟩ := hK
          obtain ⟨els5, hel5, hHf⟩ := ot.row hjl
          have hbd5 := yk.bd _ _ _ _ _ hHf
          have v3 : IntKind.i64.wrap ((j : Int) + 1) = ((j + 1 : Nat) : Int) := by rw [wrap_i64_of (by omega)]; omega
          obtain ⟨el5, hge5, hok5⟩ := yk.ty.get hHf (i := j) (by omega)
          obtain ⟨b5, rfl⟩ := hok5.it rfl
          have hC5 := fun (v : Int) => Chg.set (ts := [3]) (i := j) yk.ty yk.bd hHf (ok_it s4.H v) (by simp) (.tup [])
          (have fs := And.intro @i64.eq_1 (And.intro y8 (And.intro g1 (And.intro g2 (And.intro p2 (And.intro yc (And.intro ye (And.intro hHf (And.intro hge5 (And.intro hx2 (And.intro h002 (And.intro hjl' v3))))))))))); (repeat (first | refine hGx _ ?_ | refine hNx _ ?_ | refine W_skip ?_ | refine W_exit ?_ | refine W_ret ?_ | refine W_label ?_ | refine W_scope ?_ | refine W_block ?_ | refine W_seq ?_ | ((first | refine tS fun N hNx => ?_ | refine WL_gE rfl rfl (by kernel_rfl) (by kernel_rfl) fun G hGx => ?_ | refine vcOpsS_sound (by kernel_rfl) ?_ | refine W_ifE fun A B hAx hBx => ?_); refine evT ?_; (first | refine hGx _ ?_ | refine hNx _ ?_ | refine hAx ?_ | refine hBx ?_ | skip)))); (try clear fs))
          exact ⟨hjl, ⟨y0, y1, y7, y8, yL, yI, SK.step yz (hC5 _) (by decide), yk.chg (hC5 _), ⟨(hC5 _).2.1 _ _ _ ou, (hC5 _).2.1 _ _ _ ot, (hC5 _).2.1 _ _ _ oa, (hC5 _).2.1 _ _ _ op⟩, v, els4, (hC5 _).2.2 _ _ _ _ _ (by decide) yc, ye⟩, g1, rfl⟩
      rintro s5 ⟨y0, y1, y7, y8, yL, yI, yz, yk, ⟨ou, ot, oa, op⟩, v, els4, yc, ye⟩
      have hil4 : i < els4.length := (List.getElem?_eq_some_iff.1 ye).1
      simp only [Sl5.row] at yz
      (have fs := And.intro @i64.eq_1 (And.intro y8 (And.intro yc ye)); (repeat (first | refine hGx _ ?_ | refine hNx _ ?_ | refine W_skip ?_ | refine W_exit ?_ | refine W_ret ?_ | refine W_label ?_ | refine W_scope ?_ | refine W_block ?_ | refine W_seq ?_ | ((first | refine tS fun N hNx => ?_ | refine WL_gE rfl rfl (by kernel_rfl) (by kernel_rfl) fun G hGx => ?_ | refine vcOpsS_sound (by kernel_rfl) ?_ | refine W_ifE fun A B hAx hBx => ?_); refine evT ?_; (first | refine hGx _ ?_ | refine hNx _ ?_ | refine hAx ?_ | refine hBx ?_ | skip)))); (try clear fs))
      refine (opc_N a _ yk.ty yk.bd oa).mono ?_
      rintro d6 H6 hD6
      have kz6 := SK.step (x := ⟨nm, d1, d2, d3, d4, ag, .os c o 7 0 n⟩) yz hD6 (by decide)
      have kc6 := hD6.2.2 _ _ _ _ _ (by decide) yc
      have kk6 := yk.chg hD6
      (have fs := And.intro @i64.eq_1 (And.intro y8 (And.intro kc6 ye)); (repeat (first | refine hGx _ ?_ | refine hNx _ ?_ | refine W_skip ?_ | refine W_exit ?_ | refine W_ret ?_ | refine W_label ?_ | refine W_scope ?_ | refine W_block ?_ | refine W_seq ?_ | ((first | refine tS fun N hNx => ?_ | refine WL_gE rfl rfl (by kernel_rfl) (by kernel_rfl) fun G hGx => ?_ | refine vcOpsS_sound (by kernel_rfl) ?_ | refine W_ifE fun A B hAx hBx => ?_); refine evT ?_; (first | refine hGx _ ?_ | refine hNx _ ?_ | refine hAx ?_ | refine hBx ?_ | skip)))); (try clear fs))
      refine (plc_N lo p _ kk6.ty kk6.bd (hD6.2.1 _ _ _ op)).mono ?_
      rintro d7 H7 hD7
      have kz7 := SK.step (x := ⟨nm, d1, d2, d3, d4, ag, .os c o 7 0 n⟩) kz6 hD7 (by decide)
      have kc7 := hD7.2.2 _ _ _ _ _ (by decide) kc6
      have kk7 := kk6.chg hD7
      have ou7 := hD7.2.1 _ _ _ (hD6.2.1 _ _ _ ou)
      simp only [Sl5.row] at kz7
      have ou8 := ou7
      rcases ou8 with rfl | ⟨cs, os, ns, rfl, _⟩
      · (have fs := And.intro @i64.eq_1 (And.intro y1 (And.intro y7 (And.intro kz7 (And.intro kc7 (And.intro ye (And.intro hx (And.intro h00 hil'))))))); (repeat (first | refine hGx _ ?_ | refine hNx _ ?_ | refine W_skip ?_ | refine W_exit ?_ | refine W_ret ?_ | refine W_label ?_ | refine W_scope ?_ | refine W_block ?_ | refine W_seq ?_ | ((first | refine tS fun N hNx => ?_ | refine WL_gE rfl rfl (by kernel_rfl) (by kernel_rfl) fun G hGx => ?_ | refine vcOpsS_sound (by kernel_rfl) ?_ | refine W_ifE fun A B hAx hBx => ?_); refine evT ?_; (first | refine hGx _ ?_ | refine hNx _ ?_ | refine hAx ?_ | refine hBx ?_ | skip)))); (try clear fs))
        refine W_loopN 0 (fun j s4 => s4.df = [] ∧ s4.fr 1 = .ep c1 0 7 0 0 ∧ s4.fr 98 = i64 n ∧ s4.fr 99 = i64 i ∧ s4.fr 148 = i64 0 ∧ s4.fr 149 = i64 j ∧ s4.H c1 = some (.row 28 0 7 [[strD nm, d1, d2, d3, d4, i64 ag, .os c o 7 0 n]]) ∧ Sl5.ok ⟨nm, d1, d2, d3, d4, ag, .os c o 7 0 n⟩ s4.H) ⟨y0, y1, yL, yI, rfl, rfl, kz7, kk7⟩ ?_
        rintro j s4 hj ⟨m0, m1, mL, mI, g1, g2, mz, mk⟩
        have hj0 : j = 0 := by omega
        subst hj0
        (have fs := And.intro @i64.eq_1 (And.intro g1 (And.intro g2 (And.intro mI w3))); (repeat (first | refine hGx _ ?_ | refine hNx _ ?_ | refine W_skip ?_ | refine W_exit ?_ | refine W_ret ?_ | refine W_label ?_ | refine W_scope ?_ | refine W_block ?_ | refine W_seq ?_ | ((first | refine tS fun N hNx => ?_ | refine WL_gE rfl rfl (by kernel_rfl) (by kernel_rfl) fun G hGx => ?_ | refine vcOpsS_sound (by kernel_rfl) ?_ | refine W_ifE fun A B hAx hBx => ?_); refine evT ?_; (first | refine hGx _ ?_ | refine hNx _ ?_ | refine hAx ?_ | refine hBx ?_ | skip)))); (try clear fs))
        exact ⟨hil, m0, m1, mL, rfl, mz, mk⟩
      · (have fs := And.intro @i64.eq_1 (And.intro y1 (And.intro y7 (And.intro kz7 (And.intro kc7 (And.intro ye (And.intro hx (And.intro h00 hil'))))))); (repeat (first | refine hGx _ ?_ | refine hNx _ ?_ | refine W_skip ?_ | refine W_exit ?_ | refine W_ret ?_ | refine W_label ?_ | refine W_scope ?_ | refine W_block ?_ | refine W_seq ?_ | ((first | refine tS fun N hNx => ?_ | refine WL_gE rfl rfl (by kernel_rfl) (by kernel_rfl) fun G hGx => ?_ | refine vcOpsS_sound (by kernel_rfl) ?_ | refine W_ifE fun A B hAx hBx => ?_); refine evT ?_; (first | refine hGx _ ?_ | refine hNx _ ?_ | refine hAx ?_ | refine hBx ?_ | skip)))); (try clear fs))
        refine W_loopN ns (fun j s4 => s4.df = [] ∧ s4.fr 1 = .ep c1 0 7 0 0 ∧ s4.fr 7 = i64 i ∧ s4.fr 98 = i64 n ∧ s4.fr 99 = i64 i ∧ s4.fr 148 = i64 ns ∧ s4.fr 149 = i64 j ∧ s4.H c1 = some (.row 28 0 7 [[strD nm, d1, d2, d3, d4, i64 ag, .os c o 7 0 n]]) ∧ Sl5.ok ⟨nm, d1, d2, d3, d4, ag, .os c o 7 0 n⟩ s4.H ∧ oS s4.H 75 11 (.os cs os 11 0 ns) ∧ s4.H c = some (.row 44 o 7 els4)) ⟨y0, y1, y7, yL, yI, rfl, rfl, kz7, kk7, ou7, kc7⟩ ?_
        rintro j s4 hj ⟨m0, m1, m7, mL, mI, g1, g2, mz, mk, mo, mc⟩
        have hx2 : (j : Int).toNat = j := Int.toNat_natCast _
        have h002 : (0 : Int) ≤ (j : Int) := Int.natCast_nonneg _
        by_cases hjl : j < ns
        case neg =>
          have p2 : ((j : Int) < (ns : Int)) = False := eq_false (by omega)
          (have fs := And.intro @i64.eq_1 (And.intro g1 (And.intro g2 (And.intro mI (And.intro w3 p2)))); (repeat (first | refine hGx _ ?_ | refine hNx _ ?_ | refine W_skip ?_ | refine W_exit ?_ | refine W_ret ?_ | refine W_label ?_ | refine W_scope ?_ | refine W_block ?_ | refine W_seq ?_ | ((first | refine tS fun N hNx => ?_ | refine WL_gE rfl rfl (by kernel_rfl) (by kernel_rfl) fun G hGx => ?_ | refine vcOpsS_sound (by kernel_rfl) ?_ | refine W_ifE fun A B hAx hBx => ?_); refine evT ?_; (first | refine hGx _ ?_ | refine hNx _ ?_ | refine hAx ?_ | refine hBx ?_ | skip)))); (try clear fs))
          exact ⟨hil, m0, m1, mL, rfl, mz, mk⟩
        have hjl' : (j : Int) < (ns : Int) := by omega
        have p2 : ((j : Int) < (ns : Int)) = True := eq_true hjl'
        obtain ⟨els5, hel5, hHs⟩ := mo.row hjl
        have hbd5 := mk.bd _ _ _ _ _ hHs
        have v3 : IntKind.i64.wrap ((j : Int) + 1) = ((j + 1 : Nat) : Int) := by rw [wrap_i64_of (by omega)]; omega
        obtain ⟨el5, hge5, hok5⟩ := mk.ty.get hHs (i := j) (by omega)
        obtain ⟨sk, sl, sp, sk2, sop, srg, smu, sl2, sp2, sar, sl3, rfl, os1, os2, os3⟩ := hok5.sm rfl
        have hset5 : ∀ e, (els5.set j e)[j]? = some e := fun e => List.getElem?_set_self (by omega)
        have hCs := fun (v : Int) => Chg.set (ts := [75]) (i := j) mk.ty mk.bd hHs (ok_sm (k := v) (lo := sl) (k2 := sk2) (op := sop) (rg := srg) (lo2 := sl2) (lo3 := sl3) (mu := smu) os1 os2 os3) (by simp) (.tup [])
        (have fs := And.intro @i64.eq_1 (And.intro m1 (And.intro m7 (And.intro g1 (And.intro g2 (And.intro p2 (And.intro mz (And.intro mc (And.intro ye (And.intro hHs (And.intro hge5 (And.intro hset5 (And.intro hx (And.intro h00 (And.intro hil' (And.intro hx2 (And.intro h002 hjl')))))))))))))))); (repeat (first | refine hGx _ ?_ | refine hNx _ ?_ | refine W_skip ?_ | refine W_exit ?_ | refine W_ret ?_ | refine W_label ?_ | refine W_scope ?_ | refine W_block ?_ | refine W_seq ?_ | ((first | refine tS fun N hNx => ?_ | refine WL_gE rfl rfl (by kernel_rfl) (by kernel_rfl) fun G hGx => ?_ | refine vcOpsS_sound (by kernel_rfl) ?_ | refine W_ifE fun A B hAx hBx => ?_); refine evT ?_; (first | refine hGx _ ?_ | refine hNx _ ?_ | refine hAx ?_ | refine hBx ?_ | skip)))); (try clear fs))
        refine (plc_N sl sp _ (hCs _).1.1 (hCs _).1.2 ((hCs _).2.1 _ _ _ os1)).mono ?_
        rintro dA HA hA
        have ka5 := hA.2.2 _ _ _ _ _ (by decide) (Heap.upd_same s4.H cs _)
        (have fs := And.intro @i64.eq_1 (And.intro ka5 hset5); (repeat (first | refine hGx _ ?_ | refine hNx _ ?_ | refine W_skip ?_ | refine W_exit ?_ | refine W_ret ?_ | refine W_label ?_ | refine W_scope ?_ | refine W_block ?_ | refine W_seq ?_ | ((first | refine tS fun N hNx => ?_ | refine WL_gE rfl rfl (by kernel_rfl) (by kernel_rfl) fun G hGx => ?_ | refine vcOpsS_sound (by kernel_rfl) ?_ | refine W_ifE fun A B hAx hBx => ?_); refine evT ?_; (first | refine hGx _ ?_ | refine hNx _ ?_ | refine hAx ?_ | refine hBx ?_ | skip)))); (try clear fs))
        refine (plc_N sl2 sp2 _ hA.1.1 hA.1.2 (hA.2.1 _ _ _ ((hCs _).2.1 _ _ _ os2))).mono ?_
        rintro dB HB hB
        have kb5 := hB.2.2 _ _ _ _ _ (by decide) ka5
        (have fs := And.intro @i64.eq_1 (And.intro kb5 hset5); (repeat (first | refine hGx _ ?_ | refine hNx _ ?_ | refine W_skip ?_ | refine W_exit ?_ | refine W_ret ?_ | refine W_label ?_ | refine W_scope ?_ | refine W_block ?_ | refine W_seq ?_ | ((first | refine tS fun N hNx => ?_ | refine WL_gE rfl rfl (by kernel_rfl) (by kernel_rfl) fun G hGx => ?_ | refine vcOpsS_sound (by kernel_rfl) ?_ | refine W_ifE fun A B hAx hBx => ?_); refine evT ?_; (first | refine hGx _ ?_ | refine hNx _ ?_ | refine hAx ?_ | refine hBx ?_ | skip)))); (try clear fs))
        refine (opc_N sar _ hB.1.1 hB.1.2 (hB.2.1 _ _ _ (hA.2.1 _ _ _ ((hCs _).2.1 _ _ _ os3)))).mono ?_
        rintro dC HC hD
        (have fs := And.intro @i64.eq_1 (And.intro g2 v3); (repeat (first | refine hGx _ ?_ | refine hNx _ ?_ | refine W_skip ?_ | refine W_exit ?_ | refine W_ret ?_ | refine W_label ?_ | refine W_scope ?_ | refine W_block ?_ | refine W_seq ?_ | ((first | refine tS fun N hNx => ?_ | refine WL_gE rfl rfl (by kernel_rfl) (by kernel_rfl) fun G hGx => ?_ | refine vcOpsS_sound (by kernel_rfl) ?_ | refine W_ifE fun A B hAx hBx => ?_); refine evT ?_; (first | refine hGx _ ?_ | refine hNx _ ?_ | refine hAx ?_ | refine hBx ?_ | skip)))); (try clear fs))
        exact ⟨hjl, m0, m1, m7, mL, mI, g1, rfl, SK.step (x := ⟨nm, d1, d2, d3, d4, ag, .os c o 7 0 n⟩) (SK.step (SK.step (SK.step mz (hCs _) (by decide)) hA (by decide)) hB (by decide)) hD (by decide), (((mk.chg (hCs _)).chg hA).chg hB).chg hD, hD.2.1 _ _ _ (hB.2.1 _ _ _ (hA.2.1 _ _ _ ((hCs _).2.1 _ _ _ mo))), hD.2.2 _ _ _ _ _ (by decide) (hB.2.2 _ _ _ _ _ (by decide) (hA.2.2 _ _ _ _ _ (by decide) ((hCs _).2.2 _ _ _ _ _ (by decide) mc)))⟩
  intro s hdf
  (first | (show Q .ret _) | (show Q .normal _) | skip); refine hret _ _ (by first | exact .inr rfl | exact .inl rfl) (by first | rfl | assumption | (simp only [put_df, withH_df]; assumption)) ?_; have fs := hdf; refine evT ?_; clear fs
  exact ⟨_, Heap.le_refl _⟩
theorem Dj.addL {A B C : Heap} (h : Dj A C) (h2 : Dj B C) : Dj (A.add B) C := fun k hk => by
  cases e : (A.add B) k with
  | none => exact absurd e hk
  | some x =>
    rcases add_cases e with e | e
    · exact h2 k (by rw [e]; simp)
    · exact h k (by rw [e]; simp)
theorem Dj.sym {A B : Heap} (h : Dj A B) : Dj B A := fun k hk => Classical.byContradiction fun hn => hk (h k hn)
theorem Cl.uni {H X A B : Heap} (h : Cl H X A) (h2 : Cl H X B) (hd : Dj A B) : Cl H X (A.add B) ∧ A.le (A.add B) ∧ B.le (A.add B) :=
  ⟨⟨h.1, fun b x hb => by
      rcases add_cases hb with e | e
      · exact h2.2.1 b x e
      · exact h.2.1 b x e, fun b hb => by
      cases e : (A.add B) b with
      | none => exact absurd e hb
      | some x =>
        rcases add_cases e with e | e
        · exact h2.2.2.1 b (by rw [e]; simp)
        · exact h.2.2.1 b (by rw [e]; simp), h.2.2.2.add h2.2.2.2 hd⟩, add_left hd, add_right A B⟩
/-- A body that has been copied, its blocks taken together. -/
def ClU (b : BdS) (H U : Heap) (d : D) (H' : Heap) : Prop := Cl H H' U ∧ ∃ d1 d2 d3 d4 d6, d = .agg [strD b.nm, d1, d2, d3, d4, i64 b.ag, d6] ∧ oR U 9 1 d1 (b.rg.map sD) ∧ oR U 49 2 d2 (b.ol.map pD) ∧ oR U 51 5 d3 (b.ty.map tyD) ∧ oR U 71 2 d4 (b.lc.map lcD) ∧ oR U 44 7 d6 (b.bl.map bkD) ∧ exS U d1 b.rg
theorem ClB.uni {b : BdS} {H H' : Heap} {d : D} (h : ClB b H d H') : ∃ U, ClU b H U d H' := by
  obtain ⟨A1, A2, A3, A4, A6, d1, d2, d3, d4, d6, rfl, ⟨q1, o1⟩, ⟨q2, o2⟩, ⟨q3, o3⟩, ⟨q4, o4⟩, ⟨q6, o6⟩, j12, j13, j14, j16, j23, j24, j26, j43, j46, j36, hex⟩ := h
  obtain ⟨u1, l1, l2⟩ := q1.uni q2 j12
  obtain ⟨u2, k1, l4⟩ := u1.uni q4 (j14.addL j24)
  obtain ⟨u3, k2, l3⟩ := u2.uni q3 ((j13.addL j23).addL j43)
  obtain ⟨u4, k3, l6⟩ := u3.uni q6 (((j16.addL j26).addL j46).addL j36)
  have m1 := Heap.le_trans l1 (Heap.le_trans k1 (Heap.le_trans k2 k3))
  refine ⟨_, u4, d1, d2, d3, d4, d6, rfl, o1.mono m1, o2.mono (Heap.le_trans l2 (Heap.le_trans k1 (Heap.le_trans k2 k3))), o3.mono (Heap.le_trans l3 k3), o4.mono (Heap.le_trans l4 (Heap.le_trans k2 k3)), o6.mono l6, ?_⟩
  rcases hex with hex | ⟨c, o, e1, e2⟩
  · exact .inl hex
  · exact .inr ⟨c, o, e1, m1 _ _ e2⟩
/-- What is copied reads as what it was copied from. -/
theorem ClU.frz {b : BdS} {H U H' H0 X : Heap} {d : D} (h : ClU b H U d H') (h1 : U.le X) (h2 : Dom H0 X) (h3 : ∀ k, U k ≠ none → H0 k = none) : Frz H0 X d (.agg (bdD b)) := by
  obtain ⟨_, d1, d2, d3, d4, d6, rfl, o1, o2, o3, o4, o6, _⟩ := h
  exact frz_agg ⟨frz_same h2, o1.rd _ _ h1 h2 h3, o2.rd _ _ h1 h2 h3, o3.rd _ _ h1 h2 h3, o4.rd _ _ h1 h2 h3, frz_same h2, o6.rd _ _ h1 h2 h3, trivial⟩
theorem dom_le {U X : Heap} (h : U.le X) : Dom U X := fun k hk => Heap.none_of h hk
/-- The second copy: it is read only, and only V is kept. -/
theorem clone2_N (b : BdS) (H1 V : Heap) (hs : smB b) (hl1 : V.le H1) : Does Try.prog 29 [.agg (bdD b)] H1 fun d H' => d = .agg (bdD b) ∧ V = H' :=
  (clone_N b H1 hs).redesc fun d H' k => by
    obtain ⟨W, hW⟩ := ClB.uni k
    have hl := Heap.le_trans hl1 hW.1.1
    exact ⟨_, V, dom_le hl, fun w hw => hw.less hl, hW.frz hW.1.2.1 (dom_le hl) fun k hk => Heap.none_of hl1 (hW.1.2.2.1 k hk), rfl, rfl⟩
set_option maxHeartbeats 2000000 in
theorem lclone9_N (b : BdS) (ok : okBd b) : Does Try.prog 6 [.agg (bdD b)] .none fun d _ => d = .val (.bool true) := by
  refine does_of _ _ Try.func6 rfl rfl Try.ntmps6 Try.results6 (by simp only [List.length_cons, List.length_nil]; omega) fun w0 Q hret => ?_
  (have fs := And.intro @i64.eq_1 @bdD.eq_1; (repeat (first | refine hGx _ ?_ | refine hNx _ ?_ | refine W_skip ?_ | refine W_exit ?_ | refine W_ret ?_ | refine W_label ?_ | refine W_scope ?_ | refine W_block ?_ | refine W_seq ?_ | ((first | refine tS fun N hNx => ?_ | refine WL_gE rfl rfl (by kernel_rfl) (by kernel_rfl) fun G hGx => ?_ | refine vcOpsS_sound (by kernel_rfl) ?_ | refine W_ifE fun A B hAx hBx => ?_); refine evT ?_; (first | refine hGx _ ?_ | refine hNx _ ?_ | refine hAx ?_ | refine hBx ?_ | skip)))); (try clear fs))
  intro c2 hc2
  refine hNx _ ?_
  refine W_frzp 1 rfl (Heap.upd_same _ _ _) rfl ?_; simp only [St.frzp, put_H, wdf_H, withH_H, withH_put, wdf_withH, withH_withH, init_H, init_withH, Heap.del_upd_same, Heap.del_none hc2, withH_self]
  (have fs := @i64.eq_1; (repeat (first | refine hGx _ ?_ | refine hNx _ ?_ | refine W_skip ?_ | refine W_exit ?_ | refine W_ret ?_ | refine W_label ?_ | refine W_scope ?_ | refine W_block ?_ | refine W_seq ?_ | ((first | refine tS fun N hNx => ?_ | refine WL_gE rfl rfl (by kernel_rfl) (by kernel_rfl) fun G hGx => ?_ | refine vcOpsS_sound (by kernel_rfl) ?_ | refine W_ifE fun A B hAx hBx => ?_); refine evT ?_; (first | refine hGx _ ?_ | refine hNx _ ?_ | refine hAx ?_ | refine hBx ?_ | skip)))); (try clear fs))
  refine ((large_N b _ ok)).mono ?_; rintro d _ ⟨rfl, rfl⟩
  by_cases hb : 3000 < tot b
  · rw [lg_pos hb]
    (have fs := @i64.eq_1; (repeat (first | refine hGx _ ?_ | refine hNx _ ?_ | refine W_skip ?_ | refine W_exit ?_ | refine W_ret ?_ | refine W_label ?_ | refine W_scope ?_ | refine W_block ?_ | refine W_seq ?_ | ((first | refine tS fun N hNx => ?_ | refine WL_gE rfl rfl (by kernel_rfl) (by kernel_rfl) fun G hGx => ?_ | refine vcOpsS_sound (by kernel_rfl) ?_ | refine W_ifE fun A B hAx hBx => ?_); refine evT ?_; (first | refine hGx _ ?_ | refine hNx _ ?_ | refine hAx ?_ | refine hBx ?_ | skip)))); (try clear fs))
    refine (alive9_at _).mono ?_; rintro d _ ⟨rfl, rfl⟩
    (have fs := @i64.eq_1; (repeat (first | refine hGx _ ?_ | refine hNx _ ?_ | refine W_skip ?_ | refine W_exit ?_ | refine W_ret ?_ | refine W_label ?_ | refine W_scope ?_ | refine W_block ?_ | refine W_seq ?_ | ((first | refine tS fun N hNx => ?_ | refine WL_gE rfl rfl (by kernel_rfl) (by kernel_rfl) fun G hGx => ?_ | refine vcOpsS_sound (by kernel_rfl) ?_ | refine W_ifE fun A B hAx hBx => ?_); refine evT ?_; (first | refine hGx _ ?_ | refine hNx _ ?_ | refine hAx ?_ | refine hBx ?_ | skip)))); (try clear fs))
    (first | (show Q .ret _) | (show Q .normal _) | skip); refine hret _ _ (by first | exact .inr rfl | exact .inl rfl) (by first | rfl | assumption | (simp only [put_df, withH_df]; assumption)) ?_; have fs := @i64.eq_1; refine evT ?_; clear fs
    exact ⟨_, Heap.le_refl _⟩
  rw [lg_neg hb]
  obtain ⟨hsm, hby⟩ := facts9 hb
  (have fs := @i64.eq_1; (repeat (first | refine hGx _ ?_ | refine hNx _ ?_ | refine W_skip ?_ | refine W_exit ?_ | refine W_ret ?_ | refine W_label ?_ | refine W_scope ?_ | refine W_block ?_ | refine W_seq ?_ | ((first | refine tS fun N hNx => ?_ | refine WL_gE rfl rfl (by kernel_rfl) (by kernel_rfl) fun G hGx => ?_ | refine vcOpsS_sound (by kernel_rfl) ?_ | refine W_ifE fun A B hAx hBx => ?_); refine evT ?_; (first | refine hGx _ ?_ | refine hNx _ ?_ | refine hAx ?_ | refine hBx ?_ | skip)))); (try clear fs))
  refine (clone_N b _ hsm).mono ?_
  rintro d H1 hB
  obtain ⟨U, hU⟩ := hB.uni
  have hU' := hU
  obtain ⟨hC, d1, d2, d3, d4, d6, rfl, o1, o2, o3, o4, o6, hex⟩ := hU'
  (have fs := @i64.eq_1; (repeat (first | refine hGx _ ?_ | refine hNx _ ?_ | refine W_skip ?_ | refine W_exit ?_ | refine W_ret ?_ | refine W_label ?_ | refine W_scope ?_ | refine W_block ?_ | refine W_seq ?_ | ((first | refine tS fun N hNx => ?_ | refine WL_gE rfl rfl (by kernel_rfl) (by kernel_rfl) fun G hGx => ?_ | refine vcOpsS_sound (by kernel_rfl) ?_ | refine W_ifE fun A B hAx hBx => ?_); refine evT ?_; (first | refine hGx _ ?_ | refine hNx _ ?_ | refine hAx ?_ | refine hBx ?_ | skip)))); (try clear fs))
  intro c3 hc3
  refine hNx _ ?_
  have hUc := Heap.none_of hC.2.1 hc3
  have hUle : U.le (U.upd c3 (.row 28 0 7 [[strD b.nm, d1, d2, d3, d4, i64 b.ag, d6]])) := Heap.le_put (Heap.le_refl _) hUc
  have hl1 : (U.upd c3 (.row 28 0 7 [[strD b.nm, d1, d2, d3, d4, i64 b.ag, d6]])).le (H1.upd c3 (.row 28 0 7 [[strD b.nm, d1, d2, d3, d4, i64 b.ag, d6]])) := fun k x hk => by
    by_cases e : k = c3
    · rw [e, Heap.upd_same] at hk ⊢; exact hk
    · rw [Heap.upd_ne e] at hk ⊢; exact hC.2.1 k x hk
  have z3 : (U.upd c3 (.row 28 0 7 [[strD b.nm, d1, d2, d3, d4, i64 b.ag, d6]])) c3 = some (.row 28 0 7 [[strD b.nm, d1, d2, d3, d4, i64 b.ag, d6]]) := Heap.upd_same _ _ _
  (have fs := @i64.eq_1; (repeat (first | refine hGx _ ?_ | refine hNx _ ?_ | refine W_skip ?_ | refine W_exit ?_ | refine W_ret ?_ | refine W_label ?_ | refine W_scope ?_ | refine W_block ?_ | refine W_seq ?_ | ((first | refine tS fun N hNx => ?_ | refine WL_gE rfl rfl (by kernel_rfl) (by kernel_rfl) fun G hGx => ?_ | refine vcOpsS_sound (by kernel_rfl) ?_ | refine W_ifE fun A B hAx hBx => ?_); refine evT ?_; (first | refine hGx _ ?_ | refine hNx _ ?_ | refine hAx ?_ | refine hBx ?_ | skip)))); (try clear fs))
  refine ((clone2_N b _ _ hsm hl1)).mono ?_; rintro d _ ⟨rfl, rfl⟩
  (have fs := And.intro @i64.eq_1 @bdD.eq_1; (repeat (first | refine hGx _ ?_ | refine hNx _ ?_ | refine W_skip ?_ | refine W_exit ?_ | refine W_ret ?_ | refine W_label ?_ | refine W_scope ?_ | refine W_block ?_ | refine W_seq ?_ | ((first | refine tS fun N hNx => ?_ | refine WL_gE rfl rfl (by kernel_rfl) (by kernel_rfl) fun G hGx => ?_ | refine vcOpsS_sound (by kernel_rfl) ?_ | refine W_ifE fun A B hAx hBx => ?_); refine evT ?_; (first | refine hGx _ ?_ | refine hNx _ ?_ | refine hAx ?_ | refine hBx ?_ | skip)))); (try clear fs))
  intro c4 hc4
  refine hNx _ ?_
  refine W_frzp 4 rfl (Heap.upd_same _ _ _) rfl ?_; simp only [St.frzp, put_H, wdf_H, withH_H, withH_put, wdf_withH, withH_withH, init_H, init_withH, Heap.del_upd_same, Heap.del_none hc4, withH_self]
  have hv : Frz Heap.none (U.upd c3 (.row 28 0 7 [[strD b.nm, d1, d2, d3, d4, i64 b.ag, d6]])) (.agg [strD b.nm, d1, d2, d3, d4, i64 b.ag, d6]) (.agg (bdD b)) := hU.frz hUle (dom_le (Heap.le_none _)) fun _ _ => rfl
  (have fs := And.intro @i64.eq_1 z3; (repeat (first | refine hGx _ ?_ | refine hNx _ ?_ | refine W_skip ?_ | refine W_exit ?_ | refine W_ret ?_ | refine W_label ?_ | refine W_scope ?_ | refine W_block ?_ | refine W_seq ?_ | ((first | refine tS fun N hNx => ?_ | refine WL_gE rfl rfl (by kernel_rfl) (by kernel_rfl) fun G hGx => ?_ | refine vcOpsS_sound (by kernel_rfl) ?_ | refine W_ifE fun A B hAx hBx => ?_); refine evT ?_; (first | refine hGx _ ?_ | refine hNx _ ?_ | refine hAx ?_ | refine hBx ?_ | skip)))); (try clear fs))
  refine (pure_D ((kbdeq_N b b .none ok).mono fun _ _ h => h.1) rfl (vws2 (vw_refl _ _) hv)).mono ?_
  rintro d _ ⟨rfl, rfl⟩
  rw [decide_eq_true rfl]
  (have fs := @i64.eq_1; (repeat (first | refine hGx _ ?_ | refine hNx _ ?_ | refine W_skip ?_ | refine W_exit ?_ | refine W_ret ?_ | refine W_label ?_ | refine W_scope ?_ | refine W_block ?_ | refine W_seq ?_ | ((first | refine tS fun N hNx => ?_ | refine WL_gE rfl rfl (by kernel_rfl) (by kernel_rfl) fun G hGx => ?_ | refine vcOpsS_sound (by kernel_rfl) ?_ | refine W_ifE fun A B hAx hBx => ?_); refine evT ?_; (first | refine hGx _ ?_ | refine hNx _ ?_ | refine hAx ?_ | refine hBx ?_ | skip)))); (try clear fs))
  refine ((kbdeq_N b b _ ok)).mono ?_; rintro d _ ⟨rfl, rfl⟩
  rw [decide_eq_true rfl]
  (have fs := And.intro @i64.eq_1 z3; (repeat (first | refine hGx _ ?_ | refine hNx _ ?_ | refine W_skip ?_ | refine W_exit ?_ | refine W_ret ?_ | refine W_label ?_ | refine W_scope ?_ | refine W_block ?_ | refine W_seq ?_ | ((first | refine tS fun N hNx => ?_ | refine WL_gE rfl rfl (by kernel_rfl) (by kernel_rfl) fun G hGx => ?_ | refine vcOpsS_sound (by kernel_rfl) ?_ | refine W_ifE fun A B hAx hBx => ?_); refine evT ?_; (first | refine hGx _ ?_ | refine hNx _ ?_ | refine hAx ?_ | refine hBx ?_ | skip)))); (try clear fs))
  refine (scr_N ⟨b.nm, d1, d2, d3, d4, b.ag, d6⟩ _ ⟨hC.2.2.2.new hUc (by simp) fun el hel => ok_free (.inr rfl), fun k t o sz els hk => (hC.2.2.2.new hUc (by simp) fun el hel => ok_free (.inr rfl) : TyH _) k t o sz els hk |>.1, oS_mono hUle o2.os, oS_mono hUle o3.os, oS_mono hUle o4.os, oS_mono hUle o6.os⟩ ?_).mono ?_
  · rcases hex with hex | ⟨c, o, e1, e2⟩
    · exact .inl hex
    · refine .inr ⟨c, o, b.rg, e1, hUle _ _ e2, fun s hs => ?_⟩
      have h1 := sm_mem (f := fun s : ByteArray => 1 + s.size) hs
      have h2 := tot_eq b
      omega
  rintro d H3 -
  (have fs := @i64.eq_1; (repeat (first | refine hGx _ ?_ | refine hNx _ ?_ | refine W_skip ?_ | refine W_exit ?_ | refine W_ret ?_ | refine W_label ?_ | refine W_scope ?_ | refine W_block ?_ | refine W_seq ?_ | ((first | refine tS fun N hNx => ?_ | refine WL_gE rfl rfl (by kernel_rfl) (by kernel_rfl) fun G hGx => ?_ | refine vcOpsS_sound (by kernel_rfl) ?_ | refine W_ifE fun A B hAx hBx => ?_); refine evT ?_; (first | refine hGx _ ?_ | refine hNx _ ?_ | refine hAx ?_ | refine hBx ?_ | skip)))); (try clear fs))
  refine (alive9_at _).mono ?_; rintro d _ ⟨rfl, rfl⟩
  (have fs := @i64.eq_1; (repeat (first | refine hGx _ ?_ | refine hNx _ ?_ | refine W_skip ?_ | refine W_exit ?_ | refine W_ret ?_ | refine W_label ?_ | refine W_scope ?_ | refine W_block ?_ | refine W_seq ?_ | ((first | refine tS fun N hNx => ?_ | refine WL_gE rfl rfl (by kernel_rfl) (by kernel_rfl) fun G hGx => ?_ | refine vcOpsS_sound (by kernel_rfl) ?_ | refine W_ifE fun A B hAx hBx => ?_); refine evT ?_; (first | refine hGx _ ?_ | refine hNx _ ?_ | refine hAx ?_ | refine hBx ?_ | skip)))); (try clear fs))
  refine ((kbdeq_N b b _ ok)).mono ?_; rintro d _ ⟨rfl, rfl⟩
  rw [decide_eq_true rfl]
  (have fs := @i64.eq_1; (repeat (first | refine hGx _ ?_ | refine hNx _ ?_ | refine W_skip ?_ | refine W_exit ?_ | refine W_ret ?_ | refine W_label ?_ | refine W_scope ?_ | refine W_block ?_ | refine W_seq ?_ | ((first | refine tS fun N hNx => ?_ | refine WL_gE rfl rfl (by kernel_rfl) (by kernel_rfl) fun G hGx => ?_ | refine vcOpsS_sound (by kernel_rfl) ?_ | refine W_ifE fun A B hAx hBx => ?_); refine evT ?_; (first | refine hGx _ ?_ | refine hNx _ ?_ | refine hAx ?_ | refine hBx ?_ | skip)))); (try clear fs))
  (first | (show Q .ret _) | (show Q .normal _) | skip); refine hret _ _ (by first | exact .inr rfl | exact .inl rfl) (by first | rfl | assumption | (simp only [put_df, withH_df]; assumption)) ?_; have fs := @i64.eq_1; refine evT ?_; clear fs
  exact ⟨_, Heap.le_refl _⟩
theorem BodiesClone_walk (x0 : X) (v0 : Value) (w : World) (o0 : DT.ok (DT.struct [DT.string, DT.slice 1 16 (DT.string), DT.slice 2 16 (DT.array 2 (DT.int .i64)), DT.slice 5 56 (DT.struct [DT.int .i64, DT.bool, DT.int .i64, DT.int .i64, DT.slice 1 8 (DT.int .i64)]), DT.slice 2 24 (DT.struct [DT.string, DT.int .i64]), DT.int .i64, DT.slice 7 128 (DT.struct [DT.slice 11 136 (DT.struct [DT.int .i64, DT.struct [DT.int .i64, DT.slice 2 16 (DT.struct [DT.int .i64, DT.int .i64])], DT.struct [DT.int .i64, DT.int .i64, DT.int .i64, DT.bool, DT.struct [DT.int .i64, DT.slice 2 16 (DT.struct [DT.int .i64, DT.int .i64])], DT.slice 4 48 (DT.struct [DT.int .i64, DT.struct [DT.int .i64, DT.slice 2 16 (DT.struct [DT.int .i64, DT.int .i64])], DT.int .i64])], DT.int .i64]), DT.struct [DT.int .i64, DT.slice 1 8 (DT.int .i64), DT.slice 4 48 (DT.struct [DT.int .i64, DT.struct [DT.int .i64, DT.slice 2 16 (DT.struct [DT.int .i64, DT.int .i64])], DT.int .i64]), DT.struct [DT.int .i64, DT.slice 2 16 (DT.struct [DT.int .i64, DT.int .i64])], DT.string]])]) x0) (i0 : D.is w Heap.none.others x0.d v0) :
    Calls Try.prog 6 #[v0] w fun e w' => e = .returned (.bool true) ∧ Below w.heap.size w w' := by
  obtain ⟨a, ha, hoka⟩ := ok_body o0
  rw [ha] at i0
  exact walk_of (lclone9_N a hoka) ⟨_, _, rfl, i0, rfl⟩
end Go.Proofs.Ytbcghjcakincoaa
