/- Lemmas and contracts of functions, several texts in one: Y0 S0 RW S7 S8. -/
import Derived.Test.YtiakpcnglihnbaaDoorGI
import Derived.Test.YtiakpcnglihnbaaDoorGIB
/- Numbers, pairs, lists of types: their descriptions. -/
namespace Go.Proofs.YtiakpcnglihnbaaDoor
open Go.RowKit
set_option linter.unusedVariables false
set_option linter.unusedSimpArgs false
def i64 (n : Int) : D := .val (.int .i64 n)
def iD (n : Int) : List D := [i64 n]
def pD (p : Int × Int) : List D := [i64 p.1, i64 p.2]
theorem get_ints {l : List Int} {i : Nat} (h : i < l.length) : (l.map iD)[i]? = some [.val (.int .i64 l[i])] := by
  rw [List.getElem?_map, List.getElem?_eq_getElem h]; rfl
def InR (n a : Int) : Prop := 0 ≤ a ∧ a < n
instance (n a : Int) : Decidable (InR n a) := by unfold InR; exact inferInstance
structure TyS where
  k : Int
  m : Bool
  r : Int
  e : Int
  ar : List Int
def tyD (t : TyS) : List D := [i64 t.k, .val (.bool t.m), i64 t.r, i64 t.e, .seq 1 (t.ar.map iD)]
def tyAt (ts : List TyS) (a : Int) : TyS := ts.getD a.toNat ⟨0, false, 0, 0, []⟩
/-- Types name only types before them. -/
def wfT (ts : List TyS) : Prop := ∀ (i : Nat) (h : i < ts.length), (ts[i].k = 3 → 0 ≤ ts[i].e ∧ ts[i].e < i) ∧ ∀ x ∈ ts[i].ar, 0 ≤ x ∧ x < i
theorem tyAt_get {ts : List TyS} {a : Int} (h : InR ts.length a) : ∃ h', tyAt ts a = ts[a.toNat]'h' := by
  unfold InR at h
  refine ⟨by omega, ?_⟩
  unfold tyAt
  rw [List.getD_eq_getElem?_getD, List.getElem?_eq_getElem (by omega)]; rfl
theorem wfT_at {ts : List TyS} (hw : wfT ts) {a : Int} (h : InR ts.length a) : ((tyAt ts a).k = 3 → 0 ≤ (tyAt ts a).e ∧ (tyAt ts a).e < a) ∧ ∀ x ∈ (tyAt ts a).ar, 0 ≤ x ∧ x < a := by
  obtain ⟨h', he⟩ := tyAt_get h
  rw [he]
  have := hw a.toNat h'
  unfold InR at h
  refine ⟨fun hk => ?_, fun x hx => ?_⟩
  · have := this.1 hk; omega
  · have := this.2 x hx; omega
theorem ty_get {ts : List TyS} {a : Int} (h : InR ts.length a) : (ts.map tyD)[a.toNat]? = some (tyD (tyAt ts a)) := by
  obtain ⟨h', he⟩ := tyAt_get h
  rw [he, List.getElem?_map, List.getElem?_eq_getElem h']; rfl
def strD (s : ByteArray) : D := .val (.string s)
def sD (s : ByteArray) : List D := [strD s]
def big (n : Nat) : Prop := n ≤ 140737488351232
theorem toL_inj {a b : ByteArray} : a.toList = b.toList ↔ a = b := by
  constructor
  · intro h
    rw [ByteArray.toList_eq, ByteArray.toList_eq] at h
    obtain ⟨⟨x⟩⟩ := a
    obtain ⟨⟨y⟩⟩ := b
    simp only at h
    rw [h]
  · rintro rfl; rfl
theorem map_get {α : Type} {f : α → List D} {l : List α} {i : Nat} (h : i < l.length) : (l.map f)[i]? = some (f l[i]) := by
  rw [List.getElem?_map, List.getElem?_eq_getElem h]; rfl
theorem take_snocA {α : Type} {l m : List α} {i : Nat} (h : l.take i = m.take i) (h1 : i < l.length) (h2 : i < m.length) (he : l[i] = m[i]) : l.take (i + 1) = m.take (i + 1) := by
  rw [List.take_succ_eq_append_getElem h1, List.take_succ_eq_append_getElem h2, h, he]
theorem FrzL.len {H H' : Heap} : ∀ {ds es : List D}, FrzL H H' ds es → ds.length = es.length
  | [], [], _ => rfl
  | d :: ds, e :: es, h => by rw [List.length_cons, List.length_cons, FrzL.len h.2]
  | [], _ :: _, h => h.elim
  | _ :: _, [], h => h.elim
theorem FrzL.at {H H' : Heap} {w : World} (hH : HOk w H') {b : Nat} : ∀ {ds es : List D} {o : Nat}, FrzL H H' ds es → cellsAt w H'.others b o ds → cellsAt w H.others b o es
  | [], [], _, _, h => by simp only [cellsAt] at h ⊢
  | d :: ds, e :: es, o, hv, h => by
    simp only [cellsAt] at h ⊢
    obtain ⟨⟨u, h1, h2, h3⟩, h4⟩ := h
    exact ⟨⟨u, h1, h2, hv.1 w u hH h3⟩, FrzL.at hH hv.2 h4⟩
  | [], _ :: _, _, hv, _ => hv.elim
  | _ :: _, [], _, hv, _ => hv.elim
def FrzR (H H' : Heap) : List (List D) → List (List D) → Prop
  | [], [] => True
  | d :: ds, e :: es => FrzL H H' d e ∧ FrzR H H' ds es
  | _, _ => False
theorem FrzR.len {H H' : Heap} : ∀ {ds es : List (List D)}, FrzR H H' ds es → ds.length = es.length
  | [], [], _ => rfl
  | d :: ds, e :: es, h => by rw [List.length_cons, List.length_cons, FrzR.len h.2]
  | [], _ :: _, h => h.elim
  | _ :: _, [], h => h.elim
theorem FrzR.at {H H' : Heap} {w : World} (hH : HOk w H') {b sz : Nat} : ∀ {ds es : List (List D)} {o : Nat}, FrzR H H' ds es → rowsAt w H'.others b sz o ds → rowsAt w H.others b sz o es
  | [], [], _, _, h => by simp only [rowsAt] at h ⊢
  | d :: ds, e :: es, o, hv, h => by
    simp only [rowsAt] at h ⊢
    exact ⟨hv.1.len ▸ h.1, hv.1.at hH h.2.1, FrzR.at hH hv.2 h.2.2⟩
  | [], _ :: _, _, hv, _ => hv.elim
  | _ :: _, [], _, hv, _ => hv.elim
theorem frzl_same {H0 H' : Heap} (hd : Dom H0 H') : ∀ ds : List D, FrzL H0 H' ds ds
  | [] => trivial
  | _ :: ds => ⟨frz_same hd, frzl_same hd ds⟩
theorem frzr_same {H0 H' : Heap} (hd : Dom H0 H') : ∀ ds : List (List D), FrzR H0 H' ds ds
  | [] => trivial
  | d :: ds => ⟨frzl_same hd d, frzr_same hd ds⟩
theorem frzr_append {H0 H' : Heap} : ∀ {a a' b b' : List (List D)}, FrzR H0 H' a a' → FrzR H0 H' b b' → FrzR H0 H' (a ++ b) (a' ++ b')
  | [], [], _, _, _, h => h
  | d :: ds, e :: es, _, _, h, h2 => ⟨h.1, frzr_append h.2 h2⟩
  | [], _ :: _, _, _, h, _ => h.elim
  | _ :: _, [], _, _, h, _ => h.elim
theorem HOk.redescR {H0 H' : Heap} {w : World} (hd : Dom H0 H') (hH : HOk w H')
    (h : ∀ b x, H0 b = some x → H' b = some x ∨ ∃ t o sz els els', H' b = some (.row t o sz els) ∧ x = .row t o sz els' ∧ FrzR H0 H' els els') : HOk w H0 := fun b x hb => by
  rcases h b x hb with h | ⟨t, o, sz, els, els', h1, rfl, h2⟩
  · exact (ev_dom hd w).objAt rfl (hH b x h)
  · obtain ⟨cs, fr, e1, e2, e3, e4⟩ := hH b _ h1
    exact ⟨cs, fr, e1, e2, by rw [← h2.len]; exact e3, h2.at hH e4⟩
theorem W_redesc {cx : Cx} {c : Code} {Q : Exit → St → Prop} {s : St} (H0 : Heap) (hd : Dom H0 s.H)
    (h : ∀ b x, H0 b = some x → s.H b = some x ∨ ∃ t o sz els els', s.H b = some (.row t o sz els) ∧ x = .row t o sz els' ∧ FrzR H0 s.H els els') (hk : W cx c Q (s.withH H0)) : W cx c Q s := fun a w m =>
  hk a w ⟨m.n, m.df, fun t => D.is_keep (ev_dom hd w).kept _ (m.fr t), HOk.redescR hd m.H h, m.ev.trans (ev_dom hd w)⟩
/-- What a row holds is frozen with it. -/
theorem frz_rows {H H' : Heap} {b o sz n : Nat} {ty : TypeId} {els els' : List (List D)} (hd : Dom H H') (hb : H' b = some (.row ty o sz els)) (h0 : H b = none) (hn : n = els.length) (hr : FrzR H (H'.del b) els els') : Frz H H' (.os b o sz 0 n) (.seq sz els') := fun w v hH hv => by
  subst hn
  have h1 := frz_is hH hb (k := 0) (by omega) hv
  rw [List.drop_zero, List.take_length] at h1
  have hH2 : HOk w (H'.del b) := hH.less (fun c x hc => by
    by_cases e : c = b
    · rw [e, Heap.del_same] at hc; cases hc
    · rwa [Heap.del_ne e] at hc)
  simp only [D.is] at h1 ⊢
  obtain ⟨A, c, rfl, e1, e2⟩ := h1
  refine ⟨A, c, by rw [hr.len], by rw [← hr.len]; exact e1, ?_⟩
  rcases e2 with e2 | ⟨b2, o2, e3, e4, e5, e6⟩
  · left
    have := hr.len
    rw [e2] at this
    exact List.eq_nil_of_length_eq_zero this.symm
  · refine .inr ⟨b2, o2, e3, ?_, e5, hr.at hH2 e6⟩
    by_cases e : b2 = b
    · rw [e]; exact h0
    · refine hd b2 ?_
      have : (H'.del b) b2 = none := e4
      rwa [Heap.del_ne e] at this
theorem upd_twice (H : Heap) (b : Nat) (x y : HObj) : (H.upd b x).upd b y = H.upd b y := by
  funext c
  by_cases e : c = b
  · rw [e, Heap.upd_same, Heap.upd_same]
  · rw [Heap.upd_ne e, Heap.upd_ne e, Heap.upd_ne e]
theorem upd_selfB {H : Heap} {b : Nat} {x : HObj} (h : H b = some x) : H.upd b x = H := by
  funext c
  by_cases e : c = b
  · rw [e, Heap.upd_same, h]
  · rw [Heap.upd_ne e]
/-- A row of strings of one's own in a slot. -/
def OwS (H : Heap) (l : List ByteArray) (d : D) (H' : Heap) : Prop := ∃ c o, d = .os c o 1 0 l.length ∧ H c = none ∧ H' c = some (.row 9 o 1 (l.map sD))
theorem OwS.gl {H : Heap} {l : List ByteArray} {d : D} {H' : Heap} (h : OwS H l d H') : ∃ ob, Gl H 9 1 (l.map sD) d H' ob := by
  obtain ⟨c, o, h1, h2, h3⟩ := h
  exact ⟨some c, .inr ⟨c, o, rfl, by rw [List.length_map]; exact h1, h2, h3⟩⟩
theorem OwS.of {H : Heap} {l : List ByteArray} {els : List (List D)} {d : D} {H' : Heap} {ob : Option Nat} (h : Gl H 9 1 els d H' ob) (he : els = l.map sD) (hl : l ≠ []) : OwS H l d H' := by
  subst he
  rcases h with ⟨_, _, h⟩ | ⟨c, o, _, h1, h2, h3⟩
  · exact absurd (by simpa using h) hl
  · exact ⟨c, o, by rw [h1, List.length_map], h2, h3⟩
set_option maxRecDepth 100000
/-- A copy: nil, or a row of one's own. -/
def ClR (T : TypeId) (sz : Nat) (els : List (List D)) (H : Heap) (d : D) (H' : Heap) : Prop := (d = .val (.slice none 0 0) ∧ els = [] ∧ H' = H) ∨ ∃ b o, H b = none ∧ d = .os b o sz 0 els.length ∧ H' = H.upd b (.row T o sz els)
def ClA (T : TypeId) (sz : Nat) (els : List (List D)) (d : D) (A : Heap) : Prop := (A = Heap.none ∧ d = .val (.slice none 0 0) ∧ els = []) ∨ ∃ b o, A = Heap.none.upd b (.row T o sz els) ∧ d = .os b o sz 0 els.length
theorem calmOr {v : D} {P : Prop} {R : Nat → Nat → Heap} {V : Nat → Nat → D} {p : D → Heap → Prop} : (∀ d A, ((A = Heap.none ∧ d = v ∧ P) ∨ ∃ b o, A = R b o ∧ d = V b o) → p d A) = ((P → p v Heap.none) ∧ ∀ b o, p (V b o) (R b o)) := propext
  ⟨fun h => ⟨fun hp => h _ _ (.inl ⟨rfl, rfl, hp⟩), fun b o => h _ _ (.inr ⟨b, o, rfl, rfl⟩)⟩, fun h d A e => by
    rcases e with ⟨rfl, rfl, hp⟩ | ⟨b, o, rfl, rfl⟩
    · exact h.1 hp
    · exact h.2 b o⟩
theorem evX {P Q : Prop} (hq : Q) (h : Q → P := by intro h; simp (maxSteps := 4000000) only [vX, vB, vT, vZ, vcOps, isCall, mmV, lkV, muV, keyVal, keyVals, mget_nil, ↓selV_eq, eqK, stepOp, clV, biV, bnU, nilU, binV, bInt, bStr, bNilP, bNilS, bNilM, nilOp, D.nilPtr, D.nilSl, D.nilMap, isBoolTy, unV, cwV, cvV, elsP, partV, fieldsOf, fieldV, faV, iaV, ixV, ldC, ldV, stV, D.cells, putAt, bxV, alV, bldD, placesOf, allSized, bdV, bsV, rowsD, mkV, bdN, slV, newsP, TD.notInt, TD.agg, azV, clrV, cpyV, cpV, lenV, minV, maxV, ncV, exV, condV, retV, thenQ, blockQ, Value.oneCell', forall_const, true_implies, ne_eq, reduceCtorEq, false_implies, eq_self, if_true, if_false, ↓reduceIte, Nat.reduceEqDiff, Int.reduceLE, Int.reduceLT, Int.reduceNeg, Int.reduceToNat, Nat.reduceAdd, Nat.reduceMul, Nat.reduceLeDiff, Nat.reduceMod, Nat.reduceSub, Int.reduceEq, Int.reduceNe, Int.reduceAdd, Int.reduceSub, Int.reduceMul, implies_true, wdf_fr, wdf_H, wdf_df, wdf_withH, thenQ_n, thenQ_r, blockQ_n, blockQ_r, roundQ_n, roundQ_r, noGotoQ_n, noGotoQ_r, noGotoQ_e, vcDS, vcWS, gD, calmOp, St.out, Heap.add_none, Heap.add_upd, disj_upd_iff, disj_none_eq, Option.some.injEq, or_true, true_or, or_false, false_or, ↓calmEq, ↓wildEq, hOf, fzOp, Bool.false_and, isWild, wildOp, St.outW, ↓calmOr, fs]; exact h) : P := h hq
theorem ClR.ok {P : Program} {f : FuncId} {args : List D} {T : TypeId} {sz : Nat} {els : List (List D)} (h : ∀ H, Does P f args H (ClR T sz els H)) (H : Heap) : CallOK P f args H (ClA T sz els) :=
  callOK_of (fun H'' _ => h H'') fun H'' d H' hk => by
    rcases hk with ⟨rfl, he, rfl⟩ | ⟨b, o, hb, rfl, rfl⟩
    · exact ⟨.none, Disj.none _, rfl, .inl ⟨rfl, rfl, he⟩⟩
    · exact ⟨Heap.none.upd b (.row T o sz els), disj_upd hb, (Heap.add_upd _ _ _).symm, .inr ⟨b, o, rfl, rfl⟩⟩
set_option maxHeartbeats 1000000 in
theorem clS_N (els : List (List D)) (H : Heap) (hl : els.length ≤ 1000000) : Does Tryd.prog 21 [.seq 1 els] H (ClR 9 1 els H) := by
  refine does_of _ _ Tryd.func21 rfl rfl Tryd.ntmps21 Tryd.results21 (by simp only [List.length_cons, List.length_nil]; omega) fun w0 Q hret => ?_
  (have fs := @i64.eq_1; (repeat (first | refine hGx _ ?_ | refine hNx _ ?_ | refine W_skip ?_ | refine W_exit ?_ | refine W_ret ?_ | refine W_label ?_ | refine W_scope ?_ | refine W_block ?_ | refine W_seq ?_ | ((first | refine tS fun N hNx => ?_ | refine WL_gE rfl rfl (by kernel_rfl) (by kernel_rfl) fun G hGx => ?_ | refine vcOpsS_sound (by kernel_rfl) ?_ | refine W_ifE fun A B hAx hBx => ?_); refine evT ?_; (first | refine hGx _ ?_ | refine hNx _ ?_ | refine hAx ?_ | refine hBx ?_ | skip)))); (try clear fs))
  intro b hb
  refine hNx _ ?_
  cases b with
  | true =>
    (have fs := @i64.eq_1; (repeat (first | refine hGx _ ?_ | refine hNx _ ?_ | refine W_skip ?_ | refine W_exit ?_ | refine W_ret ?_ | refine W_label ?_ | refine W_scope ?_ | refine W_block ?_ | refine W_seq ?_ | ((first | refine tS fun N hNx => ?_ | refine WL_gE rfl rfl (by kernel_rfl) (by kernel_rfl) fun G hGx => ?_ | refine vcOpsS_sound (by kernel_rfl) ?_ | refine W_ifE fun A B hAx hBx => ?_); refine evT ?_; (first | refine hGx _ ?_ | refine hNx _ ?_ | refine hAx ?_ | refine hBx ?_ | skip)))); (try clear fs))
    (first | (show Q .ret _) | (show Q .normal _) | skip); refine hret _ _ (by first | exact .inr rfl | exact .inl rfl) (by first | rfl | assumption | (simp only [put_df, withH_df]; assumption)) ?_; have fs := @i64.eq_1; refine evT ?_; clear fs
    have he : els = [] := Classical.byContradiction fun e => Bool.noConfusion (hb fun e0 => e (List.eq_nil_of_length_eq_zero e0))
    exact ⟨H, Heap.le_refl _, .inl ⟨rfl, he, rfl⟩⟩
  | false =>
    (have fs := @i64.eq_1; (repeat (first | refine hGx _ ?_ | refine hNx _ ?_ | refine W_skip ?_ | refine W_exit ?_ | refine W_ret ?_ | refine W_label ?_ | refine W_scope ?_ | refine W_block ?_ | refine W_seq ?_ | ((first | refine tS fun N hNx => ?_ | refine WL_gE rfl rfl (by kernel_rfl) (by kernel_rfl) fun G hGx => ?_ | refine vcOpsS_sound (by kernel_rfl) ?_ | refine W_ifE fun A B hAx hBx => ?_); refine evT ?_; (first | refine hGx _ ?_ | refine hNx _ ?_ | refine hAx ?_ | refine hBx ?_ | skip)))); (try clear fs))
    intro b1 hb1
    refine apV_grow (e := 9) ty24 rfl ty24 rfl ty9 rfl (by decide) (Heap.le_put (Heap.le_refl _) hb1) (.inr ⟨b1, 0, rfl, rfl, hb1, Heap.upd_same _ _ _⟩ : Gl H 9 1 [] (.os b1 0 1 0 0) (H.upd b1 (.row 9 0 1 [])) (some b1)) (new := els) (by exact ⟨rfl, rfl⟩) (by rw [List.length_nil]; show (_ + _) * 16 ≤ _; omega) fun d H6 ob6 hg6 hle6 _ => ?_
    (have fs := @i64.eq_1; (repeat (first | refine hGx _ ?_ | refine hNx _ ?_ | refine W_skip ?_ | refine W_exit ?_ | refine W_ret ?_ | refine W_label ?_ | refine W_scope ?_ | refine W_block ?_ | refine W_seq ?_ | ((first | refine tS fun N hNx => ?_ | refine WL_gE rfl rfl (by kernel_rfl) (by kernel_rfl) fun G hGx => ?_ | refine vcOpsS_sound (by kernel_rfl) ?_ | refine W_ifE fun A B hAx hBx => ?_); refine evT ?_; (first | refine hGx _ ?_ | refine hNx _ ?_ | refine hAx ?_ | refine hBx ?_ | skip)))); (try clear fs))
    (first | (show Q .ret _) | (show Q .normal _) | skip); refine hret _ _ (by first | exact .inr rfl | exact .inl rfl) (by first | rfl | assumption | (simp only [put_df, withH_df]; assumption)) ?_; have fs := @i64.eq_1; refine evT ?_; clear fs
    rw [List.nil_append] at hg6
    rcases hg6 with ⟨_, rfl, he⟩ | ⟨c, o, _, rfl, h2, h3⟩
    · exact ⟨H, hle6, .inl ⟨rfl, he, rfl⟩⟩
    · refine ⟨H.upd c (.row 9 o 1 els), fun b x hx => ?_, .inr ⟨c, o, h2, rfl, rfl⟩⟩
      by_cases e : b = c
      · rw [e, Heap.upd_same] at hx; rw [e, h3]; exact hx
      · rw [Heap.upd_ne e] at hx; exact hle6 _ _ hx
end Go.Proofs.YtiakpcnglihnbaaDoor
