/- Lemmas and contracts of functions, several texts in one: Q1 Q2 Q3. -/
import Derived.Test.YtgfhgeelfaalmaaGreatDoorK08
import Derived.Test.YtgfhgeelfaalmaaGreatDoorK05
import Derived.Test.YtgfhgeelfaalmaaGreatDoorK06
namespace Go.Proofs.YtgfhgeelfaalmaaGreatDoor
open Go.RowKit
set_option linter.unusedVariables false
set_option linter.unusedSimpArgs false
def chkJ (x : Int × Int) : Int := if x.1 ≠ 0 ∧ x.1 ≠ 1 then 14 else if x.1 = 0 ∧ x.2 ≠ 0 then 2 else if x.2 < 0 then 3 else 0
def chkPr : List (Int × Int) → Int
  | [] => 0
  | x :: l => if chkJ x ≠ 0 then chkJ x else chkPr l
def chkP (p : PlS) : Int := if p.lo < 0 then 3 else if 32 < p.pr.length then 19 else chkPr p.pr
def prjP (ts : List TyS) (i : Int) (x : Int × Int) : Int × Int :=
  if x.1 = 0 ∧ (tyAt ts i).k = 3 then ((tyAt ts i).e, 0) else if x.1 = 1 ∧ (tyAt ts i).k = 4 then (if x.2 < (tyAt ts i).ar.length then ((tyAt ts i).ar.getD x.2.toNat 0, 0) else (0, 3)) else (0, 22)
def tyP (ts : List TyS) : Int → List (Int × Int) → Int × Int
  | i, [] => (i, 0)
  | i, x :: l => if (prjP ts i x).2 ≠ 0 then prjP ts i x else tyP ts (prjP ts i x).1 l
def refP (ts : List TyS) : Int → List (Int × Int) → List TyS
  | _, [] => []
  | i, x :: l => (if x.1 = 0 then [tyAt ts i] else []) ++ refP ts (prjP ts i x).1 l
def lcAt (lc : List LcS) (a : Int) : LcS := lc.getD a.toNat ⟨ByteArray.empty, 0⟩
def typeOfP (ts : List TyS) (lc : List LcS) (p : PlS) : Int × Int :=
  if chkP p ≠ 0 then (0, chkP p) else if (lc.length : Int) ≤ p.lo then (0, 3) else tyP ts (lcAt lc p.lo).ty p.pr
def refsP (ts : List TyS) (lc : List LcS) (p : PlS) : List TyS := if (typeOfP ts lc p).2 ≠ 0 then [] else refP ts (lcAt lc p.lo).ty p.pr
def mutP (ts : List TyS) (lc : List LcS) (p : PlS) : Bool := decide ((typeOfP ts lc p).2 = 0) && (refsP ts lc p).all (·.m)
def regP (ts : List TyS) (lc : List LcS) (p : PlS) : List Int := (refsP ts lc p).map (·.r)
def hasDr (p : PlS) (k : Nat) : Bool := (p.pr.drop k).any fun x => decide (x.1 = 0)
def wfL (ts : List TyS) (lc : List LcS) : Prop := ∀ x ∈ lc, InR ts.length x.ty
theorem prj_err {ts : List TyS} {i : Int} {x : Int × Int} (h : (prjP ts i x).2 ≠ 0) : (prjP ts i x).1 = 0 := by
  unfold prjP at h ⊢
  split
  · rename_i h1; rw [if_pos h1] at h; exact absurd rfl h
  · rename_i h1
    rw [if_neg h1] at h
    split
    · rename_i h2
      rw [if_pos h2] at h
      split
      · rename_i h3; rw [if_pos h3] at h; exact absurd rfl h
      · rfl
    · rfl
theorem prj_in {ts : List TyS} (hw : wfT ts) {i : Int} {x : Int × Int} (hi : InR ts.length i) (h : (prjP ts i x).2 = 0) : InR ts.length (prjP ts i x).1 := by
  have hwa := wfT_at hw hi
  have hi2 := hi
  unfold InR at hi2 ⊢
  unfold prjP at h ⊢
  split
  · rename_i h1
    have := hwa.1 h1.2
    simp only; omega
  · rename_i h1
    rw [if_neg h1] at h
    split
    · rename_i h2
      rw [if_pos h2] at h
      split
      · rename_i h3
        have hm : ∀ y ∈ (tyAt ts i).ar, 0 ≤ y ∧ y < i := hwa.2
        by_cases h4 : x.2.toNat < (tyAt ts i).ar.length
        · rw [List.getD_eq_getElem?_getD, List.getElem?_eq_getElem h4]
          have := hm _ (List.getElem_mem h4)
          simp only [Option.getD_some]; omega
        · rw [List.getD_eq_getElem?_getD, List.getElem?_eq_none (by omega)]
          simp only [Option.getD_none]; omega
      · rename_i h3; rw [if_neg h3] at h; cases h
    · rename_i h2; rw [if_neg h2] at h; cases h
theorem tyP_e {ts : List TyS} {i : Int} {x : Int × Int} {l : List (Int × Int)} (h : (prjP ts i x).2 ≠ 0) : tyP ts i (x :: l) = prjP ts i x := if_pos h
theorem tyP_o {ts : List TyS} {i : Int} {x : Int × Int} {l : List (Int × Int)} (h : (prjP ts i x).2 = 0) : tyP ts i (x :: l) = tyP ts (prjP ts i x).1 l := if_neg fun k => k h
theorem tyP_snoc_e {ts : List TyS} {x : Int × Int} : ∀ {l : List (Int × Int)} {i : Int}, (tyP ts i l).2 ≠ 0 → tyP ts i (l ++ [x]) = tyP ts i l
  | [], i, h => absurd rfl h
  | y :: l, i, h => by
    rw [List.cons_append]
    by_cases h1 : (prjP ts i y).2 = 0
    · rw [tyP_o h1] at h
      rw [tyP_o h1, tyP_o h1]
      exact tyP_snoc_e h
    · rw [tyP_e h1, tyP_e h1]
theorem tyP_snoc_o {ts : List TyS} {x : Int × Int} : ∀ {l : List (Int × Int)} {i : Int}, (tyP ts i l).2 = 0 → tyP ts i (l ++ [x]) = prjP ts (tyP ts i l).1 x
  | [], i, h => by
    show tyP ts i [x] = prjP ts i x
    by_cases h1 : (prjP ts i x).2 = 0
    · rw [tyP_o h1]
      show ((prjP ts i x).1, (0 : Int)) = prjP ts i x
      rw [← h1]
    · rw [tyP_e h1]
  | y :: l, i, h => by
    rw [List.cons_append]
    by_cases h1 : (prjP ts i y).2 = 0
    · rw [tyP_o h1] at h
      rw [tyP_o h1, tyP_o h1]
      exact tyP_snoc_o h
    · rw [tyP_e h1] at h
      exact absurd h h1
theorem tyP_in {ts : List TyS} (hw : wfT ts) : ∀ (l : List (Int × Int)) (i : Int), InR ts.length i → (tyP ts i l).2 = 0 → InR ts.length (tyP ts i l).1
  | [], i, hi, _ => hi
  | x :: l, i, hi, h => by
    simp only [tyP] at h ⊢
    by_cases h1 : (prjP ts i x).2 ≠ 0
    · rw [if_pos h1] at h; exact absurd h h1
    · rw [if_neg h1] at h ⊢
      exact tyP_in hw l _ (prj_in hw hi (Classical.byContradiction h1)) h
theorem tyP_err {ts : List TyS} : ∀ (l : List (Int × Int)) (i : Int), (tyP ts i l).2 ≠ 0 → (tyP ts i l).1 = 0
  | [], i, h => absurd rfl h
  | x :: l, i, h => by
    simp only [tyP] at h ⊢
    by_cases h1 : (prjP ts i x).2 ≠ 0
    · rw [if_pos h1]; exact prj_err h1
    · rw [if_neg h1] at h ⊢; exact tyP_err l _ h
theorem lcAt_get {lc : List LcS} {a : Int} (h : 0 ≤ a ∧ a < lc.length) : ∃ h', lcAt lc a = lc[a.toNat]'h' := by
  refine ⟨by omega, ?_⟩
  unfold lcAt
  rw [List.getD_eq_getElem?_getD, List.getElem?_eq_getElem (by omega)]; rfl
theorem chkP_lo {p : PlS} (h : chkP p = 0) : 0 ≤ p.lo ∧ p.pr.length ≤ 32 ∧ chkPr p.pr = 0 := by
  unfold chkP at h
  split at h
  · cases h
  · split at h
    · cases h
    · exact ⟨by omega, by omega, h⟩
theorem chkPr_nn : ∀ {l : List (Int × Int)}, chkPr l = 0 → ∀ x ∈ l, (x.1 = 0 ∨ x.1 = 1) ∧ 0 ≤ x.2
  | x :: l, h, y, hy => by
    simp only [chkPr] at h
    by_cases h1 : chkJ x ≠ 0
    · rw [if_pos h1] at h; exact absurd h h1
    · rw [if_neg h1] at h
      rcases List.mem_cons.1 hy with rfl | hy
      · have h2 : chkJ y = 0 := Classical.byContradiction h1
        unfold chkJ at h2
        split at h2
        · cases h2
        · rename_i h3
          split at h2
          · cases h2
          · split at h2
            · cases h2
            · omega
      · exact chkPr_nn h y hy
theorem typeOf_ok {ts : List TyS} {lc : List LcS} {p : PlS} (h : (typeOfP ts lc p).2 = 0) : chkP p = 0 ∧ (0 ≤ p.lo ∧ p.lo < lc.length) ∧ typeOfP ts lc p = tyP ts (lcAt lc p.lo).ty p.pr := by
  unfold typeOfP at h ⊢
  by_cases h1 : chkP p ≠ 0
  · rw [if_pos h1] at h; exact absurd h h1
  · have h1' : chkP p = 0 := Classical.byContradiction h1
    rw [if_neg h1] at h ⊢
    by_cases h2 : (lc.length : Int) ≤ p.lo
    · rw [if_pos h2] at h; cases h
    · rw [if_neg h2] at h ⊢
      exact ⟨h1', ⟨(chkP_lo h1').1, by omega⟩, rfl⟩
theorem lcAt_in {ts : List TyS} {lc : List LcS} (hl : wfL ts lc) {a : Int} (h : 0 ≤ a ∧ a < lc.length) : InR ts.length (lcAt lc a).ty := by
  obtain ⟨h', e⟩ := lcAt_get h
  rw [e]; exact hl _ (List.getElem_mem h')
theorem typeOf_in {ts : List TyS} {lc : List LcS} {p : PlS} (hw : wfT ts) (hl : wfL ts lc) (h : (typeOfP ts lc p).2 = 0) : InR ts.length (typeOfP ts lc p).1 := by
  obtain ⟨_, h2, h3⟩ := typeOf_ok h
  rw [h3] at h ⊢
  exact tyP_in hw _ _ (lcAt_in hl h2) h
def stpP (ts : List TyS) : Nat → Int × Int → List (Int × Int) → List (Nat × Int × Int)
  | k, s, [] => [(k, s)]
  | k, s, x :: l => (k, s) :: (if s.2 ≠ 0 then [] else stpP ts (k + 1) (prjP ts s.1 x) l)
def stps (ts : List TyS) (lc : List LcS) (p : PlS) : List (Nat × Int × Int) :=
  if chkP p ≠ 0 then [(0, 0, chkP p)] else if (lc.length : Int) ≤ p.lo then [(0, 0, 3)] else stpP ts 0 ((lcAt lc p.lo).ty, 0) p.pr
theorem stpP_last (ts : List TyS) : ∀ (l : List (Int × Int)) (k : Nat) (s : Int × Int), ∃ j, (stpP ts k s l).getLast? = some (j, if s.2 ≠ 0 then s else tyP ts s.1 l)
  | [], k, s => ⟨k, by
    show some (k, s) = _
    by_cases h : s.2 = 0
    · rw [if_neg (fun h' => h' h)]; show _ = some (k, s.1, (0 : Int)); rw [← h]
    · rw [if_pos h]⟩
  | x :: l, k, s => by
    simp only [stpP]
    by_cases h : s.2 = 0
    · rw [if_neg (fun h' => h' h), if_neg (fun h' => h' h)]
      obtain ⟨j, hj⟩ := stpP_last ts l (k + 1) (prjP ts s.1 x)
      refine ⟨j, ?_⟩
      cases e : stpP ts (k + 1) (prjP ts s.1 x) l with
      | nil => rw [e] at hj; cases hj
      | cons a m => rw [List.getLast?_cons_cons, ← e, hj]; rfl
    · rw [if_pos h, if_pos h]; exact ⟨k, rfl⟩
theorem stps_last (ts : List TyS) (lc : List LcS) (p : PlS) : ∃ j, (stps ts lc p).getLast? = some (j, typeOfP ts lc p) := by
  unfold stps typeOfP
  by_cases h1 : chkP p = 0
  · have n1 : ¬ chkP p ≠ 0 := fun h => h h1
    rw [if_neg n1, if_neg n1]
    by_cases h2 : (lc.length : Int) ≤ p.lo
    · rw [if_pos h2, if_pos h2]; exact ⟨0, rfl⟩
    · rw [if_neg h2, if_neg h2]
      obtain ⟨j, hj⟩ := stpP_last ts p.pr 0 ((lcAt lc p.lo).ty, 0)
      exact ⟨j, hj⟩
  · rw [if_pos h1, if_pos h1]; exact ⟨0, rfl⟩
theorem stpP_in {ts : List TyS} (hw : wfT ts) : ∀ (l : List (Int × Int)) (k : Nat) (s : Int × Int), (s.2 = 0 → InR ts.length s.1) → ∀ x ∈ stpP ts k s l, x.2.2 = 0 → InR ts.length x.2.1
  | [], k, s, hs, x, hx, h0 => by
    simp only [stpP, List.mem_singleton] at hx
    subst hx; exact hs h0
  | y :: l, k, s, hs, x, hx, h0 => by
    simp only [stpP] at hx
    rcases List.mem_cons.1 hx with rfl | hx
    · exact hs h0
    · by_cases h : s.2 = 0
      · rw [if_neg (fun h' => h' h)] at hx
        exact stpP_in hw l _ _ (fun h2 => prj_in hw (hs h) h2) x hx h0
      · rw [if_pos h] at hx; cases hx
theorem stps_in {ts : List TyS} {lc : List LcS} {p : PlS} (hw : wfT ts) (hl : wfL ts lc) {x : Nat × Int × Int} (hx : x ∈ stps ts lc p) (h0 : x.2.2 = 0) : InR ts.length x.2.1 := by
  unfold stps at hx
  by_cases h1 : chkP p = 0
  · rw [if_neg (fun h' => h' h1)] at hx
    by_cases h2 : (lc.length : Int) ≤ p.lo
    · rw [if_pos h2] at hx
      rw [List.mem_singleton] at hx; subst hx; cases h0
    · rw [if_neg h2] at hx
      exact stpP_in hw _ _ _ (fun _ => lcAt_in hl ⟨(chkP_lo h1).1, by omega⟩) x hx h0
  · rw [if_pos h1] at hx
    rw [List.mem_singleton] at hx; subst hx; exact absurd h0 h1
theorem stpP_err {ts : List TyS} : ∀ (l : List (Int × Int)) (k : Nat) (s : Int × Int), ∀ x ∈ stpP ts k s l, x.2.2 ≠ 0 → (if s.2 ≠ 0 then s else tyP ts s.1 l) = x.2
  | [], k, s, x, hx, h0 => by
    simp only [stpP, List.mem_singleton] at hx
    subst hx; exact if_pos h0
  | y :: l, k, s, x, hx, h0 => by
    simp only [stpP] at hx
    rcases List.mem_cons.1 hx with rfl | hx
    · exact if_pos h0
    · by_cases h : s.2 = 0
      · rw [if_neg (fun h' => h' h)] at hx ⊢
        exact stpP_err l _ _ x hx h0
      · rw [if_pos h] at hx; cases hx
theorem stps_err {ts : List TyS} {lc : List LcS} {p : PlS} {x : Nat × Int × Int} (hx : x ∈ stps ts lc p) (h0 : x.2.2 ≠ 0) : (typeOfP ts lc p).2 ≠ 0 := by
  unfold stps at hx
  unfold typeOfP
  by_cases h1 : chkP p = 0
  · rw [if_neg (fun h' => h' h1)] at hx ⊢
    by_cases h2 : (lc.length : Int) ≤ p.lo
    · rw [if_pos h2]; simp
    · rw [if_neg h2] at hx ⊢
      have := stpP_err _ _ _ x hx h0
      rw [if_neg (fun h' => h' rfl)] at this
      simp only at this
      rw [this]; exact h0
  · rw [if_pos h1]; exact h1
def rfOf (ts : List TyS) (pr : List (Int × Int)) (pre : List (Nat × Int × Int)) : List TyS := pre.flatMap fun x => if x.1 < pr.length ∧ (pr.getD x.1 (1, 0)).1 = 0 then [tyAt ts x.2.1] else []
theorem rfOf_stp {ts : List TyS} {pr : List (Int × Int)} : ∀ (l : List (Int × Int)) (k : Nat) (s : Int × Int), pr.drop k = l → (∀ x ∈ stpP ts k s l, x.2.2 = 0) → rfOf ts pr (stpP ts k s l) = refP ts s.1 l
  | [], k, s, hd, hz => by
    have hk : ¬ k < pr.length := fun h => by
      have := congrArg List.length hd
      rw [List.length_drop, List.length_nil] at this; omega
    simp [rfOf, stpP, refP, hk]
  | y :: l, k, s, hd, hz => by
    have hk : k < pr.length := by
      have := congrArg List.length hd
      rw [List.length_drop, List.length_cons] at this; omega
    have hy : pr.getD k (1, 0) = y := by
      rw [List.drop_eq_getElem_cons hk] at hd
      injection hd with hd _
      rw [List.getD_eq_getElem?_getD, List.getElem?_eq_getElem hk, ← hd]; rfl
    have hd2 : pr.drop (k + 1) = l := by
      rw [List.drop_eq_getElem_cons hk] at hd
      injection hd
    have hs : s.2 = 0 := hz (k, s) (by simp [stpP])
    have h2 : ∀ x ∈ stpP ts (k + 1) (prjP ts s.1 y) l, x.2.2 = 0 := fun x hx => hz x (by
      simp only [stpP]
      rw [if_neg (fun h' => h' hs)]
      exact List.mem_cons_of_mem _ hx)
    have ih := rfOf_stp l (k + 1) (prjP ts s.1 y) hd2 h2
    simp only [stpP]
    rw [if_neg (fun h' => h' hs)]
    unfold rfOf at ih ⊢
    rw [List.flatMap_cons, ih, refP, hy]
    simp [hk]
theorem rfOf_all {ts : List TyS} {lc : List LcS} {p : PlS} (h : (typeOfP ts lc p).2 = 0) : rfOf ts p.pr (stps ts lc p) = refP ts (lcAt lc p.lo).ty p.pr := by
  have hz : ∀ x ∈ stps ts lc p, x.2.2 = 0 := fun x hx => Classical.byContradiction fun h0 => stps_err hx h0 h
  obtain ⟨h1, h2, _⟩ := typeOf_ok h
  unfold stps at hz ⊢
  rw [if_neg (fun h' => h' h1), if_neg (by omega)] at hz ⊢
  exact rfOf_stp _ _ _ rfl hz
theorem rfOf_snoc (ts : List TyS) (pr : List (Int × Int)) (pre : List (Nat × Int × Int)) (x : Nat × Int × Int) : rfOf ts pr (pre ++ [x]) = rfOf ts pr pre ++ (if x.1 < pr.length ∧ (pr.getD x.1 (1, 0)).1 = 0 then [tyAt ts x.2.1] else []) := by
  unfold rfOf; rw [List.flatMap_append]; simp
theorem stpP_len {ts : List TyS} : ∀ (l : List (Int × Int)) (k : Nat) (s : Int × Int), (stpP ts k s l).length ≤ l.length + 1
  | [], k, s => by simp [stpP]
  | y :: l, k, s => by
    simp only [stpP]
    split
    · simp
    · have := stpP_len (ts := ts) l (k + 1) (prjP ts s.1 y)
      simp only [List.length_cons]; omega
theorem stps_len {ts : List TyS} {lc : List LcS} {p : PlS} : (stps ts lc p).length ≤ 33 := by
  unfold stps
  by_cases h1 : chkP p = 0
  · rw [if_neg (fun h' => h' h1)]
    split
    · simp
    · have := stpP_len (ts := ts) p.pr 0 ((lcAt lc p.lo).ty, 0)
      have := (chkP_lo h1).2.1
      omega
  · rw [if_pos h1]; simp
set_option maxRecDepth 100000
theorem get_prs {l : List (Int × Int)} {i : Nat} (h : i < l.length) : (l.map pD)[i]? = some [.val (.int .i64 l[i].1), .val (.int .i64 l[i].2)] := by
  rw [List.getElem?_map, List.getElem?_eq_getElem h]; rfl
theorem chkPr_drop {l : List (Int × Int)} {i : Nat} (h : i < l.length) : chkPr (l.drop i) = if chkJ l[i] ≠ 0 then chkJ l[i] else chkPr (l.drop (i + 1)) := by
  rw [List.drop_eq_getElem_cons h]; rfl
set_option maxHeartbeats 1000000 in
theorem pcheck_N (p : PlS) (H : Heap) (hp : big p.pr.length) : Does Tryz.prog 128 [.agg (plD p)] H fun d H' => d = i64 (chkP p) ∧ H = H' := by
  unfold big at hp
  have hml : (List.map pD p.pr).length = p.pr.length := List.length_map _
  refine Does.frz (K := fun d => d = i64 (chkP p)) ?_
  refine does_of _ _ Tryz.func128 rfl rfl Tryz.ntmps128 Tryz.results128 (by simp only [List.length_cons, List.length_nil]; omega) fun w0 g0 Q hret => ?_
  refine tq (cj2 @i64.eq_1 @plD.eq_1) ?_; intro Nx hNx Gx hGx
  intro c1 hc1
  refine hNx _ ?_
  refine frz 1 hc1 ?_
  by_cases h0 : p.lo < 0
  · have p1 : (p.lo < 0) = True := eq_true h0
    have hd : chkP p = 3 := if_pos h0
    refine tq (cj2 @i64.eq_1 p1) ?_; intro Nx hNx Gx hGx
    refine rt hret @i64.eq_1 ?_
    exact ⟨_, Heap.le_refl _, Heap.le_refl _, _, frz_refl (Heap.le_refl _), by rw [hd]⟩
  have p1 : (p.lo < 0) = False := eq_false h0
  by_cases h1 : 32 < p.pr.length
  · have p2 : ((p.pr.length : Int) > 32) = True := eq_true (by omega)
    have hd : chkP p = 19 := by unfold chkP; rw [if_neg h0, if_pos h1]
    refine tq (cj4 @i64.eq_1 p1 hml p2) ?_; intro Nx hNx Gx hGx
    refine rt hret @i64.eq_1 ?_
    exact ⟨_, Heap.le_refl _, Heap.le_refl _, _, frz_refl (Heap.le_refl _), by rw [hd]⟩
  have p2 : ((p.pr.length : Int) > 32) = False := eq_false (by omega)
  have hd : chkP p = chkPr p.pr := by unfold chkP; rw [if_neg h0, if_neg h1]
  rw [hd] at hret
  refine tq (cj4 @i64.eq_1 p1 hml p2) ?_; intro Nx hNx Gx hGx
  refine W_loopN p.pr.length (fun i s => s.df = [] ∧ s.fr 15 = .seq 2 (p.pr.map pD) ∧ s.fr 16 = i64 p.pr.length ∧ s.fr 17 = i64 i ∧ H.le s.H ∧ chkPr p.pr = chkPr (p.pr.drop i)) ⟨rfl, rfl, rfl, rfl, Heap.le_refl _, rfl⟩ ?_
  rintro i s hi ⟨hdf, f15, f16, f17, hle, hck⟩
  have hx : (i : Int).toNat = i := Int.toNat_natCast _
  have h00 : (0 : Int) ≤ (i : Int) := Int.natCast_nonneg _
  by_cases hil : i < p.pr.length
  case neg =>
    have q1 : ((i : Int) < (p.pr.length : Int)) = False := eq_false (by omega)
    rw [List.drop_eq_nil_of_le (by omega)] at hck
    refine tq (cj5 f15 f16 f17 @i64.eq_1 q1) ?_; intro Nx hNx Gx hGx
    refine rt hret hdf ?_
    exact ⟨_, Heap.le_refl _, hle, _, frz_refl hle, by rw [hck]; rfl⟩
  have hil' : (i : Int) < (p.pr.length : Int) := by omega
  have q1 : ((i : Int) < (p.pr.length : Int)) = True := eq_true hil'
  have w3 : IntKind.i64.wrap ((i : Int) + 1) = ((i + 1 : Nat) : Int) := by rw [wrap_i64_of (by omega)]; omega
  have hgi := get_prs hil
  rw [chkPr_drop hil] at hck
  rcases he : p.pr[i] with ⟨k, f⟩
  rw [he] at hck hgi
  simp only at hgi
  refine tq (cj10 f15 f16 f17 @i64.eq_1 q1 hml hgi hx h00 hil) ?_; intro Nx hNx Gx hGx
  intro c4 hc4
  refine hNx _ ?_
  have hc40 : H c4 = none := by
    cases e : H c4 with
    | none => rfl
    | some y => rw [hle c4 y e] at hc4; cases hc4
  have hle4 := Heap.le_put (x := .row 107 0 2 [[i64 k, i64 f]]) hle hc40
  have z4 : (s.H.upd c4 (.row 107 0 2 [[i64 k, i64 f]])) c4 = some (.row 107 0 2 [[i64 k, i64 f]]) := Heap.upd_same _ _ _
  have hk2 : chkJ (k, f) = if k ≠ 0 ∧ k ≠ 1 then 14 else if k = 0 ∧ f ≠ 0 then 2 else if f < 0 then 3 else 0 := rfl
  rcases tfB (k = 0) with ⟨_, k0, ⟨rfl, h0⟩ | ⟨rfl, h0⟩⟩
  · rcases tfB (f = 0) with ⟨_, f0, ⟨rfl, h1⟩ | ⟨rfl, h1⟩⟩
    · have f1 : (f < 0) = False := eq_false (by omega)
      rw [if_neg (fun h => h.1 h0), if_neg (fun h => h.2 h1), if_neg (by omega)] at hk2
      rw [if_neg (fun h => h hk2)] at hck
      refine tq (cj9 f15 f16 f17 @i64.eq_1 w3 k0 z4 f0 f1) ?_; intro Nx hNx Gx hGx; exact ⟨hil, hdf, f15, f16, rfl, hle4, hck⟩
    · rw [if_neg (fun h => h.1 h0), if_pos ⟨h0, h1⟩] at hk2
      rw [if_pos (by rw [hk2]; decide), hk2] at hck
      refine tq (cj8 f15 f16 f17 @i64.eq_1 w3 k0 z4 f0) ?_; intro Nx hNx Gx hGx; refine rt hret hdf ?_; exact ⟨_, Heap.le_refl _, hle4, _, frz_refl hle4, by rw [hck]; rfl⟩
  rcases tfB (k = 1) with ⟨_, k1, ⟨rfl, h2⟩ | ⟨rfl, h2⟩⟩
  case inr =>
    rw [if_pos ⟨h0, h2⟩] at hk2
    rw [if_pos (by rw [hk2]; decide), hk2] at hck
    refine tq (cj8 f15 f16 f17 @i64.eq_1 w3 k0 z4 k1) ?_; intro Nx hNx Gx hGx; refine rt hret hdf ?_; exact ⟨_, Heap.le_refl _, hle4, _, frz_refl hle4, by rw [hck]; rfl⟩
  rcases tfB (f < 0) with ⟨_, f1, ⟨rfl, h1⟩ | ⟨rfl, h1⟩⟩
  · rw [if_neg (fun h => h.2 h2), if_neg (fun h => h0 h.1), if_pos h1] at hk2
    rw [if_pos (by rw [hk2]; decide), hk2] at hck
    refine tq (cj9 f15 f16 f17 @i64.eq_1 w3 k0 z4 k1 f1) ?_; intro Nx hNx Gx hGx; refine rt hret hdf ?_; exact ⟨_, Heap.le_refl _, hle4, _, frz_refl hle4, by rw [hck]; rfl⟩
  · rw [if_neg (fun h => h.2 h2), if_neg (fun h => h0 h.1), if_neg h1] at hk2
    rw [if_neg (fun h => h hk2)] at hck
    refine tq (cj9 f15 f16 f17 @i64.eq_1 w3 k0 z4 k1 f1) ?_; intro Nx hNx Gx hGx; exact ⟨hil, hdf, f15, f16, rfl, hle4, hck⟩
set_option maxHeartbeats 1000000 in
theorem proj_N (ts : List TyS) (i : Int) (x : Int × Int) (H : Heap) (hi : InR ts.length i) (hx : 0 ≤ x.2) (ha : (tyAt ts i).ar.length ≤ 1000000) : Does Tryz.prog 129 [.seq 5 (ts.map tyD), i64 i, .agg [i64 x.1, i64 x.2]] H fun d H' => d = .agg [i64 (prjP ts i x).1, i64 (prjP ts i x).2] ∧ H = H' := by
  refine Does.frz (K := fun d => d = .agg [i64 (prjP ts i x).1, i64 (prjP ts i x).2]) ?_
  obtain ⟨t, ht⟩ : ∃ t, t = tyAt ts i := ⟨_, rfl⟩
  have hgi := ty_get hi
  have hil : i.toNat < ts.length := by unfold InR at hi; omega
  have h00 : 0 ≤ i := by unfold InR at hi; omega
  have hml : (List.map tyD ts).length = ts.length := List.length_map _
  obtain ⟨k, f⟩ := x
  have hp : prjP ts i (k, f) = if k = 0 ∧ t.k = 3 then (t.e, 0) else if k = 1 ∧ t.k = 4 then (if f < t.ar.length then (t.ar.getD f.toNat 0, 0) else (0, 3)) else (0, 22) := by rw [ht]; rfl
  rw [← ht] at hgi ha
  obtain ⟨y, hy⟩ : ∃ y, y = prjP ts i (k, f) := ⟨_, rfl⟩
  rw [← hy] at hp ⊢
  clear hy ht
  obtain ⟨tk, tm, tr, te, ta⟩ := t
  simp only [tyD] at hgi
  simp only at ha hx hp
  have hla : (List.map iD ta).length = ta.length := List.length_map _
  refine does_of _ _ Tryz.func129 rfl rfl Tryz.ntmps129 Tryz.results129 (by simp only [List.length_cons, List.length_nil]; omega) fun w0 g0 Q hret => ?_
  refine tq (cj5 @i64.eq_1 hgi hil h00 hml) ?_; intro Nx hNx Gx hGx
  intro c5 hc5 c6 hc6
  refine hNx _ ?_
  have hne : c5 ≠ c6 := Heap.ne_of (Heap.upd_same _ _ _) hc6
  obtain ⟨_, hc60⟩ := Heap.upd_none.1 hc6
  refine W_frzp 5 rfl ((Heap.upd_ne hne).trans (Heap.upd_same _ _ _)) rfl ?_
  refine W_less (H.upd c6 (.row 160 0 2 [[i64 0, i64 0]])) (fun x z hz => ?_) ?_
  · show (((H.upd c5 _).upd c6 _).del c5) x = _
    by_cases e6 : x = c6
    · subst e6
      rw [Heap.upd_same] at hz
      rw [Heap.del_ne hne.symm, Heap.upd_same]
      exact hz
    rw [Heap.upd_ne e6] at hz
    have e5 : x ≠ c5 := fun e => by rw [e, hc5] at hz; cases hz
    rw [Heap.del_ne e5, Heap.upd_ne e6, Heap.upd_ne e5]
    exact hz
  simp only [St.frzp, List.drop]
  have hle6 : H.le (H.upd c6 (.row 160 0 2 [[i64 0, i64 0]])) := Heap.le_put (Heap.le_refl _) hc60
  have z6 : (H.upd c6 (.row 160 0 2 [[i64 0, i64 0]])) c6 = some (.row 160 0 2 [[i64 0, i64 0]]) := Heap.upd_same _ _ _
  obtain ⟨H6, hH6⟩ : ∃ H6, H6 = H.upd c6 (.row 160 0 2 [[i64 0, i64 0]]) := ⟨_, rfl⟩
  rw [← hH6] at hle6 z6 ⊢
  refine tq (cj5 @i64.eq_1 hgi hil h00 hml) ?_; intro Nx hNx Gx hGx
  intro c7 hc7
  refine hNx _ ?_
  refine frz 7 hc7 ?_
  have fin : ∀ (y : Int × Int), H.le (H6.upd c6 (.row 160 0 2 [[i64 y.1, i64 y.2]])) := fun y b x hb => by
    rw [Heap.upd_ne (fun e => by rw [e, hc60] at hb; cases hb)]
    exact hle6 b x hb
  rcases tfB (k = 0) with ⟨_, k0, ⟨rfl, h0⟩ | ⟨rfl, h0⟩⟩
  · have k1 : (k = 1) = False := eq_false (by omega)
    rcases tfB (tk = 3) with ⟨_, q3, ⟨rfl, h3⟩ | ⟨rfl, h3⟩⟩
    · have e : y = (te, 0) := hp.trans (if_pos ⟨h0, h3⟩)
      refine tq (cj5 @i64.eq_1 k0 z6 hla q3) ?_; intro Nx hNx Gx hGx; refine rt hret @i64.eq_1 ?_; exact ⟨_, Heap.le_refl _, fin (_, _), _, frz_refl (fin (_, _)), by rw [e]⟩
    · have e : y = (0, 22) := hp.trans (by rw [if_neg (fun h => h3 h.2), if_neg (fun h => by omega)])
      refine tq (cj6 @i64.eq_1 k0 z6 hla q3 k1) ?_; intro Nx hNx Gx hGx; refine rt hret @i64.eq_1 ?_; exact ⟨_, Heap.le_refl _, fin (_, _), _, frz_refl (fin (_, _)), by rw [e]⟩
  rcases tfB (k = 1) with ⟨_, k1, ⟨rfl, h1⟩ | ⟨rfl, h1⟩⟩
  case inr =>
    have e : y = (0, 22) := hp.trans (by rw [if_neg (fun h => h0 h.1), if_neg (fun h => h1 h.1)])
    refine tq (cj5 @i64.eq_1 k0 z6 hla k1) ?_; intro Nx hNx Gx hGx; refine rt hret @i64.eq_1 ?_; exact ⟨_, Heap.le_refl _, fin (_, _), _, frz_refl (fin (_, _)), by rw [e]⟩
  rcases tfB (tk = 4) with ⟨_, q4, ⟨rfl, h4⟩ | ⟨rfl, h4⟩⟩
  case inr =>
    have e : y = (0, 22) := hp.trans (by rw [if_neg (fun h => h0 h.1), if_neg (fun h => h4 h.2)])
    refine tq (cj6 @i64.eq_1 k0 z6 hla k1 q4) ?_; intro Nx hNx Gx hGx; refine rt hret @i64.eq_1 ?_; exact ⟨_, Heap.le_refl _, fin (_, _), _, frz_refl (fin (_, _)), by rw [e]⟩
  rw [if_neg (fun h => h0 h.1), if_pos ⟨h1, h4⟩] at hp
  rcases tfB (f < (ta.length : Int)) with ⟨_, f1, ⟨rfl, h5⟩ | ⟨rfl, h5⟩⟩
  · have hfl : f.toNat < ta.length := by omega
    have hgf : (ta.map iD)[f.toNat]? = some [i64 ta[f.toNat]] := get_ints hfl
    have e : y = (ta[f.toNat], 0) := hp.trans (by rw [if_pos h5, List.getD_eq_getElem?_getD, List.getElem?_eq_getElem hfl]; rfl)
    refine tq (cj10 @i64.eq_1 k0 z6 hla k1 q4 f1 hgf hx hfl) ?_; intro Nx hNx Gx hGx; refine rt hret @i64.eq_1 ?_; exact ⟨_, Heap.le_refl _, fin (_, _), _, frz_refl (fin (_, _)), by rw [e]⟩
  · have e : y = (0, 3) := hp.trans (if_neg h5)
    refine tq (cj7 @i64.eq_1 k0 z6 hla k1 q4 f1) ?_; intro Nx hNx Gx hGx; refine rt hret @i64.eq_1 ?_; exact ⟨_, Heap.le_refl _, fin (_, _), _, frz_refl (fin (_, _)), by rw [e]⟩
end Go.Proofs.YtgfhgeelfaalmaaGreatDoor
