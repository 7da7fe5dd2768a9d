/- Lemmas and contracts of functions, several texts in one: Q7 Q8. -/
import Derived.Test.YtgfhgeelfaalmaaGreatDoorK24
import Derived.Test.YtgfhgeelfaalmaaGreatDoorK05
namespace Go.Proofs.YtgfhgeelfaalmaaGreatDoor
open Go.RowKit
set_option maxRecDepth 100000
set_option linter.unusedVariables false
set_option maxRecDepth 100000
set_option linter.unusedSimpArgs false
theorem pr_get {l : List (Int × Int)} {k : Nat} (h : k < l.length) : (l.map pD)[k]? = some [i64 (l.getD k (1, 0)).1, i64 (l.getD k (1, 0)).2] := by
  rw [List.getD_eq_getElem?_getD, List.getElem?_eq_getElem h]; exact get_prs h
theorem rfOf_len (ts : List TyS) (pr : List (Int × Int)) (pre : List (Nat × Int × Int)) : (rfOf ts pr pre).length ≤ pre.length := by
  unfold rfOf
  induction pre with
  | nil => simp
  | cons x l ih =>
    rw [List.flatMap_cons, List.length_append, List.length_cons]
    have : (if x.1 < pr.length ∧ (pr.getD x.1 (1, 0)).1 = 0 then [tyAt ts x.2.1] else []).length ≤ 1 := by split <;> simp
    omega
def RfI (H : Heap) (ts : List TyS) (pr : List (Int × Int)) (c6 c7 c8 : Nat) (pre : List (Nat × Int × Int)) (Hc : Heap) : Prop :=
  (∀ x ∈ pre, x.2.2 = 0) ∧ H.le Hc ∧ Hc c6 = some (.row 24 0 1 [[.val (.slice none 0 0)]]) ∧ Hc c7 = some (.row 4 0 1 [[.val (.bool false)]]) ∧ ∃ x ob, Hc c8 = some (.row 24 0 1 [[x]]) ∧ Gl H 62 5 ((rfOf ts pr pre).map tyD) x Hc ob ∧ ob ≠ some c6 ∧ ob ≠ some c7 ∧ ob ≠ some c8
def RfX (H : Heap) (c6 c7 : Nat) (er : Int) (e : Exit) (Hc : Heap) : Prop :=
  e = .ret ∧ er ≠ 0 ∧ H.le Hc ∧ Hc c6 = some (.row 24 0 1 [[.val (.slice none 0 0)]]) ∧ Hc c7 = some (.row 4 0 1 [[.val (.bool false)]])
set_option maxHeartbeats 1000000 in
theorem refs_N (ts : List TyS) (lc : List LcS) (p : PlS) (H : Heap) (hw : wfT ts) (hl : wfL ts lc) (ha : arN ts) (hp : big p.pr.length) : Does Tryz.prog 108 [.seq 5 (ts.map tyD), .seq 2 (lc.map lcD), .agg (plD p)] H fun d H' => d = .tup [.seq 5 ((refsP ts lc p).map tyD), .val (.bool (decide ((typeOfP ts lc p).2 = 0)))] ∧ H = H' := by
  have hmp : (List.map pD p.pr).length = p.pr.length := List.length_map _
  have hmt : (List.map tyD ts).length = ts.length := List.length_map _
  refine Does.frz (K := fun d => d = .tup [.seq 5 ((refsP ts lc p).map tyD), .val (.bool (decide ((typeOfP ts lc p).2 = 0)))]) ?_
  refine does_ofM _ _ Tryz.func108 rfl rfl Tryz.ntmps108 Tryz.results108 (by simp only [List.length_cons, List.length_nil]; omega) fun w0 g0 Q hret => ?_
  refine tq (cj2 @i64.eq_1 @plD.eq_1) ?_; intro Nx hNx Gx hGx
  intro c3 hc3 c5 hc5 c6 hc6 c7 hc7
  refine hNx _ ?_
  obtain ⟨n53, hc5⟩ := Heap.upd_none.1 hc5
  obtain ⟨n65, hc6⟩ := Heap.upd_none.1 hc6
  obtain ⟨n63, hc6⟩ := Heap.upd_none.1 hc6
  obtain ⟨n76, hc7⟩ := Heap.upd_none.1 hc7
  obtain ⟨n75, hc7⟩ := Heap.upd_none.1 hc7
  obtain ⟨n73, hc7⟩ := Heap.upd_none.1 hc7
  refine W_frzp 3 rfl ((Heap.upd_ne n73.symm).trans ((Heap.upd_ne n63.symm).trans ((Heap.upd_ne n53.symm).trans (Heap.upd_same _ _ _)))) rfl ?_
  refine W_frzp 5 rfl ((Heap.del_ne n53).trans ((Heap.upd_ne n75.symm).trans ((Heap.upd_ne n65.symm).trans (Heap.upd_same _ _ _)))) rfl ?_
  refine W_less ((H.upd c6 (.row 24 0 1 [[.val (.slice none 0 0)]])).upd c7 (.row 4 0 1 [[.val (.bool false)]])) (fun x z hz => ?_) ?_
  · show ((((((H.upd c3 _).upd c5 _).upd c6 _).upd c7 _).del c3).del c5) x = _
    by_cases e7 : x = c7
    · subst e7
      rw [Heap.upd_same] at hz
      rw [Heap.del_ne n75, Heap.del_ne n73, Heap.upd_same]
      exact hz
    rw [Heap.upd_ne e7] at hz
    by_cases e6 : x = c6
    · subst e6
      rw [Heap.upd_same] at hz
      rw [Heap.del_ne n65, Heap.del_ne n63, Heap.upd_ne n76.symm, Heap.upd_same]
      exact hz
    rw [Heap.upd_ne e6] at hz
    have e3 : x ≠ c3 := fun e => by rw [e, hc3] at hz; cases hz
    have e5 : x ≠ c5 := fun e => by rw [e, hc5] at hz; cases hz
    rw [Heap.del_ne e5, Heap.del_ne e3, Heap.upd_ne e7, Heap.upd_ne e6, Heap.upd_ne e5, Heap.upd_ne e3]
    exact hz
  have hle0 : H.le ((H.upd c6 (.row 24 0 1 [[.val (.slice none 0 0)]])).upd c7 (.row 4 0 1 [[.val (.bool false)]])) := Heap.le_put (Heap.le_put (Heap.le_refl _) hc6) hc7
  have e60 : ((H.upd c6 (.row 24 0 1 [[.val (.slice none 0 0)]])).upd c7 (.row 4 0 1 [[.val (.bool false)]])) c6 = some (.row 24 0 1 [[.val (.slice none 0 0)]]) := (Heap.upd_ne n76.symm).trans (Heap.upd_same _ _ _)
  have e70 : ((H.upd c6 (.row 24 0 1 [[.val (.slice none 0 0)]])).upd c7 (.row 4 0 1 [[.val (.bool false)]])) c7 = some (.row 4 0 1 [[.val (.bool false)]]) := Heap.upd_same _ _ _
  obtain ⟨H2, hH2⟩ : ∃ H2, H2 = (H.upd c6 (.row 24 0 1 [[.val (.slice none 0 0)]])).upd c7 (.row 4 0 1 [[.val (.bool false)]]) := ⟨_, rfl⟩
  rw [← hH2] at hle0 e60 e70 ⊢
  clear hH2
  simp only [St.frzp, List.drop]
  refine tq @i64.eq_1 ?_; intro Nx hNx Gx hGx
  intro c8 hc8
  refine hNx _ ?_
  have n86 : c8 ≠ c6 := fun e => by rw [e, e60] at hc8; cases hc8
  have n87 : c8 ≠ c7 := fun e => by rw [e, e70] at hc8; cases hc8
  have hc80 : H c8 = none := Heap.none_of hle0 hc8
  refine tq @i64.eq_1 ?_; intro Nx hNx Gx hGx
  have hpath := path_N ts lc p (H2.upd c8 (.row 24 0 1 [[.val (.slice none 0 0)]]))
  simp only [plD] at hpath
  refine hpath.mono ?_
  rintro d _ ⟨rfl, rfl⟩
  refine tq @i64.eq_1 ?_; intro Nx hNx Gx hGx
  refine W_gen (fun s => s.df = [] ∧ s.fr 3 = .rp [.seq 5 (ts.map tyD)] ∧ s.fr 5 = .rp [i64 p.lo, .seq 2 (p.pr.map pD)] ∧ s.fr 6 = .ep c6 0 1 0 0 ∧ s.fr 7 = .ep c7 0 1 0 0 ∧ s.fr 8 = .ep c8 0 1 0 0 ∧ s.fr 14 = .fn 127 [.rp (plD p), .rp [.seq 2 (lc.map lcD)], .rp [.seq 5 (ts.map tyD)]] ∧ H.le s.H ∧ RfI H.nob ts p.pr c6 c7 c8 [] s.H) ⟨rfl, rfl, rfl, rfl, rfl, rfl, rfl, Heap.le_put hle0 hc80, fun x h => by (cases h), Heap.le_trans (nob_le H) (Heap.le_put hle0 hc80), (Heap.upd_ne n86.symm).trans e60, (Heap.upd_ne n87.symm).trans e70, _, none, Heap.upd_same _ _ _, Gl.nil _ _ _ _, by simp, by simp, by simp⟩ ?_
  rintro s ⟨hdf, f3, f5, f6, f7, f8, f14, hleS, hI0⟩
  refine W_rangeFunc rfl (path_it ts lc p hw hl ha hp) f14 (fun _ _ => trivial) (by simp) (fun _ => rfl) (RfI H.nob ts p.pr c6 c7 c8) (fun e _ => RfX H.nob c6 c7 (typeOfP ts lc p).2 e) ?_ ?_ ?_ ?_ ?_ ?_
  · rintro pre H1 H2 hr ⟨h0, h1, h6, h7, x, ob, h2, h3, h4⟩
    refine ⟨h0, le_rleP (nob_no H) h1 hr, hr _ _ h6 (by simp), hr _ _ h7 (by simp), x, ob, hr _ _ h2 (by simp), ?_, h4⟩
    rcases h3 with h3 | ⟨c, o, g1, g2, g3, g4⟩
    · exact .inl h3
    · exact .inr ⟨c, o, g1, g2, g3, hr _ _ g4 (by simp)⟩
  · rintro e pre H1 H2 hr ⟨h1, h2, h3, h4, h5⟩
    exact ⟨h1, h2, le_rleP (nob_no H) h3 hr, hr _ _ h4 (by simp), hr _ _ h5 (by simp)⟩
  · exact hI0
  · rintro l w1 pre x Hc o g9 hpre ⟨g1, g2, g3, g4, xs, ob, g5, g6, k6, k7, k8⟩ hob hl2
    rw [pstD, rst2]
    refine tq (cj6 @i64.eq_1 wdf_fr wdf_H wdf_df wdf_withH hdf) ?_; intro Nx hNx Gx hGx
    intro c10 hc10
    refine hNx _ ?_
    simp only [thenQ_n]
    refine ⟨rfl, objs.new (objs_refl _) hc10, fun w2 y g10 => ?_⟩
    have l5 : l ≠ c10 := fun e => by rw [e, hc10] at hl2; cases hl2
    have nl : ∀ c t o sz els, Hc c = some (.row t o sz els) → c ≠ l := fun c t o sz els h e => by rw [e, hl2] at h; cases h
    have n6 := nl _ _ _ _ _ g3
    have n7 := nl _ _ _ _ _ g4
    have n8 := nl _ _ _ _ _ g5
    have hxm : x ∈ stps ts lc p := hpre.subset (by simp)
    refine W_frzp 10 rfl (b := c10) (by simp only [put_H, wdf_H, withH_H]; rw [Heap.upd_ne (Ne.symm l5), Heap.upd_same]) rfl ?_
    simp only [St.frzp, put_H, wdf_H, withH_H, withH_put, wdf_withH, withH_withH, Heap.del_upd_ne (Ne.symm l5), Heap.del_upd_same, Heap.del_none hc10, List.drop]
    have hno5 := fun (x : HObj) (hx : ∀ o, x ≠ .obj o) => objs_drop (H := Hc) (b := c10) (l := l) (y := y) hx
    have r6 : (Hc.upd l (.obj y)) c6 = _ := (Heap.upd_ne n6).trans g3
    have r7 : (Hc.upd l (.obj y)) c7 = _ := (Heap.upd_ne n7).trans g4
    have r8 : (Hc.upd l (.obj y)) c8 = _ := (Heap.upd_ne n8).trans g5
    have r7' : ∀ z, ((Hc.upd l (.obj y)).upd c6 z) c7 = _ := fun z => (Heap.upd_ne n76).trans r7
    by_cases h0 : x.2.2 = 0
    case neg =>
      have q1 : (x.2.2 = 0) = False := eq_false h0
      refine tq (cj10 f6 f7 @i64.eq_1 wdf_fr wdf_H wdf_df wdf_withH q1 r6 r7') ?_; intro Nx hNx Gx hGx
      simp only [roundQ_r, blockQ_r, thenQ_r]
      refine ⟨rfl, ((hno5 _ (by simp)).row r6 (by simp)).row (r7' _) (by simp), rfl, stps_err hxm h0, Heap.le_put (Heap.le_put (le_rleP (nob_no H) g2 (rle_obj hl2)) (nob_none hc6)) (nob_none hc7), (Heap.upd_ne n76.symm).trans (Heap.upd_same _ _ _), Heap.upd_same _ _ _⟩
    have q1 : (x.2.2 = 0) = True := eq_true h0
    have hx : (x.1 : Int).toNat = x.1 := Int.toNat_natCast _
    have h00 : (0 : Int) ≤ (x.1 : Int) := Int.natCast_nonneg _
    have hall : ∀ z ∈ pre ++ [x], z.2.2 = 0 := fun z hz => by
      rcases List.mem_append.1 hz with hz | hz
      · exact g1 z hz
      · rw [List.mem_singleton] at hz; subst hz; exact h0
    have hin := stps_in hw hl hxm h0
    have hg8 : Gl H.nob 62 5 ((rfOf ts p.pr pre).map tyD) xs (Hc.upd l (.obj y)) ob := g6.obj hl2
    have hsn := rfOf_snoc ts p.pr pre x
    have hend : rfOf ts p.pr (pre ++ [x]) = rfOf ts p.pr pre → objs (((Hc.upd c10 (.row 160 0 2 [[i64 x.2.1, i64 x.2.2]])).upd l (.obj y))) (Hc.upd l (.obj y)) ∧ RfI H.nob ts p.pr c6 c7 c8 (pre ++ [x]) (Hc.upd l (.obj y)) := fun e => ⟨hno5 _ (by simp), hall, le_rleP (nob_no H) g2 (rle_obj hl2), r6, r7, xs, ob, r8, by rw [e]; exact hg8, k6, k7, k8⟩
    by_cases hk : x.1 < p.pr.length
    case neg =>
      have q2 : ((x.1 : Int) < (p.pr.length : Int)) = False := eq_false (by omega)
      rw [if_neg (fun h => hk h.1), List.append_nil] at hsn
      have hfin := hend hsn
      refine tq (cj9 f5 @i64.eq_1 wdf_fr wdf_H wdf_df wdf_withH q1 q2 hmp) ?_; intro Nx hNx Gx hGx
      exact ⟨rfl, hfin⟩
    have q2 : ((x.1 : Int) < (p.pr.length : Int)) = True := eq_true (by omega)
    have hgx := pr_get hk
    by_cases hk0 : (p.pr.getD x.1 (1, 0)).1 = 0
    case neg =>
      rw [if_neg (fun h => hk0 h.2), List.append_nil] at hsn
      have hfin := hend hsn
      have q3 : ((p.pr.getD x.1 (1, 0)).1 = 0) = False := eq_false hk0
      refine tq (cj14 f5 @i64.eq_1 wdf_fr wdf_H wdf_df wdf_withH q1 q2 q3 hmp hgx hx h00 hk) ?_; intro Nx hNx Gx hGx
      exact ⟨rfl, hfin⟩
    have q3 : ((p.pr.getD x.1 (1, 0)).1 = 0) = True := eq_true hk0
    rw [if_pos ⟨hk, hk0⟩] at hsn
    have hpl : pre.length ≤ 33 := by
      have h1 := hpre.length_le
      have h2 := stps_len (ts := ts) (lc := lc) (p := p)
      rw [List.length_append, List.length_singleton] at h1
      omega
    have hrl := rfOf_len ts p.pr pre
    have hgt := ty_get hin
    have hti : x.2.1.toNat < ts.length := by unfold InR at hin; omega
    have ht0 : 0 ≤ x.2.1 := by unfold InR at hin; omega
    obtain ⟨t, ht⟩ : ∃ t, t = tyAt ts x.2.1 := ⟨_, rfl⟩
    rw [← ht] at hsn hgt
    obtain ⟨els, hels⟩ : ∃ els, els = (rfOf ts p.pr pre).map tyD := ⟨_, rfl⟩
    have hell : els.length ≤ 33 := by rw [hels, List.length_map]; omega
    have hsn2 : (rfOf ts p.pr (pre ++ [x])).map tyD = els ++ [tyD t] := by rw [hsn, List.map_append, hels]; rfl
    rw [← hels] at hg8
    clear hels
    simp only [tyD] at hgt hsn2
    refine tq (cj14 f5 @i64.eq_1 wdf_fr wdf_H wdf_df wdf_withH q1 q2 q3 hmp hgx hx h00 hk) ?_; intro Nx hNx Gx hGx
    refine W_wildE (fun _ => false) (fun _ => false) (fun _ _ _ _ => False) (fun _ _ _ _ _ => False) (by kernel_rfl) (by kernel_rfl) (by kernel_rfl) (by kernel_rfl) (by kernel_rfl) fun Nx hNx => ?_; refine vcWS_to ?_; have fs := And.intro f3 (And.intro f8 (And.intro @i64.eq_1 (And.intro wdf_fr (And.intro wdf_H (And.intro wdf_df (And.intro wdf_withH (And.intro r8 (And.intro hgt (And.intro hmt (And.intro hti ht0)))))))))); refine evD ?_; (first | refine hGx _ ?_ | refine hNx _ ?_ | skip); (try clear fs)
    refine apV_grow (e := 62) ty24 rfl ty24 rfl ty62 rfl (by decide) (le_rleP (nob_no H) g2 (rle_obj hl2)) hg8 (new := [tyD t]) (by exact ⟨rfl, rfl⟩) (by show (_ + 1) * 56 ≤ _; omega) fun d H6 ob6 hg6 hle6 hp6 => ?_
    have p6 := hp6 _ _ r6 k6
    have p7 := hp6 _ _ r7 k7
    have p8 := hp6 _ _ r8 k8
    have p81 := p8.1
    have hd6 : ∃ c o n, d = .os c o 5 0 n := by
      rcases hg6 with ⟨_, _, h⟩ | ⟨c, o, _, h, _⟩
      · simp at h
      · exact ⟨c, o, _, h⟩
    obtain ⟨c', o', n', rfl⟩ := hd6
    (have fs := And.intro @i64.eq_1 p81; refine evT ?_; try clear fs); (first | refine hGx _ ?_ | refine hNx _ ?_ | skip)
    exact ⟨rfl, (objs_grow (hno5 _ (by simp)) hg8 hp6).row p81 (by simp), hall, Heap.le_put hle6 (nob_none hc80), (Heap.upd_ne n86.symm).trans p6.1, (Heap.upd_ne n87.symm).trans p7.1, _, ob6, Heap.upd_same _ _ _, by rw [hsn2]; exact hg6.keep fun c h => Heap.upd_ne fun e => p8.2 (by rw [h, e]), p6.2, p7.2, p8.2⟩
  · rintro Hc M ⟨g1, g2, g3, g4, xs, ob, g5, g6, k6, k7, k8⟩ hob hD hDn
    rw [df_wdf, blockQ_n, thenQ_n, hdf]
    have hM6 : c6 ≠ M := fun e => by rw [e, hD] at g3; cases g3
    have hM7 : c7 ≠ M := fun e => by rw [e, hD] at g4; cases g4
    have hM8 : c8 ≠ M := fun e => by rw [e, hD] at g5; cases g5
    have g2 := nob_full g2 hleS hob
    have g6 := gl_nob g6 g2
    have hcs := g6.cells
    simp only [D.cells] at hcs
    have g4' : ∀ z, (Hc.upd c6 z) c7 = _ := fun z => (Heap.upd_ne n76).trans g4
    refine tq (cj8 f6 f7 f8 @i64.eq_1 g3 g4' g5 hcs) ?_; intro Nx hNx Gx hGx
    have hok : (typeOfP ts lc p).2 = 0 := by
      obtain ⟨j, hj⟩ := stps_last ts lc p
      exact g1 _ (List.mem_of_getLast? hj)
    have hre : rfOf ts p.pr (stps ts lc p) = refsP ts lc p := by
      rw [rfOf_all hok]; unfold refsP; rw [if_neg (fun h => h hok)]
    rw [hre] at g6
    refine hret _ _ (.inr rfl) ?_ ?_
    · simp (maxSteps := 4000000) only [vX, vB, vT, vZ, vcOps, isCall, mmV, lkV, muV, keyVal, keyVals, mget_nil, ↓selV_eq, eqK, stepOp, clV, biV, bnU, nilU, binV, bInt, bStr, bNilP, bNilS, bNilM, nilOp, D.nilPtr, D.nilSl, D.nilMap, isBoolTy, unV, cwV, cvV, elsP, partV, fieldsOf, fieldV, faV, iaV, ixV, ldC, ldV, stV, D.cells, putAt, bxV, alV, bldD, placesOf, allSized, bdV, bsV, rowsD, mkV, bdN, slV, newsP, TD.notInt, TD.agg, azV, clrV, cpyV, cpV, lenV, minV, maxV, ncV, exV, condV, retV, thenQ, blockQ, Value.oneCell', forall_const, true_implies, ne_eq, reduceCtorEq, false_implies, eq_self, if_true, if_false, ↓reduceIte, Nat.reduceEqDiff, Int.reduceLE, Int.reduceLT, Int.reduceNeg, Int.reduceToNat, Nat.reduceAdd, Nat.reduceMul, Nat.reduceLeDiff, Nat.reduceMod, Nat.reduceSub, Int.reduceEq, Int.reduceNe, Int.reduceAdd, Int.reduceSub, Int.reduceMul, implies_true, wdf_fr, wdf_H, wdf_df, wdf_withH, thenQ_n, thenQ_r, blockQ_n, blockQ_r, roundQ_n, roundQ_r, noGotoQ_n, noGotoQ_r, noGotoQ_e, f6]
      refine mk1 ?_
      rw [Heap.upd_ne hM7.symm, Heap.upd_ne hM6.symm]; exact hD
    · simp (maxSteps := 4000000) only [vX, vB, vT, vZ, vcOps, isCall, mmV, lkV, muV, keyVal, keyVals, mget_nil, ↓selV_eq, eqK, stepOp, clV, biV, bnU, nilU, binV, bInt, bStr, bNilP, bNilS, bNilM, nilOp, D.nilPtr, D.nilSl, D.nilMap, isBoolTy, unV, cwV, cvV, elsP, partV, fieldsOf, fieldV, faV, iaV, ixV, ldC, ldV, stV, D.cells, putAt, bxV, alV, bldD, placesOf, allSized, bdV, bsV, rowsD, mkV, bdN, slV, newsP, TD.notInt, TD.agg, azV, clrV, cpyV, cpV, lenV, minV, maxV, ncV, exV, condV, retV, thenQ, blockQ, Value.oneCell', forall_const, true_implies, ne_eq, reduceCtorEq, false_implies, eq_self, if_true, if_false, ↓reduceIte, Nat.reduceEqDiff, Int.reduceLE, Int.reduceLT, Int.reduceNeg, Int.reduceToNat, Nat.reduceAdd, Nat.reduceMul, Nat.reduceLeDiff, Nat.reduceMod, Nat.reduceSub, Int.reduceEq, Int.reduceNe, Int.reduceAdd, Int.reduceSub, Int.reduceMul, implies_true, wdf_fr, wdf_H, wdf_df, wdf_withH, thenQ_n, thenQ_r, blockQ_n, blockQ_r, roundQ_n, roundQ_r, noGotoQ_n, noGotoQ_r, noGotoQ_e, f6]
      rw [offM1]
      have hMo : ∀ c, ob = some c → c ≠ M := fun c h e => by
        rcases g6 with ⟨g, _⟩ | ⟨c2, o2, h1, _, _, h4⟩
        · rw [g] at h; cases h
        · rw [h] at h1; injection h1 with h1; rw [← h1, e, hD] at h4; cases h4
      have hle9 : H.le (((Hc.upd c6 (.row 24 0 1 [[xs]])).upd c7 (.row 4 0 1 [[.val (.bool true)]])).upd M .hid) := Heap.le_put (Heap.le_put (Heap.le_put g2 hc6) hc7) (Heap.none_of hleS hDn)
      simp (maxSteps := 4000000) only [vX, vB, vT, vZ, vcOps, isCall, mmV, lkV, muV, keyVal, keyVals, mget_nil, ↓selV_eq, eqK, stepOp, clV, biV, bnU, nilU, binV, bInt, bStr, bNilP, bNilS, bNilM, nilOp, D.nilPtr, D.nilSl, D.nilMap, isBoolTy, unV, cwV, cvV, elsP, partV, fieldsOf, fieldV, faV, iaV, ixV, ldC, ldV, stV, D.cells, putAt, bxV, alV, bldD, placesOf, allSized, bdV, bsV, rowsD, mkV, bdN, slV, newsP, TD.notInt, TD.agg, azV, clrV, cpyV, cpV, lenV, minV, maxV, ncV, exV, condV, retV, thenQ, blockQ, Value.oneCell', forall_const, true_implies, ne_eq, reduceCtorEq, false_implies, eq_self, if_true, if_false, ↓reduceIte, Nat.reduceEqDiff, Int.reduceLE, Int.reduceLT, Int.reduceNeg, Int.reduceToNat, Nat.reduceAdd, Nat.reduceMul, Nat.reduceLeDiff, Nat.reduceMod, Nat.reduceSub, Int.reduceEq, Int.reduceNe, Int.reduceAdd, Int.reduceSub, Int.reduceMul, implies_true, wdf_fr, wdf_H, wdf_df, wdf_withH, thenQ_n, thenQ_r, blockQ_n, blockQ_r, roundQ_n, roundQ_r, noGotoQ_n, noGotoQ_r, noGotoQ_e, f6, f7, Heap.upd_ne hM6, Heap.upd_ne hM7, Heap.upd_ne n76.symm]
      exact ⟨_, Heap.le_refl _, hle9, _, frz_tup (frz2 (frz_gl hle9 (g6.keep fun c h => by
        rw [Heap.upd_ne (hMo c h), Heap.upd_ne (fun e => k7 (by rw [h, e])), Heap.upd_ne (fun e => k6 (by rw [h, e]))])) (frz_refl hle9)), by rw [decide_eq_true hok]⟩
  · rintro e c pre Hc M hj ⟨rfl, h2, h3, h4, h5⟩ hob hD hDn
    rw [df_wdf, hdf]
    have hD6 : c6 ≠ M := fun e => by rw [e, hD] at h4; cases h4
    have hD7 : c7 ≠ M := fun e => by rw [e, hD] at h5; cases h5
    simp (maxSteps := 4000000) only [vX, vB, vT, vZ, vcOps, isCall, mmV, lkV, muV, keyVal, keyVals, mget_nil, ↓selV_eq, eqK, stepOp, clV, biV, bnU, nilU, binV, bInt, bStr, bNilP, bNilS, bNilM, nilOp, D.nilPtr, D.nilSl, D.nilMap, isBoolTy, unV, cwV, cvV, elsP, partV, fieldsOf, fieldV, faV, iaV, ixV, ldC, ldV, stV, D.cells, putAt, bxV, alV, bldD, placesOf, allSized, bdV, bsV, rowsD, mkV, bdN, slV, newsP, TD.notInt, TD.agg, azV, clrV, cpyV, cpV, lenV, minV, maxV, ncV, exV, condV, retV, thenQ, blockQ, Value.oneCell', forall_const, true_implies, ne_eq, reduceCtorEq, false_implies, eq_self, if_true, if_false, ↓reduceIte, Nat.reduceEqDiff, Int.reduceLE, Int.reduceLT, Int.reduceNeg, Int.reduceToNat, Nat.reduceAdd, Nat.reduceMul, Nat.reduceLeDiff, Nat.reduceMod, Nat.reduceSub, Int.reduceEq, Int.reduceNe, Int.reduceAdd, Int.reduceSub, Int.reduceMul, implies_true, wdf_fr, wdf_H, wdf_df, wdf_withH, thenQ_n, thenQ_r, blockQ_n, blockQ_r, roundQ_n, roundQ_r, noGotoQ_n, noGotoQ_r, noGotoQ_e, f6]
    refine hret _ _ (.inr rfl) ?_ ?_
    · simp (maxSteps := 4000000) only [vX, vB, vT, vZ, vcOps, isCall, mmV, lkV, muV, keyVal, keyVals, mget_nil, ↓selV_eq, eqK, stepOp, clV, biV, bnU, nilU, binV, bInt, bStr, bNilP, bNilS, bNilM, nilOp, D.nilPtr, D.nilSl, D.nilMap, isBoolTy, unV, cwV, cvV, elsP, partV, fieldsOf, fieldV, faV, iaV, ixV, ldC, ldV, stV, D.cells, putAt, bxV, alV, bldD, placesOf, allSized, bdV, bsV, rowsD, mkV, bdN, slV, newsP, TD.notInt, TD.agg, azV, clrV, cpyV, cpV, lenV, minV, maxV, ncV, exV, condV, retV, thenQ, blockQ, Value.oneCell', forall_const, true_implies, ne_eq, reduceCtorEq, false_implies, eq_self, if_true, if_false, ↓reduceIte, Nat.reduceEqDiff, Int.reduceLE, Int.reduceLT, Int.reduceNeg, Int.reduceToNat, Nat.reduceAdd, Nat.reduceMul, Nat.reduceLeDiff, Nat.reduceMod, Nat.reduceSub, Int.reduceEq, Int.reduceNe, Int.reduceAdd, Int.reduceSub, Int.reduceMul, implies_true, wdf_fr, wdf_H, wdf_df, wdf_withH, thenQ_n, thenQ_r, blockQ_n, blockQ_r, roundQ_n, roundQ_r, noGotoQ_n, noGotoQ_r, noGotoQ_e, f6]
      exact mk1 hD
    · rw [wdf_df, offM1]
      have h3 := nob_full h3 hleS hob
      have hle9 : H.le (Hc.upd M .hid) := Heap.le_put h3 (Heap.none_of hleS hDn)
      have hre : refsP ts lc p = [] := if_pos h2
      simp (maxSteps := 4000000) only [vX, vB, vT, vZ, vcOps, isCall, mmV, lkV, muV, keyVal, keyVals, mget_nil, ↓selV_eq, eqK, stepOp, clV, biV, bnU, nilU, binV, bInt, bStr, bNilP, bNilS, bNilM, nilOp, D.nilPtr, D.nilSl, D.nilMap, isBoolTy, unV, cwV, cvV, elsP, partV, fieldsOf, fieldV, faV, iaV, ixV, ldC, ldV, stV, D.cells, putAt, bxV, alV, bldD, placesOf, allSized, bdV, bsV, rowsD, mkV, bdN, slV, newsP, TD.notInt, TD.agg, azV, clrV, cpyV, cpV, lenV, minV, maxV, ncV, exV, condV, retV, thenQ, blockQ, Value.oneCell', forall_const, true_implies, ne_eq, reduceCtorEq, false_implies, eq_self, if_true, if_false, ↓reduceIte, Nat.reduceEqDiff, Int.reduceLE, Int.reduceLT, Int.reduceNeg, Int.reduceToNat, Nat.reduceAdd, Nat.reduceMul, Nat.reduceLeDiff, Nat.reduceMod, Nat.reduceSub, Int.reduceEq, Int.reduceNe, Int.reduceAdd, Int.reduceSub, Int.reduceMul, implies_true, wdf_fr, wdf_H, wdf_df, wdf_withH, thenQ_n, thenQ_r, blockQ_n, blockQ_r, roundQ_n, roundQ_r, noGotoQ_n, noGotoQ_r, noGotoQ_e, f6, f7, Heap.upd_ne hD6, Heap.upd_ne hD7, h4, h5, i64]
      exact ⟨_, Heap.le_refl _, hle9, _, frz_tup (frz2 frz_nil (frz_refl hle9)), by rw [hre, decide_eq_false h2]; rfl⟩
theorem refP_len (ts : List TyS) : ∀ (l : List (Int × Int)) (i : Int), (refP ts i l).length ≤ l.length
  | [], _ => by simp [refP]
  | x :: l, i => by
    have := refP_len ts l (prjP ts i x).1
    simp only [refP, List.length_append, List.length_cons]
    split <;> simp <;> omega
theorem refsP_len (ts : List TyS) (lc : List LcS) (p : PlS) : (refsP ts lc p).length ≤ 32 := by
  unfold refsP
  by_cases h : (typeOfP ts lc p).2 = 0
  · rw [if_neg (fun h' => h' h)]
    obtain ⟨h1, _, _⟩ := typeOf_ok h
    have h2 := (chkP_lo h1).2.1
    have := refP_len ts p.pr (lcAt lc p.lo).ty
    omega
  · rw [if_pos h]; simp
theorem any_not (l : List TyS) : (!l.any fun x => !x.m) = l.all (·.m) := by
  induction l with
  | nil => rfl
  | cons x l ih => rw [List.any_cons, List.all_cons, ← ih]; cases x.m <;> simp
set_option maxHeartbeats 1000000 in
theorem mut_N (ts : List TyS) (lc : List LcS) (p : PlS) (H : Heap) (hw : wfT ts) (hl : wfL ts lc) (ha : arN ts) (hp : big p.pr.length) : Does Tryz.prog 77 [.seq 5 (ts.map tyD), .seq 2 (lc.map lcD), .agg (plD p)] H fun d H' => d = .val (.bool (mutP ts lc p)) ∧ H = H' := by
  refine Does.frz (K := fun d => d = .val (.bool (mutP ts lc p))) ?_
  have hle := Heap.le_refl H
  have hrl := refsP_len ts lc p
  have hcon := conFT_N (refsP ts lc p) 110 (fun x => !x.m) H (by unfold big; omega) (fun x _ H1 => mu1_N x H1)
  have hq := refs_N ts lc p H hw hl ha hp
  simp only [plD] at hq
  refine does_of _ _ Tryz.func77 rfl rfl Tryz.ntmps77 Tryz.results77 (by simp only [List.length_cons, List.length_nil]; omega) fun w0 g0 Q hret => ?_
  refine tq (cj2 @i64.eq_1 @plD.eq_1) ?_; intro Nx hNx Gx hGx
  intro c5 hc5
  refine hNx _ ?_
  refine frz 5 hc5 ?_
  refine tq @i64.eq_1 ?_; intro Nx hNx Gx hGx
  refine hq.mono ?_
  rintro d _ ⟨rfl, rfl⟩
  by_cases h0 : (typeOfP ts lc p).2 = 0
  · rw [decide_eq_true h0]
    have hres : mutP ts lc p = (!(refsP ts lc p).any fun x => !x.m) := by unfold mutP; rw [decide_eq_true h0, Bool.true_and, any_not]
    refine tq @i64.eq_1 ?_; intro Nx hNx Gx hGx
    refine hcon.mono ?_
    rintro d _ ⟨rfl, rfl⟩
    refine tq @i64.eq_1 ?_; intro Nx hNx Gx hGx
    refine rt hret @i64.eq_1 ?_
    exact ⟨_, Heap.le_refl _, hle, _, frz_refl hle, by rw [hres]⟩
  · rw [decide_eq_false h0]
    have hres : mutP ts lc p = false := by unfold mutP; rw [decide_eq_false h0, Bool.false_and]
    refine tq @i64.eq_1 ?_; intro Nx hNx Gx hGx
    refine rt hret @i64.eq_1 ?_
    exact ⟨_, Heap.le_refl _, hle, _, frz_refl hle, by rw [hres]⟩
set_option maxHeartbeats 1000000 in
theorem regs_N (ts : List TyS) (lc : List LcS) (p : PlS) (H : Heap) (hw : wfT ts) (hl : wfL ts lc) (ha : arN ts) (hp : big p.pr.length) : Does Tryz.prog 111 [.seq 5 (ts.map tyD), .seq 2 (lc.map lcD), .agg (plD p)] H fun d H' => d = .seq 1 ((regP ts lc p).map iD) ∧ H = H' := by
  refine Does.frz (K := fun d => d = .seq 1 ((regP ts lc p).map iD)) ?_
  have hrl := refsP_len ts lc p
  have hq := refs_N ts lc p H hw hl ha hp
  simp only [plD] at hq
  obtain ⟨l, hL⟩ : ∃ l, l = refsP ts lc p := ⟨_, rfl⟩
  have hres : regP ts lc p = l.map (·.r) := by rw [hL]; rfl
  rw [← hL] at hrl hq
  rw [hres]
  clear hL hres
  have hml : (List.map tyD l).length = l.length := List.length_map _
  refine does_of _ _ Tryz.func111 rfl rfl Tryz.ntmps111 Tryz.results111 (by simp only [List.length_cons, List.length_nil]; omega) fun w0 g0 Q hret => ?_
  refine tq (cj2 @i64.eq_1 @plD.eq_1) ?_; intro Nx hNx Gx hGx
  intro c5 hc5
  refine hNx _ ?_
  refine frz 5 hc5 ?_
  refine tq @i64.eq_1 ?_; intro Nx hNx Gx hGx
  refine hq.mono ?_
  rintro d _ ⟨rfl, rfl⟩
  refine tq (cj2 @i64.eq_1 hml) ?_; intro Nx hNx Gx hGx
  refine W_loopN l.length (fun i s => s.df = [] ∧ s.fr 19 = .seq 5 (l.map tyD) ∧ s.fr 20 = i64 l.length ∧ s.fr 21 = i64 i ∧ H.le s.H ∧ ∃ ob, Gl H 3 1 (((l.take i).map (·.r)).map iD) (s.fr 7) s.H ob) ⟨rfl, rfl, rfl, rfl, Heap.le_refl _, none, Gl.nil _ _ _ _⟩ ?_
  rintro i s hi ⟨hdf, f19, f20, f21, hle, ob, hg⟩
  have hx : (i : Int).toNat = i := Int.toNat_natCast _
  have h00 : (0 : Int) ≤ (i : Int) := Int.natCast_nonneg _
  by_cases hil : i < l.length
  case neg =>
    have q6 : ((i : Int) < (l.length : Int)) = False := eq_false (by omega)
    rw [List.take_of_length_le (by omega)] at hg
    refine tq (cj4 f20 f21 @i64.eq_1 q6) ?_; intro Nx hNx Gx hGx
    refine rt hret hdf ?_
    exact ⟨_, Heap.le_refl _, hle, _, frz_gl hle hg, rfl⟩
  have q6 : ((i : Int) < (l.length : Int)) = True := eq_true (by omega)
  have w3 : IntKind.i64.wrap ((i : Int) + 1) = ((i + 1 : Nat) : Int) := by rw [wrap_i64_of (by omega)]; omega
  have hgi : (l.map tyD)[i]? = some (tyD l[i]) := by rw [List.getElem?_map, List.getElem?_eq_getElem hil]; rfl
  have hsn : ((l.take (i + 1)).map (·.r)).map iD = ((l.take i).map (·.r)).map iD ++ [iD l[i].r] := by rw [List.take_succ_eq_append_getElem hil]; simp only [List.map_append, List.map_cons, List.map_nil]
  obtain ⟨u, hu⟩ : ∃ u, u = l[i] := ⟨_, rfl⟩
  rw [← hu] at hgi hsn
  simp only [tyD] at hgi
  refine tq (cj10 f19 f20 f21 @i64.eq_1 hml q6 hgi hx h00 hil) ?_; intro Nx hNx Gx hGx
  intro c11 hc11
  refine hNx _ ?_
  refine frz 11 hc11 ?_
  refine tq @i64.eq_1 ?_; intro Nx hNx Gx hGx
  refine apV_grow (e := 3) ty48 rfl ty48 rfl ty3 rfl (by decide) hle hg (new := [iD u.r]) (by exact ⟨rfl, rfl⟩) (by rw [List.length_map, List.length_map, List.length_take]; show (_ + 1) * 8 ≤ _; omega) fun d H6 ob6 hg6 hle6 hp6 => ?_
  rw [← hsn] at hg6
  refine tq (cj3 f21 @i64.eq_1 w3) ?_; intro Nx hNx Gx hGx
  trace_state
  exact ⟨hil, hdf, f19, f20, rfl, hle6, ob6, hg6⟩
end Go.Proofs.YtgfhgeelfaalmaaGreatDoor
