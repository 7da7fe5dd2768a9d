/- Lemmas and contracts of functions, several texts in one: Q4 Q5 Q6. -/
import Derived.Test.YtgfhgeelfaalmaaGreatDoorK23
import Derived.Test.YtgfhgeelfaalmaaGreatDoorK16
namespace Go.Proofs.YtgfhgeelfaalmaaGreatDoor
open Go.RowKit
set_option maxRecDepth 100000
set_option linter.unusedVariables false
set_option maxRecDepth 100000
set_option linter.unusedSimpArgs false
def pstD (x : Nat × Int × Int) : List D := [i64 x.1, .agg [i64 x.2.1, i64 x.2.2]]
theorem get_lcs {lc : List LcS} {a : Int} (h : 0 ≤ a ∧ a < lc.length) : (lc.map lcD)[a.toNat]? = some (lcD (lcAt lc a)) := by
  obtain ⟨h', e⟩ := lcAt_get h
  rw [List.getElem?_map, List.getElem?_eq_getElem h', e]; rfl
def arN (ts : List TyS) : Prop := ∀ t ∈ ts, t.ar.length ≤ 1000000
set_option maxHeartbeats 1000000 in
theorem path_it (ts : List TyS) (lc : List LcS) (p : PlS) (hw : wfT ts) (hl : wfL ts lc) (ha : arN ts) (hp : big p.pr.length) : Iter Tryz.prog 127 [.rp (plD p), .rp [.seq 2 (lc.map lcD)], .rp [.seq 5 (ts.map tyD)]] pstD (stps ts lc p) fun _ => True := by
  have hml : (List.map lcD lc).length = lc.length := List.length_map _
  have hmp : (List.map pD p.pr).length = p.pr.length := List.length_map _
  refine iter_ofF _ Tryz.func127 rfl rfl Tryz.ntmps127 Tryz.results127 (by simp only [List.length_cons, List.length_nil]; omega) fun l J Jx H w0 g0 Q hok hJ hC hCx hY hret => ?_
  refine tq (cj2 @i64.eq_1 @plD.eq_1) ?_; intro Nx hNx Gx hGx
  refine (pcheck_N p _ hp).mono ?_
  rintro d _ ⟨rfl, rfl⟩
  by_cases h1 : chkP p = 0
  case neg =>
    have q1 : (chkP p = 0) = False := eq_false h1
    have hx : stps ts lc p = [(0, 0, chkP p)] := if_pos h1
    rw [hx] at hY hret
    (have fs := And.intro @i64.eq_1 q1; (iterate 6 (first | refine hGx _ ?_ | refine hNx _ ?_ | refine W_skip ?_ | refine W_exit ?_ | refine W_ret ?_ | refine W_label ?_ | refine W_scope ?_ | refine W_block ?_ | refine W_seq ?_ | ((first | refine tS fun Nx hNx => ?_ | refine WL_gE rfl rfl (by kernel_rfl) (by kernel_rfl) fun Gx hGx => ?_ | refine vcOpsS_sound (by kernel_rfl) ?_ | refine W_ifE fun A B hAx hBx => ?_); refine evT ?_; (first | refine hGx _ ?_ | refine hNx _ ?_ | refine hAx ?_ | refine hBx ?_ | skip)))); (try clear fs))
    refine WO_yield [] (0, 0, chkP p) rfl rfl rfl (by simp [okd]) hY (by simp) hJ rfl (fun H' hj => ?_) fun H' hj => ?_
    · refine tq @i64.eq_1 ?_; intro Nx hNx Gx hGx
      exact hret _ _ (.inr rfl) rfl (.inl (.inl hj))
    · refine tq @i64.eq_1 ?_; intro Nx hNx Gx hGx
      exact hret _ _ (.inr rfl) rfl (.inl (.inr ⟨_, hj⟩))
  have q1 : (chkP p = 0) = True := eq_true h1
  have hp0 := chkP_lo h1
  have q1' : ¬ chkP p ≠ 0 := fun h => h h1
  by_cases h2 : (lc.length : Int) ≤ p.lo
  · have q2 : (p.lo ≥ (lc.length : Int)) = True := eq_true h2
    have hx : stps ts lc p = [(0, 0, 3)] := by unfold stps; rw [if_neg q1', if_pos h2]
    rw [hx] at hY hret
    (have fs := And.intro @i64.eq_1 (And.intro q1 (And.intro q2 hml)); (iterate 11 (first | refine hGx _ ?_ | refine hNx _ ?_ | refine W_skip ?_ | refine W_exit ?_ | refine W_ret ?_ | refine W_label ?_ | refine W_scope ?_ | refine W_block ?_ | refine W_seq ?_ | ((first | refine tS fun Nx hNx => ?_ | refine WL_gE rfl rfl (by kernel_rfl) (by kernel_rfl) fun Gx hGx => ?_ | refine vcOpsS_sound (by kernel_rfl) ?_ | refine W_ifE fun A B hAx hBx => ?_); refine evT ?_; (first | refine hGx _ ?_ | refine hNx _ ?_ | refine hAx ?_ | refine hBx ?_ | skip)))); (try clear fs))
    refine WO_yield [] (0, 0, 3) rfl rfl rfl (by simp [okd]) hY (by simp) hJ rfl (fun H' hj => ?_) fun H' hj => ?_
    · refine tq @i64.eq_1 ?_; intro Nx hNx Gx hGx
      exact hret _ _ (.inr rfl) rfl (.inl (.inl hj))
    · refine tq @i64.eq_1 ?_; intro Nx hNx Gx hGx
      exact hret _ _ (.inr rfl) rfl (.inl (.inr ⟨_, hj⟩))
  have q2 : (p.lo ≥ (lc.length : Int)) = False := eq_false h2
  have hin : 0 ≤ p.lo ∧ p.lo < lc.length := ⟨hp0.1, by omega⟩
  have h00 := hin.1
  have hil : p.lo.toNat < lc.length := by omega
  have hgl := get_lcs hin
  have hli := lcAt_in hl hin
  simp only [lcD] at hgl
  have hx : stps ts lc p = [] ++ stpP ts 0 ((lcAt lc p.lo).ty, 0) (p.pr.drop 0) := by unfold stps; rw [if_neg q1', if_neg h2]; rfl
  refine tq (cj7 @i64.eq_1 q1 q2 hml hgl h00 hil) ?_; intro Nx hNx Gx hGx
  intro c6 hc6
  refine hNx _ ?_
  refine tq @i64.eq_1 ?_; intro Nx hNx Gx hGx
  have hpl : p.pr.length ≤ 32 := hp0.2.1
  have hyj : YJ J [] c6 (.row 160 0 2 [[i64 (lcAt lc p.lo).ty, i64 0]]) (H.upd c6 (.row 160 0 2 [[i64 (lcAt lc p.lo).ty, i64 0]])) := ⟨H, rfl, fun z hz => by rw [hc6] at hz; (cases hz), hJ⟩
  refine W_loopN p.pr.length (fun i s => s.df = [] ∧ s.fr 0 = yD l ∧ s.fr 1 = .rp [i64 p.lo, .seq 2 (p.pr.map pD)] ∧ s.fr 3 = .rp [.seq 5 (ts.map tyD)] ∧ s.fr 6 = .ep c6 0 2 0 0 ∧ s.fr 7 = i64 i ∧ ∃ (y : Int × Int) (pre : List (Nat × Int × Int)), (y.2 = 0 → InR ts.length y.1) ∧ stps ts lc p = pre ++ stpP ts i y (p.pr.drop i) ∧ YJ J pre c6 (.row 160 0 2 [[i64 y.1, i64 y.2]]) s.H) ⟨rfl, rfl, rfl, rfl, rfl, rfl, _, _, fun _ => hli, hx, hyj⟩ ?_
  clear hx hyj
  rintro i s hi ⟨hdf, f0, f1, f3, f6, f7, y, pre, hyi, hx, hyj⟩
  have hx2 : (i : Int).toNat = i := Int.toNat_natCast _
  have h0i : (0 : Int) ≤ (i : Int) := Int.natCast_nonneg _
  have hpre : (pre ++ [(i, y)]) <+: stps ts lc p := by
    rw [hx]
    cases p.pr.drop i with
    | nil => exact List.prefix_rfl
    | cons a m => exact ⟨_, by rw [List.append_assoc]; rfl⟩
  have hz6 : ∀ {J' : List (Nat × Int × Int) → Heap → Prop} {pre' H'}, YJ J' pre' c6 (.row 160 0 2 [[i64 y.1, i64 y.2]]) H' → H' c6 = some (.row 160 0 2 [[i64 y.1, i64 y.2]]) := fun ⟨_, e, _⟩ => by rw [e, Heap.upd_same]
  have z6 := hz6 hyj
  (have fs := And.intro f0 (And.intro f1 (And.intro f3 (And.intro f6 (And.intro f7 (And.intro @i64.eq_1 z6))))); (iterate 3 (first | refine hGx _ ?_ | refine hNx _ ?_ | refine W_skip ?_ | refine W_exit ?_ | refine W_ret ?_ | refine W_label ?_ | refine W_scope ?_ | refine W_block ?_ | refine W_seq ?_ | ((first | refine tS fun Nx hNx => ?_ | refine WL_gE rfl rfl (by kernel_rfl) (by kernel_rfl) fun Gx hGx => ?_ | refine vcOpsS_sound (by kernel_rfl) ?_ | refine W_ifE fun A B hAx hBx => ?_); refine evT ?_; (first | refine hGx _ ?_ | refine hNx _ ?_ | refine hAx ?_ | refine hBx ?_ | skip)))); (try clear fs))
  refine WO_yieldF pre (i, y) rfl rfl rfl (by simp [okd]) hY hC hc6 hpre hyj rfl (fun H' hj => ?_) fun H' hj => ?_
  case refine_2 =>
    have z7 := hz6 hj
    refine tq (cj7 f0 f1 f3 f6 f7 @i64.eq_1 z7) ?_; intro Nx hNx Gx hGx
    exact hret _ _ (.inl rfl) hdf (.inr ⟨c6, _, _, _, _, hc6, .inr ⟨_, hj⟩⟩)
  have z7 := hz6 hj
  by_cases h3 : y.2 = 0
  case neg =>
    have q3 : (y.2 = 0) = False := eq_false h3
    have hx3 : stps ts lc p = pre ++ [(i, y)] := by
      rw [hx]
      cases p.pr.drop i with
      | nil => rfl
      | cons a m => simp only [stpP]; rw [if_pos h3]
    rw [← hx3] at hj
    refine tq (cj8 f0 f1 f3 f6 f7 @i64.eq_1 z7 q3) ?_; intro Nx hNx Gx hGx
    exact hret _ _ (.inl rfl) hdf (.inr ⟨c6, _, _, _, _, hc6, .inl hj⟩)
  have q3 : (y.2 = 0) = True := eq_true h3
  by_cases hil2 : i < p.pr.length
  case neg =>
    have q4 : ((i : Int) < (p.pr.length : Int)) = False := eq_false (by omega)
    have hx3 : stps ts lc p = pre ++ [(i, y)] := by rw [hx, List.drop_eq_nil_of_le (by omega)]; rfl
    rw [← hx3] at hj
    refine tq (cj10 f0 f1 f3 f6 f7 @i64.eq_1 z7 q3 q4 hmp) ?_; intro Nx hNx Gx hGx
    exact hret _ _ (.inl rfl) hdf (.inr ⟨c6, _, _, _, _, hc6, .inl hj⟩)
  have q4 : ((i : Int) < (p.pr.length : Int)) = True := eq_true (by omega)
  have w3 : IntKind.i64.wrap ((i : Int) + 1) = ((i + 1 : Nat) : Int) := by rw [wrap_i64_of (by omega)]; omega
  have hgi := get_prs hil2
  have hyin := hyi h3
  have hcall : ∀ H1, CallOK Tryz.prog 129 [.seq 5 (ts.map tyD), i64 y.1, .agg [i64 p.pr[i].1, i64 p.pr[i].2]] H1 fun d A => A = Heap.none ∧ d = .agg [i64 (prjP ts y.1 p.pr[i]).1, i64 (prjP ts y.1 p.pr[i]).2] := fun H1 => callOK_eq fun H'' hle'' => proj_N ts y.1 p.pr[i] H'' hyin (chkPr_nn hp0.2.2 _ (List.getElem_mem hil2)).2 (ha _ (tyAt_in hyin))
  have hx3 : stps ts lc p = (pre ++ [(i, y)]) ++ stpP ts (i + 1) (prjP ts y.1 p.pr[i]) (p.pr.drop (i + 1)) := by
    rw [hx, List.drop_eq_getElem_cons hil2, List.append_assoc]
    simp only [stpP]
    rw [if_neg (fun h => h h3)]; rfl
  refine tq (cj10 f0 f1 f3 f6 f7 @i64.eq_1 z7 q3 q4 hmp) ?_; intro Nx hNx Gx hGx
  refine W_wildE (fun _ => false) (fun _ => false) (fun _ _ d A => A = .none ∧ d = .agg [i64 (prjP ts y.1 p.pr[i]).1, i64 (prjP ts y.1 p.pr[i]).2]) (fun _ _ _ _ _ => False) (by kernel_rfl) (by kernel_rfl) (by kernel_rfl) (by kernel_rfl) (by kernel_rfl) fun Nx hNx => ?_; refine vcWS_to ?_; have fs := And.intro f1 (And.intro f3 (And.intro f6 (And.intro f7 (And.intro @i64.eq_1 (And.intro z7 (And.intro hmp (And.intro hgi (And.intro hx2 (And.intro h0i hil2))))))))); refine evD ?_; (first | refine hGx _ ?_ | refine hNx _ ?_ | skip); (try clear fs)
  refine ⟨hcall _, ?_⟩
  refine tq (cj3 f7 @i64.eq_1 w3) ?_; intro Nx hNx Gx hGx
  obtain ⟨Hc, e, hz, hj0⟩ := hj
  refine ⟨hil2, hdf, f0, f1, f3, f6, rfl, prjP ts y.1 p.pr[i], pre ++ [(i, y)], fun h => prj_in hw hyin h, hx3, Hc, ?_, hz, hj0⟩
  show H'.upd c6 _ = _
  rw [e, Heap.upd_upd]; rfl
theorem path_N (ts : List TyS) (lc : List LcS) (p : PlS) (H : Heap) : Does Tryz.prog 114 [.seq 5 (ts.map tyD), .seq 2 (lc.map lcD), .agg (plD p)] H fun d H' => d = .fn 127 [.rp (plD p), .rp [.seq 2 (lc.map lcD)], .rp [.seq 5 (ts.map tyD)]] ∧ H = H' := by
  refine does_of _ _ Tryz.func114 rfl rfl Tryz.ntmps114 Tryz.results114 (by simp only [List.length_cons, List.length_nil]; omega) fun w0 g0 Q hret => ?_
  refine tq (cj2 @i64.eq_1 @plD.eq_1) ?_; intro Nx hNx Gx hGx
  intro c3 hc3 c4 hc4 c5 hc5
  refine hNx _ ?_
  obtain ⟨n43, hc4⟩ := Heap.upd_none.1 hc4
  obtain ⟨n54, hc5⟩ := Heap.upd_none.1 hc5
  obtain ⟨n53, hc5⟩ := Heap.upd_none.1 hc5
  refine W_frzp 3 rfl ((Heap.upd_ne n53.symm).trans ((Heap.upd_ne n43.symm).trans (Heap.upd_same _ _ _))) rfl ?_
  refine W_frzp 4 rfl ((Heap.del_ne n43).trans ((Heap.upd_ne n54.symm).trans (Heap.upd_same _ _ _))) rfl ?_
  refine W_frzp 5 rfl ((Heap.del_ne n54).trans ((Heap.del_ne n53).trans (Heap.upd_same _ _ _))) rfl ?_
  refine W_less H (fun x z hz => ?_) ?_
  · have e3 : x ≠ c3 := fun e => by rw [e, hc3] at hz; cases hz
    have e4 : x ≠ c4 := fun e => by rw [e, hc4] at hz; cases hz
    have e5 : x ≠ c5 := fun e => by rw [e, hc5] at hz; cases hz
    show ((((((H.upd c3 _).upd c4 _).upd c5 _).del c3).del c4).del c5) x = _
    rw [Heap.del_ne e5, Heap.del_ne e4, Heap.del_ne e3, Heap.upd_ne e5, Heap.upd_ne e4, Heap.upd_ne e3]
    exact hz
  simp only [St.frzp, List.drop]
  refine tq @i64.eq_1 ?_; intro Nx hNx Gx hGx
  refine rt hret @i64.eq_1 ?_
  exact ⟨_, Heap.le_refl _, rfl, rfl⟩
def lstP (pre : List (Nat × Int × Int)) : Int × Int := match pre.getLast? with
  | some x => x.2
  | none => (0, 0)
theorem lstP_snoc (pre : List (Nat × Int × Int)) (x : Nat × Int × Int) : lstP (pre ++ [x]) = x.2 := by
  unfold lstP; rw [List.getLast?_concat]
theorem lstP_all (ts : List TyS) (lc : List LcS) (p : PlS) : lstP (stps ts lc p) = typeOfP ts lc p := by
  obtain ⟨j, h⟩ := stps_last ts lc p
  unfold lstP; rw [h]
def ToI (c8 : Nat) (pre : List (Nat × Int × Int)) (Hc : Heap) : Prop := Hc c8 = some (.row 160 0 2 [[i64 (lstP pre).1, i64 (lstP pre).2]])
set_option maxHeartbeats 1000000 in
theorem typeOf_0 (ts : List TyS) (lc : List LcS) (p : PlS) (hw : wfT ts) (hl : wfL ts lc) (ha : arN ts) (hp : big p.pr.length) : Does Tryz.prog 83 [.seq 5 (ts.map tyD), .seq 2 (lc.map lcD), .agg (plD p)] .none fun d _ => d = .tup [i64 (typeOfP ts lc p).1, i64 (typeOfP ts lc p).2] := by
  refine does_ofM _ _ Tryz.func83 rfl rfl Tryz.ntmps83 Tryz.results83 (by simp only [List.length_cons, List.length_nil]; omega) fun w0 g0 Q hret => ?_
  refine tq (cj2 @i64.eq_1 @plD.eq_1) ?_; intro Nx hNx Gx hGx
  intro c5 hc5
  refine hNx _ ?_
  refine frz 5 hc5 ?_
  refine tq @i64.eq_1 ?_; intro Nx hNx Gx hGx
  intro c8 hc8
  refine hNx _ ?_
  refine tq @i64.eq_1 ?_; intro Nx hNx Gx hGx
  have hpath := path_N ts lc p (Heap.none.upd c8 (.row 160 0 2 [[i64 0, i64 0]]))
  simp only [plD] at hpath
  refine hpath.mono ?_
  rintro d _ ⟨rfl, rfl⟩
  refine tq @i64.eq_1 ?_; intro Nx hNx Gx hGx
  obtain ⟨H2, hH2⟩ : ∃ H2, H2 = Heap.none.upd c8 (.row 160 0 2 [[i64 0, i64 0]]) := ⟨_, rfl⟩
  have e80 : H2 c8 = some (.row 160 0 2 [[i64 0, i64 0]]) := by rw [hH2]; exact Heap.upd_same _ _ _
  have hH2n : ∀ b, b ≠ c8 → H2 b = none := fun b hb => by rw [hH2, Heap.upd_ne hb]; rfl
  simp only [i64] at hH2
  rw [← hH2]
  clear hH2
  refine W_gen (fun s => s.df = [] ∧ s.fr 8 = .ep c8 0 2 0 0 ∧ s.fr 14 = .fn 127 [.rp (plD p), .rp [.seq 2 (lc.map lcD)], .rp [.seq 5 (ts.map tyD)]] ∧ s.H = H2) ⟨rfl, rfl, rfl, rfl⟩ ?_
  rintro s ⟨hdf, f8, f14, hsH⟩
  refine W_rangeFunc rfl (path_it ts lc p hw hl ha hp) f14 (fun _ _ => trivial) (by simp) (fun _ => rfl) (ToI c8) (fun _ _ _ => False) ?_ ?_ ?_ ?_ ?_ ?_
  · intro pre H1 H2 hr h
    exact hr _ _ h (by simp)
  · intro _ _ _ _ _ h
    exact h
  · show s.H c8 = _
    rw [hsH]; exact e80
  · rintro l w1 pre x Hc o g1 hpre hi hob hl2
    rw [pstD, rst2]
    refine tq (cj6 @i64.eq_1 wdf_fr wdf_H wdf_df wdf_withH hdf) ?_; intro Nx hNx Gx hGx
    intro c10 hc10
    refine hNx _ ?_
    simp only [thenQ_n]
    refine ⟨rfl, objs.new (objs_refl _) hc10, fun w2 y g2 => ?_⟩
    have l5 : l ≠ c10 := fun e => by rw [e, hc10] at hl2; cases hl2
    have n8 : c8 ≠ l := fun e => by unfold ToI at hi; rw [e, hl2] at hi; cases hi
    refine W_frzp 10 rfl (b := c10) (by simp only [put_H, wdf_H, withH_H]; rw [Heap.upd_ne (Ne.symm l5), Heap.upd_same]) rfl ?_
    simp only [St.frzp, put_H, wdf_H, withH_H, withH_put, wdf_withH, withH_withH, Heap.del_upd_ne (Ne.symm l5), Heap.del_upd_same, Heap.del_none hc10, List.drop]
    have hno5 := fun (x : HObj) (hx : ∀ o, x ≠ .obj o) => objs_drop (H := Hc) (b := c10) (l := l) (y := y) hx
    have r8 : (Hc.upd l (.obj y)) c8 = some (.row 160 0 2 [[i64 (lstP pre).1, i64 (lstP pre).2]]) := (Heap.upd_ne n8).trans hi
    refine tq (cj7 f8 @i64.eq_1 wdf_fr wdf_H wdf_df wdf_withH r8) ?_; intro Nx hNx Gx hGx
    simp only [roundQ_n, blockQ_n]
    refine ⟨rfl, (hno5 _ (by simp)).row r8 (by simp), ?_⟩
    unfold ToI
    rw [lstP_snoc]
    exact Heap.upd_same _ _ _
  · rintro Hc M hi hob hD hDn
    rw [df_wdf, blockQ_n, thenQ_n, hdf]
    unfold ToI at hi
    rw [lstP_all] at hi
    refine W_seq ?_
    refine W_drawE (fun _ _ _ _ => False) (by kernel_rfl) (by kernel_rfl) (by kernel_rfl) fun Nx hNx => ?_; refine dst (cj7 f8 @i64.eq_1 wdf_fr wdf_H wdf_df wdf_withH hi) ?_; intro Nx hNx Gx hGx
    rw [thenQ_n]
    refine W_ret ?_
    refine hret _ _ (.inr rfl) ?_ ?_
    · simp (maxSteps := 4000000) only [vX, vB, vT, vZ, vcOps, isCall, mmV, lkV, muV, keyVal, keyVals, mget_nil, ↓selV_eq, eqK, stepOp, clV, biV, bnU, nilU, binV, bInt, bStr, bNilP, bNilS, bNilM, nilOp, D.nilPtr, D.nilSl, D.nilMap, isBoolTy, unV, cwV, cvV, elsP, partV, fieldsOf, fieldV, faV, iaV, ixV, ldC, ldV, stV, D.cells, putAt, bxV, alV, bldD, placesOf, allSized, bdV, bsV, rowsD, mkV, bdN, slV, newsP, TD.notInt, TD.agg, azV, clrV, cpyV, cpV, lenV, minV, maxV, ncV, exV, condV, retV, thenQ, blockQ, Value.oneCell', forall_const, true_implies, ne_eq, reduceCtorEq, false_implies, eq_self, if_true, if_false, ↓reduceIte, Nat.reduceEqDiff, Int.reduceLE, Int.reduceLT, Int.reduceNeg, Int.reduceToNat, Nat.reduceAdd, Nat.reduceMul, Nat.reduceLeDiff, Nat.reduceMod, Nat.reduceSub, Int.reduceEq, Int.reduceNe, Int.reduceAdd, Int.reduceSub, Int.reduceMul, implies_true, wdf_fr, wdf_H, wdf_df, wdf_withH, thenQ_n, thenQ_r, blockQ_n, blockQ_r, roundQ_n, roundQ_r, noGotoQ_n, noGotoQ_r, noGotoQ_e, f8]
      exact mk1 hD
    · simp only [put_df, wdf_df, offM1]
      simp (maxSteps := 4000000) only [vX, vB, vT, vZ, vcOps, isCall, mmV, lkV, muV, keyVal, keyVals, mget_nil, ↓selV_eq, eqK, stepOp, clV, biV, bnU, nilU, binV, bInt, bStr, bNilP, bNilS, bNilM, nilOp, D.nilPtr, D.nilSl, D.nilMap, isBoolTy, unV, cwV, cvV, elsP, partV, fieldsOf, fieldV, faV, iaV, ixV, ldC, ldV, stV, D.cells, putAt, bxV, alV, bldD, placesOf, allSized, bdV, bsV, rowsD, mkV, bdN, slV, newsP, TD.notInt, TD.agg, azV, clrV, cpyV, cpV, lenV, minV, maxV, ncV, exV, condV, retV, thenQ, blockQ, Value.oneCell', forall_const, true_implies, ne_eq, reduceCtorEq, false_implies, eq_self, if_true, if_false, ↓reduceIte, Nat.reduceEqDiff, Int.reduceLE, Int.reduceLT, Int.reduceNeg, Int.reduceToNat, Nat.reduceAdd, Nat.reduceMul, Nat.reduceLeDiff, Nat.reduceMod, Nat.reduceSub, Int.reduceEq, Int.reduceNe, Int.reduceAdd, Int.reduceSub, Int.reduceMul, implies_true, wdf_fr, wdf_H, wdf_df, wdf_withH, thenQ_n, thenQ_r, blockQ_n, blockQ_r, roundQ_n, roundQ_r, noGotoQ_n, noGotoQ_r, noGotoQ_e, f8, i64]
      exact ⟨Heap.none, Heap.le_none _⟩
  · rintro e c pre Hc M hj h2
    exact h2.elim
theorem typeOf_N (ts : List TyS) (lc : List LcS) (p : PlS) (H : Heap) (hw : wfT ts) (hl : wfL ts lc) (ha : arN ts) (hp : big p.pr.length) : Does Tryz.prog 83 [.seq 5 (ts.map tyD), .seq 2 (lc.map lcD), .agg (plD p)] H fun d H' => d = .tup [i64 (typeOfP ts lc p).1, i64 (typeOfP ts lc p).2] ∧ H = H' :=
  pure_D (typeOf_0 ts lc p hw hl ha hp) rfl (vws3 (vw_refl _ _) (vw_refl _ _) (vw_refl _ _))
theorem idxFJ_N (l : List (Int × Int)) (f : FuncId) (g : (Int × Int) → Bool) (H : Heap) (hl : big l.length) (hf : ∀ x ∈ l, ∀ H1, Does Tryz.prog f [.agg (pD x)] H1 fun d H' => d = .val (.bool (g x)) ∧ H1 = H') :
    Does Tryz.prog 115 [.seq 2 (l.map pD), .fn f []] H fun d H' => ∃ r, d = i64 r ∧ decide (0 ≤ r) = l.any g ∧ H = H' := by
  have hml : (List.map pD l).length = l.length := List.length_map _
  unfold big at hl
  refine does_of _ _ Tryz.func115 rfl rfl Tryz.ntmps115 Tryz.results115 (by simp only [List.length_cons, List.length_nil]; omega) fun w0 g0 Q hret => ?_
  refine tq (cj2 @i64.eq_1 hml) ?_; intro Nx hNx Gx hGx
  refine W_loopN l.length (fun i s => s.df = [] ∧ s.fr 0 = .seq 2 (l.map pD) ∧ s.fr 1 = .fn f [] ∧ s.fr 7 = i64 l.length ∧ s.fr 8 = i64 i ∧ s.H = H ∧ l.any g = (l.drop i).any g) ⟨rfl, rfl, rfl, rfl, rfl, rfl, rfl⟩ ?_
  rintro i s hi ⟨hdf, f0, f1, f7, f8, hH, ha⟩
  have hx : (i : Int).toNat = i := Int.toNat_natCast _
  have h00 : (0 : Int) ≤ (i : Int) := Int.natCast_nonneg _
  by_cases hil : i < l.length
  case neg =>
    have q6 : ((i : Int) < (l.length : Int)) = False := eq_false (by omega)
    rw [List.drop_eq_nil_of_le (by omega)] at ha
    refine tq (cj4 f7 f8 @i64.eq_1 q6) ?_; intro Nx hNx Gx hGx
    refine rt hret hdf ?_
    exact ⟨H, (by show H.le s.H; rw [hH]; exact Heap.le_refl _), -1, rfl, by rw [ha]; rfl, rfl⟩
  have q6 : ((i : Int) < (l.length : Int)) = True := eq_true (by omega)
  have w3 : IntKind.i64.wrap ((i : Int) + 1) = ((i + 1 : Nat) : Int) := by rw [wrap_i64_of (by omega)]; omega
  have hgi : (l.map pD)[i]? = some (pD l[i]) := by rw [List.getElem?_map, List.getElem?_eq_getElem hil]; rfl
  have hq := hf l[i] (List.getElem_mem hil) s.H
  rw [List.drop_eq_getElem_cons hil, List.any_cons] at ha
  obtain ⟨u, hu⟩ : ∃ u, u = l[i] := ⟨_, rfl⟩
  rw [← hu] at hgi ha hq
  obtain ⟨gu, hgu⟩ : ∃ b, b = g u := ⟨_, rfl⟩
  rw [← hgu] at ha hq
  clear hf
  simp only [pD] at hgi hq
  refine tq (cj11 f0 f1 f7 f8 @i64.eq_1 hml q6 hgi hx h00 hil) ?_; intro Nx hNx Gx hGx
  refine hq.mono ?_
  rintro d _ ⟨rfl, rfl⟩
  cases gu
  · rw [Bool.false_or] at ha
    refine tq (cj3 f8 @i64.eq_1 w3) ?_; intro Nx hNx Gx hGx
    exact ⟨hil, hdf, f0, f1, f7, rfl, hH, ha⟩
  · refine tq (cj2 f8 @i64.eq_1) ?_; intro Nx hNx Gx hGx
    refine rt hret hdf ?_
    exact ⟨H, (by show H.le s.H; rw [hH]; exact Heap.le_refl _), i, rfl, by rw [ha]; simp, rfl⟩
theorem conFJ_N (l : List (Int × Int)) (f : FuncId) (g : (Int × Int) → Bool) (H : Heap) (hl : big l.length) (hf : ∀ x ∈ l, ∀ H1, Does Tryz.prog f [.agg (pD x)] H1 fun d H' => d = .val (.bool (g x)) ∧ H1 = H') :
    Does Tryz.prog 84 [.seq 2 (l.map pD), .fn f []] H fun d H' => d = .val (.bool (l.any g)) ∧ H = H' := by
  have hq := idxFJ_N l f g H hl hf
  refine does_of _ _ Tryz.func84 rfl rfl Tryz.ntmps84 Tryz.results84 (by simp only [List.length_cons, List.length_nil]; omega) fun w0 g0 Q hret => ?_
  refine tq @i64.eq_1 ?_; intro Nx hNx Gx hGx
  refine hq.mono ?_
  rintro d _ ⟨r, rfl, hr, rfl⟩
  refine tq @i64.eq_1 ?_; intro Nx hNx Gx hGx
  refine rt hret @i64.eq_1 ?_
  exact ⟨_, Heap.le_refl _, by rw [← hr], rfl⟩
theorem idxFT_N (l : List TyS) (f : FuncId) (g : TyS → Bool) (H : Heap) (hl : big l.length) (hf : ∀ x ∈ l, ∀ H1, Does Tryz.prog f [.agg (tyD x)] H1 fun d H' => d = .val (.bool (g x)) ∧ H1 = H') :
    Does Tryz.prog 105 [.seq 5 (l.map tyD), .fn f []] H fun d H' => ∃ r, d = i64 r ∧ decide (0 ≤ r) = l.any g ∧ H = H' := by
  have hml : (List.map tyD l).length = l.length := List.length_map _
  unfold big at hl
  refine does_of _ _ Tryz.func105 rfl rfl Tryz.ntmps105 Tryz.results105 (by simp only [List.length_cons, List.length_nil]; omega) fun w0 g0 Q hret => ?_
  refine tq (cj2 @i64.eq_1 hml) ?_; intro Nx hNx Gx hGx
  refine W_loopN l.length (fun i s => s.df = [] ∧ s.fr 0 = .seq 5 (l.map tyD) ∧ s.fr 1 = .fn f [] ∧ s.fr 7 = i64 l.length ∧ s.fr 8 = i64 i ∧ s.H = H ∧ l.any g = (l.drop i).any g) ⟨rfl, rfl, rfl, rfl, rfl, rfl, rfl⟩ ?_
  rintro i s hi ⟨hdf, f0, f1, f7, f8, hH, ha⟩
  have hx : (i : Int).toNat = i := Int.toNat_natCast _
  have h00 : (0 : Int) ≤ (i : Int) := Int.natCast_nonneg _
  by_cases hil : i < l.length
  case neg =>
    have q6 : ((i : Int) < (l.length : Int)) = False := eq_false (by omega)
    rw [List.drop_eq_nil_of_le (by omega)] at ha
    refine tq (cj4 f7 f8 @i64.eq_1 q6) ?_; intro Nx hNx Gx hGx
    refine rt hret hdf ?_
    exact ⟨H, (by show H.le s.H; rw [hH]; exact Heap.le_refl _), -1, rfl, by rw [ha]; rfl, rfl⟩
  have q6 : ((i : Int) < (l.length : Int)) = True := eq_true (by omega)
  have w3 : IntKind.i64.wrap ((i : Int) + 1) = ((i + 1 : Nat) : Int) := by rw [wrap_i64_of (by omega)]; omega
  have hgi : (l.map tyD)[i]? = some (tyD l[i]) := by rw [List.getElem?_map, List.getElem?_eq_getElem hil]; rfl
  have hq := hf l[i] (List.getElem_mem hil) s.H
  rw [List.drop_eq_getElem_cons hil, List.any_cons] at ha
  obtain ⟨u, hu⟩ : ∃ u, u = l[i] := ⟨_, rfl⟩
  rw [← hu] at hgi ha hq
  obtain ⟨gu, hgu⟩ : ∃ b, b = g u := ⟨_, rfl⟩
  rw [← hgu] at ha hq
  clear hf
  simp only [tyD] at hgi hq
  refine tq (cj11 f0 f1 f7 f8 @i64.eq_1 hml q6 hgi hx h00 hil) ?_; intro Nx hNx Gx hGx
  refine hq.mono ?_
  rintro d _ ⟨rfl, rfl⟩
  cases gu
  · rw [Bool.false_or] at ha
    refine tq (cj3 f8 @i64.eq_1 w3) ?_; intro Nx hNx Gx hGx
    exact ⟨hil, hdf, f0, f1, f7, rfl, hH, ha⟩
  · refine tq (cj2 f8 @i64.eq_1) ?_; intro Nx hNx Gx hGx
    refine rt hret hdf ?_
    exact ⟨H, (by show H.le s.H; rw [hH]; exact Heap.le_refl _), i, rfl, by rw [ha]; simp, rfl⟩
theorem conFT_N (l : List TyS) (f : FuncId) (g : TyS → Bool) (H : Heap) (hl : big l.length) (hf : ∀ x ∈ l, ∀ H1, Does Tryz.prog f [.agg (tyD x)] H1 fun d H' => d = .val (.bool (g x)) ∧ H1 = H') :
    Does Tryz.prog 109 [.seq 5 (l.map tyD), .fn f []] H fun d H' => d = .val (.bool (l.any g)) ∧ H = H' := by
  have hq := idxFT_N l f g H hl hf
  refine does_of _ _ Tryz.func109 rfl rfl Tryz.ntmps109 Tryz.results109 (by simp only [List.length_cons, List.length_nil]; omega) fun w0 g0 Q hret => ?_
  refine tq @i64.eq_1 ?_; intro Nx hNx Gx hGx
  refine hq.mono ?_
  rintro d _ ⟨r, rfl, hr, rfl⟩
  refine tq @i64.eq_1 ?_; intro Nx hNx Gx hGx
  refine rt hret @i64.eq_1 ?_
  exact ⟨_, Heap.le_refl _, by rw [← hr], rfl⟩
theorem hd1_N (x : Int × Int) (H : Heap) : Does Tryz.prog 85 [.agg (pD x)] H fun d H' => d = .val (.bool (decide (x.1 = 0))) ∧ H = H' := by
  refine Does.frz (K := fun d => d = .val (.bool (decide (x.1 = 0)))) ?_
  have hle := Heap.le_refl H
  refine does_of _ _ Tryz.func85 rfl rfl Tryz.ntmps85 Tryz.results85 (by simp only [List.length_cons, List.length_nil]; omega) fun w0 g0 Q hret => ?_
  refine tq (cj2 @i64.eq_1 @pD.eq_1) ?_; intro Nx hNx Gx hGx
  intro c1 hc1
  refine hNx _ ?_
  refine frz 1 hc1 ?_
  refine tq @i64.eq_1 ?_; intro Nx hNx Gx hGx
  refine rt hret @i64.eq_1 ?_
  exact ⟨_, Heap.le_refl _, hle, _, frz_refl hle, rfl⟩
theorem mu1_N (x : TyS) (H : Heap) : Does Tryz.prog 110 [.agg (tyD x)] H fun d H' => d = .val (.bool (!x.m)) ∧ H = H' := by
  refine Does.frz (K := fun d => d = .val (.bool (!x.m))) ?_
  have hle := Heap.le_refl H
  refine does_of _ _ Tryz.func110 rfl rfl Tryz.ntmps110 Tryz.results110 (by simp only [List.length_cons, List.length_nil]; omega) fun w0 g0 Q hret => ?_
  refine tq (cj2 @i64.eq_1 @tyD.eq_1) ?_; intro Nx hNx Gx hGx
  intro c1 hc1
  refine hNx _ ?_
  refine frz 1 hc1 ?_
  refine tq @i64.eq_1 ?_; intro Nx hNx Gx hGx
  refine rt hret @i64.eq_1 ?_
  exact ⟨_, Heap.le_refl _, hle, _, frz_refl hle, rfl⟩
theorem hasDr_N (p : PlS) (H : Heap) (hp : big p.pr.length) : Does Tryz.prog 64 [.agg (plD p), i64 0] H fun d H' => d = .val (.bool (hasDr p 0)) ∧ H = H' := by
  refine Does.frz (K := fun d => d = .val (.bool (hasDr p 0))) ?_
  have hle := Heap.le_refl H
  have hml : (List.map pD p.pr).length = p.pr.length := List.length_map _
  have hcon := conFJ_N p.pr 85 (fun x => decide (x.1 = 0)) H hp (fun x _ H1 => hd1_N x H1)
  unfold big at hp
  refine does_of _ _ Tryz.func64 rfl rfl Tryz.ntmps64 Tryz.results64 (by simp only [List.length_cons, List.length_nil]; omega) fun w0 g0 Q hret => ?_
  refine tq (cj2 @i64.eq_1 @plD.eq_1) ?_; intro Nx hNx Gx hGx
  intro c2 hc2
  refine hNx _ ?_
  refine frz 2 hc2 ?_
  have m0 : max (0 : Int) 0 = 0 := rfl
  have m1 : min (0 : Int) (p.pr.length : Int) = 0 := by omega
  refine tq (cj4 @i64.eq_1 hml m0 m1) ?_; intro Nx hNx Gx hGx
  refine ⟨by omega, hcon.mono ?_⟩
  rintro d _ ⟨rfl, rfl⟩
  refine tq @i64.eq_1 ?_; intro Nx hNx Gx hGx
  refine rt hret @i64.eq_1 ?_
  exact ⟨_, Heap.le_refl _, hle, _, frz_refl hle, by unfold hasDr; rfl⟩
end Go.Proofs.YtgfhgeelfaalmaaGreatDoor
