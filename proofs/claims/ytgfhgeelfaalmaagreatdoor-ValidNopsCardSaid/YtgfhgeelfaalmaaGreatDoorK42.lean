/- Lemmas and contracts of functions, several texts in one: H5 H6. -/
import Derived.Test.YtgfhgeelfaalmaaGreatDoorK41
import Derived.Test.YtgfhgeelfaalmaaGreatDoorK32
namespace Go.Proofs.YtgfhgeelfaalmaaGreatDoor
open Go.RowKit
set_option maxRecDepth 100000
set_option linter.unusedVariables false
set_option linter.unusedSimpArgs false
theorem blkE_eq (s : StS) : blkE s = (zeroP s.pl && blaE s.rv) := by
  unfold blkE blaE
  have h : ∀ z a b c d e f : Bool, (z && (a && b && c && d && e && f)) = (z && (a && (b && (d && (e && (f && c)))))) := by decide
  exact h _ _ _ _ _ _ _
set_option maxHeartbeats 2000000 in
theorem kstmt_N (b : BdS) (s : StS) (H : Heap) (ck : Ck b) (hp : okSt s) : Does Tryz.prog 18 [.agg (bdD b), .agg (stD s)] H fun d H' => d = i64 (stE b s) ∧ H = H' := by
  refine Does.frz (K := fun d => d = i64 (stE b s)) ?_
  have hle := Heap.le_refl H
  have hty := ktyp_N b s.pl H ck hp.1
  have hmu := kmuta_N b s.pl H ck hp.1
  have hno := knone_N s.pl H hp.1
  have hbl := kblank_N s.rv H hp.2
  have has := fun t h => kassign_N b s.rv t H ck hp.2 h (fields_in ck.wt h)
  have hin : (toE b s.pl).2 = 0 → InR b.ty.length (toE b s.pl).1 := fun h => toE_in ck h
  have hmc : (List.map lcD b.lc).length = b.lc.length := List.length_map _
  obtain ⟨y, hy⟩ : ∃ y, y = stE b s := ⟨_, rfl⟩
  rw [← hy]
  unfold stE wrtE at hy
  rw [blkE_eq] at hy
  obtain ⟨Z, hZ⟩ : ∃ Z, Z = zeroP s.pl := ⟨_, rfl⟩
  rw [← hZ] at hno hy
  obtain ⟨Bl, hB⟩ : ∃ Bl, Bl = blaE s.rv := ⟨_, rfl⟩
  rw [← hB] at hbl hy
  obtain ⟨T, hT⟩ : ∃ T, T = toE b s.pl := ⟨_, rfl⟩
  rw [← hT] at hty hin hy
  obtain ⟨Mu, hM⟩ : ∃ Mu, Mu = mutP b.ty b.lc s.pl := ⟨_, rfl⟩
  rw [← hM] at hmu hy
  clear hZ hB hT hM
  rw [bdD_eq] at hty hmu has ⊢
  obtain ⟨k, pl, rv, lo⟩ := s
  simp only at hy has hbl
  simp only [rvD] at has hbl
  simp only [plD] at hty hmu hno
  simp only [stD]
  refine does_of _ _ Tryz.func18 rfl rfl Tryz.ntmps18 Tryz.results18 (by simp only [List.length_cons, List.length_nil]; omega) fun w0 g0 Q hret => ?_
  refine tq @i64.eq_1 ?_; intro Nx hNx Gx hGx
  intro c2 hc2 c3 hc3
  refine hNx _ ?_
  obtain ⟨nFz, hFz⟩ := Heap.upd_none.1 hc3; refine W_frzp 2 rfl ((Heap.upd_ne nFz.symm).trans (Heap.upd_same _ _ _)) rfl ?_; refine W_frzp 3 rfl ((Heap.del_ne nFz).trans (Heap.upd_same _ _ _)) rfl ?_; refine W_less _ (le_two hc2 hFz) ?_; simp only [St.frzp, List.drop]
  by_cases hk : k = 0
  · have k0 : (k = 0) = True := eq_true hk
    rw [if_pos hk] at hy
    by_cases h1 : lo = 0
    case neg =>
      have q1 : (lo = 0) = False := eq_false h1
      have e : y = 2 := hy.trans (if_pos h1)
      exact oz hret (cj3 @i64.eq_1 k0 q1) hle e
    have q1 : (lo = 0) = True := eq_true h1
    rw [if_neg (fun h => h h1)] at hy
    refine tq (cj3 @i64.eq_1 k0 q1) ?_; intro Nx hNx Gx hGx
    refine hty.mono ?_
    rintro d _ ⟨rfl, rfl⟩
    by_cases h2 : T.2 = 0
    case neg =>
      have q2 : (T.2 = 0) = False := eq_false h2
      have e : y = T.2 := by rw [hy, if_pos h2, if_pos h2]
      exact oz hret (cj2 @i64.eq_1 q2) hle e
    have q2 : (T.2 = 0) = True := eq_true h2
    rw [if_neg (fun h => h h2 : ¬ (T.2 ≠ 0))] at hy
    refine tq (cj2 @i64.eq_1 q2) ?_; intro Nx hNx Gx hGx
    refine hmu.mono ?_
    rintro d _ ⟨rfl, rfl⟩
    cases Mu
    · have e : y = 22 := by rw [hy]; rfl
      exact oz hret (cj2 @i64.eq_1 @i64.eq_1) hle e
    have e : y = rvE b rv T.1 := by rw [hy]; rfl
    refine tq @i64.eq_1 ?_; intro Nx hNx Gx hGx
    refine (has T.1 (hin h2)).mono ?_
    rintro d _ ⟨rfl, rfl⟩
    exact oz hret (cj2 @i64.eq_1 q1) hle e
  have k0 : (k = 0) = False := eq_false hk
  rw [if_neg hk] at hy
  by_cases hk1 : k = 1
  · have k1 : (k = 1) = True := eq_true hk1
    rw [if_pos hk1] at hy
    refine tq (cj3 @i64.eq_1 k0 k1) ?_; intro Nx hNx Gx hGx
    refine hno.mono ?_
    rintro d _ ⟨rfl, rfl⟩
    cases Z
    · have e : y = 2 := hy
      exact oz hret (cj2 @i64.eq_1 @i64.eq_1) hle e
    rw [Bool.true_and] at hy
    refine tq @i64.eq_1 ?_; intro Nx hNx Gx hGx
    refine hbl.mono ?_
    rintro d _ ⟨rfl, rfl⟩
    cases Bl
    · have e : y = 2 := hy
      exact oz hret (cj2 @i64.eq_1 @i64.eq_1) hle e
    rw [if_neg (fun h => by cases h)] at hy
    by_cases h1 : lo < 0
    · have q1 : (lo < 0) = True := eq_true h1
      have e : y = 3 := hy.trans (if_pos (.inl h1))
      exact oz hret (cj2 @i64.eq_1 q1) hle e
    have q1 : (lo < 0) = False := eq_false h1
    by_cases h2 : (b.lc.length : Int) ≤ lo
    · have q2 : (lo ≥ (b.lc.length : Int)) = True := eq_true h2
      have e : y = 3 := hy.trans (if_pos (.inr h2))
      exact oz hret (cj4 @i64.eq_1 q1 q2 hmc) hle e
    have q2 : (lo ≥ (b.lc.length : Int)) = False := eq_false h2
    have e : y = 0 := hy.trans (if_neg (by omega))
    exact oz hret (cj4 @i64.eq_1 q1 q2 hmc) hle e
  have k1 : (k = 1) = False := eq_false hk1
  rw [if_neg hk1] at hy
  by_cases hk2 : k = 2
  · have k2 : (k = 2) = True := eq_true hk2
    rw [if_pos hk2] at hy
    refine tq (cj4 @i64.eq_1 k0 k1 k2) ?_; intro Nx hNx Gx hGx
    refine hno.mono ?_
    rintro d _ ⟨rfl, rfl⟩
    cases Z
    · have e : y = 2 := hy
      exact oz hret (cj2 @i64.eq_1 @i64.eq_1) hle e
    rw [Bool.true_and] at hy
    refine tq @i64.eq_1 ?_; intro Nx hNx Gx hGx
    refine hbl.mono ?_
    rintro d _ ⟨rfl, rfl⟩
    cases Bl
    · have e : y = 2 := hy
      exact oz hret (cj2 @i64.eq_1 @i64.eq_1) hle e
    by_cases h1 : lo = 0
    · have q1 : (lo = 0) = True := eq_true h1
      have e : y = 0 := hy.trans (if_neg (by rintro (h | h); cases h; exact h h1))
      exact oz hret (cj2 @i64.eq_1 q1) hle e
    · have q1 : (lo = 0) = False := eq_false h1
      have e : y = 2 := hy.trans (if_pos (.inr h1))
      exact oz hret (cj2 @i64.eq_1 q1) hle e
  have k2 : (k = 2) = False := eq_false hk2
  rw [if_neg hk2] at hy
  have e : y = 14 := hy
  exact oz hret (cj4 @i64.eq_1 k0 k1 k2) hle e
def T1 (b : BdS) (k : Int) (tg : List Int) (ar : List OpS) (pl : PlS) (nm : ByteArray) (H : Heap) (s : St) : Prop := s.df = [] ∧ s.fr 2 = .rp [strD b.nm, .seq 1 (b.rg.map sD), .seq 2 (b.ol.map pD), .seq 5 (b.ty.map tyD), .seq 2 (b.lc.map lcD), i64 b.ag, .seq 7 (b.bl.map bkD)] ∧ s.fr 3 = .rp [i64 k, .seq 1 (tg.map iD), .seq 4 (ar.map opD), i64 pl.lo, .seq 2 (pl.pr.map pD), strD nm] ∧ s.fr 6 = .val (.bool (decide (k = 3))) ∧ s.H = H
noncomputable def tmR (b : BdS) (k : Int) (tg : List Int) (ar : List OpS) (pl : PlS) (nm : ByteArray) (o : OpS) : Int :=
  if (tg.all fun x => decide (InR b.bl.length x)) = false then 3
  else if k = 1 then (if opE b o ≠ 0 then opE b o else if kdE b o ≠ 1 then 22 else 0)
  else if k = 3 then (if isId nm = false then 12 else if 65535 < ar.length then 15 else if opsE b ar [] ≠ 0 then opsE b ar [] else wrtE b pl)
  else if k = 4 then (if (toE b pl).2 ≠ 0 then (toE b pl).2 else if hasDr pl 0 = true then 22 else 0)
  else 0
theorem fld_ar0 {t : TmS} (h : fldE t = true) (h1 : t.k ≠ 1) (h3 : t.k ≠ 3) : t.ar.length = 0 := by
  unfold fldE at h
  by_cases h0 : t.k = 0
  · rw [if_pos h0] at h
    simp only [Bool.and_eq_true, decide_eq_true_eq] at h
    exact h.1.1.2
  rw [if_neg h0, if_neg h1, if_neg h3] at h
  by_cases h4 : t.k = 4
  · rw [if_pos h4] at h
    simp only [Bool.and_eq_true, decide_eq_true_eq] at h
    exact h.1.2
  · rw [if_neg h4] at h
    simp only [Bool.and_eq_true, decide_eq_true_eq] at h
    exact h.1.1.2
set_option maxHeartbeats 4000000 in
theorem kterm_N (b : BdS) (t : TmS) (H : Heap) (ck : Ck b) (hp : okTm t) (hnm : big t.nm.size) : Does Tryz.prog 20 [.agg (bdD b), .agg (tmD t)] H fun d H' => d = i64 (tmE b t) ∧ H = H' := by
  refine Does.frz (K := fun d => d = i64 (tmE b t)) ?_
  have hle := Heap.le_refl H
  have hop : ∀ o ∈ t.ar, ∀ H1, CallOK Tryz.prog 15 [.agg (bdD b), .agg (opD o)] H1 fun d A => A = Heap.none ∧ d = i64 (opE b o) := fun o ho H1 => callOK_eq fun H'' hle'' => koperand_N b o H'' ck (hp.2.1.2 o ho)
  have hfk : ∀ o ∈ t.ar, opE b o = 0 → ∀ H1, CallOK Tryz.prog 42 [.agg (bdD b), .agg (opD o), i64 1] H1 fun d A => A = Heap.none ∧ d = .val (.bool (decide (kdE b o = 1))) := fun o ho hz H1 => callOK_eq fun H'' hle'' => kfitsK_N b o 1 H'' ck (hp.2.1.2 o ho) hz
  have hno : ∀ H1, CallOK Tryz.prog 34 [.agg (plD t.pl)] H1 fun d A => A = Heap.none ∧ d = .val (.bool (zeroP t.pl)) := fun H1 => callOK_eq fun H'' hle'' => knone_N t.pl H'' hp.2.2
  have hid := kisid_N t.nm H hnm
  have hty := ktyp_N b t.pl H ck hp.2.2
  have hmu := kmuta_N b t.pl H ck hp.2.2
  have hdr := khasDr_N t.pl H hp.2.2
  have hmt : (List.map iD t.tg).length = t.tg.length := List.length_map _
  have hma : (List.map opD t.ar).length = t.ar.length := List.length_map _
  have hmb : (List.map bkD b.bl).length = b.bl.length := List.length_map _
  have htl := hp.1
  have hal := hp.2.1.1
  have hbl := ck.bll
  unfold big at htl hal hbl
  have hf1 : fldE t = true → t.k = 1 → t.ar.length = 1 := fld_ar
  have hf0 : fldE t = true → t.k ≠ 1 → t.k ≠ 3 → t.ar.length = 0 := fld_ar0
  obtain ⟨y, hy⟩ : ∃ y, y = tmE b t := ⟨_, rfl⟩
  rw [← hy]
  have hy2 : y = if t.k < 0 ∨ 5 < t.k then 14 else if fldE t = false then 2 else tmR b t.k t.tg t.ar t.pl t.nm (op0 t) := hy
  clear hy
  have ho0 : t.ar.length = 1 → [op0 t] = t.ar := fun h => by
    obtain ⟨o, ho⟩ := List.length_eq_one_iff.1 h
    unfold op0; rw [ho]; rfl
  obtain ⟨O, hO⟩ : ∃ O, O = op0 t := ⟨_, rfl⟩
  rw [← hO] at hy2 ho0
  clear hO
  rw [bdD_eq] at hop hfk hty hmu ⊢
  have hfl := fldE_eq t
  unfold cntE at hfl
  obtain ⟨F, hF⟩ : ∃ F, F = fldE t := ⟨_, rfl⟩
  rw [← hF] at hfl hy2 hf1 hf0
  clear hF hp
  obtain ⟨Z, hZ⟩ : ∃ Z, Z = zeroP t.pl := ⟨_, rfl⟩
  rw [← hZ] at hno hfl
  clear hZ
  obtain ⟨k, tg, ar, pl, nm⟩ := t
  simp only at hy2 hmt hma htl hal hf1 hf0 hop hfk ho0 hfl hid
  simp only [plD] at hty hmu hdr hno
  simp only [opD] at hop hfk
  simp only [tmD]
  obtain ⟨R, hR⟩ : ∃ R, R = tmR b k tg ar pl nm O := ⟨_, rfl⟩
  rw [← hR] at hy2
  refine does_of _ _ Tryz.func20 rfl rfl Tryz.ntmps20 Tryz.results20 (by simp only [List.length_cons, List.length_nil]; omega) fun w0 g0 Q hret => ?_
  refine tq @i64.eq_1 ?_; intro Nx hNx Gx hGx
  intro c2 hc2 c3 hc3
  refine hNx _ ?_
  obtain ⟨nFz, hFz⟩ := Heap.upd_none.1 hc3; refine W_frzp 2 rfl ((Heap.upd_ne nFz.symm).trans (Heap.upd_same _ _ _)) rfl ?_; refine W_frzp 3 rfl ((Heap.del_ne nFz).trans (Heap.upd_same _ _ _)) rfl ?_; refine W_less _ (le_two hc2 hFz) ?_; simp only [St.frzp, List.drop]
  by_cases h1 : k < 0
  · have q1 : (k < 0) = True := eq_true h1
    have e : y = 14 := hy2.trans (if_pos (.inl h1))
    exact oz hret (cj2 @i64.eq_1 q1) hle e
  have q1 : (k < 0) = False := eq_false h1
  by_cases h2 : 5 < k
  · have q2 : (5 < k) = True := eq_true h2
    have e : y = 14 := hy2.trans (if_pos (.inr h2))
    exact oz hret (cj3 @i64.eq_1 q1 q2) hle e
  have q2 : (5 < k) = False := eq_false h2
  rw [if_neg (by omega)] at hy2
  refine tq (cj3 @i64.eq_1 q1 q2) ?_; intro Nx hNx Gx hGx
  intro c5 hc5
  refine hNx _ ?_
  refine frz 5 hc5 ?_
  (have fs := @i64.eq_1; (iterate 3 (first | refine hGx _ ?_ | refine hNx _ ?_ | refine W_skip ?_ | refine W_exit ?_ | refine W_ret ?_ | refine W_label ?_ | refine W_scope ?_ | refine W_block ?_ | refine W_seq ?_ | ((first | refine tS fun Nx hNx => ?_ | refine WL_gE rfl rfl (by kernel_rfl) (by kernel_rfl) fun Gx hGx => ?_ | refine vcOpsS_sound (by kernel_rfl) ?_ | refine W_ifE fun A B hAx hBx => ?_); refine evT ?_; (first | refine hGx _ ?_ | refine hNx _ ?_ | refine hAx ?_ | refine hBx ?_ | skip)))); (try clear fs))
  refine W_toR (fun s => T1 b k tg ar pl nm H s ∧ F = true) ?_ ?_
  · have hk : k = 0 ∨ k = 1 ∨ k = 2 ∨ k = 3 ∨ k = 4 ∨ k = 5 := by omega
    rcases hk with hk | hk | hk | hk | hk | hk
    ·
      by_cases ht : (tg.length : Int) = 1
      case neg =>
        have q3 : ((tg.length : Int) = 1) = False := eq_false ht
        have hff : F = false := by rw [hfl, if_pos hk, decide_eq_false ht]; try rfl
        have e : y = 2 := by rw [hy2, hff, if_pos rfl]
        refine W_seq ?_
        refine W_drawE (fun _ _ _ _ => False) (by kernel_rfl) (by kernel_rfl) (by kernel_rfl) fun Nx hNx => ?_; refine dst (cj4 @i64.eq_1 hk hmt q3) ?_; intro Nx hNx Gx hGx
        refine tq @i64.eq_1 ?_; intro Nx hNx Gx hGx
        refine ⟨by simp, ?_⟩
        refine rt hret @i64.eq_1 ?_; exact ⟨_, Heap.le_refl _, hle, _, frz_refl hle, by rw [e]⟩
      have q3 : ((tg.length : Int) = 1) = True := eq_true ht
      rw [if_pos hk, decide_eq_true ht] at hfl
      by_cases hn : nm = ByteArray.empty
      case neg =>
        have qn : (nm.toList = (ByteArray.mk #[]).toList) = False := eq_false (fun h => hn (toL_inj.1 h))
        have hff : F = false := by rw [hfl, decide_eq_false hn, Bool.and_false]
        have e : y = 2 := by rw [hy2, hff, if_pos rfl]
        refine W_seq ?_
        refine W_drawE (fun _ _ _ _ => False) (by kernel_rfl) (by kernel_rfl) (by kernel_rfl) fun Nx hNx => ?_; refine dst (cj6 @i64.eq_1 hk hmt q3 @strD.eq_1 qn) ?_; intro Nx hNx Gx hGx
        refine tq @i64.eq_1 ?_; intro Nx hNx Gx hGx
        refine ⟨by simp, ?_⟩
        refine rt hret @i64.eq_1 ?_; exact ⟨_, Heap.le_refl _, hle, _, frz_refl hle, by rw [e]⟩
      have qn : (nm.toList = (ByteArray.mk #[]).toList) = True := eq_true (toL_inj.2 hn)
      rw [decide_eq_true hn, Bool.and_true] at hfl
      cases Z
      case false =>
        have hff : F = false := by rw [hfl, Bool.and_false]
        have e : y = 2 := by rw [hy2, hff, if_pos rfl]
        refine W_seq ?_
        refine W_drawE (fun _ _ d A => A = .none ∧ d = .val (.bool false)) (by kernel_rfl) (by kernel_rfl) (by kernel_rfl) fun Nx hNx => ?_; refine dst (cj7 @i64.eq_1 hk hmt q3 @strD.eq_1 qn hma) ?_; intro Nx hNx Gx hGx
        refine ⟨hno _, ?_⟩
        (first | refine hGx _ ?_ | skip)
        (first | refine dst (cj7 @i64.eq_1 hk hmt q3 @strD.eq_1 qn hma) ?_; intro Nx hNx Gx hGx | skip)
        refine tq @i64.eq_1 ?_; intro Nx hNx Gx hGx
        refine ⟨by simp, ?_⟩
        refine rt hret @i64.eq_1 ?_; exact ⟨_, Heap.le_refl _, hle, _, frz_refl hle, by rw [e]⟩
      rw [Bool.and_true] at hfl
      by_cases ha : (ar.length : Int) = 0
      case neg =>
        have qa : ((0 : Int) < (ar.length : Int)) = True := eq_true (by omega)
        have hff : F = false := by rw [hfl, decide_eq_false ha]; rfl
        have e : y = 2 := by rw [hy2, hff, if_pos rfl]
        refine W_seq ?_
        refine W_drawE (fun _ _ d A => A = .none ∧ d = .val (.bool true)) (by kernel_rfl) (by kernel_rfl) (by kernel_rfl) fun Nx hNx => ?_; refine dst (cj8 @i64.eq_1 hk hmt q3 @strD.eq_1 qn hma qa) ?_; intro Nx hNx Gx hGx
        refine ⟨hno _, ?_⟩
        (first | refine hGx _ ?_ | skip)
        (first | refine dst (cj8 @i64.eq_1 hk hmt q3 @strD.eq_1 qn hma qa) ?_; intro Nx hNx Gx hGx | skip)
        refine tq @i64.eq_1 ?_; intro Nx hNx Gx hGx
        refine ⟨by simp, ?_⟩
        refine rt hret @i64.eq_1 ?_; exact ⟨_, Heap.le_refl _, hle, _, frz_refl hle, by rw [e]⟩
      have qa : ((0 : Int) < (ar.length : Int)) = False := eq_false (by omega)
      refine W_seq ?_
      refine W_drawE (fun _ _ d A => A = .none ∧ d = .val (.bool true)) (by kernel_rfl) (by kernel_rfl) (by kernel_rfl) fun Nx hNx => ?_; refine dst (cj8 @i64.eq_1 hk hmt q3 @strD.eq_1 qn hma qa) ?_; intro Nx hNx Gx hGx
      refine ⟨hno _, ?_⟩
      (first | refine hGx _ ?_ | skip)
      (first | refine dst (cj8 @i64.eq_1 hk hmt q3 @strD.eq_1 qn hma qa) ?_; intro Nx hNx Gx hGx | skip)
      refine tq @i64.eq_1 ?_; intro Nx hNx Gx hGx
      exact ⟨⟨rfl, rfl, by subst hk; rfl, by subst hk; rfl, rfl⟩, by rw [hfl, decide_eq_true ha]; try rfl⟩
    ·
      by_cases ht : (tg.length : Int) = 2
      case neg =>
        have q3 : ((tg.length : Int) = 2) = False := eq_false ht
        have hff : F = false := by rw [hfl, if_neg (by omega), if_pos hk, decide_eq_false ht]; try rfl
        have e : y = 2 := by rw [hy2, hff, if_pos rfl]
        refine W_seq ?_
        refine W_drawE (fun _ _ _ _ => False) (by kernel_rfl) (by kernel_rfl) (by kernel_rfl) fun Nx hNx => ?_; refine dst (cj4 @i64.eq_1 hk hmt q3) ?_; intro Nx hNx Gx hGx
        refine tq @i64.eq_1 ?_; intro Nx hNx Gx hGx
        refine ⟨by simp, ?_⟩
        refine rt hret @i64.eq_1 ?_; exact ⟨_, Heap.le_refl _, hle, _, frz_refl hle, by rw [e]⟩
      have q3 : ((tg.length : Int) = 2) = True := eq_true ht
      rw [if_neg (by omega), if_pos hk, decide_eq_true ht] at hfl
      by_cases hn : nm = ByteArray.empty
      case neg =>
        have qn : (nm.toList = (ByteArray.mk #[]).toList) = False := eq_false (fun h => hn (toL_inj.1 h))
        have hff : F = false := by rw [hfl, decide_eq_false hn, Bool.and_false]
        have e : y = 2 := by rw [hy2, hff, if_pos rfl]
        refine W_seq ?_
        refine W_drawE (fun _ _ _ _ => False) (by kernel_rfl) (by kernel_rfl) (by kernel_rfl) fun Nx hNx => ?_; refine dst (cj6 @i64.eq_1 hk hmt q3 @strD.eq_1 qn) ?_; intro Nx hNx Gx hGx
        refine tq @i64.eq_1 ?_; intro Nx hNx Gx hGx
        refine ⟨by simp, ?_⟩
        refine rt hret @i64.eq_1 ?_; exact ⟨_, Heap.le_refl _, hle, _, frz_refl hle, by rw [e]⟩
      have qn : (nm.toList = (ByteArray.mk #[]).toList) = True := eq_true (toL_inj.2 hn)
      rw [decide_eq_true hn, Bool.and_true] at hfl
      cases Z
      case false =>
        have hff : F = false := by rw [hfl, Bool.and_false]
        have e : y = 2 := by rw [hy2, hff, if_pos rfl]
        refine W_seq ?_
        refine W_drawE (fun _ _ d A => A = .none ∧ d = .val (.bool false)) (by kernel_rfl) (by kernel_rfl) (by kernel_rfl) fun Nx hNx => ?_; refine dst (cj7 @i64.eq_1 hk hmt q3 @strD.eq_1 qn hma) ?_; intro Nx hNx Gx hGx
        refine ⟨hno _, ?_⟩
        (first | refine hGx _ ?_ | skip)
        (first | refine dst (cj7 @i64.eq_1 hk hmt q3 @strD.eq_1 qn hma) ?_; intro Nx hNx Gx hGx | skip)
        refine tq @i64.eq_1 ?_; intro Nx hNx Gx hGx
        refine ⟨by simp, ?_⟩
        refine rt hret @i64.eq_1 ?_; exact ⟨_, Heap.le_refl _, hle, _, frz_refl hle, by rw [e]⟩
      rw [Bool.and_true] at hfl
      by_cases ha : (ar.length : Int) = 1
      case neg =>
        have qa : ((ar.length : Int) = 1) = False := eq_false (by omega)
        have hff : F = false := by rw [hfl, decide_eq_false ha]; rfl
        have e : y = 2 := by rw [hy2, hff, if_pos rfl]
        refine W_seq ?_
        refine W_drawE (fun _ _ d A => A = .none ∧ d = .val (.bool true)) (by kernel_rfl) (by kernel_rfl) (by kernel_rfl) fun Nx hNx => ?_; refine dst (cj8 @i64.eq_1 hk hmt q3 @strD.eq_1 qn hma qa) ?_; intro Nx hNx Gx hGx
        refine ⟨hno _, ?_⟩
        (first | refine hGx _ ?_ | skip)
        (first | refine dst (cj8 @i64.eq_1 hk hmt q3 @strD.eq_1 qn hma qa) ?_; intro Nx hNx Gx hGx | skip)
        refine tq @i64.eq_1 ?_; intro Nx hNx Gx hGx
        refine ⟨by simp, ?_⟩
        refine rt hret @i64.eq_1 ?_; exact ⟨_, Heap.le_refl _, hle, _, frz_refl hle, by rw [e]⟩
      have qa : ((ar.length : Int) = 1) = True := eq_true (by omega)
      refine W_seq ?_
      refine W_drawE (fun _ _ d A => A = .none ∧ d = .val (.bool true)) (by kernel_rfl) (by kernel_rfl) (by kernel_rfl) fun Nx hNx => ?_; refine dst (cj8 @i64.eq_1 hk hmt q3 @strD.eq_1 qn hma qa) ?_; intro Nx hNx Gx hGx
      refine ⟨hno _, ?_⟩
      (first | refine hGx _ ?_ | skip)
      (first | refine dst (cj8 @i64.eq_1 hk hmt q3 @strD.eq_1 qn hma qa) ?_; intro Nx hNx Gx hGx | skip)
      refine tq @i64.eq_1 ?_; intro Nx hNx Gx hGx
      exact ⟨⟨rfl, rfl, by subst hk; rfl, by subst hk; rfl, rfl⟩, by rw [hfl, decide_eq_true ha]; try rfl⟩
    ·
      by_cases ht : (tg.length : Int) = 0
      case neg =>
        have q3 : ((tg.length : Int) = 0) = False := eq_false ht
        have hff : F = false := by rw [hfl, if_neg (by omega), if_neg (by omega), if_neg (by omega), if_neg (by omega), decide_eq_false ht]; try rfl
        have e : y = 2 := by rw [hy2, hff, if_pos rfl]
        refine W_seq ?_
        refine W_drawE (fun _ _ _ _ => False) (by kernel_rfl) (by kernel_rfl) (by kernel_rfl) fun Nx hNx => ?_; refine dst (cj4 @i64.eq_1 hk hmt q3) ?_; intro Nx hNx Gx hGx
        refine tq @i64.eq_1 ?_; intro Nx hNx Gx hGx
        refine ⟨by simp, ?_⟩
        refine rt hret @i64.eq_1 ?_; exact ⟨_, Heap.le_refl _, hle, _, frz_refl hle, by rw [e]⟩
      have q3 : ((tg.length : Int) = 0) = True := eq_true ht
      rw [if_neg (by omega), if_neg (by omega), if_neg (by omega), if_neg (by omega), decide_eq_true ht] at hfl
      by_cases hn : nm = ByteArray.empty
      case neg =>
        have qn : (nm.toList = (ByteArray.mk #[]).toList) = False := eq_false (fun h => hn (toL_inj.1 h))
        have hff : F = false := by rw [hfl, decide_eq_false hn, Bool.and_false]
        have e : y = 2 := by rw [hy2, hff, if_pos rfl]
        refine W_seq ?_
        refine W_drawE (fun _ _ _ _ => False) (by kernel_rfl) (by kernel_rfl) (by kernel_rfl) fun Nx hNx => ?_; refine dst (cj6 @i64.eq_1 hk hmt q3 @strD.eq_1 qn) ?_; intro Nx hNx Gx hGx
        refine tq @i64.eq_1 ?_; intro Nx hNx Gx hGx
        refine ⟨by simp, ?_⟩
        refine rt hret @i64.eq_1 ?_; exact ⟨_, Heap.le_refl _, hle, _, frz_refl hle, by rw [e]⟩
      have qn : (nm.toList = (ByteArray.mk #[]).toList) = True := eq_true (toL_inj.2 hn)
      rw [decide_eq_true hn, Bool.and_true] at hfl
      cases Z
      case false =>
        have hff : F = false := by rw [hfl, Bool.and_false]
        have e : y = 2 := by rw [hy2, hff, if_pos rfl]
        refine W_seq ?_
        refine W_drawE (fun _ _ d A => A = .none ∧ d = .val (.bool false)) (by kernel_rfl) (by kernel_rfl) (by kernel_rfl) fun Nx hNx => ?_; refine dst (cj7 @i64.eq_1 hk hmt q3 @strD.eq_1 qn hma) ?_; intro Nx hNx Gx hGx
        refine ⟨hno _, ?_⟩
        (first | refine hGx _ ?_ | skip)
        (first | refine dst (cj7 @i64.eq_1 hk hmt q3 @strD.eq_1 qn hma) ?_; intro Nx hNx Gx hGx | skip)
        refine tq @i64.eq_1 ?_; intro Nx hNx Gx hGx
        refine ⟨by simp, ?_⟩
        refine rt hret @i64.eq_1 ?_; exact ⟨_, Heap.le_refl _, hle, _, frz_refl hle, by rw [e]⟩
      rw [Bool.and_true] at hfl
      by_cases ha : (ar.length : Int) = 0
      case neg =>
        have qa : ((0 : Int) < (ar.length : Int)) = True := eq_true (by omega)
        have hff : F = false := by rw [hfl, decide_eq_false ha]; rfl
        have e : y = 2 := by rw [hy2, hff, if_pos rfl]
        refine W_seq ?_
        refine W_drawE (fun _ _ d A => A = .none ∧ d = .val (.bool true)) (by kernel_rfl) (by kernel_rfl) (by kernel_rfl) fun Nx hNx => ?_; refine dst (cj8 @i64.eq_1 hk hmt q3 @strD.eq_1 qn hma qa) ?_; intro Nx hNx Gx hGx
        refine ⟨hno _, ?_⟩
        (first | refine hGx _ ?_ | skip)
        (first | refine dst (cj8 @i64.eq_1 hk hmt q3 @strD.eq_1 qn hma qa) ?_; intro Nx hNx Gx hGx | skip)
        refine tq @i64.eq_1 ?_; intro Nx hNx Gx hGx
        refine ⟨by simp, ?_⟩
        refine rt hret @i64.eq_1 ?_; exact ⟨_, Heap.le_refl _, hle, _, frz_refl hle, by rw [e]⟩
      have qa : ((0 : Int) < (ar.length : Int)) = False := eq_false (by omega)
      refine W_seq ?_
      refine W_drawE (fun _ _ d A => A = .none ∧ d = .val (.bool true)) (by kernel_rfl) (by kernel_rfl) (by kernel_rfl) fun Nx hNx => ?_; refine dst (cj8 @i64.eq_1 hk hmt q3 @strD.eq_1 qn hma qa) ?_; intro Nx hNx Gx hGx
      refine ⟨hno _, ?_⟩
      (first | refine hGx _ ?_ | skip)
      (first | refine dst (cj8 @i64.eq_1 hk hmt q3 @strD.eq_1 qn hma qa) ?_; intro Nx hNx Gx hGx | skip)
      refine tq @i64.eq_1 ?_; intro Nx hNx Gx hGx
      exact ⟨⟨rfl, rfl, by subst hk; rfl, by subst hk; rfl, rfl⟩, by rw [hfl, decide_eq_true ha]; try rfl⟩
    ·
      by_cases ht : (tg.length : Int) = 1
      case neg =>
        have q3 : ((tg.length : Int) = 1) = False := eq_false ht
        have hff : F = false := by rw [hfl, if_neg (by omega), if_neg (by omega), if_pos hk, decide_eq_false ht]; try rfl
        have e : y = 2 := by rw [hy2, hff, if_pos rfl]
        refine W_seq ?_
        refine W_drawE (fun _ _ _ _ => False) (by kernel_rfl) (by kernel_rfl) (by kernel_rfl) fun Nx hNx => ?_; refine dst (cj4 @i64.eq_1 hk hmt q3) ?_; intro Nx hNx Gx hGx
        refine tq @i64.eq_1 ?_; intro Nx hNx Gx hGx
        refine ⟨by simp, ?_⟩
        refine rt hret @i64.eq_1 ?_; exact ⟨_, Heap.le_refl _, hle, _, frz_refl hle, by rw [e]⟩
      have q3 : ((tg.length : Int) = 1) = True := eq_true ht
      rw [if_neg (by omega), if_neg (by omega), if_pos hk, decide_eq_true ht] at hfl
      refine W_seq ?_
      refine W_drawE (fun _ _ _ _ => False) (by kernel_rfl) (by kernel_rfl) (by kernel_rfl) fun Nx hNx => ?_; refine dst (cj4 @i64.eq_1 hk hmt q3) ?_; intro Nx hNx Gx hGx
      refine tq @i64.eq_1 ?_; intro Nx hNx Gx hGx
      exact ⟨⟨rfl, rfl, by subst hk; rfl, by subst hk; rfl, rfl⟩, hfl⟩
    ·
      by_cases ht : (tg.length : Int) = 1
      case neg =>
        have q3 : ((tg.length : Int) = 1) = False := eq_false ht
        have hff : F = false := by rw [hfl, if_neg (by omega), if_neg (by omega), if_neg (by omega), if_pos hk, decide_eq_false ht]; try rfl
        have e : y = 2 := by rw [hy2, hff, if_pos rfl]
        refine W_seq ?_
        refine W_drawE (fun _ _ _ _ => False) (by kernel_rfl) (by kernel_rfl) (by kernel_rfl) fun Nx hNx => ?_; refine dst (cj4 @i64.eq_1 hk hmt q3) ?_; intro Nx hNx Gx hGx
        refine tq @i64.eq_1 ?_; intro Nx hNx Gx hGx
        refine ⟨by simp, ?_⟩
        refine rt hret @i64.eq_1 ?_; exact ⟨_, Heap.le_refl _, hle, _, frz_refl hle, by rw [e]⟩
      have q3 : ((tg.length : Int) = 1) = True := eq_true ht
      rw [if_neg (by omega), if_neg (by omega), if_neg (by omega), if_pos hk, decide_eq_true ht] at hfl
      by_cases hn : nm = ByteArray.empty
      case neg =>
        have qn : (nm.toList = (ByteArray.mk #[]).toList) = False := eq_false (fun h => hn (toL_inj.1 h))
        have hff : F = false := by rw [hfl, decide_eq_false hn, Bool.and_false]
        have e : y = 2 := by rw [hy2, hff, if_pos rfl]
        refine W_seq ?_
        refine W_drawE (fun _ _ _ _ => False) (by kernel_rfl) (by kernel_rfl) (by kernel_rfl) fun Nx hNx => ?_; refine dst (cj6 @i64.eq_1 hk hmt q3 @strD.eq_1 qn) ?_; intro Nx hNx Gx hGx
        refine tq @i64.eq_1 ?_; intro Nx hNx Gx hGx
        refine ⟨by simp, ?_⟩
        refine rt hret @i64.eq_1 ?_; exact ⟨_, Heap.le_refl _, hle, _, frz_refl hle, by rw [e]⟩
      have qn : (nm.toList = (ByteArray.mk #[]).toList) = True := eq_true (toL_inj.2 hn)
      rw [decide_eq_true hn, Bool.and_true] at hfl
      by_cases ha : (ar.length : Int) = 0
      case neg =>
        have qa : ((0 : Int) < (ar.length : Int)) = True := eq_true (by omega)
        have hff : F = false := by rw [hfl, decide_eq_false ha]; rfl
        have e : y = 2 := by rw [hy2, hff, if_pos rfl]
        refine W_seq ?_
        refine W_drawE (fun _ _ _ _ => False) (by kernel_rfl) (by kernel_rfl) (by kernel_rfl) fun Nx hNx => ?_; refine dst (cj8 @i64.eq_1 hk hmt q3 @strD.eq_1 qn hma qa) ?_; intro Nx hNx Gx hGx
        refine tq @i64.eq_1 ?_; intro Nx hNx Gx hGx
        refine ⟨by simp, ?_⟩
        refine rt hret @i64.eq_1 ?_; exact ⟨_, Heap.le_refl _, hle, _, frz_refl hle, by rw [e]⟩
      have qa : ((0 : Int) < (ar.length : Int)) = False := eq_false (by omega)
      refine W_seq ?_
      refine W_drawE (fun _ _ _ _ => False) (by kernel_rfl) (by kernel_rfl) (by kernel_rfl) fun Nx hNx => ?_; refine dst (cj8 @i64.eq_1 hk hmt q3 @strD.eq_1 qn hma qa) ?_; intro Nx hNx Gx hGx
      refine tq @i64.eq_1 ?_; intro Nx hNx Gx hGx
      exact ⟨⟨rfl, rfl, by subst hk; rfl, by subst hk; rfl, rfl⟩, by rw [hfl, decide_eq_true ha]; try rfl⟩
    ·
      by_cases ht : (tg.length : Int) = 0
      case neg =>
        have q3 : ((tg.length : Int) = 0) = False := eq_false ht
        have hff : F = false := by rw [hfl, if_neg (by omega), if_neg (by omega), if_neg (by omega), if_neg (by omega), decide_eq_false ht]; try rfl
        have e : y = 2 := by rw [hy2, hff, if_pos rfl]
        refine W_seq ?_
        refine W_drawE (fun _ _ _ _ => False) (by kernel_rfl) (by kernel_rfl) (by kernel_rfl) fun Nx hNx => ?_; refine dst (cj4 @i64.eq_1 hk hmt q3) ?_; intro Nx hNx Gx hGx
        refine tq @i64.eq_1 ?_; intro Nx hNx Gx hGx
        refine ⟨by simp, ?_⟩
        refine rt hret @i64.eq_1 ?_; exact ⟨_, Heap.le_refl _, hle, _, frz_refl hle, by rw [e]⟩
      have q3 : ((tg.length : Int) = 0) = True := eq_true ht
      rw [if_neg (by omega), if_neg (by omega), if_neg (by omega), if_neg (by omega), decide_eq_true ht] at hfl
      by_cases hn : nm = ByteArray.empty
      case neg =>
        have qn : (nm.toList = (ByteArray.mk #[]).toList) = False := eq_false (fun h => hn (toL_inj.1 h))
        have hff : F = false := by rw [hfl, decide_eq_false hn, Bool.and_false]
        have e : y = 2 := by rw [hy2, hff, if_pos rfl]
        refine W_seq ?_
        refine W_drawE (fun _ _ _ _ => False) (by kernel_rfl) (by kernel_rfl) (by kernel_rfl) fun Nx hNx => ?_; refine dst (cj6 @i64.eq_1 hk hmt q3 @strD.eq_1 qn) ?_; intro Nx hNx Gx hGx
        refine tq @i64.eq_1 ?_; intro Nx hNx Gx hGx
        refine ⟨by simp, ?_⟩
        refine rt hret @i64.eq_1 ?_; exact ⟨_, Heap.le_refl _, hle, _, frz_refl hle, by rw [e]⟩
      have qn : (nm.toList = (ByteArray.mk #[]).toList) = True := eq_true (toL_inj.2 hn)
      rw [decide_eq_true hn, Bool.and_true] at hfl
      cases Z
      case false =>
        have hff : F = false := by rw [hfl, Bool.and_false]
        have e : y = 2 := by rw [hy2, hff, if_pos rfl]
        refine W_seq ?_
        refine W_drawE (fun _ _ d A => A = .none ∧ d = .val (.bool false)) (by kernel_rfl) (by kernel_rfl) (by kernel_rfl) fun Nx hNx => ?_; refine dst (cj7 @i64.eq_1 hk hmt q3 @strD.eq_1 qn hma) ?_; intro Nx hNx Gx hGx
        refine ⟨hno _, ?_⟩
        (first | refine hGx _ ?_ | skip)
        (first | refine dst (cj7 @i64.eq_1 hk hmt q3 @strD.eq_1 qn hma) ?_; intro Nx hNx Gx hGx | skip)
        refine tq @i64.eq_1 ?_; intro Nx hNx Gx hGx
        refine ⟨by simp, ?_⟩
        refine rt hret @i64.eq_1 ?_; exact ⟨_, Heap.le_refl _, hle, _, frz_refl hle, by rw [e]⟩
      rw [Bool.and_true] at hfl
      by_cases ha : (ar.length : Int) = 0
      case neg =>
        have qa : ((0 : Int) < (ar.length : Int)) = True := eq_true (by omega)
        have hff : F = false := by rw [hfl, decide_eq_false ha]; rfl
        have e : y = 2 := by rw [hy2, hff, if_pos rfl]
        refine W_seq ?_
        refine W_drawE (fun _ _ d A => A = .none ∧ d = .val (.bool true)) (by kernel_rfl) (by kernel_rfl) (by kernel_rfl) fun Nx hNx => ?_; refine dst (cj8 @i64.eq_1 hk hmt q3 @strD.eq_1 qn hma qa) ?_; intro Nx hNx Gx hGx
        refine ⟨hno _, ?_⟩
        (first | refine hGx _ ?_ | skip)
        (first | refine dst (cj8 @i64.eq_1 hk hmt q3 @strD.eq_1 qn hma qa) ?_; intro Nx hNx Gx hGx | skip)
        refine tq @i64.eq_1 ?_; intro Nx hNx Gx hGx
        refine ⟨by simp, ?_⟩
        refine rt hret @i64.eq_1 ?_; exact ⟨_, Heap.le_refl _, hle, _, frz_refl hle, by rw [e]⟩
      have qa : ((0 : Int) < (ar.length : Int)) = False := eq_false (by omega)
      refine W_seq ?_
      refine W_drawE (fun _ _ d A => A = .none ∧ d = .val (.bool true)) (by kernel_rfl) (by kernel_rfl) (by kernel_rfl) fun Nx hNx => ?_; refine dst (cj8 @i64.eq_1 hk hmt q3 @strD.eq_1 qn hma qa) ?_; intro Nx hNx Gx hGx
      refine ⟨hno _, ?_⟩
      (first | refine hGx _ ?_ | skip)
      (first | refine dst (cj8 @i64.eq_1 hk hmt q3 @strD.eq_1 qn hma qa) ?_; intro Nx hNx Gx hGx | skip)
      refine tq @i64.eq_1 ?_; intro Nx hNx Gx hGx
      exact ⟨⟨rfl, rfl, by subst hk; rfl, by subst hk; rfl, rfl⟩, by rw [hfl, decide_eq_true ha]; try rfl⟩
  rintro s1 ⟨⟨hdf1, f2, f3, f6, hH1⟩, hF⟩
  rw [hF, if_neg (fun h => by cases h)] at hy2
  have hf1 := hf1 hF
  have hf0 := hf0 hF
  clear hfl hno
  rw [hR] at hy2
  unfold tmR at hy2
  refine tq @i64.eq_1 ?_; intro Nx hNx Gx hGx
  refine W_loopN tg.length (fun i s => T1 b k tg ar pl nm H s ∧ s.fr 7 = i64 i ∧ (tg.all fun x => decide (InR b.bl.length x)) = ((tg.drop i).all fun x => decide (InR b.bl.length x))) ⟨⟨hdf1, f2, f3, f6, hH1⟩, rfl, rfl⟩ ?_
  clear f2 f3 f6 hH1 hdf1
  rintro i s hi ⟨⟨hdf, f2, f3, f6, hH⟩, f7, ha⟩
  have hx : (i : Int).toNat = i := Int.toNat_natCast _
  have h00 : (0 : Int) ≤ (i : Int) := Int.natCast_nonneg _
  have hleS : H.le s.H := by rw [hH]; exact Heap.le_refl _
  by_cases hil : i < tg.length
  case pos =>
    have hil' : (i : Int) < (tg.length : Int) := by omega
    have q6 : ((i : Int) < (tg.length : Int)) = True := eq_true hil'
    have w3 : IntKind.i64.wrap ((i : Int) + 1) = ((i + 1 : Nat) : Int) := by rw [wrap_i64_of (by omega)]; omega
    have hgi := get_ints hil
    rw [List.drop_eq_getElem_cons hil, List.all_cons] at ha
    obtain ⟨v, hv⟩ : ∃ v, v = tg[i] := ⟨_, rfl⟩
    rw [← hv] at hgi ha
    have hbad : ¬ InR b.bl.length v → y = 3 := fun h => by rw [decide_eq_false h, Bool.false_and] at ha; rw [hy2, ha]; rfl
    refine tq (cj5 f3 f7 @i64.eq_1 hmt q6) ?_; intro Nx hNx Gx hGx
    (try refine W_seq ?_)
    by_cases h3 : v < 0
    · have q3 : (v < 0) = True := eq_true h3
      have e := hbad (by unfold InR; omega)
      refine W_drawE (fun _ _ _ _ => False) (by kernel_rfl) (by kernel_rfl) (by kernel_rfl) fun Nx hNx => ?_; refine dst (cj11 f2 f3 f7 @i64.eq_1 hmt hgi hx h00 hil hil' q3) ?_; intro Nx hNx Gx hGx
      exact oz hret (cj2 @i64.eq_1 @i64.eq_1) hleS e
    have q3 : (v < 0) = False := eq_false h3
    by_cases h4 : (b.bl.length : Int) ≤ v
    · have q4 : (v ≥ (b.bl.length : Int)) = True := eq_true h4
      have e := hbad (by unfold InR; omega)
      refine W_drawE (fun _ _ _ _ => False) (by kernel_rfl) (by kernel_rfl) (by kernel_rfl) fun Nx hNx => ?_; refine dst (cj13 f2 f3 f7 @i64.eq_1 hmt hmb hgi hx h00 hil hil' q3 q4) ?_; intro Nx hNx Gx hGx
      exact oz hret (cj2 @i64.eq_1 @i64.eq_1) hleS e
    have q4 : (v ≥ (b.bl.length : Int)) = False := eq_false h4
    rw [decide_eq_true (by unfold InR; omega : InR b.bl.length v), Bool.true_and] at ha
    refine W_drawE (fun _ _ _ _ => False) (by kernel_rfl) (by kernel_rfl) (by kernel_rfl) fun Nx hNx => ?_; refine dst (cj13 f2 f3 f7 @i64.eq_1 hmt hmb hgi hx h00 hil hil' q3 q4) ?_; intro Nx hNx Gx hGx
    refine tq (cj3 f7 @i64.eq_1 w3) ?_; intro Nx hNx Gx hGx
    exact ⟨hil, ⟨hdf, f2, f3, f6, hH⟩, rfl, ha⟩
  have q6 : ((i : Int) < (tg.length : Int)) = False := eq_false (by omega)
  rw [List.drop_eq_nil_of_le (by omega), List.all_nil] at ha
  rw [ha, if_neg (fun h => by cases h)] at hy2
  clear ha
  have hl1 : k ≠ 3 → ar.length ≤ 1 := fun h => by
    by_cases h1 : k = 1
    · have := hf1 h1; omega
    · have := hf0 h1 h; omega
  obtain ⟨I, hI⟩ : ∃ I, I = isId nm := ⟨_, rfl⟩
  rw [← hI] at hid hy2
  clear hI
  rw [← hH] at hid
  (have fs := And.intro f3 (And.intro f7 (And.intro @i64.eq_1 (And.intro hmt q6))); (iterate 6 (first | refine hGx _ ?_ | refine hNx _ ?_ | refine W_skip ?_ | refine W_exit ?_ | refine W_ret ?_ | refine W_label ?_ | refine W_scope ?_ | refine W_block ?_ | refine W_seq ?_ | ((first | refine tS fun Nx hNx => ?_ | refine WL_gE rfl rfl (by kernel_rfl) (by kernel_rfl) fun Gx hGx => ?_ | refine vcOpsS_sound (by kernel_rfl) ?_ | refine W_ifE fun A B hAx hBx => ?_); refine evT ?_; (first | refine hGx _ ?_ | refine hNx _ ?_ | refine hAx ?_ | refine hBx ?_ | skip)))); (try clear fs))
  refine W_toR (fun s => T1 b k tg ar pl nm H s ∧ ¬ (k = 3 ∧ I = false)) ?_ ?_
  · by_cases hk3 : k = 3
    · have k3 : (k = 3) = True := eq_true hk3
      refine tq (cj4 f3 f6 @i64.eq_1 k3) ?_; intro Nx hNx Gx hGx
      refine hid.mono ?_
      rintro d _ ⟨rfl, hHH⟩
      cases I
      · have e : y = 12 := by rw [hy2, if_neg (by omega), if_pos hk3]; rfl
        rw [hHH] at hleS
        refine tq @i64.eq_1 ?_; intro Nx hNx Gx hGx
        refine ⟨by simp, ?_⟩
        refine rt hret hdf ?_; exact ⟨_, Heap.le_refl _, hleS, _, frz_refl hleS, by rw [e]; rfl⟩
      · refine tq @i64.eq_1 ?_; intro Nx hNx Gx hGx
        exact ⟨⟨hdf, f2, f3, f6, hHH ▸ hH⟩, fun h => by cases h.2⟩
    · have k3 : (k = 3) = False := eq_false hk3
      refine tq (cj4 f3 f6 @i64.eq_1 k3) ?_; intro Nx hNx Gx hGx
      exact ⟨⟨hdf, f2, f3, f6, hH⟩, fun h => hk3 h.1⟩
  clear f2 f3 f6 f7 hH hdf hleS hid
  rintro s1 ⟨⟨hdf, f2, f3, f6, hH⟩, hI⟩
  have hleS : H.le s1.H := by rw [hH]; exact Heap.le_refl _
  refine W_seq ?_
  refine W_toR (fun s => T1 b k tg ar pl nm H s ∧ ¬ (k = 3 ∧ 65535 < ar.length)) ?_ ?_
  · by_cases h5 : 65535 < ar.length
    · have hk3 : k = 3 := Classical.byContradiction fun h => by have := hl1 h; omega
      have q5 : ((65535 : Int) < (ar.length : Int)) = True := eq_true (by omega)
      have e : y = 15 := by rw [hy2, if_neg (by omega), if_pos hk3, if_neg (fun h => hI ⟨hk3, h⟩), if_pos h5]
      refine tq (cj4 f3 @i64.eq_1 hma q5) ?_; intro Nx hNx Gx hGx
      refine ⟨by simp, ?_⟩
      refine rt hret hdf ?_; exact ⟨_, Heap.le_refl _, hleS, _, frz_refl hleS, by rw [e]; rfl⟩
    · have q5 : ((65535 : Int) < (ar.length : Int)) = False := eq_false (by omega)
      refine tq (cj4 f3 @i64.eq_1 hma q5) ?_; intro Nx hNx Gx hGx
      exact ⟨⟨hdf, f2, f3, f6, hH⟩, fun h => h5 h.2⟩
  clear f2 f3 f6 hH hdf hleS
  rintro s2 ⟨⟨hdf, f2, f3, f6, hH⟩, hL⟩
  have hE : opsE b ar [] ≠ 0 → y = opsE b ar [] := fun h => by
    by_cases hk1 : k = 1
    · have hl := hf1 hk1
      have ho := ho0 hl
      have h2 : opsE b [O] [] = if opE b O ≠ 0 then opE b O else 0 := rfl
      rw [← ho, h2] at h ⊢
      rw [hy2, if_pos hk1]
      by_cases hz : opE b O = 0
      · rw [if_neg (fun k => k hz)] at h; exact absurd rfl h
      · rw [if_pos hz, if_pos hz]
    · by_cases hk3 : k = 3
      · rw [hy2, if_neg hk1, if_pos hk3, if_neg (fun h => hI ⟨hk3, h⟩), if_neg (fun h => hL ⟨hk3, h⟩), if_pos h]
      · have h0 := hf0 hk1 hk3
        rw [List.length_eq_zero_iff.1 h0] at h; exact absurd rfl h
  refine tq @i64.eq_1 ?_; intro Nx hNx Gx hGx
  refine W_loopN ar.length (fun i s => T1 b k tg ar pl nm H s ∧ s.fr 8 = i64 i ∧ opsE b ar [] = opsE b (ar.drop i) []) ⟨⟨hdf, f2, f3, f6, hH⟩, rfl, rfl⟩ ?_
  clear f2 f3 f6 hH hdf
  clear hi hx h00 q6 hil
  rintro i s hi ⟨⟨hdf, f2, f3, f6, hH⟩, f8, ha⟩
  have hx : (i : Int).toNat = i := Int.toNat_natCast _
  have h00 : (0 : Int) ≤ (i : Int) := Int.natCast_nonneg _
  have hleS : H.le s.H := by rw [hH]; exact Heap.le_refl _
  by_cases hil : i < ar.length
  case pos =>
    have hil' : (i : Int) < (ar.length : Int) := by omega
    have q6 : ((i : Int) < (ar.length : Int)) = True := eq_true hil'
    have w3 : IntKind.i64.wrap ((i : Int) + 1) = ((i + 1 : Nat) : Int) := by rw [wrap_i64_of (by omega)]; omega
    have hgi := op_get hil
    have hop := hop _ (List.getElem_mem hil) s.H
    rw [List.drop_eq_getElem_cons hil] at ha
    obtain ⟨o, ho⟩ : ∃ o, o = ar[i] := ⟨_, rfl⟩
    rw [← ho] at hgi ha hop
    clear ho
    obtain ⟨oE, hoE⟩ : ∃ oE, oE = opE b o := ⟨_, rfl⟩
    have hstep : opsE b (o :: ar.drop (i + 1)) [] = if oE ≠ 0 then oE else opsE b (ar.drop (i + 1)) [] := by rw [hoE]; rfl
    rw [hstep] at ha
    rw [← hoE] at hop
    clear hstep hoE
    simp only [opD] at hgi
    refine tq (cj5 f3 f8 @i64.eq_1 hma q6) ?_; intro Nx hNx Gx hGx
    (try refine W_seq ?_)
    refine W_drawE (fun _ _ d A => A = .none ∧ d = i64 oE) (by kernel_rfl) (by kernel_rfl) (by kernel_rfl) fun Nx hNx => ?_; refine dst (cj10 f2 f3 f8 @i64.eq_1 hma hgi hx h00 hil hil') ?_; intro Nx hNx Gx hGx
    refine ⟨hop, ?_⟩
    (first | refine hGx _ ?_ | refine hNx _ ?_ | skip)
    by_cases h0 : oE = 0
    · have q0 : (oE = 0) = True := eq_true h0
      rw [if_neg (fun h => h h0)] at ha
      refine tq (cj4 f8 @i64.eq_1 q0 w3) ?_; intro Nx hNx Gx hGx
      exact ⟨hil, ⟨hdf, f2, f3, f6, hH⟩, rfl, ha⟩
    · have q0 : (oE = 0) = False := eq_false h0
      rw [if_pos h0] at ha
      have e : y = oE := by rw [hE (by rw [ha]; exact h0), ha]
      exact oz hret (cj2 @i64.eq_1 q0) hleS e
  have q6 : ((i : Int) < (ar.length : Int)) = False := eq_false (by omega)
  rw [List.drop_eq_nil_of_le (by omega)] at ha
  have hs0 : opsE b ar [] = 0 := by rw [ha]; rfl
  have hall := opsE_all hs0
  clear hE ha hop
  obtain ⟨T, hT⟩ : ∃ T, T = toE b pl := ⟨_, rfl⟩
  obtain ⟨Mu, hM⟩ : ∃ Mu, Mu = mutP b.ty b.lc pl := ⟨_, rfl⟩
  obtain ⟨Hd, hHd⟩ : ∃ Hd, Hd = hasDr pl 0 := ⟨_, rfl⟩
  unfold wrtE at hy2
  rw [← hT, ← hM, ← hHd] at hy2
  rw [← hT] at hty
  rw [← hM] at hmu
  rw [← hHd] at hdr
  clear hT hM hHd
  rw [← hH] at hty hmu hdr
  by_cases hk1 : k = 1
  · have k1 : (k = 1) = True := eq_true hk1
    have k3 : (k = 3) = False := eq_false (by omega)
    have k4 : (k = 4) = False := eq_false (by omega)
    have hl := hf1 hk1
    have hl0 : 0 < ar.length := by omega
    have hg0 := op_get hl0
    have hO : ar[0] = O := by
      have := ho0 hl
      simp only [← this, List.getElem_cons_zero]
    have hfk := hfk _ (List.getElem_mem hl0) (hall _ (List.getElem_mem hl0)) s.H
    have hz0 := hall _ (List.getElem_mem hl0)
    rw [hO] at hg0 hfk hz0
    rw [if_pos hk1, if_neg (fun h => h hz0)] at hy2
    simp only [opD] at hg0
    by_cases hd : kdE b O = 1
    · have e : y = 0 := by rw [hy2, if_neg (fun h => h hd)]
      rw [decide_eq_true hd] at hfk
      refine tq (cj5 f3 f8 @i64.eq_1 hma q6) ?_; intro Nx hNx Gx hGx
      (try refine W_seq ?_)
      refine W_drawE (fun _ _ d A => A = .none ∧ d = .val (.bool true)) (by kernel_rfl) (by kernel_rfl) (by kernel_rfl) fun Nx hNx => ?_; refine dst (cj7 f2 f3 @i64.eq_1 k1 hg0 hma hl) ?_; intro Nx hNx Gx hGx
      refine ⟨hfk, ?_⟩
      (first | refine hGx _ ?_ | skip)
      (first | refine dst @i64.eq_1 ?_; intro Nx hNx Gx hGx | skip)
      exact oz hret (cj5 @i64.eq_1 f3 f6 k3 k4) hleS e
    · have e : y = 22 := by rw [hy2, if_pos hd]
      rw [decide_eq_false hd] at hfk
      refine tq (cj5 f3 f8 @i64.eq_1 hma q6) ?_; intro Nx hNx Gx hGx
      (try refine W_seq ?_)
      refine W_drawE (fun _ _ d A => A = .none ∧ d = .val (.bool false)) (by kernel_rfl) (by kernel_rfl) (by kernel_rfl) fun Nx hNx => ?_; refine dst (cj7 f2 f3 @i64.eq_1 k1 hg0 hma hl) ?_; intro Nx hNx Gx hGx
      refine ⟨hfk, ?_⟩
      (first | refine hGx _ ?_ | skip)
      (first | refine dst @i64.eq_1 ?_; intro Nx hNx Gx hGx | skip)
      exact oz hret (cj5 @i64.eq_1 f3 f6 k3 k4) hleS e
  have k1 : (k = 1) = False := eq_false hk1
  rw [if_neg hk1] at hy2
  refine tq (cj5 f3 f8 @i64.eq_1 hma q6) ?_; intro Nx hNx Gx hGx
  (try refine W_seq ?_)
  refine W_drawE (fun _ _ _ _ => False) (by kernel_rfl) (by kernel_rfl) (by kernel_rfl) fun Nx hNx => ?_; refine dst (cj4 f2 f3 @i64.eq_1 k1) ?_; intro Nx hNx Gx hGx
  by_cases hk3 : k = 3
  · have k3 : (k = 3) = True := eq_true hk3
    have k4 : (k = 4) = False := eq_false (by omega)
    rw [if_pos hk3, if_neg (fun h => hI ⟨hk3, h⟩), if_neg (fun h => hL ⟨hk3, h⟩), if_neg (fun h => h hs0)] at hy2
    refine tq (cj5 f2 f3 f6 @i64.eq_1 k3) ?_; intro Nx hNx Gx hGx
    refine hty.mono ?_
    rintro d _ ⟨rfl, hHH⟩
    rw [hHH] at hmu hleS
    by_cases h2 : T.2 = 0
    case neg =>
      have q2 : (T.2 = 0) = False := eq_false h2
      have e : y = T.2 := hy2.trans (if_pos h2)
      exact oz hret (cj2 @i64.eq_1 q2) hleS e
    have q2 : (T.2 = 0) = True := eq_true h2
    rw [if_neg (fun h => h h2)] at hy2
    refine tq (cj6 f2 f3 f6 @i64.eq_1 k3 q2) ?_; intro Nx hNx Gx hGx
    refine hmu.mono ?_
    rintro d _ ⟨rfl, hHH2⟩
    rw [hHH2] at hleS
    cases Mu
    · have e : y = 22 := hy2
      exact oz hret (cj3 @i64.eq_1 f3 k4) hleS e
    · have e : y = 0 := hy2
      exact oz hret (cj3 @i64.eq_1 f3 k4) hleS e
  have k3 : (k = 3) = False := eq_false hk3
  rw [if_neg hk3] at hy2
  by_cases hk4 : k = 4
  · have k4 : (k = 4) = True := eq_true hk4
    rw [if_pos hk4] at hy2
    refine tq (cj6 f2 f3 f6 @i64.eq_1 k3 k4) ?_; intro Nx hNx Gx hGx
    refine hty.mono ?_
    rintro d _ ⟨rfl, hHH⟩
    rw [hHH] at hdr hleS
    by_cases h2 : T.2 = 0
    case neg =>
      have q2 : (T.2 = 0) = False := eq_false h2
      have e : y = T.2 := hy2.trans (if_pos h2)
      exact oz hret (cj2 @i64.eq_1 q2) hleS e
    have q2 : (T.2 = 0) = True := eq_true h2
    rw [if_neg (fun h => h h2)] at hy2
    refine tq (cj7 f2 f3 f6 @i64.eq_1 k3 k4 q2) ?_; intro Nx hNx Gx hGx
    refine hdr.mono ?_
    rintro d _ ⟨rfl, hHH2⟩
    rw [hHH2] at hleS
    have e := hy2
    cases Hd
    · exact oz hret (cj2 @i64.eq_1 @i64.eq_1) hleS e
    · exact oz hret (cj2 @i64.eq_1 @i64.eq_1) hleS e
  have k4 : (k = 4) = False := eq_false hk4
  rw [if_neg hk4] at hy2
  have e := hy2
  exact oz hret (cj6 @i64.eq_1 f2 f3 f6 k3 k4) hleS e
end Go.Proofs.YtgfhgeelfaalmaaGreatDoor
