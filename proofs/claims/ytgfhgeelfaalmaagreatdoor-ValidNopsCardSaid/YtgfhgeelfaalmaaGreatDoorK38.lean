/- Lemmas and contracts of functions, several texts in one: H1. -/
import Derived.Test.YtgfhgeelfaalmaaGreatDoorK33
import Derived.Test.YtgfhgeelfaalmaaGreatDoorK45
import Derived.Test.YtgfhgeelfaalmaaGreatDoorK13
namespace Go.Proofs.YtgfhgeelfaalmaaGreatDoor
open Go.RowKit
set_option maxRecDepth 100000
set_option linter.unusedVariables false
set_option linter.unusedSimpArgs false
theorem knone_N (p : PlS) (H : Heap) (hp : big p.pr.length) : Does Tryz.prog 34 [.agg (plD p)] H fun d H' => d = .val (.bool (zeroP p)) ∧ H = H' := by
  refine Does.frz (K := fun d => d = .val (.bool (zeroP p))) ?_
  have hle := Heap.le_refl H
  have hml : (List.map pD p.pr).length = p.pr.length := List.length_map _
  obtain ⟨y, hy⟩ : ∃ y, y = zeroP p := ⟨_, rfl⟩
  rw [← hy]
  unfold zeroP at hy
  refine does_of _ _ Tryz.func34 rfl rfl Tryz.ntmps34 Tryz.results34 (by simp only [List.length_cons, List.length_nil]; omega) fun w0 g0 Q hret => ?_
  refine tq (cj2 @i64.eq_1 @plD.eq_1) ?_; intro Nx hNx Gx hGx
  intro c1 hc1
  refine hNx _ ?_
  refine frz 1 hc1 ?_
  by_cases h1 : p.lo = 0
  case neg =>
    have q1 : (p.lo = 0) = False := eq_false h1
    have e : y = false := by rw [hy, decide_eq_false h1, Bool.false_and]
    exact oz hret (cj2 @i64.eq_1 q1) hle e
  have q1 : (p.lo = 0) = True := eq_true h1
  by_cases h2 : p.pr.length = 0
  · have q2 : ((p.pr.length : Int) = 0) = True := eq_true (by omega)
    have e : y = true := by rw [hy, decide_eq_true h1, decide_eq_true h2]; rfl
    exact oz hret (cj4 @i64.eq_1 q1 q2 hml) hle e
  · have q2 : ((p.pr.length : Int) = 0) = False := eq_false (by omega)
    have e : y = false := by rw [hy, decide_eq_false h2, Bool.and_false]
    exact oz hret (cj4 @i64.eq_1 q1 q2 hml) hle e
theorem ktyp_N (b : BdS) (p : PlS) (H : Heap) (ck : Ck b) (hp : big p.pr.length) : Does Tryz.prog 35 [.agg (bdD b), .agg (plD p)] H fun d H' => d = .tup [i64 (toE b p).1, i64 (toE b p).2] ∧ H = H' := by
  refine Does.frz (K := fun d => d = .tup [i64 (toE b p).1, i64 (toE b p).2]) ?_
  have hle := Heap.le_refl H
  have hq := ktypeOf_N b.ty b.lc ck.wt ck.wl ck.ar _ p H rfl hp
  simp only [plD] at hq
  unfold toE
  rw [bdD_eq]
  refine does_of _ _ Tryz.func35 rfl rfl Tryz.ntmps35 Tryz.results35 (by simp only [List.length_cons, List.length_nil]; omega) fun w0 g0 Q hret => ?_
  refine tq (cj2 @i64.eq_1 @plD.eq_1) ?_; intro Nx hNx Gx hGx
  intro c2 hc2 c3 hc3
  refine hNx _ ?_
  obtain ⟨nFz, hFz⟩ := Heap.upd_none.1 hc3; refine W_frzp 2 rfl ((Heap.upd_ne nFz.symm).trans (Heap.upd_same _ _ _)) rfl ?_; refine W_frzp 3 rfl ((Heap.del_ne nFz).trans (Heap.upd_same _ _ _)) rfl ?_; refine W_less _ (le_two hc2 hFz) ?_; simp only [St.frzp, List.drop]
  refine tq @i64.eq_1 ?_; intro Nx hNx Gx hGx
  refine hq.mono ?_
  rintro d _ ⟨rfl, rfl⟩
  refine tq @i64.eq_1 ?_; intro Nx hNx Gx hGx
  refine rt hret @i64.eq_1 ?_
  exact ⟨_, Heap.le_refl _, hle, _, frz_refl hle, rfl⟩
theorem kmuta_N (b : BdS) (p : PlS) (H : Heap) (ck : Ck b) (hp : big p.pr.length) : Does Tryz.prog 39 [.agg (bdD b), .agg (plD p)] H fun d H' => d = .val (.bool (mutP b.ty b.lc p)) ∧ H = H' := by
  refine Does.frz (K := fun d => d = .val (.bool (mutP b.ty b.lc p))) ?_
  have hle := Heap.le_refl H
  have hq := kmut_N b.ty b.lc p H ck.wt ck.wl ck.ar hp
  simp only [plD] at hq
  rw [bdD_eq]
  refine does_of _ _ Tryz.func39 rfl rfl Tryz.ntmps39 Tryz.results39 (by simp only [List.length_cons, List.length_nil]; omega) fun w0 g0 Q hret => ?_
  refine tq (cj2 @i64.eq_1 @plD.eq_1) ?_; intro Nx hNx Gx hGx
  intro c2 hc2 c3 hc3
  refine hNx _ ?_
  obtain ⟨nFz, hFz⟩ := Heap.upd_none.1 hc3; refine W_frzp 2 rfl ((Heap.upd_ne nFz.symm).trans (Heap.upd_same _ _ _)) rfl ?_; refine W_frzp 3 rfl ((Heap.del_ne nFz).trans (Heap.upd_same _ _ _)) rfl ?_; refine W_less _ (le_two hc2 hFz) ?_; simp only [St.frzp, List.drop]
  refine tq @i64.eq_1 ?_; intro Nx hNx Gx hGx
  refine hq.mono ?_
  rintro d _ ⟨rfl, rfl⟩
  refine tq @i64.eq_1 ?_; intro Nx hNx Gx hGx
  refine rt hret @i64.eq_1 ?_
  exact ⟨_, Heap.le_refl _, hle, _, frz_refl hle, rfl⟩
set_option maxHeartbeats 2000000 in
theorem koperand_N (b : BdS) (o : OpS) (H : Heap) (ck : Ck b) (hp : okOp o) : Does Tryz.prog 15 [.agg (bdD b), .agg (opD o)] H fun d H' => d = i64 (opE b o) ∧ H = H' := by
  refine Does.frz (K := fun d => d = i64 (opE b o)) ?_
  have hle := Heap.le_refl H
  have hty := ktyp_N b o.pl H ck hp
  have hze := knone_N o.pl H hp
  have hdr := khasDr_N o.pl H hp
  have hcp : (toE b o.pl).2 = 0 → Does Tryz.prog 36 [.seq 5 (b.ty.map tyD), i64 (toE b o.pl).1] H fun d H' => d = .val (.bool (copB b.ty (toE b o.pl).1)) ∧ H = H' := fun h => by
    have := toE_in ck h
    exact kcop_N b.ty ck.wt ck.tl ck.ar.big b.ty.length _ H this.2
  obtain ⟨y, hy⟩ : ∃ y, y = opE b o := ⟨_, rfl⟩
  rw [← hy]
  unfold opE at hy
  obtain ⟨T, hT⟩ : ∃ T, T = toE b o.pl := ⟨_, rfl⟩
  rw [← hT] at hy hty hcp
  clear hT
  obtain ⟨k, p, v⟩ := o
  simp only at hy hcp
  simp only [plD] at hze hdr hty
  rw [bdD_eq] at hty ⊢
  refine does_of _ _ Tryz.func15 rfl rfl Tryz.ntmps15 Tryz.results15 (by simp only [List.length_cons, List.length_nil]; omega) fun w0 g0 Q hret => ?_
  refine tq (cj2 @i64.eq_1 @opD.eq_1) ?_; intro Nx hNx Gx hGx
  intro c2 hc2 c3 hc3
  refine hNx _ ?_
  obtain ⟨nFz, hFz⟩ := Heap.upd_none.1 hc3; refine W_frzp 2 rfl ((Heap.upd_ne nFz.symm).trans (Heap.upd_same _ _ _)) rfl ?_; refine W_frzp 3 rfl ((Heap.del_ne nFz).trans (Heap.upd_same _ _ _)) rfl ?_; refine W_less _ (le_two hc2 hFz) ?_; simp only [St.frzp, List.drop]
  by_cases hk : k < 0
  · have q1 : (k < 0) = True := eq_true hk
    have e : y = 14 := hy.trans (if_pos (.inl hk))
    exact oz hret (cj2 @i64.eq_1 q1) hle e
  have q1 : (k < 0) = False := eq_false hk
  by_cases hk4 : 4 < k
  · have q2 : (4 < k) = True := eq_true hk4
    have e : y = 14 := hy.trans (if_pos (.inr hk4))
    exact oz hret (cj3 @i64.eq_1 q1 q2) hle e
  have q2 : (4 < k) = False := eq_false hk4
  rw [if_neg (by omega)] at hy
  by_cases hv : v = 0
  case neg =>
    have v0 : (v = 0) = False := eq_false hv
    by_cases h2 : k = 2
    · have k1 : (1 < k) = True := eq_true (by omega)
      have k2 : (k = 2) = True := eq_true h2
      have k3 : (k = 3) = False := eq_false (by omega)
      refine tq (cj6 @i64.eq_1 q1 q2 v0 k2 k1) ?_; intro Nx hNx Gx hGx
      refine hze.mono ?_
      rintro d _ ⟨rfl, rfl⟩
      cases hz : zeroP p
      · have e : y = 2 := hy.trans (if_pos (.inr ⟨by omega, hz⟩))
        exact oz hret (cj2 @i64.eq_1 q1) hle e
      · have e : y = 0 := hy.trans (by rw [if_neg (by rw [hz]; rintro (⟨_, h, _⟩ | ⟨_, h⟩); exact h h2; cases h), if_neg (by omega), if_pos (by omega)])
        exact oz hret (cj3 @i64.eq_1 k1 k3) hle e
    have k2 : (k = 2) = False := eq_false h2
    by_cases h3 : k = 3
    · have k1 : (1 < k) = True := eq_true (by omega)
      have k3 : (k = 3) = True := eq_true h3
      refine tq (cj7 @i64.eq_1 q1 q2 v0 k2 k3 k1) ?_; intro Nx hNx Gx hGx
      refine hze.mono ?_
      rintro d _ ⟨rfl, rfl⟩
      cases hz : zeroP p
      · have e : y = 2 := hy.trans (if_pos (.inr ⟨by omega, hz⟩))
        exact oz hret (cj2 @i64.eq_1 q1) hle e
      rw [if_neg (by rw [hz]; rintro (⟨_, _, h⟩ | ⟨_, h⟩); exact h h3; cases h)] at hy
      by_cases h1 : v = 1
      · have v1 : (v = 1) = True := eq_true h1
        have e : y = 0 := hy.trans (by rw [if_neg (by omega), if_pos (by omega)])
        exact oz hret (cj5 @i64.eq_1 k1 k3 v0 v1) hle e
      · have v1 : (v = 1) = False := eq_false h1
        have e : y = 3 := hy.trans (if_pos ⟨h3, hv, h1⟩)
        exact oz hret (cj5 @i64.eq_1 k1 k3 v0 v1) hle e
    have k3 : (k = 3) = False := eq_false h3
    have e : y = 2 := hy.trans (if_pos (.inl ⟨hv, h2, h3⟩))
    exact oz hret (cj6 @i64.eq_1 q1 q2 v0 k2 k3) hle e
  have v0 : (v = 0) = True := eq_true hv
  by_cases h1 : 1 < k
  · have k1 : (1 < k) = True := eq_true h1
    refine tq (cj5 @i64.eq_1 q1 q2 v0 k1) ?_; intro Nx hNx Gx hGx
    refine hze.mono ?_
    rintro d _ ⟨rfl, rfl⟩
    cases hz : zeroP p
    · have e : y = 2 := hy.trans (if_pos (.inr ⟨by omega, hz⟩))
      exact oz hret (cj2 @i64.eq_1 q1) hle e
    have e : y = 0 := hy.trans (by rw [if_neg (by rw [hz]; rintro (⟨h, _⟩ | ⟨_, h⟩); exact h hv; cases h), if_neg (by omega), if_pos (by omega)])
    by_cases h3 : k = 3
    · have k3 : (k = 3) = True := eq_true h3
      exact oz hret (cj4 @i64.eq_1 k1 k3 v0) hle e
    · have k3 : (k = 3) = False := eq_false h3
      exact oz hret (cj4 @i64.eq_1 k1 k3 v0) hle e
  have k1 : (1 < k) = False := eq_false h1
  have k3 : (k = 3) = False := eq_false (by omega)
  rw [if_neg (by omega), if_neg (by omega), if_neg (by omega)] at hy
  refine tq (cj6 @i64.eq_1 q1 q2 v0 k1 k3) ?_; intro Nx hNx Gx hGx
  refine hty.mono ?_
  rintro d _ ⟨rfl, rfl⟩
  by_cases h2 : T.2 = 0
  case neg =>
    have q3 : (T.2 = 0) = False := eq_false h2
    have e : y = T.2 := hy.trans (if_pos h2)
    exact oz hret (cj2 @i64.eq_1 q3) hle e
  have q3 : (T.2 = 0) = True := eq_true h2
  rw [if_neg (fun h => h h2)] at hy
  by_cases hk0 : k = 0
  · have k0 : (k = 0) = True := eq_true hk0
    have k01 : (k = 1) = False := eq_false (by omega)
    refine tq (cj3 @i64.eq_1 q3 k0) ?_; intro Nx hNx Gx hGx
    refine (hcp h2).mono ?_
    rintro d _ ⟨rfl, rfl⟩
    cases hc : copB b.ty T.1
    · have e : y = 22 := hy.trans (if_pos (.inl ⟨hk0, hc⟩))
      exact oz hret (cj3 @i64.eq_1 k0 k01) hle e
    · have e : y = 0 := hy.trans (if_neg (by rw [hc]; rintro (⟨_, h⟩ | ⟨h, _⟩); cases h; omega))
      exact oz hret (cj3 @i64.eq_1 k0 k01) hle e
  · have k0 : (k = 0) = False := eq_false hk0
    have k01 : (k = 1) = True := eq_true (by omega)
    refine tq (cj4 @i64.eq_1 q3 k0 k01) ?_; intro Nx hNx Gx hGx
    refine hdr.mono ?_
    rintro d _ ⟨rfl, rfl⟩
    cases hc : hasDr p 0
    · have e : y = 0 := hy.trans (if_neg (by rw [hc]; rintro (⟨h, _⟩ | ⟨_, h⟩); omega; cases h))
      exact oz hret (cj3 @i64.eq_1 k0 k01) hle e
    · have e : y = 22 := hy.trans (if_pos (.inr ⟨by omega, hc⟩))
      exact oz hret (cj3 @i64.eq_1 k0 k01) hle e
set_option maxHeartbeats 1000000 in
theorem kfitsK_N (b : BdS) (o : OpS) (kd : Int) (H : Heap) (ck : Ck b) (hp : okOp o) (hz : opE b o = 0) : Does Tryz.prog 42 [.agg (bdD b), .agg (opD o), i64 kd] H fun d H' => d = .val (.bool (decide (kdE b o = kd))) ∧ H = H' := by
  refine Does.frz (K := fun d => d = .val (.bool (decide (kdE b o = kd)))) ?_
  have hle := Heap.le_refl H
  have hty := ktyp_N b o.pl H ck hp
  obtain ⟨hk5, hk1⟩ := opE_ok hz
  obtain ⟨y, hy⟩ : ∃ y, y = decide (kdE b o = kd) := ⟨_, rfl⟩
  rw [← hy]
  unfold kdE at hy
  have hin : o.k ≤ 1 → InR b.ty.length (toE b o.pl).1 := fun h => toE_in ck (hk1 h)
  obtain ⟨T, hT⟩ : ∃ T, T = toE b o.pl := ⟨_, rfl⟩
  rw [← hT] at hy hty hin
  have hmt : (List.map tyD b.ty).length = b.ty.length := List.length_map _
  obtain ⟨k, p, v⟩ := o
  simp only at hy hk5 hin
  clear hT hk1 hz
  simp only [plD] at hty
  rw [bdD_eq] at hty ⊢
  refine does_of _ _ Tryz.func42 rfl rfl Tryz.ntmps42 Tryz.results42 (by simp only [List.length_cons, List.length_nil]; omega) fun w0 g0 Q hret => ?_
  refine tq (cj2 @i64.eq_1 @opD.eq_1) ?_; intro Nx hNx Gx hGx
  intro c3 hc3 c4 hc4
  refine hNx _ ?_
  obtain ⟨nFz, hFz⟩ := Heap.upd_none.1 hc4; refine W_frzp 3 rfl ((Heap.upd_ne nFz.symm).trans (Heap.upd_same _ _ _)) rfl ?_; refine W_frzp 4 rfl ((Heap.del_ne nFz).trans (Heap.upd_same _ _ _)) rfl ?_; refine W_less _ (le_two hc3 hFz) ?_; simp only [St.frzp, List.drop]
  by_cases hk : 1 < k
  · have k1 : (1 < k) = True := eq_true hk
    have fin : ∀ z : Int, (if k = 2 then (2 : Int) else if k = 3 then 1 else if k = 4 then 0 else (tyAt b.ty T.1).k) = z → y = decide (kd = z) := fun z h => by
      rw [hy, h]
      by_cases hz : z = kd
      · subst hz; rfl
      · rw [decide_eq_false hz, decide_eq_false (fun h => hz h.symm)]
    by_cases h2 : k = 2
    · have k2 : (k = 2) = True := eq_true h2
      have k3 : (k = 3) = False := eq_false (by omega)
      have k4 : (k = 4) = False := eq_false (by omega)
      have e := fin 2 (if_pos h2)
      by_cases hd : kd = 2
      · have d2 : (kd = 2) = True := eq_true hd
        rw [decide_eq_true hd] at e
        exact oz hret (cj6 @i64.eq_1 k1 k2 k3 k4 d2) hle e
      · have d2 : (kd = 2) = False := eq_false hd
        rw [decide_eq_false hd] at e
        exact oz hret (cj6 @i64.eq_1 k1 k2 k3 k4 d2) hle e
    have k2 : (k = 2) = False := eq_false h2
    by_cases h3 : k = 3
    · have k3 : (k = 3) = True := eq_true h3
      have k4 : (k = 4) = False := eq_false (by omega)
      have e := fin 1 (by rw [if_neg h2, if_pos h3])
      by_cases hd : kd = 1
      · have d2 : (kd = 1) = True := eq_true hd
        rw [decide_eq_true hd] at e
        exact oz hret (cj6 @i64.eq_1 k1 k2 k3 k4 d2) hle e
      · have d2 : (kd = 1) = False := eq_false hd
        rw [decide_eq_false hd] at e
        exact oz hret (cj6 @i64.eq_1 k1 k2 k3 k4 d2) hle e
    have k3 : (k = 3) = False := eq_false h3
    have k4 : (k = 4) = True := eq_true (by omega)
    have e := fin 0 (by rw [if_neg h2, if_neg h3, if_pos (by omega)])
    by_cases hd : kd = 0
    · have d2 : (kd = 0) = True := eq_true hd
      rw [decide_eq_true hd] at e
      exact oz hret (cj6 @i64.eq_1 k1 k2 k3 k4 d2) hle e
    · have d2 : (kd = 0) = False := eq_false hd
      rw [decide_eq_false hd] at e
      exact oz hret (cj6 @i64.eq_1 k1 k2 k3 k4 d2) hle e
  have k1 : (1 < k) = False := eq_false hk
  rw [if_neg (by omega), if_neg (by omega), if_neg (by omega)] at hy
  have hin := hin (by omega)
  have hgt := ty_get hin
  have hti : T.1.toNat < b.ty.length := by unfold InR at hin; omega
  have ht0 : 0 ≤ T.1 := by unfold InR at hin; omega
  obtain ⟨t, ht⟩ : ∃ t, t = tyAt b.ty T.1 := ⟨_, rfl⟩
  rw [← ht] at hgt hy
  simp only [tyD] at hgt
  refine tq (cj2 @i64.eq_1 k1) ?_; intro Nx hNx Gx hGx
  refine hty.mono ?_
  rintro d _ ⟨rfl, rfl⟩
  have e := hy
  by_cases hd : t.k = kd
  · have d2 : (t.k = kd) = True := eq_true hd
    rw [decide_eq_true hd] at e
    exact oz hret (cj6 @i64.eq_1 hgt hti ht0 hmt d2) hle e
  · have d2 : (t.k = kd) = False := eq_false hd
    rw [decide_eq_false hd] at e
    exact oz hret (cj6 @i64.eq_1 hgt hti ht0 hmt d2) hle e
set_option maxHeartbeats 1000000 in
theorem kfits_N (b : BdS) (o : OpS) (t : Int) (H : Heap) (ck : Ck b) (hp : okOp o) (hz : opE b o = 0) (ht : InR b.ty.length t) : Does Tryz.prog 70 [.agg (bdD b), .agg (opD o), i64 t] H fun d H' => d = .val (.bool (fitE b o t)) ∧ H = H' := by
  refine Does.frz (K := fun d => d = .val (.bool (fitE b o t))) ?_
  have hle := Heap.le_refl H
  have hty := ktyp_N b o.pl H ck hp
  have hfk : ∀ H1, CallOK Tryz.prog 42 [.agg (bdD b), .agg (opD o), i64 (tyAt b.ty t).k] H1 fun d A => A = Heap.none ∧ d = .val (.bool (decide (kdE b o = (tyAt b.ty t).k))) := fun H1 => callOK_eq fun H'' hle'' => kfitsK_N b o _ H'' ck hp hz
  obtain ⟨hk5, hk1⟩ := opE_ok hz
  have hsu : o.k ≤ 1 → Does Tryz.prog 93 [.seq 2 (b.ol.map pD), i64 b.rg.length, .seq 5 (b.ty.map tyD), i64 (toE b o.pl).1, i64 t] H fun d H' => d = .val (.bool (subX b.ol b.rg.length b.ty (toE b o.pl).1 t)) ∧ H = H' := fun h => by
    have := toE_in ck (hk1 h)
    exact ksub_N b.ol b.rg.length b.ty ck.wt ck.ol (by have := ck.rgl; omega) ck.oll ck.tl ck.ar.big b.ty.length _ _ H this.2 ht.2
  have hmr : (List.map sD b.rg).length = b.rg.length := List.length_map _
  obtain ⟨y, hy⟩ : ∃ y, y = fitE b o t := ⟨_, rfl⟩
  rw [← hy]
  unfold fitE at hy
  obtain ⟨T, hT⟩ : ∃ T, T = toE b o.pl := ⟨_, rfl⟩
  obtain ⟨kd, hkk⟩ : ∃ kd, kd = kdE b o := ⟨_, rfl⟩
  rw [← hT] at hy hty hsu
  rw [← hkk] at hy hfk
  have hgt := ty_get ht
  have hti : t.toNat < b.ty.length := by unfold InR at ht; omega
  have ht0 : 0 ≤ t := by unfold InR at ht; omega
  obtain ⟨u, hu⟩ : ∃ u, u = tyAt b.ty t := ⟨_, rfl⟩
  rw [← hu] at hgt hy hfk
  have hmt : (List.map tyD b.ty).length = b.ty.length := List.length_map _
  obtain ⟨k, p, v⟩ := o
  simp only at hy hk5 hsu
  clear hT hk1 hz hkk hu
  simp only [tyD] at hgt
  simp only [opD] at hfk
  simp only [plD] at hty
  rw [bdD_eq] at hty hfk ⊢
  refine does_of _ _ Tryz.func70 rfl rfl Tryz.ntmps70 Tryz.results70 (by simp only [List.length_cons, List.length_nil]; omega) fun w0 g0 Q hret => ?_
  refine tq (cj2 @i64.eq_1 @opD.eq_1) ?_; intro Nx hNx Gx hGx
  intro c3 hc3 c4 hc4
  refine hNx _ ?_
  obtain ⟨nFz, hFz⟩ := Heap.upd_none.1 hc4; refine W_frzp 3 rfl ((Heap.upd_ne nFz.symm).trans (Heap.upd_same _ _ _)) rfl ?_; refine W_frzp 4 rfl ((Heap.del_ne nFz).trans (Heap.upd_same _ _ _)) rfl ?_; refine W_less _ (le_two hc3 hFz) ?_; simp only [St.frzp, List.drop]
  by_cases hk : 1 < k
  · have k1 : (1 < k) = True := eq_true hk
    have e := hy.trans (if_pos hk)
    refine tq (cj2 @i64.eq_1 k1) ?_; intro Nx hNx Gx hGx
    refine W_drawE (fun _ _ d A => A = .none ∧ d = .val (.bool (decide (kd = u.k)))) (by kernel_rfl) (by kernel_rfl) (by kernel_rfl) fun Nx hNx => ?_; refine dst (cj5 @i64.eq_1 hgt hti ht0 hmt) ?_; intro Nx hNx Gx hGx
    refine ⟨hfk _, ?_⟩
    (first | refine hGx _ ?_ | refine hNx _ ?_ | skip)
    exact oz hret (cj2 @i64.eq_1 k1) hle e
  have k1 : (1 < k) = False := eq_false hk
  have e := hy.trans (if_neg hk)
  refine tq (cj2 @i64.eq_1 k1) ?_; intro Nx hNx Gx hGx
  refine hty.mono ?_
  rintro d _ ⟨rfl, rfl⟩
  refine tq (cj2 @i64.eq_1 hmr) ?_; intro Nx hNx Gx hGx
  refine (hsu (by omega)).mono ?_
  rintro d _ ⟨rfl, rfl⟩
  exact oz hret (cj2 @i64.eq_1 k1) hle e
end Go.Proofs.YtgfhgeelfaalmaaGreatDoor
