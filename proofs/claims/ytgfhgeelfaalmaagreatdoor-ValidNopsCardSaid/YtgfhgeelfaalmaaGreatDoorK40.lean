/- Lemmas and contracts of functions, several texts in one: H3. -/
import Derived.Test.YtgfhgeelfaalmaaGreatDoorK38
import Derived.Test.YtgfhgeelfaalmaaGreatDoorK11
namespace Go.Proofs.YtgfhgeelfaalmaaGreatDoor
open Go.RowKit
set_option maxRecDepth 100000
set_option linter.unusedVariables false
set_option linter.unusedSimpArgs false
set_option maxHeartbeats 2000000 in
theorem kborrow_N (b : BdS) (r : RvS) (t : Int) (H : Heap) (ck : Ck b) (hp : okRv r) (ht : InR b.ty.length t) : Does Tryz.prog 69 [.agg (bdD b), .agg (rvD r), i64 t] H fun d H' => d = i64 (borE b r t) ∧ H = H' := by
  refine Does.frz (K := fun d => d = i64 (borE b r t)) ?_
  have hle := Heap.le_refl H
  have hty := ktyp_N b r.pl H ck hp.1
  have hmu := kmuta_N b r.pl H ck hp.1
  have hrg := kregs_N b.ty b.lc r.pl H ck.wt ck.wl ck.ar hp.1
  have hou : ∀ q H1, CallOK Tryz.prog 92 [.seq 2 (b.ol.map pD), i64 b.rg.length, i64 q, i64 r.rg] H1 fun d A => A = Heap.none ∧ d = .val (.bool (outlB b.ol b.rg.length q r.rg)) := fun q H1 => callOK_eq fun H'' hle'' => koutl_N b.ol b.rg.length q r.rg H'' ck.ol (by have := ck.rgl; omega) ck.oll
  have hrl : (regP b.ty b.lc r.pl).length ≤ 32 := by
    have := refsP_len b.ty b.lc r.pl
    unfold regP; rw [List.length_map]; exact this
  have hms : (List.map sD b.rg).length = b.rg.length := List.length_map _
  have hmt : (List.map tyD b.ty).length = b.ty.length := List.length_map _
  obtain ⟨y, hy⟩ : ∃ y, y = borE b r t := ⟨_, rfl⟩
  rw [← hy]
  unfold borE at hy
  have hgt := ty_get ht
  have hti : t.toNat < b.ty.length := by unfold InR at ht; omega
  have ht0 : 0 ≤ t := by unfold InR at ht; omega
  obtain ⟨u, hu⟩ : ∃ u, u = tyAt b.ty t := ⟨_, rfl⟩
  obtain ⟨T, hT⟩ : ∃ T, T = toE b r.pl := ⟨_, rfl⟩
  obtain ⟨R, hRR⟩ : ∃ R, R = regP b.ty b.lc r.pl := ⟨_, rfl⟩
  obtain ⟨Z, hZ⟩ : ∃ Z, Z = mutP b.ty b.lc r.pl := ⟨_, rfl⟩
  rw [← hu] at hgt hy
  rw [← hT] at hty hy
  rw [← hRR] at hrg hrl hy
  rw [← hZ] at hmu hy
  clear hu hT hRR hZ
  rw [bdD_eq] at hty hmu ⊢
  obtain ⟨k, op, rg, mu, pl, ar⟩ := r
  obtain ⟨uk, um, ur, ue, ua⟩ := u
  simp only [tyD] at hgt
  simp only at hy hou
  simp only [plD] at hty hmu hrg
  have hmr : (List.map iD R).length = R.length := List.length_map _
  refine does_of _ _ Tryz.func69 rfl rfl Tryz.ntmps69 Tryz.results69 (by simp only [List.length_cons, List.length_nil]; omega) fun w0 g0 Q hret => ?_
  refine tq (cj2 @i64.eq_1 @rvD.eq_1) ?_; intro Nx hNx Gx hGx
  intro c3 hc3 c4 hc4
  refine hNx _ ?_
  obtain ⟨nFz, hFz⟩ := Heap.upd_none.1 hc4; refine W_frzp 3 rfl ((Heap.upd_ne nFz.symm).trans (Heap.upd_same _ _ _)) rfl ?_; refine W_frzp 4 rfl ((Heap.del_ne nFz).trans (Heap.upd_same _ _ _)) rfl ?_; refine W_less _ (le_two hc3 hFz) ?_; simp only [St.frzp, List.drop]
  refine tq @i64.eq_1 ?_; intro Nx hNx Gx hGx
  refine hty.mono ?_
  rintro d _ ⟨rfl, rfl⟩
  by_cases h1 : T.2 = 0
  case neg =>
    have q1 : (T.2 = 0) = False := eq_false h1
    have e : y = T.2 := hy.trans (if_pos h1)
    exact oz hret (cj2 @i64.eq_1 q1) hle e
  have q1 : (T.2 = 0) = True := eq_true h1
  rw [if_neg (fun h => h h1)] at hy
  by_cases h2 : rg < 0
  · have q2 : (rg < 0) = True := eq_true h2
    have e : y = 3 := hy.trans (if_pos (.inl h2))
    exact oz hret (cj3 @i64.eq_1 q1 q2) hle e
  have q2 : (rg < 0) = False := eq_false h2
  by_cases h3 : (b.rg.length : Int) ≤ rg
  · have q3 : (rg ≥ (b.rg.length : Int)) = True := eq_true h3
    have e : y = 3 := hy.trans (if_pos (.inr h3))
    exact oz hret (cj5 @i64.eq_1 q1 q2 q3 hms) hle e
  have q3 : (rg ≥ (b.rg.length : Int)) = False := eq_false h3
  rw [if_neg (by omega)] at hy
  refine tq (cj9 @i64.eq_1 q1 q2 q3 hms hgt hti ht0 hmt) ?_; intro Nx hNx Gx hGx
  intro c9 hc9
  refine hNx _ ?_
  refine frz 9 hc9 ?_
  by_cases h4 : uk = 3
  case neg =>
    have q4 : (uk = 3) = False := eq_false h4
    have e : y = 22 := hy.trans (if_pos (.inl h4))
    exact oz hret (cj2 @i64.eq_1 q4) hle e
  have q4 : (uk = 3) = True := eq_true h4
  by_cases h5 : ur = rg
  case neg =>
    have q5 : (ur = rg) = False := eq_false h5
    have e : y = 22 := hy.trans (if_pos (.inr (.inl h5)))
    exact oz hret (cj3 @i64.eq_1 q4 q5) hle e
  have q5 : (ur = rg) = True := eq_true h5
  by_cases h6 : um = mu
  case neg =>
    have e : y = 22 := hy.trans (if_pos (.inr (.inr (.inl h6))))
    have q6 : (um = mu) = False := eq_false h6
    exact oz hret (cj4 @i64.eq_1 q4 q5 q6) hle e
  have q6 : (um = mu) = True := eq_true h6
  by_cases h7 : ue = T.1
  case neg =>
    have q7 : (ue = T.1) = False := eq_false h7
    have e : y = 22 := hy.trans (if_pos (.inr (.inr (.inr (.inl h7)))))
    exact oz hret (cj5 @i64.eq_1 q4 q5 q6 q7) hle e
  have q7 : (ue = T.1) = True := eq_true h7
  by_cases hm : mu = true ∧ Z = false
  · obtain ⟨hm1, hm2⟩ := hm
    have e : y = 22 := hy.trans (if_pos (.inr (.inr (.inr (.inr ⟨hm1, hm2⟩)))))
    rw [hm2] at hmu
    rw [hm1] at q6
    refine tq (cj6 @i64.eq_1 q4 q5 q6 q7 hm1) ?_; intro Nx hNx Gx hGx
    refine hmu.mono ?_
    rintro d _ ⟨rfl, rfl⟩
    exact oz hret (cj2 @i64.eq_1 q1) hle e
  have hno : ¬ (uk ≠ 3 ∨ ur ≠ rg ∨ um ≠ mu ∨ ue ≠ T.1 ∨ (mu = true ∧ Z = false)) := fun h => h.elim (· h4) fun h => h.elim (· h5) fun h => h.elim (· h6) fun h => h.elim (· h7) hm
  rw [if_neg hno] at hy
  have hZ : mu = true → Z = true := fun h => by cases Z; exact absurd ⟨h, rfl⟩ hm; rfl
  cases mu
  · refine tq (cj5 @i64.eq_1 q4 q5 q6 q7) ?_; intro Nx hNx Gx hGx
    refine hrg.mono ?_
    rintro d _ ⟨rfl, rfl⟩
    refine tq (cj2 @i64.eq_1 hmr) ?_; intro Nx hNx Gx hGx
    refine W_loopN R.length (fun i s => s.df = [] ∧ s.fr 3 = .rp [strD b.nm, .seq 1 (b.rg.map sD), .seq 2 (b.ol.map pD), .seq 5 (b.ty.map tyD), .seq 2 (b.lc.map lcD), i64 b.ag, .seq 7 (b.bl.map bkD)] ∧ (∃ x, s.fr 4 = .rp [i64 k, i64 op, i64 rg, .val (.bool x), i64 pl.lo, .seq 2 (pl.pr.map pD), .seq 4 (ar.map opD)]) ∧ s.fr 10 = .seq 1 (R.map iD) ∧ s.fr 11 = i64 i ∧ s.H = H ∧ (R.all fun q => outlB b.ol b.rg.length q rg) = ((R.drop i).all fun q => outlB b.ol b.rg.length q rg)) ⟨rfl, rfl, ⟨_, rfl⟩, rfl, rfl, rfl, rfl⟩ ?_
    rintro i s hi ⟨hdf, f3, ⟨x, f4⟩, f10, f11, hH, ha⟩
    have hx : (i : Int).toNat = i := Int.toNat_natCast _
    have h00 : (0 : Int) ≤ (i : Int) := Int.natCast_nonneg _
    have hleS : H.le s.H := by rw [hH]; exact Heap.le_refl _
    by_cases hil : i < R.length
    case neg =>
      have q8 : ((i : Int) < (R.length : Int)) = False := eq_false (by omega)
      rw [List.drop_eq_nil_of_le (by omega), List.all_nil] at ha
      rw [ha, if_neg (fun h => by cases h)] at hy
      have e := hy
      exact oz hret (cj5 @i64.eq_1 f10 f11 hmr q8) hleS e
    have hil' : (i : Int) < (R.length : Int) := by omega
    have q8 : ((i : Int) < (R.length : Int)) = True := eq_true hil'
    have w3 : IntKind.i64.wrap ((i : Int) + 1) = ((i + 1 : Nat) : Int) := by rw [wrap_i64_of (by omega)]; omega
    have hgi := get_ints hil
    rw [List.drop_eq_getElem_cons hil, List.all_cons] at ha
    have hoi := hou R[i] s.H
    obtain ⟨v, hv⟩ : ∃ v, v = R[i] := ⟨_, rfl⟩
    rw [← hv] at hgi ha hoi
    obtain ⟨z, hz⟩ : ∃ z, z = outlB b.ol b.rg.length v rg := ⟨_, rfl⟩
    rw [← hz] at ha hoi
    refine tq (cj5 f10 f11 @i64.eq_1 hmr q8) ?_; intro Nx hNx Gx hGx
    (try refine W_seq ?_)
    refine W_drawE (fun _ _ d A => A = .none ∧ d = .val (.bool z)) (by kernel_rfl) (by kernel_rfl) (by kernel_rfl) fun Nx hNx => ?_; refine dst (cj12 f3 f4 f10 f11 @i64.eq_1 hms hmr hgi hx h00 hil hil') ?_; intro Nx hNx Gx hGx
    refine ⟨hoi, ?_⟩
    (first | refine hGx _ ?_ | refine hNx _ ?_ | skip)
    cases z
    · rw [Bool.false_and] at ha
      rw [ha, if_pos rfl] at hy
      have e := hy
      exact oz hret (cj2 @i64.eq_1 @i64.eq_1) hleS e
    · rw [Bool.true_and] at ha
      refine tq (cj3 f11 @i64.eq_1 w3) ?_; intro Nx hNx Gx hGx
      exact ⟨hil, hdf, f3, ⟨x, f4⟩, f10, rfl, hH, ha⟩
  · rw [hZ rfl] at hmu
    refine tq (cj5 @i64.eq_1 q4 q5 q6 q7) ?_; intro Nx hNx Gx hGx
    refine hmu.mono ?_
    rintro d _ ⟨rfl, rfl⟩
    refine tq @i64.eq_1 ?_; intro Nx hNx Gx hGx
    refine hrg.mono ?_
    rintro d _ ⟨rfl, rfl⟩
    refine tq (cj2 @i64.eq_1 hmr) ?_; intro Nx hNx Gx hGx
    refine W_loopN R.length (fun i s => s.df = [] ∧ s.fr 3 = .rp [strD b.nm, .seq 1 (b.rg.map sD), .seq 2 (b.ol.map pD), .seq 5 (b.ty.map tyD), .seq 2 (b.lc.map lcD), i64 b.ag, .seq 7 (b.bl.map bkD)] ∧ (∃ x, s.fr 4 = .rp [i64 k, i64 op, i64 rg, .val (.bool x), i64 pl.lo, .seq 2 (pl.pr.map pD), .seq 4 (ar.map opD)]) ∧ s.fr 10 = .seq 1 (R.map iD) ∧ s.fr 11 = i64 i ∧ s.H = H ∧ (R.all fun q => outlB b.ol b.rg.length q rg) = ((R.drop i).all fun q => outlB b.ol b.rg.length q rg)) ⟨rfl, rfl, ⟨_, rfl⟩, rfl, rfl, rfl, rfl⟩ ?_
    rintro i s hi ⟨hdf, f3, ⟨x, f4⟩, f10, f11, hH, ha⟩
    have hx : (i : Int).toNat = i := Int.toNat_natCast _
    have h00 : (0 : Int) ≤ (i : Int) := Int.natCast_nonneg _
    have hleS : H.le s.H := by rw [hH]; exact Heap.le_refl _
    by_cases hil : i < R.length
    case neg =>
      have q8 : ((i : Int) < (R.length : Int)) = False := eq_false (by omega)
      rw [List.drop_eq_nil_of_le (by omega), List.all_nil] at ha
      rw [ha, if_neg (fun h => by cases h)] at hy
      have e := hy
      exact oz hret (cj5 @i64.eq_1 f10 f11 hmr q8) hleS e
    have hil' : (i : Int) < (R.length : Int) := by omega
    have q8 : ((i : Int) < (R.length : Int)) = True := eq_true hil'
    have w3 : IntKind.i64.wrap ((i : Int) + 1) = ((i + 1 : Nat) : Int) := by rw [wrap_i64_of (by omega)]; omega
    have hgi := get_ints hil
    rw [List.drop_eq_getElem_cons hil, List.all_cons] at ha
    have hoi := hou R[i] s.H
    obtain ⟨v, hv⟩ : ∃ v, v = R[i] := ⟨_, rfl⟩
    rw [← hv] at hgi ha hoi
    obtain ⟨z, hz⟩ : ∃ z, z = outlB b.ol b.rg.length v rg := ⟨_, rfl⟩
    rw [← hz] at ha hoi
    refine tq (cj5 f10 f11 @i64.eq_1 hmr q8) ?_; intro Nx hNx Gx hGx
    (try refine W_seq ?_)
    refine W_drawE (fun _ _ d A => A = .none ∧ d = .val (.bool z)) (by kernel_rfl) (by kernel_rfl) (by kernel_rfl) fun Nx hNx => ?_; refine dst (cj12 f3 f4 f10 f11 @i64.eq_1 hms hmr hgi hx h00 hil hil') ?_; intro Nx hNx Gx hGx
    refine ⟨hoi, ?_⟩
    (first | refine hGx _ ?_ | refine hNx _ ?_ | skip)
    cases z
    · rw [Bool.false_and] at ha
      rw [ha, if_pos rfl] at hy
      have e := hy
      exact oz hret (cj2 @i64.eq_1 @i64.eq_1) hleS e
    · rw [Bool.true_and] at ha
      refine tq (cj3 f11 @i64.eq_1 w3) ?_; intro Nx hNx Gx hGx
      exact ⟨hil, hdf, f3, ⟨x, f4⟩, f10, rfl, hH, ha⟩
end Go.Proofs.YtgfhgeelfaalmaaGreatDoor
