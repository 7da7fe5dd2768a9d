/- Lemmas and contracts of functions, several texts in one: H5 H6. -/
import Derived.Test.YtgfhgeelfaalmaaGreatDoorK41
import Derived.Test.YtgfhgeelfaalmaaGreatDoorK32
namespace Go.Proofs.YtgfhgeelfaalmaaGreatDoor
open Go.RowKit
set_option maxRecDepth 100000
set_option linter.unusedVariables false
set_option linter.unusedSimpArgs false
theorem blkE_eq (s : StS) : blkE s = (zeroP s.pl && blaE s.rv) := by
  unfold blkE blaE
  have h : ∀ z a b c d e f : Bool, (z && (a && b && c && d && e && f)) = (z && (a && (b && (d && (e && (f && c)))))) := by decide
  exact h _ _ _ _ _ _ _
set_option maxHeartbeats 2000000 in
theorem kstmt_N (b : BdS) (s : StS) (H : Heap) (ck : Ck b) (hp : okSt s) : Does Tryz.prog 18 [.agg (bdD b), .agg (stD s)] H fun d H' => d = i64 (stE b s) ∧ H = H' := by
  refine Does.frz (K := fun d => d = i64 (stE b s)) ?_
  have hle := Heap.le_refl H
  have hty := ktyp_N b s.pl H ck hp.1
  have hmu := kmuta_N b s.pl H ck hp.1
  have hno := knone_N s.pl H hp.1
  have hbl := kblank_N s.rv H hp.2
  have has := fun t h => kassign_N b s.rv t H ck hp.2 h (fields_in ck.wt h)
  have hin : (toE b s.pl).2 = 0 → InR b.ty.length (toE b s.pl).1 := fun h => toE_in ck h
  have hmc : (List.map lcD b.lc).length = b.lc.length := List.length_map _
  obtain ⟨y, hy⟩ : ∃ y, y = stE b s := ⟨_, rfl⟩
  rw [← hy]
  unfold stE wrtE at hy
  rw [blkE_eq] at hy
  obtain ⟨Z, hZ⟩ : ∃ Z, Z = zeroP s.pl := ⟨_, rfl⟩
  rw [← hZ] at hno hy
  obtain ⟨Bl, hB⟩ : ∃ Bl, Bl = blaE s.rv := ⟨_, rfl⟩
  rw [← hB] at hbl hy
  obtain ⟨T, hT⟩ : ∃ T, T = toE b s.pl := ⟨_, rfl⟩
  rw [← hT] at hty hin hy
  obtain ⟨Mu, hM⟩ : ∃ Mu, Mu = mutP b.ty b.lc s.pl := ⟨_, rfl⟩
  rw [← hM] at hmu hy
  clear hZ hB hT hM
  rw [bdD_eq] at hty hmu has ⊢
  obtain ⟨k, pl, rv, lo⟩ := s
  simp only at hy has hbl
  simp only [rvD] at has hbl
  simp only [plD] at hty hmu hno
  simp only [stD]
  refine does_of _ _ Tryz.func18 rfl rfl Tryz.ntmps18 Tryz.results18 (by simp only [List.length_cons, List.length_nil]; omega) fun w0 g0 Q hret => ?_
  refine tq @i64.eq_1 ?_; intro Nx hNx Gx hGx
  intro c2 hc2 c3 hc3
  refine hNx _ ?_
  obtain ⟨nFz, hFz⟩ := Heap.upd_none.1 hc3; refine W_frzp 2 rfl ((Heap.upd_ne nFz.symm).trans (Heap.upd_same _ _ _)) rfl ?_; refine W_frzp 3 rfl ((Heap.del_ne nFz).trans (Heap.upd_same _ _ _)) rfl ?_; refine W_less _ (le_two hc2 hFz) ?_; simp only [St.frzp, List.drop]
  by_cases hk : k = 0
  · have k0 : (k = 0) = True := eq_true hk
    rw [if_pos hk] at hy
    by_cases h1 : lo = 0
    case neg =>
      have q1 : (lo = 0) = False := eq_false h1
      have e : y = 2 := hy.trans (if_pos h1)
      exact oz hret (cj3 @i64.eq_1 k0 q1) hle e
    have q1 : (lo = 0) = True := eq_true h1
    rw [if_neg (fun h => h h1)] at hy
    refine tq (cj3 @i64.eq_1 k0 q1) ?_; intro Nx hNx Gx hGx
    refine hty.mono ?_
    rintro d _ ⟨rfl, rfl⟩
    by_cases h2 : T.2 = 0
    case neg =>
      have q2 : (T.2 = 0) = False := eq_false h2
      have e : y = T.2 := by rw [hy, if_pos h2, if_pos h2]
      exact oz hret (cj2 @i64.eq_1 q2) hle e
    have q2 : (T.2 = 0) = True := eq_true h2
    rw [if_neg (fun h => h h2 : ¬ (T.2 ≠ 0))] at hy
    refine tq (cj2 @i64.eq_1 q2) ?_; intro Nx hNx Gx hGx
    refine hmu.mono ?_
    rintro d _ ⟨rfl, rfl⟩
    cases Mu
    · have e : y = 22 := by rw [hy]; rfl
      exact oz hret (cj2 @i64.eq_1 @i64.eq_1) hle e
    have e : y = rvE b rv T.1 := by rw [hy]; rfl
    refine tq @i64.eq_1 ?_; intro Nx hNx Gx hGx
    refine (has T.1 (hin h2)).mono ?_
    rintro d _ ⟨rfl, rfl⟩
    exact oz hret (cj2 @i64.eq_1 q1) hle e
  have k0 : (k = 0) = False := eq_false hk
  rw [if_neg hk] at hy
  by_cases hk1 : k = 1
  · have k1 : (k = 1) = True := eq_true hk1
    rw [if_pos hk1] at hy
    refine tq (cj3 @i64.eq_1 k0 k1) ?_; intro Nx hNx Gx hGx
    refine hno.mono ?_
    rintro d _ ⟨rfl, rfl⟩
    cases Z
    · have e : y = 2 := hy
      exact oz hret (cj2 @i64.eq_1 @i64.eq_1) hle e
    rw [Bool.true_and] at hy
    refine tq @i64.eq_1 ?_; intro Nx hNx Gx hGx
    refine hbl.mono ?_
    rintro d _ ⟨rfl, rfl⟩
    cases Bl
    · have e : y = 2 := hy
      exact oz hret (cj2 @i64.eq_1 @i64.eq_1) hle e
    rw [if_neg (fun h => by cases h)] at hy
    by_cases h1 : lo < 0
    · have q1 : (lo < 0) = True := eq_true h1
      have e : y = 3 := hy.trans (if_pos (.inl h1))
      exact oz hret (cj2 @i64.eq_1 q1) hle e
    have q1 : (lo < 0) = False := eq_false h1
    by_cases h2 : (b.lc.length : Int) ≤ lo
    · have q2 : (lo ≥ (b.lc.length : Int)) = True := eq_true h2
      have e : y = 3 := hy.trans (if_pos (.inr h2))
      exact oz hret (cj4 @i64.eq_1 q1 q2 hmc) hle e
    have q2 : (lo ≥ (b.lc.length : Int)) = False := eq_false h2
    have e : y = 0 := hy.trans (if_neg (by omega))
    exact oz hret (cj4 @i64.eq_1 q1 q2 hmc) hle e
  have k1 : (k = 1) = False := eq_false hk1
  rw [if_neg hk1] at hy
  by_cases hk2 : k = 2
  · have k2 : (k = 2) = True := eq_true hk2
    rw [if_pos hk2] at hy
    refine tq (cj4 @i64.eq_1 k0 k1 k2) ?_; intro Nx hNx Gx hGx
    refine hno.mono ?_
    rintro d _ ⟨rfl, rfl⟩
    cases Z
    · have e : y = 2 := hy
      exact oz hret (cj2 @i64.eq_1 @i64.eq_1) hle e
    rw [Bool.true_and] at hy
    refine tq @i64.eq_1 ?_; intro Nx hNx Gx hGx
    refine hbl.mono ?_
    rintro d _ ⟨rfl, rfl⟩
    cases Bl
    · have e : y = 2 := hy
      exact oz hret (cj2 @i64.eq_1 @i64.eq_1) hle e
    by_cases h1 : lo = 0
    · have q1 : (lo = 0) = True := eq_true h1
      have e : y = 0 := hy.trans (if_neg (by rintro (h | h); cases h; exact h h1))
      exact oz hret (cj2 @i64.eq_1 q1) hle e
    · have q1 : (lo = 0) = False := eq_false h1
      have e : y = 2 := hy.trans (if_pos (.inr h1))
      exact oz hret (cj2 @i64.eq_1 q1) hle e
  have k2 : (k = 2) = False := eq_false hk2
  rw [if_neg hk2] at hy
  have e : y = 14 := hy
  exact oz hret (cj4 @i64.eq_1 k0 k1 k2) hle e
end Go.Proofs.YtgfhgeelfaalmaaGreatDoor
