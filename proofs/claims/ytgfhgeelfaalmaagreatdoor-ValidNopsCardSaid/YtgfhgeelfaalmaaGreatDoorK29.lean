/- Lemmas and contracts of functions, several texts in one: G5 G6. -/
import Derived.Test.YtgfhgeelfaalmaaGreatDoorK28
import Derived.Test.YtgfhgeelfaalmaaGreatDoorK21
namespace Go.Proofs.YtgfhgeelfaalmaaGreatDoor
open Go.RowKit
set_option maxRecDepth 100000
set_option linter.unusedVariables false
set_option linter.unusedSimpArgs false
def plnE (r : RvS) : Bool := (decide (r.rg = 0) && !r.mu) && zeroP r.pl
theorem shpE_eq (r : RvS) : shpE r = if r.k = 1 then decide (r.op = 0) && decide (r.ar.length = 0) else plnE r && (if r.k = 0 then decide (r.op = 0) && decide (r.ar.length = 1) else if r.k = 2 then decide (r.ar.length = 1) else if r.k = 3 then decide (r.ar.length = 2) else decide (r.op = 0)) := rfl
def UnM (r : RvS) (H : Heap) (s : St) : Prop := s.df = [] ∧ s.fr 1 = .rp (rvD r) ∧ s.fr 3 = .val (.bool (plnE r)) ∧ s.H = H
set_option maxHeartbeats 1000000 in
theorem unused_N (r : RvS) (H : Heap) (hp : okRv r) : Does Tryz.prog 78 [.agg (rvD r)] H fun d H' => d = .val (.bool (shpE r)) ∧ H = H' := by
  refine Does.frz (K := fun d => d = .val (.bool (shpE r))) ?_
  have hze := zero_N r.pl H hp.1
  have har := hp.2.1
  unfold big at har
  have hml : (List.map opD r.ar).length = r.ar.length := List.length_map _
  have hsh := shpE_eq r
  obtain ⟨y, hy⟩ : ∃ y, y = shpE r := ⟨_, rfl⟩
  rw [← hy] at hsh ⊢
  have hM : ∀ s, UnM r H s ↔ (s.df = [] ∧ s.fr 1 = .rp (rvD r) ∧ s.fr 3 = .val (.bool (plnE r)) ∧ s.H = H) := fun s => Iff.rfl
  have hpl : plnE r = ((decide (r.rg = 0) && !r.mu) && zeroP r.pl) := rfl
  obtain ⟨P, hP⟩ : ∃ P, P = plnE r := ⟨_, rfl⟩
  rw [← hP] at hsh hpl
  simp only [← hP] at hM
  obtain ⟨M, hMM⟩ : ∃ M, M = UnM r H := ⟨_, rfl⟩
  rw [← hMM] at hM
  clear hP hMM hy
  obtain ⟨k, op, rg, mu, pl, ar⟩ := r
  simp only [rvD] at hM ⊢
  simp only at hsh hpl hze har hml
  simp only [plD] at hze
  refine does_of _ _ Tryz.func78 rfl rfl Tryz.ntmps78 Tryz.results78 (by simp only [List.length_cons, List.length_nil]; omega) fun w0 g0 Q hret => ?_
  refine tq @i64.eq_1 ?_; intro Nx hNx Gx hGx
  intro c1 hc1
  refine hNx _ ?_
  refine frz 1 hc1 ?_
  refine W_seq ?_
  refine W_to M ?_ ?_
  · by_cases h1 : rg = 0
    case neg =>
      have q1 : (rg = 0) = False := eq_false h1
      have e : P = false := hpl.trans (by rw [decide_eq_false h1, Bool.false_and, Bool.false_and])
      refine tq (cj2 @i64.eq_1 q1) ?_; intro Nx hNx Gx hGx
      exact (hM _).2 ⟨rfl, rfl, by rw [e]; rfl, rfl⟩
    have q1 : (rg = 0) = True := eq_true h1
    cases mu
    · have e : P = zeroP pl := hpl.trans (by rw [decide_eq_true h1]; rfl)
      refine tq (cj2 @i64.eq_1 q1) ?_; intro Nx hNx Gx hGx
      refine hze.mono ?_
      rintro d _ ⟨rfl, rfl⟩
      cases hz : zeroP pl
      · rw [hz] at e
        refine tq @i64.eq_1 ?_; intro Nx hNx Gx hGx
        exact (hM _).2 ⟨rfl, rfl, by rw [e]; rfl, rfl⟩
      · rw [hz] at e
        refine tq @i64.eq_1 ?_; intro Nx hNx Gx hGx
        exact (hM _).2 ⟨rfl, rfl, by rw [e]; rfl, rfl⟩
    · have e : P = false := hpl.trans (by rw [decide_eq_true h1]; rfl)
      refine tq (cj2 @i64.eq_1 q1) ?_; intro Nx hNx Gx hGx
      exact (hM _).2 ⟨rfl, rfl, by rw [e]; rfl, rfl⟩
  intro s hs
  obtain ⟨hdf, f1, f3, hH⟩ := (hM s).1 hs
  have hleS : H.le s.H := by rw [hH]; exact Heap.le_refl _
  by_cases hk : k = 0
  · have k0 : (k = 0) = True := eq_true hk
    rw [if_neg (by omega), if_pos hk] at hsh
    cases P
    · rw [Bool.false_and] at hsh
      have e := hsh
      exact oz hret (cj4 @i64.eq_1 f1 f3 k0) hleS e
    rw [Bool.true_and] at hsh
    by_cases h1 : op = 0
    case neg =>
      have q1 : (op = 0) = False := eq_false h1
      have e : y = false := hsh.trans (by rw [decide_eq_false h1, Bool.false_and])
      exact oz hret (cj5 @i64.eq_1 f1 f3 k0 q1) hleS e
    have q1 : (op = 0) = True := eq_true h1
    by_cases h2 : ar.length = 1
    · have q2 : ((ar.length : Int) = 1) = True := eq_true (by omega)
      have e : y = true := hsh.trans (by rw [decide_eq_true h1, decide_eq_true h2]; rfl)
      exact oz hret (cj7 @i64.eq_1 f1 f3 k0 q1 q2 hml) hleS e
    · have q2 : ((ar.length : Int) = 1) = False := eq_false (by omega)
      have e : y = false := hsh.trans (by rw [decide_eq_false h2, Bool.and_false])
      exact oz hret (cj7 @i64.eq_1 f1 f3 k0 q1 q2 hml) hleS e
  have k0 : (k = 0) = False := eq_false hk
  by_cases hk1 : k = 1
  · have k1 : (k = 1) = True := eq_true hk1
    rw [if_pos hk1] at hsh
    by_cases h1 : op = 0
    case neg =>
      have q1 : (op = 0) = False := eq_false h1
      have e : y = false := hsh.trans (by rw [decide_eq_false h1, Bool.false_and])
      exact oz hret (cj6 @i64.eq_1 f1 f3 k0 k1 q1) hleS e
    have q1 : (op = 0) = True := eq_true h1
    by_cases h2 : ar.length = 0
    · have q2 : ((ar.length : Int) = 0) = True := eq_true (by omega)
      have e : y = true := hsh.trans (by rw [decide_eq_true h1, decide_eq_true h2]; rfl)
      exact oz hret (cj8 @i64.eq_1 f1 f3 k0 k1 q1 q2 hml) hleS e
    · have q2 : ((ar.length : Int) = 0) = False := eq_false (by omega)
      have e : y = false := hsh.trans (by rw [decide_eq_false h2, Bool.and_false])
      exact oz hret (cj8 @i64.eq_1 f1 f3 k0 k1 q1 q2 hml) hleS e
  have k1 : (k = 1) = False := eq_false hk1
  rw [if_neg hk1, if_neg hk] at hsh
  by_cases hk2 : k = 2
  · have k2 : (k = 2) = True := eq_true hk2
    rw [if_pos hk2] at hsh
    cases P
    · have e : y = false := hsh
      exact oz hret (cj6 @i64.eq_1 f1 f3 k0 k1 k2) hleS e
    by_cases h2 : ar.length = 1
    · have q2 : ((ar.length : Int) = 1) = True := eq_true (by omega)
      have e : y = true := hsh.trans (by rw [decide_eq_true h2]; rfl)
      exact oz hret (cj8 @i64.eq_1 f1 f3 k0 k1 k2 q2 hml) hleS e
    · have q2 : ((ar.length : Int) = 1) = False := eq_false (by omega)
      have e : y = false := hsh.trans (by rw [decide_eq_false h2]; rfl)
      exact oz hret (cj8 @i64.eq_1 f1 f3 k0 k1 k2 q2 hml) hleS e
  have k2 : (k = 2) = False := eq_false hk2
  rw [if_neg hk2] at hsh
  by_cases hk3 : k = 3
  · have k3 : (k = 3) = True := eq_true hk3
    rw [if_pos hk3] at hsh
    cases P
    · have e : y = false := hsh
      exact oz hret (cj7 @i64.eq_1 f1 f3 k0 k1 k2 k3) hleS e
    by_cases h2 : ar.length = 2
    · have q2 : ((ar.length : Int) = 2) = True := eq_true (by omega)
      have e : y = true := hsh.trans (by rw [decide_eq_true h2]; rfl)
      exact oz hret (cj9 @i64.eq_1 f1 f3 k0 k1 k2 k3 q2 hml) hleS e
    · have q2 : ((ar.length : Int) = 2) = False := eq_false (by omega)
      have e : y = false := hsh.trans (by rw [decide_eq_false h2]; rfl)
      exact oz hret (cj9 @i64.eq_1 f1 f3 k0 k1 k2 k3 q2 hml) hleS e
  have k3 : (k = 3) = False := eq_false hk3
  rw [if_neg hk3] at hsh
  cases P
  · have e : y = false := hsh
    exact oz hret (cj7 @i64.eq_1 f1 f3 k0 k1 k2 k3) hleS e
  by_cases h1 : op = 0
  · have q1 : (op = 0) = True := eq_true h1
    have e : y = true := hsh.trans (by rw [decide_eq_true h1]; rfl)
    exact oz hret (cj8 @i64.eq_1 f1 f3 k0 k1 k2 k3 q1) hleS e
  · have q1 : (op = 0) = False := eq_false h1
    have e : y = false := hsh.trans (by rw [decide_eq_false h1]; rfl)
    exact oz hret (cj8 @i64.eq_1 f1 f3 k0 k1 k2 k3 q1) hleS e
theorem first2_N (a c : Int) (H : Heap) : Does Tryz.prog 50 [.seq 1 [[i64 a], [i64 c]]] H fun d H' => d = i64 (if a ≠ 0 then a else c) ∧ H = H' := by
  have h := first_N [a, c] H (by unfold big; simp)
  have e : fstE [a, c] = if a ≠ 0 then a else c := by
    simp only [fstE]
    split
    · rfl
    · by_cases h : c = 0 <;> simp [h]
  rw [e] at h
  exact h
set_option maxHeartbeats 1000000 in
theorem writable_N (b : BdS) (n : Int) (b1 b2 : Nat) (p : PlS) (H : Heap) (ck : Ck b) (hp : big p.pr.length) : Does Tryz.prog 57 [.agg (ckD b n b1 b2), .agg (plD p)] H fun d H' => d = .tup [i64 (toE b p).1, i64 (wrtE b p)] ∧ H = H' := by
  refine Does.frz (K := fun d => d = .tup [i64 (toE b p).1, i64 (wrtE b p)]) ?_
  have hle := Heap.le_refl H
  have hty := ctypeOf_N b n b1 b2 p H ck hp
  have hmu := mut_N b.ty b.lc p H ck.wt ck.wl ck.ar hp
  have hfa := fun x => failed_N x H
  have hfi := fun a c => first2_N a c H
  rw [ckD_eq] at hty ⊢
  obtain ⟨y, hy⟩ : ∃ y, y = wrtE b p := ⟨_, rfl⟩
  rw [← hy]
  unfold wrtE at hy
  obtain ⟨T, hT⟩ : ∃ T, T = toE b p := ⟨_, rfl⟩
  rw [← hT] at hy hty ⊢
  clear hT
  simp only [plD] at hty hmu
  refine does_of _ _ Tryz.func57 rfl rfl Tryz.ntmps57 Tryz.results57 (by simp only [List.length_cons, List.length_nil]; omega) fun w0 g0 Q hret => ?_
  refine tq (cj2 @i64.eq_1 @plD.eq_1) ?_; intro Nx hNx Gx hGx
  intro c2 hc2 c3 hc3
  refine hNx _ ?_
  obtain ⟨nFz, hFz⟩ := Heap.upd_none.1 hc3; refine W_frzp 2 rfl ((Heap.upd_ne nFz.symm).trans (Heap.upd_same _ _ _)) rfl ?_; refine W_frzp 3 rfl ((Heap.del_ne nFz).trans (Heap.upd_same _ _ _)) rfl ?_; refine W_less _ (le_two hc2 hFz) ?_; simp only [St.frzp, List.drop]
  refine tq @i64.eq_1 ?_; intro Nx hNx Gx hGx
  refine hty.mono ?_
  rintro d _ ⟨rfl, rfl⟩
  by_cases h1 : T.2 = 0
  · have q1 : (T.2 = 0) = True := eq_true h1
    rw [if_neg (fun h => h h1)] at hy
    refine tq (cj2 @i64.eq_1 q1) ?_; intro Nx hNx Gx hGx
    refine hmu.mono ?_
    rintro d _ ⟨rfl, rfl⟩
    have e : y = if (!mutP b.ty b.lc p) = true then 22 else 0 := by rw [hy]; cases mutP b.ty b.lc p <;> rfl
    obtain ⟨z, hz⟩ : ∃ z, z = mutP b.ty b.lc p := ⟨_, rfl⟩
    rw [← hz] at e ⊢
    clear hz hy
    cases z
    · refine tq @i64.eq_1 ?_; intro Nx hNx Gx hGx
      refine (hfa _).mono ?_
      rintro d _ ⟨rfl, rfl⟩
      refine tq @i64.eq_1 ?_; intro Nx hNx Gx hGx
      refine (hfi _ _).mono ?_
      rintro d _ ⟨rfl, rfl⟩
      refine tq (cj2 @i64.eq_1 q1) ?_; intro Nx hNx Gx hGx
      refine rt hret @i64.eq_1 ?_
      exact ⟨_, Heap.le_refl _, hle, _, frz_refl hle, by rw [e]; rfl⟩
    · refine tq @i64.eq_1 ?_; intro Nx hNx Gx hGx
      refine (hfa _).mono ?_
      rintro d _ ⟨rfl, rfl⟩
      refine tq @i64.eq_1 ?_; intro Nx hNx Gx hGx
      refine (hfi _ _).mono ?_
      rintro d _ ⟨rfl, rfl⟩
      refine tq (cj2 @i64.eq_1 q1) ?_; intro Nx hNx Gx hGx
      refine rt hret @i64.eq_1 ?_
      exact ⟨_, Heap.le_refl _, hle, _, frz_refl hle, by rw [e]; rfl⟩
  · have q1 : (T.2 = 0) = False := eq_false h1
    have e : y = T.2 := hy.trans (if_pos h1)
    refine tq (cj2 @i64.eq_1 q1) ?_; intro Nx hNx Gx hGx
    refine (hfa _).mono ?_
    rintro d _ ⟨rfl, rfl⟩
    refine tq @i64.eq_1 ?_; intro Nx hNx Gx hGx
    refine (hfi _ _).mono ?_
    rintro d _ ⟨rfl, rfl⟩
    refine tq (cj2 @i64.eq_1 q1) ?_; intro Nx hNx Gx hGx
    refine rt hret @i64.eq_1 ?_
    exact ⟨_, Heap.le_refl _, hle, _, frz_refl hle, by rw [e]⟩
end Go.Proofs.YtgfhgeelfaalmaaGreatDoor
