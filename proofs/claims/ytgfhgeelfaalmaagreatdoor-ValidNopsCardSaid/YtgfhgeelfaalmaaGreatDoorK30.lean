/- Lemmas and contracts of functions, several texts in one: G7 G8. -/
import Derived.Test.YtgfhgeelfaalmaaGreatDoorK29
namespace Go.Proofs.YtgfhgeelfaalmaaGreatDoor
open Go.RowKit
set_option maxRecDepth 100000
set_option linter.unusedVariables false
set_option linter.unusedSimpArgs false
set_option maxHeartbeats 2000000 in
theorem borrow_N (b : BdS) (n : Int) (b1 b2 : Nat) (r : RvS) (t : Int) (H : Heap) (ck : Ck b) (hn : n = b.rg.length) (hR : RelH b.ol b1 b2 H) (hp : okRv r) (ht : InR b.ty.length t) : Does Tryz.prog 79 [.agg (ckD b n b1 b2), .agg (rvD r), i64 t] H fun d H' => d = i64 (borE b r t) ∧ H = H' := by
  subst hn
  refine Does.frz (K := fun d => d = i64 (borE b r t)) ?_
  have hle := Heap.le_refl H
  have hty := ctypeOf_N b b.rg.length b1 b2 r.pl H ck hp.1
  have hmu := mut_N b.ty b.lc r.pl H ck.wt ck.wl ck.ar hp.1
  have hrg := regs_N b.ty b.lc r.pl H ck.wt ck.wl ck.ar hp.1
  have hou := fun q => outl_N b.ol b.rg.length q r.rg b1 b2 H hR ck.ol (by have := ck.rgl; omega) ck.oll
  have hrl : (regP b.ty b.lc r.pl).length ≤ 32 := by
    have := refsP_len b.ty b.lc r.pl
    unfold regP; rw [List.length_map]; exact this
  rw [ckD_eq] at hty ⊢
  have hms : (List.map sD b.rg).length = b.rg.length := List.length_map _
  have hmt : (List.map tyD b.ty).length = b.ty.length := List.length_map _
  obtain ⟨y, hy⟩ : ∃ y, y = borE b r t := ⟨_, rfl⟩
  rw [← hy]
  unfold borE at hy
  have hgt := ty_get ht
  have hti : t.toNat < b.ty.length := by unfold InR at ht; omega
  have ht0 : 0 ≤ t := by unfold InR at ht; omega
  obtain ⟨u, hu⟩ : ∃ u, u = tyAt b.ty t := ⟨_, rfl⟩
  obtain ⟨T, hT⟩ : ∃ T, T = toE b r.pl := ⟨_, rfl⟩
  obtain ⟨R, hRR⟩ : ∃ R, R = regP b.ty b.lc r.pl := ⟨_, rfl⟩
  obtain ⟨Z, hZ⟩ : ∃ Z, Z = mutP b.ty b.lc r.pl := ⟨_, rfl⟩
  rw [← hu] at hgt hy
  rw [← hT] at hty hy
  rw [← hRR] at hrg hrl hy
  rw [← hZ] at hmu hy
  clear hu hT hRR hZ
  obtain ⟨k, op, rg, mu, pl, ar⟩ := r
  obtain ⟨uk, um, ur, ue, ua⟩ := u
  simp only [tyD] at hgt
  simp only at hy hou
  simp only [plD] at hty hmu hrg
  have hmr : (List.map iD R).length = R.length := List.length_map _
  refine does_of _ _ Tryz.func79 rfl rfl Tryz.ntmps79 Tryz.results79 (by simp only [List.length_cons, List.length_nil]; omega) fun w0 g0 Q hret => ?_
  refine tq (cj2 @i64.eq_1 @rvD.eq_1) ?_; intro Nx hNx Gx hGx
  intro c3 hc3 c4 hc4
  refine hNx _ ?_
  obtain ⟨nFz, hFz⟩ := Heap.upd_none.1 hc4; refine W_frzp 3 rfl ((Heap.upd_ne nFz.symm).trans (Heap.upd_same _ _ _)) rfl ?_; refine W_frzp 4 rfl ((Heap.del_ne nFz).trans (Heap.upd_same _ _ _)) rfl ?_; refine W_less _ (le_two hc3 hFz) ?_; simp only [St.frzp, List.drop]
  refine tq @i64.eq_1 ?_; intro Nx hNx Gx hGx
  refine hty.mono ?_
  rintro d _ ⟨rfl, rfl⟩
  refine tq (cj5 @i64.eq_1 hgt hti ht0 hmt) ?_; intro Nx hNx Gx hGx
  intro c9 hc9
  refine hNx _ ?_
  refine frz 9 hc9 ?_
  by_cases h1 : T.2 = 0
  case neg =>
    have q1 : (T.2 = 0) = False := eq_false h1
    have e : y = T.2 := hy.trans (if_pos h1)
    exact oz hret (cj2 @i64.eq_1 q1) hle e
  have q1 : (T.2 = 0) = True := eq_true h1
  rw [if_neg (fun h => h h1)] at hy
  by_cases h2 : rg < 0
  · have q2 : (rg < 0) = True := eq_true h2
    have e : y = 3 := hy.trans (if_pos (.inl h2))
    exact oz hret (cj3 @i64.eq_1 q1 q2) hle e
  have q2 : (rg < 0) = False := eq_false h2
  by_cases h3 : (b.rg.length : Int) ≤ rg
  · have q3 : (rg ≥ (b.rg.length : Int)) = True := eq_true h3
    have e : y = 3 := hy.trans (if_pos (.inr h3))
    exact oz hret (cj5 @i64.eq_1 q1 q2 q3 hms) hle e
  have q3 : (rg ≥ (b.rg.length : Int)) = False := eq_false h3
  rw [if_neg (by omega)] at hy
  by_cases h4 : uk = 3
  case neg =>
    have q4 : (uk = 3) = False := eq_false h4
    have e : y = 22 := hy.trans (if_pos (.inl h4))
    exact oz hret (cj6 @i64.eq_1 q1 q2 q3 hms q4) hle e
  have q4 : (uk = 3) = True := eq_true h4
  by_cases h5 : ur = rg
  case neg =>
    have q5 : (ur = rg) = False := eq_false h5
    have e : y = 22 := hy.trans (if_pos (.inr (.inl h5)))
    exact oz hret (cj7 @i64.eq_1 q1 q2 q3 hms q4 q5) hle e
  have q5 : (ur = rg) = True := eq_true h5
  by_cases h6 : um = mu
  case neg =>
    have e : y = 22 := hy.trans (if_pos (.inr (.inr (.inl h6))))
    have q6 : (um = mu) = False := eq_false h6
    exact oz hret (cj8 @i64.eq_1 q1 q2 q3 hms q4 q5 q6) hle e
  have q6 : (um = mu) = True := eq_true h6
  by_cases h7 : ue = T.1
  case neg =>
    have q7 : (ue = T.1) = False := eq_false h7
    have e : y = 22 := hy.trans (if_pos (.inr (.inr (.inr (.inl h7)))))
    exact oz hret (cj9 @i64.eq_1 q1 q2 q3 hms q4 q5 q6 q7) hle e
  have q7 : (ue = T.1) = True := eq_true h7
  by_cases hm : mu = true ∧ Z = false
  · obtain ⟨hm1, hm2⟩ := hm
    have e : y = 22 := hy.trans (if_pos (.inr (.inr (.inr (.inr ⟨hm1, hm2⟩)))))
    rw [hm2] at hmu
    rw [hm1] at q6
    refine tq (cj10 @i64.eq_1 q1 q2 q3 hms q4 q5 q6 q7 hm1) ?_; intro Nx hNx Gx hGx
    refine hmu.mono ?_
    rintro d _ ⟨rfl, rfl⟩
    exact oz hret (cj2 @i64.eq_1 q1) hle e
  have hno : ¬ (uk ≠ 3 ∨ ur ≠ rg ∨ um ≠ mu ∨ ue ≠ T.1 ∨ (mu = true ∧ Z = false)) := fun h => h.elim (· h4) fun h => h.elim (· h5) fun h => h.elim (· h6) fun h => h.elim (· h7) hm
  rw [if_neg hno] at hy
  have hZ : mu = true → Z = true := fun h => by cases Z; exact absurd ⟨h, rfl⟩ hm; rfl
  cases mu
  · refine tq (cj9 @i64.eq_1 q1 q2 q3 hms q4 q5 q6 q7) ?_; intro Nx hNx Gx hGx
    refine hrg.mono ?_
    rintro d _ ⟨rfl, rfl⟩
    refine tq (cj2 @i64.eq_1 hmr) ?_; intro Nx hNx Gx hGx
    refine W_loopN R.length (fun i s => s.df = [] ∧ s.fr 3 = .rp [strD b.nm, .seq 1 (b.rg.map sD), .seq 2 (b.ol.map pD), .seq 5 (b.ty.map tyD), .seq 2 (b.lc.map lcD), i64 b.ag, .seq 7 (b.bl.map bkD), relD (b.rg.length : Int) b1 b2] ∧ (∃ x, s.fr 4 = .rp [i64 k, i64 op, i64 rg, .val (.bool x), i64 pl.lo, .seq 2 (pl.pr.map pD), .seq 4 (ar.map opD)]) ∧ s.fr 89 = .seq 1 (R.map iD) ∧ s.fr 90 = i64 R.length ∧ s.fr 91 = i64 i ∧ s.H = H ∧ (R.all fun q => outlB b.ol b.rg.length q rg) = ((R.drop i).all fun q => outlB b.ol b.rg.length q rg)) ⟨rfl, rfl, ⟨_, rfl⟩, rfl, rfl, rfl, rfl, rfl⟩ ?_
    rintro i s hi ⟨hdf, f3, ⟨x, f4⟩, f89, f90, f91, hH, ha⟩
    have hx : (i : Int).toNat = i := Int.toNat_natCast _
    have h00 : (0 : Int) ≤ (i : Int) := Int.natCast_nonneg _
    have hleS : H.le s.H := by rw [hH]; exact Heap.le_refl _
    by_cases hil : i < R.length
    case neg =>
      have q8 : ((i : Int) < (R.length : Int)) = False := eq_false (by omega)
      rw [List.drop_eq_nil_of_le (by omega), List.all_nil] at ha
      rw [ha, if_neg (fun h => by cases h)] at hy
      refine tq (cj4 f90 f91 @i64.eq_1 q8) ?_; intro Nx hNx Gx hGx
      refine rt hret hdf ?_
      exact ⟨_, Heap.le_refl _, hleS, _, frz_refl hleS, by rw [hy]; rfl⟩
    have hil' : (i : Int) < (R.length : Int) := by omega
    have q8 : ((i : Int) < (R.length : Int)) = True := eq_true hil'
    have w3 : IntKind.i64.wrap ((i : Int) + 1) = ((i + 1 : Nat) : Int) := by rw [wrap_i64_of (by omega)]; omega
    have hgi := get_ints hil
    rw [List.drop_eq_getElem_cons hil, List.all_cons] at ha
    have hoi := hou R[i]
    obtain ⟨v, hv⟩ : ∃ v, v = R[i] := ⟨_, rfl⟩
    rw [← hv] at hgi ha hoi
    obtain ⟨z, hz⟩ : ∃ z, z = outlB b.ol b.rg.length v rg := ⟨_, rfl⟩
    rw [← hz] at ha hoi
    rw [← hH] at hoi
    refine tq (cj13 f3 f4 f89 f90 f91 @i64.eq_1 hmr q8 hgi hx h00 hil hil') ?_; intro Nx hNx Gx hGx
    refine hoi.mono ?_
    rintro d _ ⟨rfl, hHH⟩
    cases z
    · rw [Bool.false_and] at ha
      rw [ha, if_pos rfl] at hy
      refine tq @i64.eq_1 ?_; intro Nx hNx Gx hGx
      refine rt hret hdf ?_
      exact ⟨_, Heap.le_refl _, by rw [← hHH]; exact hleS, _, frz_refl (by rw [← hHH]; exact hleS), by rw [hy]; rfl⟩
    · rw [Bool.true_and] at ha
      refine tq (cj3 f91 @i64.eq_1 w3) ?_; intro Nx hNx Gx hGx
      exact ⟨hil, hdf, f3, ⟨x, f4⟩, f89, f90, rfl, by rw [← hHH]; exact hH, ha⟩
  · rw [hZ rfl] at hmu
    refine tq (cj9 @i64.eq_1 q1 q2 q3 hms q4 q5 q6 q7) ?_; intro Nx hNx Gx hGx
    refine hmu.mono ?_
    rintro d _ ⟨rfl, rfl⟩
    refine tq @i64.eq_1 ?_; intro Nx hNx Gx hGx
    refine hrg.mono ?_
    rintro d _ ⟨rfl, rfl⟩
    refine tq (cj2 @i64.eq_1 hmr) ?_; intro Nx hNx Gx hGx
    refine W_loopN R.length (fun i s => s.df = [] ∧ s.fr 3 = .rp [strD b.nm, .seq 1 (b.rg.map sD), .seq 2 (b.ol.map pD), .seq 5 (b.ty.map tyD), .seq 2 (b.lc.map lcD), i64 b.ag, .seq 7 (b.bl.map bkD), relD (b.rg.length : Int) b1 b2] ∧ (∃ x, s.fr 4 = .rp [i64 k, i64 op, i64 rg, .val (.bool x), i64 pl.lo, .seq 2 (pl.pr.map pD), .seq 4 (ar.map opD)]) ∧ s.fr 89 = .seq 1 (R.map iD) ∧ s.fr 90 = i64 R.length ∧ s.fr 91 = i64 i ∧ s.H = H ∧ (R.all fun q => outlB b.ol b.rg.length q rg) = ((R.drop i).all fun q => outlB b.ol b.rg.length q rg)) ⟨rfl, rfl, ⟨_, rfl⟩, rfl, rfl, rfl, rfl, rfl⟩ ?_
    rintro i s hi ⟨hdf, f3, ⟨x, f4⟩, f89, f90, f91, hH, ha⟩
    have hx : (i : Int).toNat = i := Int.toNat_natCast _
    have h00 : (0 : Int) ≤ (i : Int) := Int.natCast_nonneg _
    have hleS : H.le s.H := by rw [hH]; exact Heap.le_refl _
    by_cases hil : i < R.length
    case neg =>
      have q8 : ((i : Int) < (R.length : Int)) = False := eq_false (by omega)
      rw [List.drop_eq_nil_of_le (by omega), List.all_nil] at ha
      rw [ha, if_neg (fun h => by cases h)] at hy
      refine tq (cj4 f90 f91 @i64.eq_1 q8) ?_; intro Nx hNx Gx hGx
      refine rt hret hdf ?_
      exact ⟨_, Heap.le_refl _, hleS, _, frz_refl hleS, by rw [hy]; rfl⟩
    have hil' : (i : Int) < (R.length : Int) := by omega
    have q8 : ((i : Int) < (R.length : Int)) = True := eq_true hil'
    have w3 : IntKind.i64.wrap ((i : Int) + 1) = ((i + 1 : Nat) : Int) := by rw [wrap_i64_of (by omega)]; omega
    have hgi := get_ints hil
    rw [List.drop_eq_getElem_cons hil, List.all_cons] at ha
    have hoi := hou R[i]
    obtain ⟨v, hv⟩ : ∃ v, v = R[i] := ⟨_, rfl⟩
    rw [← hv] at hgi ha hoi
    obtain ⟨z, hz⟩ : ∃ z, z = outlB b.ol b.rg.length v rg := ⟨_, rfl⟩
    rw [← hz] at ha hoi
    rw [← hH] at hoi
    refine tq (cj13 f3 f4 f89 f90 f91 @i64.eq_1 hmr q8 hgi hx h00 hil hil') ?_; intro Nx hNx Gx hGx
    refine hoi.mono ?_
    rintro d _ ⟨rfl, hHH⟩
    cases z
    · rw [Bool.false_and] at ha
      rw [ha, if_pos rfl] at hy
      refine tq @i64.eq_1 ?_; intro Nx hNx Gx hGx
      refine rt hret hdf ?_
      exact ⟨_, Heap.le_refl _, by rw [← hHH]; exact hleS, _, frz_refl (by rw [← hHH]; exact hleS), by rw [hy]; rfl⟩
    · rw [Bool.true_and] at ha
      refine tq (cj3 f91 @i64.eq_1 w3) ?_; intro Nx hNx Gx hGx
      exact ⟨hil, hdf, f3, ⟨x, f4⟩, f89, f90, rfl, by rw [← hHH]; exact hH, ha⟩
theorem gD0 : gD 0 = .rp [i64 2, i64 2, i64 1, i64 1] := rfl
theorem gD1 : gD 1 = .rp [i64 2, i64 2, i64 2, i64 2, i64 2, i64 2, i64 2, i64 1, i64 2, i64 1, i64 1, i64 1] := rfl
def unT : List (Int × Int) := [(2, 2), (1, 1)]
def binT : List (Int × Int) := [(2, 2), (2, 2), (2, 2), (2, 1), (2, 1), (1, 1)]
theorem int6 {x : Int} (h : 0 ≤ x) (h6 : x < 6) : x = 0 ∨ x = 1 ∨ x = 2 ∨ x = 3 ∨ x = 4 ∨ x = 5 := by omega
theorem oprE_un (b : BdS) (r : RvS) (t : Int) : oprE b r t unT.length (unT.getD r.op.toNat (1, 0)) = oprE b r t 2 (unE r.op) := by
  by_cases h : r.op < 0 ∨ 2 ≤ r.op
  · unfold oprE
    rw [if_pos (by simpa [unT] using h), if_pos h]
  · have h2 : r.op = 0 ∨ r.op = 1 := by omega
    have : unT.getD r.op.toNat (1, 0) = unE r.op := by rcases h2 with h | h <;> rw [h] <;> rfl
    rw [this]; rfl
theorem oprE_bin (b : BdS) (r : RvS) (t : Int) : oprE b r t binT.length (binT.getD r.op.toNat (1, 0)) = oprE b r t 6 (binE r.op) := by
  by_cases h : r.op < 0 ∨ 6 ≤ r.op
  · unfold oprE
    rw [if_pos (by simpa [binT] using h), if_pos h]
  · have : binT.getD r.op.toNat (1, 0) = binE r.op := by rcases int6 (x := r.op) (by omega) (by omega) with h | h | h | h | h | h <;> rw [h] <;> rfl
    rw [this]; rfl
set_option maxHeartbeats 2000000 in
theorem rvalue_N (b : BdS) (n : Int) (b1 b2 : Nat) (r : RvS) (t : Int) (H : Heap) (ck : Ck b) (hn : n = b.rg.length) (hR : RelH b.ol b1 b2 H) (hp : okRv r) (ht : InR b.ty.length t) (hfs : ∀ f ∈ (tyAt b.ty t).ar, InR b.ty.length f) : Does Tryz.prog 58 [.agg (ckD b n b1 b2), .agg (rvD r), i64 t] H fun d H' => d = i64 (rvE b r t) ∧ H = H' := by
  refine Does.frz (K := fun d => d = i64 (rvE b r t)) ?_
  have hle := Heap.le_refl H
  have hun := unused_N r H hp
  have hbo := borrow_N b n b1 b2 r t H ck hn hR hp ht
  have hou : ∀ H1, H1 = H → CallOK Tryz.prog 80 [.agg (ckD b n b1 b2), .agg (rvD r), i64 t, .seq 2 (unT.map pD)] H1 fun d A => A = Heap.none ∧ d = i64 (oprE b r t 2 (unE r.op)) := fun H1 hH1 => callOK_eq fun H'' hle'' => by
    have := operation_N b n b1 b2 r t unT H'' ck hn (relH_le hR (by rw [← hH1]; exact hle'')) hp ht (by decide)
    rwa [oprE_un] at this
  have hob : ∀ H1, H1 = H → CallOK Tryz.prog 80 [.agg (ckD b n b1 b2), .agg (rvD r), i64 t, .seq 2 (binT.map pD)] H1 fun d A => A = Heap.none ∧ d = i64 (oprE b r t 6 (binE r.op)) := fun H1 hH1 => callOK_eq fun H'' hle'' => by
    have := operation_N b n b1 b2 r t binT H'' ck hn (relH_le hR (by rw [← hH1]; exact hle'')) hp ht (by decide)
    rwa [oprE_bin] at this
  have hop : ∀ (fs : List Int), big fs.length → (∀ f ∈ fs, InR b.ty.length f) → Does Tryz.prog 62 [.agg (ckD b n b1 b2), .seq 4 (r.ar.map opD), .seq 1 (fs.map iD)] H fun d H' => d = i64 (opsE b r.ar fs) ∧ H = H' := fun fs h1 h2 => operands_N b n b1 b2 r.ar fs H ck hn hR hp.2.1 hp.2.2 h1 h2
  have hoc : ∀ H1, H1 = H → CallOK Tryz.prog 62 [.agg (ckD b n b1 b2), .seq 4 (r.ar.map opD), .seq 1 ((tyAt b.ty t).ar.map iD)] H1 fun d A => A = Heap.none ∧ d = i64 (opsE b r.ar (tyAt b.ty t).ar) := fun H1 hH1 => callOK_eq fun H'' hle'' => operands_N b n b1 b2 r.ar _ H'' ck hn (relH_le hR (by rw [← hH1]; exact hle'')) hp.2.1 hp.2.2 (ck.ar.big _ (tyAt_in ht)) hfs
  have hfa : ∀ x H1, CallOK Tryz.prog 60 [.val (.bool x)] H1 fun d A => A = Heap.none ∧ d = i64 (if x = true then 22 else 0) := fun x H1 => callOK_eq fun H'' hle'' => failed_N x H''
  have hfi : ∀ a c H1, CallOK Tryz.prog 50 [.seq 1 [[i64 a], [i64 c]]] H1 fun d A => A = Heap.none ∧ d = i64 (if a ≠ 0 then a else c) := fun a c H1 => callOK_eq fun H'' hle'' => first2_N a c H''
  rw [ckD_eq] at hbo hou hob hop hoc ⊢
  have hmt : (List.map tyD b.ty).length = b.ty.length := List.length_map _
  have hml : (List.map opD r.ar).length = r.ar.length := List.length_map _
  obtain ⟨y, hy⟩ : ∃ y, y = rvE b r t := ⟨_, rfl⟩
  rw [← hy]
  unfold rvE at hy
  have hgt := ty_get ht
  have hti : t.toNat < b.ty.length := by unfold InR at ht; omega
  have ht0 : 0 ≤ t := by unfold InR at ht; omega
  obtain ⟨u, hu⟩ : ∃ u, u = tyAt b.ty t := ⟨_, rfl⟩
  rw [← hu] at hgt hy hoc
  clear hu hfs
  simp only [tyD] at hgt
  obtain ⟨S, hS⟩ : ∃ S, S = shpE r := ⟨_, rfl⟩
  rw [← hS] at hun hy
  refine does_of _ _ Tryz.func58 rfl rfl Tryz.ntmps58 Tryz.results58 (by simp only [List.length_cons, List.length_nil]; omega) fun w0 g0 Q hret => ?_
  refine tq (cj2 @i64.eq_1 @rvD.eq_1) ?_; intro Nx hNx Gx hGx
  intro c3 hc3 c4 hc4
  refine hNx _ ?_
  obtain ⟨nFz, hFz⟩ := Heap.upd_none.1 hc4; refine W_frzp 3 rfl ((Heap.upd_ne nFz.symm).trans (Heap.upd_same _ _ _)) rfl ?_; refine W_frzp 4 rfl ((Heap.del_ne nFz).trans (Heap.upd_same _ _ _)) rfl ?_; refine W_less _ (le_two hc3 hFz) ?_; simp only [St.frzp, List.drop]
  by_cases h1 : r.k < 0
  · have q1 : (r.k < 0) = True := eq_true h1
    have e : y = 14 := hy.trans (if_pos (.inl h1))
    exact oz hret (cj2 @i64.eq_1 q1) hle e
  have q1 : (r.k < 0) = False := eq_false h1
  by_cases h2 : 4 < r.k
  · have q2 : (4 < r.k) = True := eq_true h2
    have e : y = 14 := hy.trans (if_pos (.inr h2))
    exact oz hret (cj3 @i64.eq_1 q1 q2) hle e
  have q2 : (4 < r.k) = False := eq_false h2
  rw [if_neg (by omega)] at hy
  refine tq (cj3 @i64.eq_1 q1 q2) ?_; intro Nx hNx Gx hGx
  refine hun.mono ?_
  rintro d _ ⟨rfl, rfl⟩
  cases S
  · have e : y = 2 := hy
    exact oz hret (cj2 @i64.eq_1 q1) hle e
  rw [if_neg (fun h => by cases h)] at hy
  by_cases hk : r.k = 0
  · have k0 : (r.k = 0) = True := eq_true hk
    rw [if_pos hk] at hy
    have e := hy
    refine tq (cj2 @i64.eq_1 k0) ?_; intro Nx hNx Gx hGx
    refine (hop [t] (by unfold big; simp) (fun f hf => by rw [List.mem_singleton] at hf; subst hf; exact ht)).mono ?_
    rintro d _ ⟨rfl, rfl⟩
    exact oz hret (cj2 @i64.eq_1 q1) hle e
  have k0 : (r.k = 0) = False := eq_false hk
  rw [if_neg hk] at hy
  by_cases hk : r.k = 1
  · have k1 : (r.k = 1) = True := eq_true hk
    rw [if_pos hk] at hy
    have e := hy
    refine tq (cj3 @i64.eq_1 k0 k1) ?_; intro Nx hNx Gx hGx
    refine hbo.mono ?_
    rintro d _ ⟨rfl, rfl⟩
    exact oz hret (cj2 @i64.eq_1 q1) hle e
  have k1 : (r.k = 1) = False := eq_false hk
  rw [if_neg hk] at hy
  by_cases hk : r.k = 2
  · have k2 : (r.k = 2) = True := eq_true hk
    rw [if_pos hk] at hy
    have e := hy
    refine tq (cj4 @i64.eq_1 k0 k1 k2) ?_; intro Nx hNx Gx hGx
    refine W_drawE (fun _ _ d A => A = .none ∧ d = i64 (oprE b r t 2 (unE r.op))) (by kernel_rfl) (by kernel_rfl) (by kernel_rfl) fun Nx hNx => ?_; refine dst (cj3 @i64.eq_1 gD0 @chunk.eq_1) ?_; intro Nx hNx Gx hGx
    refine ⟨hou _ rfl, ?_⟩
    (first | refine hGx _ ?_ | refine hNx _ ?_ | skip)
    exact oz hret (cj2 @i64.eq_1 q1) hle e
  have k2 : (r.k = 2) = False := eq_false hk
  rw [if_neg hk] at hy
  by_cases hk : r.k = 3
  · have k3 : (r.k = 3) = True := eq_true hk
    rw [if_pos hk] at hy
    have e := hy
    refine tq (cj5 @i64.eq_1 k0 k1 k2 k3) ?_; intro Nx hNx Gx hGx
    refine W_drawE (fun _ _ d A => A = .none ∧ d = i64 (oprE b r t 6 (binE r.op))) (by kernel_rfl) (by kernel_rfl) (by kernel_rfl) fun Nx hNx => ?_; refine dst (cj3 @i64.eq_1 gD1 @chunk.eq_1) ?_; intro Nx hNx Gx hGx
    refine ⟨hob _ rfl, ?_⟩
    (first | refine hGx _ ?_ | refine hNx _ ?_ | skip)
    exact oz hret (cj2 @i64.eq_1 q1) hle e
  have k3 : (r.k = 3) = False := eq_false hk
  rw [if_neg hk] at hy
  refine tq (cj9 @i64.eq_1 k0 k1 k2 k3 hgt hti ht0 hmt) ?_; intro Nx hNx Gx hGx
  intro c7 hc7
  refine hNx _ ?_
  refine frz 7 hc7 ?_
  by_cases h7 : u.k = 4
  case neg =>
    have q7 : (u.k = 4) = False := eq_false h7
    have e : y = 22 := by rw [hy, if_pos (.inl h7)]
    refine W_seq ?_
    refine W_drawE (fun t0 _ d A => A = .none ∧ d = (if t0 = some 67 then i64 22 else if t0 = some 73 then i64 (opsE b r.ar u.ar) else i64 22)) (by kernel_rfl) (by kernel_rfl) (by kernel_rfl) fun Nx hNx => ?_; refine dst (cj2 @i64.eq_1 q7) ?_; intro Nx hNx Gx hGx
    refine ⟨hfa _ _, hoc _ rfl, hfi 22 _ _, ?_⟩
    (first | refine hGx _ ?_ | refine hNx _ ?_ | skip)
    exact oz hret (cj2 @i64.eq_1 q7) hle e
  have q7 : (u.k = 4) = True := eq_true h7
  have hmu : (List.map iD u.ar).length = u.ar.length := List.length_map _
  by_cases h8 : u.ar.length = r.ar.length
  case neg =>
    have q8 : ((u.ar.length : Int) = (r.ar.length : Int)) = False := eq_false (by omega)
    have e : y = 22 := by rw [hy, if_pos (.inr h8)]
    refine W_seq ?_
    refine W_drawE (fun t0 _ d A => A = .none ∧ d = (if t0 = some 67 then i64 22 else if t0 = some 73 then i64 (opsE b r.ar u.ar) else i64 22)) (by kernel_rfl) (by kernel_rfl) (by kernel_rfl) fun Nx hNx => ?_; refine dst (cj5 @i64.eq_1 q7 q8 hml hmu) ?_; intro Nx hNx Gx hGx
    refine ⟨hfa _ _, hoc _ rfl, hfi 22 _ _, ?_⟩
    (first | refine hGx _ ?_ | refine hNx _ ?_ | skip)
    exact oz hret (cj2 @i64.eq_1 q7) hle e
  have q8 : ((u.ar.length : Int) = (r.ar.length : Int)) = True := eq_true (by omega)
  have e : y = opsE b r.ar u.ar := by rw [hy, if_neg (by omega)]
  refine W_seq ?_
  refine W_drawE (fun t0 _ d A => A = .none ∧ d = (if t0 = some 67 then i64 0 else if t0 = some 73 then i64 (opsE b r.ar u.ar) else i64 (opsE b r.ar u.ar))) (by kernel_rfl) (by kernel_rfl) (by kernel_rfl) fun Nx hNx => ?_; refine dst (cj5 @i64.eq_1 q7 q8 hml hmu) ?_; intro Nx hNx Gx hGx
  refine ⟨hfa _ _, hoc _ rfl, hfi 0 _ _, ?_⟩
  (first | refine hGx _ ?_ | refine hNx _ ?_ | skip)
  exact oz hret (cj2 @i64.eq_1 q7) hle e
end Go.Proofs.YtgfhgeelfaalmaaGreatDoor
