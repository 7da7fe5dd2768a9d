/- Lemmas and contracts of functions, several texts in one: G3 G4 H4s. -/
import Derived.Test.YtgfhgeelfaalmaaGreatDoorK27
import Derived.Test.YtgfhgeelfaalmaaGreatDoorK11
namespace Go.Proofs.YtgfhgeelfaalmaaGreatDoor
open Go.RowKit
set_option maxRecDepth 100000
set_option linter.unusedVariables false
set_option linter.unusedSimpArgs false
theorem opE_ok {b : BdS} {o : OpS} (h : opE b o = 0) : (0 ≤ o.k ∧ o.k ≤ 4) ∧ (o.k ≤ 1 → (toE b o.pl).2 = 0) := by
  unfold opE at h
  split at h
  · cases h
  · rename_i h1
    refine ⟨by omega, fun h2 => ?_⟩
    split at h
    · cases h
    · split at h
      · cases h
      · split at h
        · omega
        · split at h
          · rename_i h5; exact absurd h h5
          · rename_i h5; exact Classical.byContradiction h5
theorem toE_in {b : BdS} (ck : Ck b) {p : PlS} (h : (toE b p).2 = 0) : InR b.ty.length (toE b p).1 := typeOf_in ck.wt ck.wl h
set_option maxHeartbeats 1000000 in
theorem kindOf_N (b : BdS) (n : Int) (b1 b2 : Nat) (o : OpS) (H : Heap) (ck : Ck b) (hp : okOp o) (hz : opE b o = 0) : Does Tryz.prog 61 [.agg (ckD b n b1 b2), .agg (opD o)] H fun d H' => d = i64 (kdE b o) ∧ H = H' := by
  refine Does.frz (K := fun d => d = i64 (kdE b o)) ?_
  have hle := Heap.le_refl H
  have hty := ctypeOf_N b n b1 b2 o.pl H ck hp
  obtain ⟨hk5, hk1⟩ := opE_ok hz
  obtain ⟨y, hy⟩ : ∃ y, y = kdE b o := ⟨_, rfl⟩
  rw [← hy]
  unfold kdE at hy
  have hin : o.k ≤ 1 → InR b.ty.length (toE b o.pl).1 := fun h => toE_in ck (hk1 h)
  obtain ⟨T, hT⟩ : ∃ T, T = toE b o.pl := ⟨_, rfl⟩
  rw [← hT] at hy hty hin
  have hmt : (List.map tyD b.ty).length = b.ty.length := List.length_map _
  obtain ⟨k, p, v⟩ := o
  simp only at hy hk5 hin
  clear hT hk1 hz
  simp only [ckD, bdD, List.cons_append, List.nil_append, plD] at hty
  refine does_of _ _ Tryz.func61 rfl rfl Tryz.ntmps61 Tryz.results61 (by simp only [List.length_cons, List.length_nil]; omega) fun w0 g0 Q hret => ?_
  simp only [ckD, bdD, List.cons_append, List.nil_append]
  refine tq (cj2 @i64.eq_1 @opD.eq_1) ?_; intro Nx hNx Gx hGx
  intro c2 hc2 c3 hc3
  refine hNx _ ?_
  obtain ⟨nFz, hFz⟩ := Heap.upd_none.1 hc3; refine W_frzp 2 rfl ((Heap.upd_ne nFz.symm).trans (Heap.upd_same _ _ _)) rfl ?_; refine W_frzp 3 rfl ((Heap.del_ne nFz).trans (Heap.upd_same _ _ _)) rfl ?_; refine W_less _ (le_two hc2 hFz) ?_; simp only [St.frzp, List.drop]
  by_cases hk : k = 2
  · have k2 : (k = 2) = True := eq_true hk
    have e : y = 2 := hy.trans (if_pos hk)
    exact oz hret (cj2 @i64.eq_1 k2) hle e
  have k2 : (k = 2) = False := eq_false hk
  rw [if_neg hk] at hy
  by_cases hk : k = 3
  · have k3 : (k = 3) = True := eq_true hk
    have e : y = 1 := hy.trans (if_pos hk)
    exact oz hret (cj3 @i64.eq_1 k2 k3) hle e
  have k3 : (k = 3) = False := eq_false hk
  rw [if_neg hk] at hy
  by_cases hk : k = 4
  · have k4 : (k = 4) = True := eq_true hk
    have e : y = 0 := hy.trans (if_pos hk)
    exact oz hret (cj4 @i64.eq_1 k2 k3 k4) hle e
  have k4 : (k = 4) = False := eq_false hk
  rw [if_neg hk] at hy
  have hin := hin (by omega)
  have hgt := ty_get hin
  have hti : T.1.toNat < b.ty.length := by unfold InR at hin; omega
  have ht0 : 0 ≤ T.1 := by unfold InR at hin; omega
  obtain ⟨t, ht⟩ : ∃ t, t = tyAt b.ty T.1 := ⟨_, rfl⟩
  rw [← ht] at hgt hy
  have e := hy
  simp only [tyD] at hgt
  refine tq (cj4 @i64.eq_1 k2 k3 k4) ?_; intro Nx hNx Gx hGx
  refine hty.mono ?_
  rintro d _ ⟨rfl, rfl⟩
  exact oz hret (cj5 @i64.eq_1 hgt hti ht0 hmt) hle e
set_option maxHeartbeats 1000000 in
theorem fits_N (b : BdS) (n : Int) (b1 b2 : Nat) (o : OpS) (t : Int) (H : Heap) (ck : Ck b) (hn : n = b.rg.length) (hR : RelH b.ol b1 b2 H) (hp : okOp o) (hz : opE b o = 0) (ht : InR b.ty.length t) : Does Tryz.prog 82 [.agg (ckD b n b1 b2), .agg (opD o), i64 t] H fun d H' => d = .val (.bool (fitE b o t)) ∧ H = H' := by
  subst hn
  refine Does.frz (K := fun d => d = .val (.bool (fitE b o t))) ?_
  have hle := Heap.le_refl H
  have hty := ctypeOf_N b b.rg.length b1 b2 o.pl H ck hp
  have hkd : ∀ H1, CallOK Tryz.prog 61 [.agg (ckD b b.rg.length b1 b2), .agg (opD o)] H1 fun d A => A = Heap.none ∧ d = i64 (kdE b o) := fun H1 => callOK_eq fun H'' hle'' => kindOf_N b b.rg.length b1 b2 o H'' ck hp hz
  have hsu := fun a c => sub_N b.ol b.rg.length b.ty b1 b2 H ck.wt ck.ol (by have := ck.rgl; omega) ck.oll ck.tl ck.ar.big hR a c
  obtain ⟨hk5, hk1⟩ := opE_ok hz
  obtain ⟨y, hy⟩ : ∃ y, y = fitE b o t := ⟨_, rfl⟩
  rw [← hy]
  unfold fitE at hy
  obtain ⟨T, hT⟩ : ∃ T, T = toE b o.pl := ⟨_, rfl⟩
  obtain ⟨kd, hkk⟩ : ∃ kd, kd = kdE b o := ⟨_, rfl⟩
  rw [← hT] at hy hty
  rw [← hkk] at hy hkd
  have hgt := ty_get ht
  have hti : t.toNat < b.ty.length := by unfold InR at ht; omega
  have ht0 : 0 ≤ t := by unfold InR at ht; omega
  obtain ⟨u, hu⟩ : ∃ u, u = tyAt b.ty t := ⟨_, rfl⟩
  rw [← hu] at hgt hy
  have hmt : (List.map tyD b.ty).length = b.ty.length := List.length_map _
  obtain ⟨k, p, v⟩ := o
  simp only at hy hk5
  clear hT hk1 hz hkk hu
  simp only [tyD] at hgt
  simp only [ckD, bdD, List.cons_append, List.nil_append, plD] at hty
  simp only [ckD, bdD, opD, List.cons_append, List.nil_append] at hkd
  refine does_of _ _ Tryz.func82 rfl rfl Tryz.ntmps82 Tryz.results82 (by simp only [List.length_cons, List.length_nil]; omega) fun w0 g0 Q hret => ?_
  simp only [ckD, bdD, List.cons_append, List.nil_append]
  refine tq (cj2 @i64.eq_1 @opD.eq_1) ?_; intro Nx hNx Gx hGx
  intro c3 hc3 c4 hc4
  refine hNx _ ?_
  obtain ⟨nFz, hFz⟩ := Heap.upd_none.1 hc4; refine W_frzp 3 rfl ((Heap.upd_ne nFz.symm).trans (Heap.upd_same _ _ _)) rfl ?_; refine W_frzp 4 rfl ((Heap.del_ne nFz).trans (Heap.upd_same _ _ _)) rfl ?_; refine W_less _ (le_two hc3 hFz) ?_; simp only [St.frzp, List.drop]
  by_cases hk : 1 < k
  · have k0 : (k = 0) = False := eq_false (by omega)
    have k1 : (k = 1) = False := eq_false (by omega)
    have e := hy.trans (if_pos hk)
    refine tq (cj3 @i64.eq_1 k0 k1) ?_; intro Nx hNx Gx hGx
    refine W_drawE (fun _ _ d A => A = .none ∧ d = i64 kd) (by kernel_rfl) (by kernel_rfl) (by kernel_rfl) fun Nx hNx => ?_; refine dst (cj5 @i64.eq_1 hgt hti ht0 hmt) ?_; intro Nx hNx Gx hGx
    refine ⟨hkd _, ?_⟩
    refine dst @i64.eq_1 ?_; intro Nx hNx Gx hGx
    exact oz hret (cj2 @i64.eq_1 k0) hle e
  have e := hy.trans (if_neg hk)
  by_cases hk0 : k = 0
  · have k0 : (k = 0) = True := eq_true hk0
    refine tq (cj2 @i64.eq_1 k0) ?_; intro Nx hNx Gx hGx
    refine hty.mono ?_
    rintro d _ ⟨rfl, rfl⟩
    refine tq @i64.eq_1 ?_; intro Nx hNx Gx hGx
    refine (hsu _ _).mono ?_
    rintro d _ ⟨rfl, rfl⟩
    exact oz hret (cj2 @i64.eq_1 k0) hle e
  · have k0 : (k = 0) = False := eq_false hk0
    have k1 : (k = 1) = True := eq_true (by omega)
    refine tq (cj3 @i64.eq_1 k0 k1) ?_; intro Nx hNx Gx hGx
    refine hty.mono ?_
    rintro d _ ⟨rfl, rfl⟩
    refine tq @i64.eq_1 ?_; intro Nx hNx Gx hGx
    refine (hsu _ _).mono ?_
    rintro d _ ⟨rfl, rfl⟩
    exact oz hret (cj2 @i64.eq_1 k0) hle e
theorem op_get {l : List OpS} {i : Nat} (h : i < l.length) : (l.map opD)[i]? = some (opD l[i]) := by
  rw [List.getElem?_map, List.getElem?_eq_getElem h]; rfl
set_option maxHeartbeats 2000000 in
theorem operands_N (b : BdS) (n : Int) (b1 b2 : Nat) (l : List OpS) (fs : List Int) (H : Heap) (ck : Ck b) (hn : n = b.rg.length) (hR : RelH b.ol b1 b2 H) (hl : big l.length) (hp : ∀ o ∈ l, okOp o) (hfl : big fs.length) (hfs : ∀ f ∈ fs, InR b.ty.length f) : Does Tryz.prog 62 [.agg (ckD b n b1 b2), .seq 4 (l.map opD), .seq 1 (fs.map iD)] H fun d H' => d = i64 (opsE b l fs) ∧ H = H' := by
  refine Does.frz (K := fun d => d = i64 (opsE b l fs)) ?_
  have hml : (List.map opD l).length = l.length := List.length_map _
  have hmf : (List.map iD fs).length = fs.length := List.length_map _
  unfold big at hl hfl
  obtain ⟨CK, hCK⟩ : ∃ CK, CK = ckD b n b1 b2 := ⟨_, rfl⟩
  have hCK2 : CK = [strD b.nm, .seq 1 (b.rg.map sD), .seq 2 (b.ol.map pD), .seq 5 (b.ty.map tyD), .seq 2 (b.lc.map lcD), i64 b.ag, .seq 7 (b.bl.map bkD), relD n b1 b2] := hCK
  rw [← hCK, hCK2]
  refine does_of _ _ Tryz.func62 rfl rfl Tryz.ntmps62 Tryz.results62 (by simp only [List.length_cons, List.length_nil]; omega) fun w0 g0 Q hret => ?_
  refine tq @i64.eq_1 ?_; intro Nx hNx Gx hGx
  intro c3 hc3
  refine hNx _ ?_
  refine frz 3 hc3 ?_
  refine tq (cj2 @i64.eq_1 hml) ?_; intro Nx hNx Gx hGx
  refine W_loopN l.length (fun i s => s.df = [] ∧ s.fr 2 = .seq 1 (fs.map iD) ∧ s.fr 3 = .rp [strD b.nm, .seq 1 (b.rg.map sD), .seq 2 (b.ol.map pD), .seq 5 (b.ty.map tyD), .seq 2 (b.lc.map lcD), i64 b.ag, .seq 7 (b.bl.map bkD), relD n b1 b2] ∧ s.fr 10 = .seq 4 (l.map opD) ∧ s.fr 11 = i64 l.length ∧ s.fr 12 = i64 i ∧ s.H = H ∧ opsE b l fs = opsE b (l.drop i) (fs.drop i)) ⟨rfl, rfl, rfl, rfl, rfl, rfl, rfl, rfl⟩ ?_
  rintro i s hi ⟨hdf, f2, f3, f10, f11, f12, hH, ha⟩
  have hx : (i : Int).toNat = i := Int.toNat_natCast _
  have h00 : (0 : Int) ≤ (i : Int) := Int.natCast_nonneg _
  have hleS : H.le s.H := by rw [hH]; exact Heap.le_refl _
  by_cases hil : i < l.length
  case neg =>
    have q6 : ((i : Int) < (l.length : Int)) = False := eq_false (by omega)
    rw [List.drop_eq_nil_of_le (by omega)] at ha
    refine tq (cj4 f11 f12 @i64.eq_1 q6) ?_; intro Nx hNx Gx hGx
    refine rt hret hdf ?_
    exact ⟨_, Heap.le_refl _, hleS, _, frz_refl hleS, by rw [ha]; rfl⟩
  have hil' : (i : Int) < (l.length : Int) := by omega
  have q6 : ((i : Int) < (l.length : Int)) = True := eq_true hil'
  have w3 : IntKind.i64.wrap ((i : Int) + 1) = ((i + 1 : Nat) : Int) := by rw [wrap_i64_of (by omega)]; omega
  have hgi := op_get hil
  have hpi := hp l[i] (List.getElem_mem hil)
  rw [List.drop_eq_getElem_cons hil] at ha
  obtain ⟨o, ho⟩ : ∃ o, o = l[i] := ⟨_, rfl⟩
  rw [← ho] at hgi ha hpi
  have hop := operand_N b n b1 b2 o s.H ck hpi
  rw [← hCK, hCK2] at hop
  simp only [opD] at hgi hop
  obtain ⟨r, hr⟩ : ∃ r, r = opE b o := ⟨_, rfl⟩
  have hstep : opsE b (o :: l.drop (i + 1)) (fs.drop i) = if r ≠ 0 then r else match fs.drop i with
    | [] => opsE b (l.drop (i + 1)) []
    | f :: fs => if fitE b o f = false then 22 else opsE b (l.drop (i + 1)) fs := by rw [hr]; rfl
  rw [hstep] at ha
  clear hstep
  rw [← hr] at hop
  refine tq (cj11 f10 f11 f12 @i64.eq_1 hml q6 hgi hx h00 hil hil') ?_; intro Nx hNx Gx hGx
  intro c8 hc8
  refine hNx _ ?_
  refine frz 8 hc8 ?_
  refine tq (cj2 f3 @i64.eq_1) ?_; intro Nx hNx Gx hGx
  refine hop.mono ?_
  rintro d _ ⟨rfl, rfl⟩
  by_cases h0 : r = 0
  case neg =>
    have q7 : (r = 0) = False := eq_false h0
    rw [if_pos h0] at ha
    refine tq (cj2 @i64.eq_1 q7) ?_; intro Nx hNx Gx hGx
    refine rt hret hdf ?_
    exact ⟨_, Heap.le_refl _, hleS, _, frz_refl hleS, by rw [ha]; rfl⟩
  have q7 : (r = 0) = True := eq_true h0
  rw [if_neg (fun h => h h0)] at ha
  by_cases hif : i < fs.length
  case neg =>
    have q8 : ((i : Int) < (fs.length : Int)) = False := eq_false (by omega)
    rw [List.drop_eq_nil_of_le (by omega : fs.length ≤ i)] at ha
    simp only at ha
    refine tq (cj2 @i64.eq_1 q7) ?_; intro Nx hNx Gx hGx
    refine W_drawE (fun _ _ _ _ => False) (by kernel_rfl) (by kernel_rfl) (by kernel_rfl) fun Nx hNx => ?_; refine dst (cj4 f2 @i64.eq_1 q8 hmf) ?_; intro Nx hNx Gx hGx
    refine tq (cj3 f12 @i64.eq_1 w3) ?_; intro Nx hNx Gx hGx
    exact ⟨hil, hdf, f2, f3, f10, f11, rfl, hH, by rw [ha, List.drop_eq_nil_of_le (by omega : fs.length ≤ i + 1)]⟩
  have q8 : ((i : Int) < (fs.length : Int)) = True := eq_true (by omega)
  have hgf := get_ints hif
  have hfi := hfs fs[i] (List.getElem_mem hif)
  rw [List.drop_eq_getElem_cons hif] at ha
  simp only at ha
  obtain ⟨f, hf⟩ : ∃ f, f = fs[i] := ⟨_, rfl⟩
  rw [← hf] at hgf hfi ha
  have hcall : ∀ H1, H1 = H → CallOK Tryz.prog 82 [.agg CK, .agg (opD o), i64 f] H1 fun d A => A = Heap.none ∧ d = .val (.bool (fitE b o f)) := fun H1 hH1 => callOK_eq fun H'' hle'' => by
    rw [hCK]
    exact fits_N b n b1 b2 o f H'' ck hn (relH_le hR (by rw [← hH1]; exact hle'')) hpi (hr.symm.trans h0) hfi
  rw [hCK2] at hcall
  simp only [opD] at hcall
  obtain ⟨z, hz⟩ : ∃ z, z = fitE b o f := ⟨_, rfl⟩
  rw [← hz] at hcall ha
  refine tq (cj2 @i64.eq_1 q7) ?_; intro Nx hNx Gx hGx
  refine W_drawE (fun _ _ d A => A = .none ∧ d = .val (.bool z)) (by kernel_rfl) (by kernel_rfl) (by kernel_rfl) fun Nx hNx => ?_; refine dst (cj9 f2 f3 @i64.eq_1 q8 hmf hgf hx h00 hif) ?_; intro Nx hNx Gx hGx
  refine ⟨hcall _ hH, ?_⟩
  cases z
  · rw [if_pos rfl] at ha
    refine hGx _ ?_
    refine dst @i64.eq_1 ?_; intro Nx hNx Gx hGx
    refine tq @i64.eq_1 ?_; intro Nx hNx Gx hGx
    refine rt hret hdf ?_
    exact ⟨_, Heap.le_refl _, hleS, _, frz_refl hleS, by rw [ha]; rfl⟩
  · rw [if_neg (fun h => by cases h)] at ha
    refine hGx _ ?_
    refine dst @i64.eq_1 ?_; intro Nx hNx Gx hGx
    refine tq (cj3 f12 @i64.eq_1 w3) ?_; intro Nx hNx Gx hGx
    exact ⟨hil, hdf, f2, f3, f10, f11, rfl, hH, ha⟩
theorem ckD_eq (b : BdS) (n : Int) (b1 b2 : Nat) : ckD b n b1 b2 = [strD b.nm, .seq 1 (b.rg.map sD), .seq 2 (b.ol.map pD), .seq 5 (b.ty.map tyD), .seq 2 (b.lc.map lcD), i64 b.ag, .seq 7 (b.bl.map bkD), relD n b1 b2] := rfl
theorem opsE_all {b : BdS} : ∀ {l : List OpS}, opsE b l [] = 0 → ∀ o ∈ l, opE b o = 0
  | [], _, o, h => by cases h
  | y :: l, h, o, ho => by
    have h1 : opsE b (y :: l) [] = if opE b y ≠ 0 then opE b y else opsE b l [] := rfl
    rw [h1] at h
    by_cases h2 : opE b y = 0
    · rw [if_neg (fun k => k h2)] at h
      rcases List.mem_cons.1 ho with rfl | ho
      · exact h2
      · exact opsE_all h o ho
    · rw [if_pos h2] at h; exact absurd h h2
set_option maxHeartbeats 2000000 in
theorem operation_N (b : BdS) (n : Int) (b1 b2 : Nat) (r : RvS) (t : Int) (tb : List (Int × Int)) (H : Heap) (ck : Ck b) (hn : n = b.rg.length) (hR : RelH b.ol b1 b2 H) (hp : okRv r) (ht : InR b.ty.length t) (htb : tb.length ≤ 6) : Does Tryz.prog 80 [.agg (ckD b n b1 b2), .agg (rvD r), i64 t, .seq 2 (tb.map pD)] H fun d H' => d = i64 (oprE b r t tb.length (tb.getD r.op.toNat (1, 0))) ∧ H = H' := by
  refine Does.frz (K := fun d => d = i64 (oprE b r t tb.length (tb.getD r.op.toNat (1, 0)))) ?_
  obtain ⟨hpl, har, hao⟩ := hp
  have hle := Heap.le_refl H
  have hops := (operands_N b n b1 b2 r.ar [] H ck hn hR har hao (by unfold big; simp) (fun f hf => by cases hf)).imp (ds := [.agg (ckD b n b1 b2), .seq 4 (r.ar.map opD), .val (.slice none 0 0)]) ⟨imp_refl _, imp_refl _, imp_nil, trivial⟩
  have hkd : ∀ o ∈ r.ar, opE b o = 0 → ∀ H1, CallOK Tryz.prog 61 [.agg (ckD b n b1 b2), .agg (opD o)] H1 fun d A => A = Heap.none ∧ d = i64 (kdE b o) := fun o ho hz H1 => callOK_eq fun H'' hle'' => kindOf_N b n b1 b2 o H'' ck (hao o ho) hz
  have hfa : ∀ x H1, CallOK Tryz.prog 60 [.val (.bool x)] H1 fun d A => A = Heap.none ∧ d = i64 (if x = true then 22 else 0) := fun x H1 => callOK_eq fun H'' hle'' => failed_N x H''
  rw [ckD_eq] at hops hkd ⊢
  have hml : (List.map opD r.ar).length = r.ar.length := List.length_map _
  have hmt : (List.map tyD b.ty).length = b.ty.length := List.length_map _
  have hmb : (List.map pD tb).length = tb.length := List.length_map _
  obtain ⟨y, hy⟩ : ∃ y, y = oprE b r t tb.length (tb.getD r.op.toNat (1, 0)) := ⟨_, rfl⟩
  rw [← hy]
  unfold oprE at hy
  have hgt := ty_get ht
  have hti : t.toNat < b.ty.length := by unfold InR at ht; omega
  have ht0 : 0 ≤ t := by unfold InR at ht; omega
  obtain ⟨u, hu⟩ : ∃ u, u = tyAt b.ty t := ⟨_, rfl⟩
  rw [← hu] at hgt hy
  simp only [tyD] at hgt
  obtain ⟨E, hE⟩ : ∃ E, E = opsE b r.ar [] := ⟨_, rfl⟩
  rw [← hE] at hops hy
  unfold big at har
  refine does_of _ _ Tryz.func80 rfl rfl Tryz.ntmps80 Tryz.results80 (by simp only [List.length_cons, List.length_nil]; omega) fun w0 g0 Q hret => ?_
  refine tq (cj2 @i64.eq_1 @rvD.eq_1) ?_; intro Nx hNx Gx hGx
  intro c4 hc4 c5 hc5
  refine hNx _ ?_
  obtain ⟨nFz, hFz⟩ := Heap.upd_none.1 hc5; refine W_frzp 4 rfl ((Heap.upd_ne nFz.symm).trans (Heap.upd_same _ _ _)) rfl ?_; refine W_frzp 5 rfl ((Heap.del_ne nFz).trans (Heap.upd_same _ _ _)) rfl ?_; refine W_less _ (le_two hc4 hFz) ?_; simp only [St.frzp, List.drop]
  by_cases h1 : r.op < 0
  · have q1 : (r.op < 0) = True := eq_true h1
    have e : y = 14 := hy.trans (if_pos (.inl h1))
    exact oz hret (cj2 @i64.eq_1 q1) hle e
  have q1 : (r.op < 0) = False := eq_false h1
  by_cases h2 : (tb.length : Int) ≤ r.op
  · have q2 : (r.op ≥ (tb.length : Int)) = True := eq_true h2
    have e : y = 14 := hy.trans (if_pos (.inr h2))
    exact oz hret (cj4 @i64.eq_1 q1 q2 hmb) hle e
  have q2 : (r.op ≥ (tb.length : Int)) = False := eq_false h2
  rw [if_neg (by omega)] at hy
  refine tq (cj4 @i64.eq_1 q1 q2 hmb) ?_; intro Nx hNx Gx hGx
  refine hops.mono ?_
  rintro d _ ⟨rfl, rfl⟩
  by_cases h3 : E = 0
  case neg =>
    have q3 : (E = 0) = False := eq_false h3
    have e : y = E := hy.trans (if_pos h3)
    exact oz hret (cj2 @i64.eq_1 q3) hle e
  have q3 : (E = 0) = True := eq_true h3
  rw [if_neg (fun h => h h3)] at hy
  have hall := opsE_all (hE.symm.trans h3)
  have hob : r.op.toNat < tb.length := by omega
  have hgb := pr_get hob
  have ho0 : 0 ≤ r.op := by omega
  have hpb : tb.getD r.op.toNat (1, 0) = tb.getD r.op.toNat (1, 0) := rfl
  obtain ⟨x, hx0⟩ : ∃ x, x = tb.getD r.op.toNat (1, 0) := ⟨_, rfl⟩
  rw [← hx0] at hgb hy
  refine tq (cj6 @i64.eq_1 q3 hgb hob ho0 hmb) ?_; intro Nx hNx Gx hGx
  intro c10 hc10
  refine hNx _ ?_
  refine frz 10 hc10 ?_
  refine tq (cj2 @i64.eq_1 hml) ?_; intro Nx hNx Gx hGx
  refine W_loopN r.ar.length (fun i s => s.df = [] ∧ s.fr 2 = i64 t ∧ s.fr 4 = .rp [strD b.nm, .seq 1 (b.rg.map sD), .seq 2 (b.ol.map pD), .seq 5 (b.ty.map tyD), .seq 2 (b.lc.map lcD), i64 b.ag, .seq 7 (b.bl.map bkD), relD n b1 b2] ∧ s.fr 10 = .rp [i64 x.1, i64 x.2] ∧ s.fr 36 = .seq 4 (r.ar.map opD) ∧ s.fr 37 = i64 r.ar.length ∧ s.fr 38 = i64 i ∧ s.H = H ∧ (r.ar.all fun o => decide (kdE b o = x.1)) = ((r.ar.drop i).all fun o => decide (kdE b o = x.1))) ⟨rfl, rfl, rfl, rfl, rfl, rfl, rfl, rfl, rfl⟩ ?_
  rintro i s hi ⟨hdf, f2, f4, f10, f36, f37, f38, hH, ha⟩
  have hx : (i : Int).toNat = i := Int.toNat_natCast _
  have h00 : (0 : Int) ≤ (i : Int) := Int.natCast_nonneg _
  have hleS : H.le s.H := by rw [hH]; exact Heap.le_refl _
  by_cases hil : i < r.ar.length
  case neg =>
    have q6 : ((i : Int) < (r.ar.length : Int)) = False := eq_false (by omega)
    rw [List.drop_eq_nil_of_le (by omega), List.all_nil] at ha
    rw [ha, if_neg (fun h => by cases h)] at hy
    refine tq (cj4 f37 f38 @i64.eq_1 q6) ?_; intro Nx hNx Gx hGx
    by_cases h7 : u.k = x.2
    · have q7 : (u.k = x.2) = True := eq_true h7
      rw [if_neg (fun h => h h7)] at hy
      refine W_drawE (fun _ _ d A => A = .none ∧ d = i64 0) (by kernel_rfl) (by kernel_rfl) (by kernel_rfl) fun Nx hNx => ?_; refine dst (cj9 f2 f4 f10 @i64.eq_1 hgt hti ht0 hmt q7) ?_; intro Nx hNx Gx hGx
      refine ⟨hfa _ _, ?_⟩
      refine hNx _ ?_
      refine tq @i64.eq_1 ?_; intro Nx hNx Gx hGx
      refine rt hret hdf ?_
      exact ⟨_, Heap.le_refl _, hleS, _, frz_refl hleS, by rw [hy]; rfl⟩
    · have q7 : (u.k = x.2) = False := eq_false h7
      rw [if_pos h7] at hy
      refine W_drawE (fun _ _ d A => A = .none ∧ d = i64 22) (by kernel_rfl) (by kernel_rfl) (by kernel_rfl) fun Nx hNx => ?_; refine dst (cj9 f2 f4 f10 @i64.eq_1 hgt hti ht0 hmt q7) ?_; intro Nx hNx Gx hGx
      refine ⟨hfa _ _, ?_⟩
      refine hNx _ ?_
      refine tq @i64.eq_1 ?_; intro Nx hNx Gx hGx
      refine rt hret hdf ?_
      exact ⟨_, Heap.le_refl _, hleS, _, frz_refl hleS, by rw [hy]; rfl⟩
  have hil' : (i : Int) < (r.ar.length : Int) := by omega
  have q6 : ((i : Int) < (r.ar.length : Int)) = True := eq_true hil'
  have w3 : IntKind.i64.wrap ((i : Int) + 1) = ((i + 1 : Nat) : Int) := by rw [wrap_i64_of (by omega)]; omega
  have hgi := op_get hil
  have hcall := hkd r.ar[i] (List.getElem_mem hil) (hall _ (List.getElem_mem hil)) s.H
  rw [List.drop_eq_getElem_cons hil, List.all_cons] at ha
  obtain ⟨o, ho⟩ : ∃ o, o = r.ar[i] := ⟨_, rfl⟩
  rw [← ho] at hgi ha hcall
  obtain ⟨K, hK⟩ : ∃ K, K = kdE b o := ⟨_, rfl⟩
  rw [← hK] at ha hcall
  simp only [opD] at hgi hcall
  refine tq (cj11 f36 f37 f38 @i64.eq_1 hml q6 hgi hx h00 hil hil') ?_; intro Nx hNx Gx hGx
  intro c12 hc12
  refine hNx _ ?_
  refine frz 12 hc12 ?_
  refine W_seq ?_
  refine W_drawE (fun _ _ d A => A = .none ∧ d = i64 K) (by kernel_rfl) (by kernel_rfl) (by kernel_rfl) fun Nx hNx => ?_; refine dst (cj3 f4 f10 @i64.eq_1) ?_; intro Nx hNx Gx hGx
  refine ⟨hcall, ?_⟩
  by_cases h7 : K = x.1
  · have q7 : (K = x.1) = True := eq_true h7
    rw [decide_eq_true h7, Bool.true_and] at ha
    refine dst (cj2 @i64.eq_1 q7) ?_; intro Nx hNx Gx hGx
    refine tq (cj4 f38 @i64.eq_1 w3 q7) ?_; intro Nx hNx Gx hGx
    exact ⟨hil, hdf, f2, f4, f10, f36, f37, rfl, hH, ha⟩
  · have q7 : (K = x.1) = False := eq_false h7
    rw [decide_eq_false h7, Bool.false_and] at ha
    rw [ha, if_pos rfl] at hy
    refine dst (cj2 @i64.eq_1 q7) ?_; intro Nx hNx Gx hGx
    refine tq (cj2 @i64.eq_1 q7) ?_; intro Nx hNx Gx hGx
    refine rt hret hdf ?_
    exact ⟨_, Heap.le_refl _, hleS, _, frz_refl hleS, by rw [hy]; rfl⟩
theorem opsE_nil {b : BdS} : ∀ {l : List OpS} {fs : List Int}, opsE b l fs = 0 → opsE b l [] = 0
  | [], _, _ => rfl
  | o :: l, [], h => h
  | o :: l, f :: fs, h => by
    have h1 : opsE b (o :: l) (f :: fs) = if opE b o ≠ 0 then opE b o else if fitE b o f = false then 22 else opsE b l fs := rfl
    have h2 : opsE b (o :: l) [] = if opE b o ≠ 0 then opE b o else opsE b l [] := rfl
    rw [h1] at h
    rw [h2]
    by_cases h3 : opE b o = 0
    · rw [if_neg (fun k => k h3)] at h ⊢
      by_cases h4 : fitE b o f = false
      · rw [if_pos h4] at h; cases h
      · rw [if_neg h4] at h; exact opsE_nil h
    · rw [if_pos h3] at h; exact absurd h h3
theorem shp_len {r : RvS} (h : shpE r = true) : (r.k = 0 → r.ar.length = 1) := by
  intro hk
  unfold shpE at h
  rw [if_neg (by omega), if_pos hk] at h
  simp only [Bool.and_eq_true, decide_eq_true_eq] at h
  exact h.2.2
end Go.Proofs.YtgfhgeelfaalmaaGreatDoor
