/- Lemmas and contracts of functions, several texts in one: GA GF. -/
import Derived.Test.YtgfhgeelfaalmaaGreatDoorK31
import Derived.Test.YtgfhgeelfaalmaaGreatDoorK26
namespace Go.Proofs.YtgfhgeelfaalmaaGreatDoor
open Go.RowKit
set_option maxRecDepth 100000
set_option linter.unusedVariables false
set_option linter.unusedSimpArgs false
def cntE (t : TmS) (x y : Int) : Bool := decide ((t.tg.length : Int) = x) && decide ((t.ar.length : Int) = y)
theorem counts_N (t : TmS) (x y : Int) (H : Heap) (hp : okTm t) : Does Tryz.prog 81 [i64 x, i64 y, .rp (tmD t)] H fun d H' => d = .val (.bool (cntE t x y)) ∧ H = H' := by
  refine Does.frz (K := fun d => d = .val (.bool (cntE t x y))) ?_
  have hle := Heap.le_refl H
  have hml : (List.map iD t.tg).length = t.tg.length := List.length_map _
  have hma : (List.map opD t.ar).length = t.ar.length := List.length_map _
  obtain ⟨z, hz⟩ : ∃ z, z = cntE t x y := ⟨_, rfl⟩
  rw [← hz]
  unfold cntE at hz
  refine does_of _ _ Tryz.func81 rfl rfl Tryz.ntmps81 Tryz.results81 (by simp only [List.length_cons, List.length_nil]; omega) fun w0 g0 Q hret => ?_
  by_cases h1 : (t.tg.length : Int) = x
  case neg =>
    have q1 : ((t.tg.length : Int) = x) = False := eq_false h1
    have e : z = false := by rw [hz, decide_eq_false h1]; rfl
    exact oz hret (cj4 @i64.eq_1 @tmD.eq_1 hml q1) hle e
  have q1 : ((t.tg.length : Int) = x) = True := eq_true h1
  by_cases h2 : (t.ar.length : Int) = y
  · have q2 : ((t.ar.length : Int) = y) = True := eq_true h2
    have e : z = true := by rw [hz, decide_eq_true h1, decide_eq_true h2]; rfl
    exact oz hret (cj6 @i64.eq_1 @tmD.eq_1 hml hma q1 q2) hle e
  · have q2 : ((t.ar.length : Int) = y) = False := eq_false h2
    have e : z = false := by rw [hz, decide_eq_false h2, Bool.and_false]
    exact oz hret (cj6 @i64.eq_1 @tmD.eq_1 hml hma q1 q2) hle e
theorem fldE_eq (t : TmS) : fldE t = if t.k = 0 then cntE t 1 0 && zeroP t.pl && decide (t.nm = ByteArray.empty)
    else if t.k = 1 then cntE t 2 1 && zeroP t.pl && decide (t.nm = ByteArray.empty)
    else if t.k = 3 then decide ((t.tg.length : Int) = 1)
    else if t.k = 4 then cntE t 1 0 && decide (t.nm = ByteArray.empty)
    else cntE t 0 0 && zeroP t.pl && decide (t.nm = ByteArray.empty) := by
  unfold fldE cntE
  have e : ∀ (n m : Nat), decide ((n : Int) = (m : Int)) = decide (n = m) := fun n m => by
    by_cases h : n = m
    · subst h; simp
    · rw [decide_eq_false h, decide_eq_false (by omega)]
  have e0 : ∀ n : Nat, decide ((n : Int) = 0) = decide (n = 0) := fun n => e n 0
  have e1 : ∀ n : Nat, decide ((n : Int) = 1) = decide (n = 1) := fun n => e n 1
  have e2 : ∀ n : Nat, decide ((n : Int) = 2) = decide (n = 2) := fun n => e n 2
  simp only [e0, e1, e2]
set_option maxHeartbeats 1000000 in
theorem fields_N (t : TmS) (H : Heap) (hp : okTm t) : Does Tryz.prog 59 [.agg (tmD t)] H fun d H' => d = .val (.bool (fldE t)) ∧ H = H' := by
  refine Does.frz (K := fun d => d = .val (.bool (fldE t))) ?_
  have hle := Heap.le_refl H
  have hc : ∀ x y, Does Tryz.prog 81 [i64 x, i64 y, .rp (tmD t)] H fun d H' => d = .val (.bool (cntE t x y)) ∧ H = H' := fun x y => counts_N t x y H hp
  have hz := zero_N t.pl H hp.2.2
  have hml : (List.map iD t.tg).length = t.tg.length := List.length_map _
  obtain ⟨y, hy⟩ : ∃ y, y = fldE t := ⟨_, rfl⟩
  rw [← hy]
  rw [fldE_eq] at hy
  obtain ⟨C, hC⟩ : ∃ C, C = cntE t := ⟨_, rfl⟩
  rw [← hC] at hc hy
  clear hC
  obtain ⟨Z, hZ⟩ : ∃ Z, Z = zeroP t.pl := ⟨_, rfl⟩
  rw [← hZ] at hz hy
  clear hZ
  obtain ⟨k, tg, ar, pl, nm⟩ := t
  simp only at hy hml
  simp only [tmD] at hc ⊢
  simp only [plD] at hz
  refine does_of _ _ Tryz.func59 rfl rfl Tryz.ntmps59 Tryz.results59 (by simp only [List.length_cons, List.length_nil]; omega) fun w0 g0 Q hret => ?_
  refine tq @i64.eq_1 ?_; intro Nx hNx Gx hGx
  intro c1 hc1
  refine hNx _ ?_
  refine frz 1 hc1 ?_
  by_cases hk : k = 0
  · have k0 : (k = 0) = True := eq_true hk
    rw [if_pos hk] at hy
    have hcc := hc 1 0
    obtain ⟨v, hv⟩ : ∃ v, v = C 1 0 := ⟨_, rfl⟩
    rw [← hv] at hcc hy
    clear hv
    refine tq (cj2 @i64.eq_1 k0) ?_; intro Nx hNx Gx hGx
    refine hcc.mono ?_
    rintro d _ ⟨rfl, rfl⟩
    cases v
    · have e : y = false := by rw [hy]; rfl
      exact oz hret (cj2 @i64.eq_1 @strD.eq_1) hle e
    rw [Bool.true_and] at hy
    refine tq @i64.eq_1 ?_; intro Nx hNx Gx hGx
    refine hz.mono ?_
    rintro d _ ⟨rfl, rfl⟩
    cases Z
    · have e : y = false := by rw [hy]; rfl
      exact oz hret (cj2 @i64.eq_1 @strD.eq_1) hle e
    rw [Bool.true_and] at hy
    by_cases hn : nm = ByteArray.empty
    · have q1 : decide (nm.toList = (ByteArray.mk #[]).toList) = true := decide_eq_true (toL_inj.2 hn)
      have e : y = true := by rw [hy, decide_eq_true hn]
      exact oz hret (cj3 @i64.eq_1 @strD.eq_1 q1) hle e
    · have q1 : decide (nm.toList = (ByteArray.mk #[]).toList) = false := decide_eq_false (fun h => hn (toL_inj.1 h))
      have e : y = false := by rw [hy, decide_eq_false hn]
      exact oz hret (cj3 @i64.eq_1 @strD.eq_1 q1) hle e
  have k0 : (k = 0) = False := eq_false hk
  rw [if_neg hk] at hy
  by_cases hk : k = 1
  · have k1 : (k = 1) = True := eq_true hk
    rw [if_pos hk] at hy
    have hcc := hc 2 1
    obtain ⟨v, hv⟩ : ∃ v, v = C 2 1 := ⟨_, rfl⟩
    rw [← hv] at hcc hy
    clear hv
    refine tq (cj3 @i64.eq_1 k0 k1) ?_; intro Nx hNx Gx hGx
    refine hcc.mono ?_
    rintro d _ ⟨rfl, rfl⟩
    cases v
    · have e : y = false := by rw [hy]; rfl
      exact oz hret (cj2 @i64.eq_1 @strD.eq_1) hle e
    rw [Bool.true_and] at hy
    refine tq @i64.eq_1 ?_; intro Nx hNx Gx hGx
    refine hz.mono ?_
    rintro d _ ⟨rfl, rfl⟩
    cases Z
    · have e : y = false := by rw [hy]; rfl
      exact oz hret (cj2 @i64.eq_1 @strD.eq_1) hle e
    rw [Bool.true_and] at hy
    by_cases hn : nm = ByteArray.empty
    · have q1 : decide (nm.toList = (ByteArray.mk #[]).toList) = true := decide_eq_true (toL_inj.2 hn)
      have e : y = true := by rw [hy, decide_eq_true hn]
      exact oz hret (cj3 @i64.eq_1 @strD.eq_1 q1) hle e
    · have q1 : decide (nm.toList = (ByteArray.mk #[]).toList) = false := decide_eq_false (fun h => hn (toL_inj.1 h))
      have e : y = false := by rw [hy, decide_eq_false hn]
      exact oz hret (cj3 @i64.eq_1 @strD.eq_1 q1) hle e
  have k1 : (k = 1) = False := eq_false hk
  rw [if_neg hk] at hy
  by_cases hk : k = 3
  · have k3 : (k = 3) = True := eq_true hk
    rw [if_pos hk] at hy
    by_cases h1 : (tg.length : Int) = 1
    · have q1 : ((tg.length : Int) = 1) = True := eq_true h1
      have e : y = true := by rw [hy, decide_eq_true h1]
      exact oz hret (cj6 @i64.eq_1 k0 k1 k3 q1 hml) hle e
    · have q1 : ((tg.length : Int) = 1) = False := eq_false h1
      have e : y = false := by rw [hy, decide_eq_false h1]
      exact oz hret (cj6 @i64.eq_1 k0 k1 k3 q1 hml) hle e
  have k3 : (k = 3) = False := eq_false hk
  rw [if_neg hk] at hy
  by_cases hk : k = 4
  · have k4 : (k = 4) = True := eq_true hk
    rw [if_pos hk] at hy
    have hcc := hc 1 0
    obtain ⟨v, hv⟩ : ∃ v, v = C 1 0 := ⟨_, rfl⟩
    rw [← hv] at hcc hy
    clear hv
    refine tq (cj5 @i64.eq_1 k0 k1 k3 k4) ?_; intro Nx hNx Gx hGx
    refine hcc.mono ?_
    rintro d _ ⟨rfl, rfl⟩
    cases v
    · have e : y = false := by rw [hy]; rfl
      exact oz hret (cj2 @i64.eq_1 @strD.eq_1) hle e
    rw [Bool.true_and] at hy
    by_cases hn : nm = ByteArray.empty
    · have q1 : decide (nm.toList = (ByteArray.mk #[]).toList) = true := decide_eq_true (toL_inj.2 hn)
      have e : y = true := by rw [hy, decide_eq_true hn]
      exact oz hret (cj3 @i64.eq_1 @strD.eq_1 q1) hle e
    · have q1 : decide (nm.toList = (ByteArray.mk #[]).toList) = false := decide_eq_false (fun h => hn (toL_inj.1 h))
      have e : y = false := by rw [hy, decide_eq_false hn]
      exact oz hret (cj3 @i64.eq_1 @strD.eq_1 q1) hle e
  have k4 : (k = 4) = False := eq_false hk
  rw [if_neg hk] at hy
  have hcc := hc 0 0
  obtain ⟨v, hv⟩ : ∃ v, v = C 0 0 := ⟨_, rfl⟩
  rw [← hv] at hcc hy
  clear hv
  refine tq (cj5 @i64.eq_1 k0 k1 k3 k4) ?_; intro Nx hNx Gx hGx
  refine hcc.mono ?_
  rintro d _ ⟨rfl, rfl⟩
  cases v
  · have e : y = false := by rw [hy]; rfl
    exact oz hret (cj2 @i64.eq_1 @strD.eq_1) hle e
  rw [Bool.true_and] at hy
  refine tq @i64.eq_1 ?_; intro Nx hNx Gx hGx
  refine hz.mono ?_
  rintro d _ ⟨rfl, rfl⟩
  cases Z
  · have e : y = false := by rw [hy]; rfl
    exact oz hret (cj2 @i64.eq_1 @strD.eq_1) hle e
  rw [Bool.true_and] at hy
  by_cases hn : nm = ByteArray.empty
  · have q1 : decide (nm.toList = (ByteArray.mk #[]).toList) = true := decide_eq_true (toL_inj.2 hn)
    have e : y = true := by rw [hy, decide_eq_true hn]
    exact oz hret (cj3 @i64.eq_1 @strD.eq_1 q1) hle e
  · have q1 : decide (nm.toList = (ByteArray.mk #[]).toList) = false := decide_eq_false (fun h => hn (toL_inj.1 h))
    have e : y = false := by rw [hy, decide_eq_false hn]
    exact oz hret (cj3 @i64.eq_1 @strD.eq_1 q1) hle e
theorem fld_ar {t : TmS} (h : fldE t = true) (hk : t.k = 1) : t.ar.length = 1 := by
  unfold fldE at h
  rw [if_neg (by omega), if_pos hk] at h
  simp only [Bool.and_eq_true, decide_eq_true_eq] at h
  exact h.1.1.2
theorem op0_get {t : TmS} (h : t.ar.length = 1) : (t.ar.map opD)[0]? = some (opD (op0 t)) := by
  rw [op_get (by omega : 0 < t.ar.length)]
  unfold op0
  rw [List.getD_eq_getElem?_getD, List.getElem?_eq_getElem (by omega)]; rfl
theorem op0_mem {t : TmS} (h : t.ar.length = 1) : op0 t ∈ t.ar := by
  unfold op0
  rw [List.getD_eq_getElem?_getD, List.getElem?_eq_getElem (by omega)]
  exact List.getElem_mem _
set_option maxHeartbeats 2000000 in
theorem term_N (b : BdS) (n : Int) (b1 b2 : Nat) (t : TmS) (H : Heap) (ck : Ck b) (hn : n = b.rg.length) (hR : RelH b.ol b1 b2 H) (hp : okTm t) (hnm : big t.nm.size) : Does Tryz.prog 29 [.agg (ckD b n b1 b2), .agg (tmD t)] H fun d H' => d = i64 (tmE b t) ∧ H = H' := by
  refine Does.frz (K := fun d => d = i64 (tmE b t)) ?_
  have hle := Heap.le_refl H
  have hfl := fields_N t H hp
  have hops := (operands_N b n b1 b2 t.ar [] H ck hn hR hp.2.1.1 hp.2.1.2 (by unfold big; simp) (fun f hf => by cases hf)).imp (ds := [.agg (ckD b n b1 b2), .seq 4 (t.ar.map opD), .val (.slice none 0 0)]) ⟨imp_refl _, imp_refl _, imp_nil, trivial⟩
  have hop : t.ar.length = 1 → ∀ H1, CallOK Tryz.prog 33 [.agg (ckD b n b1 b2), .agg (opD (op0 t))] H1 fun d A => A = Heap.none ∧ d = i64 (opE b (op0 t)) := fun h H1 => callOK_eq fun H'' hle'' => operand_N b n b1 b2 (op0 t) H'' ck (hp.2.1.2 _ (op0_mem h))
  have hkd : t.ar.length = 1 → opE b (op0 t) = 0 → ∀ H1, CallOK Tryz.prog 61 [.agg (ckD b n b1 b2), .agg (opD (op0 t))] H1 fun d A => A = Heap.none ∧ d = i64 (kdE b (op0 t)) := fun h hz H1 => callOK_eq fun H'' hle'' => kindOf_N b n b1 b2 (op0 t) H'' ck (hp.2.1.2 _ (op0_mem h)) hz
  have hfa : ∀ x H1, CallOK Tryz.prog 60 [.val (.bool x)] H1 fun d A => A = Heap.none ∧ d = i64 (if x = true then 22 else 0) := fun x H1 => callOK_eq fun H'' hle'' => failed_N x H''
  have hfd := fun x => failed_N x H
  have hfi := fun a c => first2_N a c H
  have hid := isid_N t.nm H hnm
  have hwr := writable_N b n b1 b2 t.pl H ck hp.2.2
  have hty := ctypeOf_N b n b1 b2 t.pl H ck hp.2.2
  have hdr := hasDr_N t.pl H hp.2.2
  have hmt : (List.map iD t.tg).length = t.tg.length := List.length_map _
  have hma : (List.map opD t.ar).length = t.ar.length := List.length_map _
  have hmb : (List.map bkD b.bl).length = b.bl.length := List.length_map _
  obtain ⟨y, hy⟩ : ∃ y, y = tmE b t := ⟨_, rfl⟩
  rw [← hy]
  unfold tmE at hy
  have hg0 : t.ar.length = 1 → (t.ar.map opD)[0]? = some (opD (op0 t)) := op0_get
  have har : fldE t = true → t.k = 1 → t.ar.length = 1 := fld_ar
  obtain ⟨O, hO⟩ : ∃ O, O = op0 t := ⟨_, rfl⟩
  rw [← hO] at hop hkd hy hg0
  obtain ⟨oE, hoE⟩ : ∃ oE, oE = opE b O := ⟨_, rfl⟩
  rw [← hoE] at hop hkd hy
  obtain ⟨kE, hkE⟩ : ∃ kE, kE = kdE b O := ⟨_, rfl⟩
  rw [← hkE] at hkd hy
  obtain ⟨F, hF⟩ : ∃ F, F = fldE t := ⟨_, rfl⟩
  rw [← hF] at hfl hy har
  obtain ⟨I, hI⟩ : ∃ I, I = isId t.nm := ⟨_, rfl⟩
  rw [← hI] at hid hy
  obtain ⟨S, hS⟩ : ∃ S, S = opsE b t.ar [] := ⟨_, rfl⟩
  rw [← hS] at hops hy
  obtain ⟨E, hE⟩ : ∃ E, E = wrtE b t.pl := ⟨_, rfl⟩
  rw [← hE] at hwr hy
  obtain ⟨T, hT⟩ : ∃ T, T = toE b t.pl := ⟨_, rfl⟩
  rw [← hT] at hwr hty hy
  obtain ⟨Z, hZ⟩ : ∃ Z, Z = hasDr t.pl 0 := ⟨_, rfl⟩
  rw [← hZ] at hdr hy
  clear hO hoE hkE hF hI hS hE hT hZ
  have htl := hp.1
  have hal := hp.2.1.1
  have hbl := ck.bll
  unfold big at htl hal hbl
  rw [ckD_eq] at hops hop hkd hwr hty ⊢
  obtain ⟨k, tg, ar, pl, nm⟩ := t
  simp only at hy hmt hma htl hal har hg0 hop hkd hops
  simp only [tmD] at hfl ⊢
  simp only [plD] at hwr hty hdr
  simp only [opD] at hg0 hop hkd
  refine does_of _ _ Tryz.func29 rfl rfl Tryz.ntmps29 Tryz.results29 (by simp only [List.length_cons, List.length_nil]; omega) fun w0 g0 Q hret => ?_
  refine tq @i64.eq_1 ?_; intro Nx hNx Gx hGx
  intro c2 hc2 c3 hc3
  refine hNx _ ?_
  obtain ⟨nFz, hFz⟩ := Heap.upd_none.1 hc3; refine W_frzp 2 rfl ((Heap.upd_ne nFz.symm).trans (Heap.upd_same _ _ _)) rfl ?_; refine W_frzp 3 rfl ((Heap.del_ne nFz).trans (Heap.upd_same _ _ _)) rfl ?_; refine W_less _ (le_two hc2 hFz) ?_; simp only [St.frzp, List.drop]
  by_cases h1 : k < 0
  · have q1 : (k < 0) = True := eq_true h1
    have e : y = 14 := hy.trans (if_pos (.inl h1))
    exact oz hret (cj2 @i64.eq_1 q1) hle e
  have q1 : (k < 0) = False := eq_false h1
  by_cases h2 : 5 < k
  · have q2 : (5 < k) = True := eq_true h2
    have e : y = 14 := hy.trans (if_pos (.inr h2))
    exact oz hret (cj3 @i64.eq_1 q1 q2) hle e
  have q2 : (5 < k) = False := eq_false h2
  rw [if_neg (by omega)] at hy
  refine tq (cj3 @i64.eq_1 q1 q2) ?_; intro Nx hNx Gx hGx
  refine hfl.mono ?_
  rintro d _ ⟨rfl, rfl⟩
  cases F
  · have e : y = 2 := hy
    exact oz hret (cj2 @i64.eq_1 q1) hle e
  rw [if_neg (fun h => by cases h)] at hy
  refine tq (cj2 @i64.eq_1 hmt) ?_; intro Nx hNx Gx hGx
  refine W_loopN tg.length (fun i s => s.df = [] ∧ s.fr 2 = .rp [strD b.nm, .seq 1 (b.rg.map sD), .seq 2 (b.ol.map pD), .seq 5 (b.ty.map tyD), .seq 2 (b.lc.map lcD), i64 b.ag, .seq 7 (b.bl.map bkD), relD n b1 b2] ∧ s.fr 3 = .rp [i64 k, .seq 1 (tg.map iD), .seq 4 (ar.map opD), i64 pl.lo, .seq 2 (pl.pr.map pD), strD nm] ∧ s.fr 25 = .seq 1 (tg.map iD) ∧ s.fr 26 = i64 tg.length ∧ s.fr 27 = i64 i ∧ s.H = H ∧ (tg.all fun x => decide (InR b.bl.length x)) = ((tg.drop i).all fun x => decide (InR b.bl.length x))) ⟨rfl, rfl, rfl, rfl, rfl, rfl, rfl, rfl⟩ ?_
  rintro i s hi ⟨hdf, f2, f3, f25, f26, f27, hH, ha⟩
  have hx : (i : Int).toNat = i := Int.toNat_natCast _
  have h00 : (0 : Int) ≤ (i : Int) := Int.natCast_nonneg _
  have hleS : H.le s.H := by rw [hH]; exact Heap.le_refl _
  by_cases hil : i < tg.length
  case pos =>
    have hil' : (i : Int) < (tg.length : Int) := by omega
    have q6 : ((i : Int) < (tg.length : Int)) = True := eq_true hil'
    have w3 : IntKind.i64.wrap ((i : Int) + 1) = ((i + 1 : Nat) : Int) := by rw [wrap_i64_of (by omega)]; omega
    have hgi := get_ints hil
    rw [List.drop_eq_getElem_cons hil, List.all_cons] at ha
    obtain ⟨v, hv⟩ : ∃ v, v = tg[i] := ⟨_, rfl⟩
    rw [← hv] at hgi ha
    have hbad : ¬ InR b.bl.length v → y = 3 := fun h => by rw [decide_eq_false h, Bool.false_and] at ha; rw [hy, ha]; rfl
    by_cases h3 : v < 0
    · have q3 : (v < 0) = True := eq_true h3
      have e := hbad (by unfold InR; omega)
      exact oz hret (cj13 @i64.eq_1 f2 f25 f26 f27 hmt q6 hgi hx h00 hil hil' q3) hleS e
    have q3 : (v < 0) = False := eq_false h3
    by_cases h4 : (b.bl.length : Int) ≤ v
    · have q4 : (v ≥ (b.bl.length : Int)) = True := eq_true h4
      have e := hbad (by unfold InR; omega)
      exact oz hret (cj15 @i64.eq_1 f2 f25 f26 f27 hmt hmb q6 hgi hx h00 hil hil' q3 q4) hleS e
    have q4 : (v ≥ (b.bl.length : Int)) = False := eq_false h4
    rw [decide_eq_true (by unfold InR; omega : InR b.bl.length v), Bool.true_and] at ha
    refine tq (cj16 f2 f25 f26 f27 @i64.eq_1 hmt hmb q6 hgi hx h00 hil hil' q3 q4 w3) ?_; intro Nx hNx Gx hGx
    exact ⟨hil, hdf, f2, f3, f25, f26, rfl, hH, ha⟩
  have q6 : ((i : Int) < (tg.length : Int)) = False := eq_false (by omega)
  rw [List.drop_eq_nil_of_le (by omega), List.all_nil] at ha
  rw [ha, if_neg (fun h => by cases h)] at hy
  clear ha
  by_cases hk1 : k = 1
  · have k1 : (k = 1) = True := eq_true hk1
    rw [if_pos hk1] at hy
    have hl := har rfl hk1
    have hg0 := hg0 hl
    have hil0 : 0 < (ar.map opD).length := by rw [hma]; omega
    have hal0 : (0 : Int) < ((ar.map opD).length : Int) := by omega
    refine tq (cj7 f2 f3 f26 f27 @i64.eq_1 q6 k1) ?_; intro Nx hNx Gx hGx
    refine W_drawE (fun _ _ d A => A = .none ∧ d = i64 oE) (by kernel_rfl) (by kernel_rfl) (by kernel_rfl) fun Nx hNx => ?_; refine dst (cj6 f2 f3 @i64.eq_1 hg0 hma hl) ?_; intro Nx hNx Gx hGx
    refine ⟨hop hl _, ?_⟩
    (first | refine hGx _ ?_ | refine hNx _ ?_ | skip)
    by_cases h5 : oE = 0
    case neg =>
      have q5 : (oE = 0) = False := eq_false h5
      have e : y = oE := hy.trans (if_pos h5)
      exact oz hret (cj2 @i64.eq_1 q5) hleS e
    have q5 : (oE = 0) = True := eq_true h5
    rw [if_neg (fun h => h h5)] at hy
    have hkd := hkd hl h5
    by_cases h7 : kE = 1
    · have q7 : (kE = 1) = True := eq_true h7
      have e : y = 0 := hy.trans (if_neg (fun h => h h7))
      refine tq (cj2 @i64.eq_1 q5) ?_; intro Nx hNx Gx hGx
      refine W_drawE (fun t0 _ d A => A = .none ∧ d = (if t0 = some 60 then i64 kE else i64 0)) (by kernel_rfl) (by kernel_rfl) (by kernel_rfl) fun Nx hNx => ?_; refine dst (cj7 f2 f3 @i64.eq_1 hg0 hma hl q7) ?_; intro Nx hNx Gx hGx
      refine ⟨hkd _, hfa _ _, ?_⟩
      (first | refine hGx _ ?_ | refine hNx _ ?_ | skip)
      exact oz hret (cj2 @i64.eq_1 q7) hleS e
    · have q7 : (kE = 1) = False := eq_false h7
      have e : y = 22 := hy.trans (if_pos h7)
      refine tq (cj2 @i64.eq_1 q5) ?_; intro Nx hNx Gx hGx
      refine W_drawE (fun t0 _ d A => A = .none ∧ d = (if t0 = some 60 then i64 kE else i64 22)) (by kernel_rfl) (by kernel_rfl) (by kernel_rfl) fun Nx hNx => ?_; refine dst (cj7 f2 f3 @i64.eq_1 hg0 hma hl q7) ?_; intro Nx hNx Gx hGx
      refine ⟨hkd _, hfa _ _, ?_⟩
      (first | refine hGx _ ?_ | refine hNx _ ?_ | skip)
      exact oz hret (cj2 @i64.eq_1 q7) hleS e
  have k1 : (k = 1) = False := eq_false hk1
  rw [if_neg hk1] at hy
  by_cases hk3 : k = 3
  · have k3 : (k = 3) = True := eq_true hk3
    rw [if_pos hk3] at hy
    rw [← hH] at hid hops hwr
    refine tq (cj8 f2 f3 f26 f27 @i64.eq_1 q6 k1 k3) ?_; intro Nx hNx Gx hGx
    refine hid.mono ?_
    rintro d _ ⟨rfl, hH2⟩
    cases I
    · have e : y = 12 := hy
      rw [hH2] at hleS
      exact oz hret (cj2 @i64.eq_1 q6) hleS e
    rw [if_neg (fun h => by cases h)] at hy
    by_cases h5 : 65535 < ar.length
    · have q5 : ((65535 : Int) < (ar.length : Int)) = True := eq_true (by omega)
      have e : y = 15 := hy.trans (if_pos h5)
      rw [hH2] at hleS
      exact oz hret (cj4 @i64.eq_1 f3 q5 hma) hleS e
    have q5 : ((65535 : Int) < (ar.length : Int)) = False := eq_false (by omega)
    rw [if_neg h5] at hy
    rw [hH2] at hops
    refine tq (cj5 f2 f3 @i64.eq_1 q5 hma) ?_; intro Nx hNx Gx hGx
    refine hops.mono ?_
    rintro d _ ⟨rfl, hH3⟩
    by_cases h6 : S = 0
    case neg =>
      have q7 : (S = 0) = False := eq_false h6
      have e : y = S := hy.trans (if_pos h6)
      rw [hH2, hH3] at hleS
      exact oz hret (cj2 @i64.eq_1 q7) hleS e
    have q7 : (S = 0) = True := eq_true h6
    rw [if_neg (fun h => h h6)] at hy
    rw [hH2, hH3] at hwr
    refine tq (cj4 f2 f3 @i64.eq_1 q7) ?_; intro Nx hNx Gx hGx
    refine hwr.mono ?_
    rintro d _ ⟨rfl, hH4⟩
    have e := hy
    rw [hH2, hH3, hH4] at hleS
    exact oz hret (cj2 @i64.eq_1 q7) hleS e
  have k3 : (k = 3) = False := eq_false hk3
  rw [if_neg hk3] at hy
  by_cases hk4 : k = 4
  · have k4 : (k = 4) = True := eq_true hk4
    rw [if_pos hk4] at hy
    rw [← hH] at hty hdr hfd hfi
    refine tq (cj9 f2 f3 f26 f27 @i64.eq_1 q6 k1 k3 k4) ?_; intro Nx hNx Gx hGx
    refine hty.mono ?_
    rintro d _ ⟨rfl, hH2⟩
    rw [hH2] at hdr hfd hfi
    refine tq (cj3 f2 f3 @i64.eq_1) ?_; intro Nx hNx Gx hGx
    refine hdr.mono ?_
    rintro d _ ⟨rfl, hH3⟩
    rw [hH3] at hfd hfi
    refine tq (cj3 f2 f3 @i64.eq_1) ?_; intro Nx hNx Gx hGx
    refine (hfd _).mono ?_
    rintro d _ ⟨rfl, hH4⟩
    rw [hH4] at hfi
    refine tq (cj3 f2 f3 @i64.eq_1) ?_; intro Nx hNx Gx hGx
    refine (hfi _ _).mono ?_
    rintro d _ ⟨rfl, hH5⟩
    have e := hy
    rw [hH2, hH3, hH4, hH5] at hleS
    exact oz hret (cj2 @i64.eq_1 q6) hleS e
  have k4 : (k = 4) = False := eq_false hk4
  rw [if_neg hk4] at hy
  have e := hy
  exact oz hret (cj8 @i64.eq_1 f3 f26 f27 q6 k1 k3 k4) hleS e
end Go.Proofs.YtgfhgeelfaalmaaGreatDoor
