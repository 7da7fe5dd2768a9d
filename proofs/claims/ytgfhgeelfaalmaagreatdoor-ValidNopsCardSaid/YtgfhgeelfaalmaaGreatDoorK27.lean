/- Lemmas and contracts of functions, several texts in one: G2. -/
import Derived.Test.YtgfhgeelfaalmaaGreatDoorK26
import Derived.Test.YtgfhgeelfaalmaaGreatDoorK25
import Derived.Test.YtgfhgeelfaalmaaGreatDoorK17
import Derived.Test.YtgfhgeelfaalmaaGreatDoorK14
namespace Go.Proofs.YtgfhgeelfaalmaaGreatDoor
open Go.RowKit
set_option maxRecDepth 100000
set_option linter.unusedVariables false
set_option linter.unusedSimpArgs false
def ckD (b : BdS) (n : Int) (b1 b2 : Nat) : List D := bdD b ++ [relD n b1 b2]
structure Ck (b : BdS) : Prop where
  wt : wfT b.ty
  rf : rfN b.ty
  wl : wfL b.ty b.lc
  ar : arN b.ty
  tl : b.ty.length ≤ 1000000
  ol : ∀ p ∈ b.ol, InR b.rg.length p.1 ∧ InR b.rg.length p.2
  oll : b.ol.length ≤ 1000000
  rgl : b.rg.length ≤ 1000000
  lcl : big b.lc.length
  bll : big b.bl.length
theorem arN.big {ts : List TyS} (h : arN ts) : ∀ t ∈ ts, t.ar.length ≤ 140737488351232 := fun t ht => by have := h t ht; omega
theorem le_two {H : Heap} {a c : Nat} {x y : HObj} (h2 : H a = none) (h3 : H c = none) : H.le ((((H.upd a x).upd c y).del a).del c) := fun b z hz => by
  have e2 : b ≠ a := fun e => by rw [e, h2] at hz; cases hz
  have e3 : b ≠ c := fun e => by rw [e, h3] at hz; cases hz
  rw [Heap.del_ne e3, Heap.del_ne e2, Heap.upd_ne e3, Heap.upd_ne e2]; exact hz
theorem zero_N (p : PlS) (H : Heap) (hp : big p.pr.length) : Does Tryz.prog 56 [.agg (plD p)] H fun d H' => d = .val (.bool (zeroP p)) ∧ H = H' := by
  refine Does.frz (K := fun d => d = .val (.bool (zeroP p))) ?_
  have hle := Heap.le_refl H
  have hml : (List.map pD p.pr).length = p.pr.length := List.length_map _
  refine does_of _ _ Tryz.func56 rfl rfl Tryz.ntmps56 Tryz.results56 (by simp only [List.length_cons, List.length_nil]; omega) fun w0 g0 Q hret => ?_
  refine tq (cj2 @i64.eq_1 @plD.eq_1) ?_; intro Nx hNx Gx hGx
  intro c1 hc1
  refine hNx _ ?_
  refine frz 1 hc1 ?_
  by_cases h1 : p.lo = 0
  case neg =>
    have q1 : (p.lo = 0) = False := eq_false h1
    have e : zeroP p = false := by unfold zeroP; rw [decide_eq_false h1, Bool.false_and]
    refine tq (cj2 @i64.eq_1 q1) ?_; intro Nx hNx Gx hGx
    refine rt hret @i64.eq_1 ?_
    exact ⟨_, Heap.le_refl _, hle, _, frz_refl hle, by rw [e]⟩
  have q1 : (p.lo = 0) = True := eq_true h1
  by_cases h2 : p.pr.length = 0
  · have q2 : ((p.pr.length : Int) = 0) = True := eq_true (by omega)
    have e : zeroP p = true := by unfold zeroP; rw [decide_eq_true h1, decide_eq_true h2]; rfl
    refine tq (cj4 @i64.eq_1 q1 q2 hml) ?_; intro Nx hNx Gx hGx
    refine rt hret @i64.eq_1 ?_
    exact ⟨_, Heap.le_refl _, hle, _, frz_refl hle, by rw [e]⟩
  · have q2 : ((p.pr.length : Int) = 0) = False := eq_false (by omega)
    have e : zeroP p = false := by unfold zeroP; rw [decide_eq_false h2, Bool.and_false]
    refine tq (cj4 @i64.eq_1 q1 q2 hml) ?_; intro Nx hNx Gx hGx
    refine rt hret @i64.eq_1 ?_
    exact ⟨_, Heap.le_refl _, hle, _, frz_refl hle, by rw [e]⟩
theorem failed_N (x : Bool) (H : Heap) : Does Tryz.prog 60 [.val (.bool x)] H fun d H' => d = i64 (if x = true then 22 else 0) ∧ H = H' := by
  refine Does.frz (K := fun d => d = i64 (if x = true then 22 else 0)) ?_
  have hle := Heap.le_refl H
  refine does_of _ _ Tryz.func60 rfl rfl Tryz.ntmps60 Tryz.results60 (by simp only [List.length_cons, List.length_nil]; omega) fun w0 g0 Q hret => ?_
  cases x
  · refine tq @i64.eq_1 ?_; intro Nx hNx Gx hGx
    refine rt hret @i64.eq_1 ?_
    exact ⟨_, Heap.le_refl _, hle, _, frz_refl hle, rfl⟩
  · refine tq @i64.eq_1 ?_; intro Nx hNx Gx hGx
    refine rt hret @i64.eq_1 ?_
    exact ⟨_, Heap.le_refl _, hle, _, frz_refl hle, rfl⟩
def fstE : List Int → Int
  | [] => 0
  | e :: l => if e ≠ 0 then e else fstE l
theorem first_N (l : List Int) (H : Heap) (hl : big l.length) : Does Tryz.prog 50 [.seq 1 (l.map iD)] H fun d H' => d = i64 (fstE l) ∧ H = H' := by
  refine Does.frz (K := fun d => d = i64 (fstE l)) ?_
  have hml : (List.map iD l).length = l.length := List.length_map _
  unfold big at hl
  refine does_of _ _ Tryz.func50 rfl rfl Tryz.ntmps50 Tryz.results50 (by simp only [List.length_cons, List.length_nil]; omega) fun w0 g0 Q hret => ?_
  refine tq (cj2 @i64.eq_1 hml) ?_; intro Nx hNx Gx hGx
  refine W_loopN l.length (fun i s => s.df = [] ∧ s.fr 5 = .seq 1 (l.map iD) ∧ s.fr 6 = i64 l.length ∧ s.fr 7 = i64 i ∧ s.H = H ∧ fstE l = fstE (l.drop i)) ⟨rfl, rfl, rfl, rfl, rfl, rfl⟩ ?_
  rintro i s hi ⟨hdf, f5, f6, f7, hH, ha⟩
  have hx : (i : Int).toNat = i := Int.toNat_natCast _
  have h00 : (0 : Int) ≤ (i : Int) := Int.natCast_nonneg _
  have hleS : H.le s.H := by rw [hH]; exact Heap.le_refl _
  by_cases hil : i < l.length
  case neg =>
    have q6 : ((i : Int) < (l.length : Int)) = False := eq_false (by omega)
    rw [List.drop_eq_nil_of_le (by omega)] at ha
    refine tq (cj4 f6 f7 @i64.eq_1 q6) ?_; intro Nx hNx Gx hGx
    refine rt hret hdf ?_
    exact ⟨_, Heap.le_refl _, hleS, _, frz_refl hleS, by rw [ha]; rfl⟩
  have hil' : (i : Int) < (l.length : Int) := by omega
  have q6 : ((i : Int) < (l.length : Int)) = True := eq_true hil'
  have w3 : IntKind.i64.wrap ((i : Int) + 1) = ((i + 1 : Nat) : Int) := by rw [wrap_i64_of (by omega)]; omega
  have hgi := get_ints hil
  rw [List.drop_eq_getElem_cons hil, fstE] at ha
  by_cases h0 : l[i] = 0
  · have q7 : (l[i] = 0) = True := eq_true h0
    rw [if_neg (fun h => h h0)] at ha
    refine tq (cj13 f5 f6 f7 @i64.eq_1 hml q6 hgi hx h00 hil hil' q7 w3) ?_; intro Nx hNx Gx hGx
    exact ⟨hil, hdf, f5, f6, rfl, hH, ha⟩
  · have q7 : (l[i] = 0) = False := eq_false h0
    rw [if_pos h0] at ha
    refine tq (cj12 f5 f6 f7 @i64.eq_1 hml q6 hgi hx h00 hil hil' q7) ?_; intro Nx hNx Gx hGx
    refine rt hret hdf ?_
    exact ⟨_, Heap.le_refl _, hleS, _, frz_refl hleS, by rw [ha]; rfl⟩
set_option maxHeartbeats 1000000 in
theorem ctypeOf_N (b : BdS) (n : Int) (b1 b2 : Nat) (p : PlS) (H : Heap) (ck : Ck b) (hp : big p.pr.length) : Does Tryz.prog 63 [.agg (ckD b n b1 b2), .agg (plD p)] H fun d H' => d = .tup [i64 (toE b p).1, i64 (toE b p).2] ∧ H = H' := by
  refine Does.frz (K := fun d => d = .tup [i64 (toE b p).1, i64 (toE b p).2]) ?_
  have hle := Heap.le_refl H
  have hq := typeOf_N b.ty b.lc p H ck.wt ck.wl ck.ar hp
  simp only [plD] at hq
  unfold toE
  refine does_of _ _ Tryz.func63 rfl rfl Tryz.ntmps63 Tryz.results63 (by simp only [List.length_cons, List.length_nil]; omega) fun w0 g0 Q hret => ?_
  simp only [ckD, bdD, List.cons_append, List.nil_append]
  refine tq (cj2 @i64.eq_1 @plD.eq_1) ?_; intro Nx hNx Gx hGx
  intro c2 hc2 c3 hc3
  refine hNx _ ?_
  obtain ⟨nFz, hFz⟩ := Heap.upd_none.1 hc3; refine W_frzp 2 rfl ((Heap.upd_ne nFz.symm).trans (Heap.upd_same _ _ _)) rfl ?_; refine W_frzp 3 rfl ((Heap.del_ne nFz).trans (Heap.upd_same _ _ _)) rfl ?_; refine W_less _ (le_two hc2 hFz) ?_; simp only [St.frzp, List.drop]
  refine tq @i64.eq_1 ?_; intro Nx hNx Gx hGx
  refine hq.mono ?_
  rintro d _ ⟨rfl, rfl⟩
  refine tq @i64.eq_1 ?_; intro Nx hNx Gx hGx
  refine rt hret @i64.eq_1 ?_
  exact ⟨_, Heap.le_refl _, hle, _, frz_refl hle, rfl⟩
set_option maxHeartbeats 2000000 in
theorem operand_N (b : BdS) (n : Int) (b1 b2 : Nat) (o : OpS) (H : Heap) (ck : Ck b) (hp : okOp o) : Does Tryz.prog 33 [.agg (ckD b n b1 b2), .agg (opD o)] H fun d H' => d = i64 (opE b o) ∧ H = H' := by
  refine Does.frz (K := fun d => d = i64 (opE b o)) ?_
  have hle := Heap.le_refl H
  have hty := ctypeOf_N b n b1 b2 o.pl H ck hp
  have hze := zero_N o.pl H hp
  have hdr := hasDr_N o.pl H hp
  have hcp := fun a => cop_N b.ty a H ck.wt ck.rf ck.tl ck.ar.big
  have hfa := fun x => failed_N x H
  obtain ⟨y, hy⟩ : ∃ y, y = opE b o := ⟨_, rfl⟩
  rw [← hy]
  unfold opE at hy
  obtain ⟨T, hT⟩ : ∃ T, T = toE b o.pl := ⟨_, rfl⟩
  rw [← hT] at hy hty
  clear hT
  obtain ⟨k, p, v⟩ := o
  simp only at hy
  simp only [ckD, bdD, List.cons_append, List.nil_append, plD] at hty
  simp only [plD] at hze hdr
  refine does_of _ _ Tryz.func33 rfl rfl Tryz.ntmps33 Tryz.results33 (by simp only [List.length_cons, List.length_nil]; omega) fun w0 g0 Q hret => ?_
  simp only [ckD, bdD, List.cons_append, List.nil_append]
  refine tq (cj2 @i64.eq_1 @opD.eq_1) ?_; intro Nx hNx Gx hGx
  intro c2 hc2 c3 hc3
  refine hNx _ ?_
  obtain ⟨nFz, hFz⟩ := Heap.upd_none.1 hc3; refine W_frzp 2 rfl ((Heap.upd_ne nFz.symm).trans (Heap.upd_same _ _ _)) rfl ?_; refine W_frzp 3 rfl ((Heap.del_ne nFz).trans (Heap.upd_same _ _ _)) rfl ?_; refine W_less _ (le_two hc2 hFz) ?_; simp only [St.frzp, List.drop]
  by_cases hk : k = 2
  · have k0 : (k = 0) = False := eq_false (by omega)
    have k1 : (k = 1) = False := eq_false (by omega)
    have k2 : (k = 2) = True := eq_true hk
    have k3 : (k = 3) = False := eq_false (by omega)
    have k4 : (k = 4) = False := eq_false (by omega)
    rw [if_neg (by omega)] at hy
    refine tq (cj6 @i64.eq_1 k0 k1 k3 k4 k2) ?_; intro Nx hNx Gx hGx
    refine hze.mono ?_
    rintro d _ ⟨rfl, rfl⟩
    cases hz : zeroP p
    · have e : y = 2 := hy.trans (if_pos (.inr ⟨by omega, hz⟩))
      exact oz hret (cj6 @i64.eq_1 k0 k1 k2 k3 k4) hle e
    · have e : y = 0 := hy.trans (by rw [if_neg (by rw [hz]; rintro (⟨_, h, _⟩ | ⟨_, h⟩); exact h hk; cases h), if_neg (by omega), if_pos (by omega)])
      exact oz hret (cj6 @i64.eq_1 k0 k1 k2 k3 k4) hle e
  by_cases hk : k = 3
  · have k0 : (k = 0) = False := eq_false (by omega)
    have k1 : (k = 1) = False := eq_false (by omega)
    have k2 : (k = 2) = False := eq_false (by omega)
    have k3 : (k = 3) = True := eq_true hk
    have k4 : (k = 4) = False := eq_false (by omega)
    rw [if_neg (by omega)] at hy
    refine tq (cj6 @i64.eq_1 k0 k1 k3 k4 k2) ?_; intro Nx hNx Gx hGx
    refine hze.mono ?_
    rintro d _ ⟨rfl, rfl⟩
    cases hz : zeroP p
    · have e : y = 2 := hy.trans (if_pos (.inr ⟨by omega, hz⟩))
      exact oz hret (cj6 @i64.eq_1 k0 k1 k2 k3 k4) hle e
    rw [if_neg (by rw [hz]; rintro (⟨_, _, h⟩ | ⟨_, h⟩); exact h hk; cases h)] at hy
    by_cases h0 : v = 0
    · have q0 : (v = 0) = True := eq_true h0
      have e : y = 0 := hy.trans (by rw [if_neg (by omega), if_pos (by omega)])
      exact oz hret (cj7 @i64.eq_1 k0 k1 k2 k3 k4 q0) hle e
    have q0 : (v = 0) = False := eq_false h0
    by_cases h1 : v = 1
    · have q1 : (v = 1) = True := eq_true h1
      have e : y = 0 := hy.trans (by rw [if_neg (by omega), if_pos (by omega)])
      exact oz hret (cj8 @i64.eq_1 k0 k1 k2 k3 k4 q0 q1) hle e
    · have q1 : (v = 1) = False := eq_false h1
      have e : y = 3 := hy.trans (if_pos ⟨hk, h0, h1⟩)
      exact oz hret (cj8 @i64.eq_1 k0 k1 k2 k3 k4 q0 q1) hle e
  by_cases hk : k = 4
  · have k0 : (k = 0) = False := eq_false (by omega)
    have k1 : (k = 1) = False := eq_false (by omega)
    have k2 : (k = 2) = False := eq_false (by omega)
    have k3 : (k = 3) = False := eq_false (by omega)
    have k4 : (k = 4) = True := eq_true hk
    rw [if_neg (by omega)] at hy
    by_cases h0 : v = 0
    case neg =>
      have q0 : (v = 0) = False := eq_false h0
      have e : y = 2 := hy.trans (if_pos (.inl ⟨h0, by omega, by omega⟩))
      exact oz hret (cj7 @i64.eq_1 k0 k1 k2 k3 k4 q0) hle e
    have q0 : (v = 0) = True := eq_true h0
    refine tq (cj7 @i64.eq_1 k0 k1 k2 k3 k4 q0) ?_; intro Nx hNx Gx hGx
    refine hze.mono ?_
    rintro d _ ⟨rfl, rfl⟩
    cases hz : zeroP p
    · have e : y = 2 := hy.trans (if_pos (.inr ⟨by omega, hz⟩))
      exact oz hret (cj6 @i64.eq_1 k0 k1 k2 k3 k4) hle e
    · have e : y = 0 := hy.trans (by rw [if_neg (by rw [hz]; rintro (⟨h, _⟩ | ⟨_, h⟩); exact h h0; cases h), if_neg (by omega), if_pos (by omega)])
      exact oz hret (cj6 @i64.eq_1 k0 k1 k2 k3 k4) hle e
  by_cases hk : k = 0
  · have k0 : (k = 0) = True := eq_true hk
    have k1 : (k = 1) = False := eq_false (by omega)
    have k2 : (k = 2) = False := eq_false (by omega)
    have k3 : (k = 3) = False := eq_false (by omega)
    have k4 : (k = 4) = False := eq_false (by omega)
    rw [if_neg (by omega)] at hy
    by_cases h0 : v = 0
    case neg =>
      have q0 : (v = 0) = False := eq_false h0
      have e : y = 2 := hy.trans (if_pos (.inl ⟨h0, by omega, by omega⟩))
      exact oz hret (cj7 @i64.eq_1 k0 k1 k2 k3 k4 q0) hle e
    have q0 : (v = 0) = True := eq_true h0
    rw [if_neg (by omega), if_neg (by omega), if_neg (by omega)] at hy
    refine tq (cj7 @i64.eq_1 k0 k1 k2 k3 k4 q0) ?_; intro Nx hNx Gx hGx
    refine hty.mono ?_
    rintro d _ ⟨rfl, rfl⟩
    by_cases h2 : T.2 = 0
    case neg =>
      have q2 : (T.2 = 0) = False := eq_false h2
      have e : y = T.2 := hy.trans (if_pos h2)
      exact oz hret (cj2 @i64.eq_1 q2) hle e
    have q2 : (T.2 = 0) = True := eq_true h2
    rw [if_neg (fun h => h h2)] at hy
    refine tq (cj3 @i64.eq_1 k0 q2) ?_; intro Nx hNx Gx hGx
    refine (hcp _).mono ?_
    rintro d _ ⟨rfl, rfl⟩
    have e : y = if copB b.ty T.1 = false then 22 else 0 := by
      rw [hy]
      cases copB b.ty T.1 <;> simp [hk]
    refine tq @i64.eq_1 ?_; intro Nx hNx Gx hGx
    refine (hfa _).mono ?_
    rintro d _ ⟨rfl, rfl⟩
    exact oz hret (cj2 @i64.eq_1 k0) hle e
  by_cases hk : k = 1
  · have k0 : (k = 0) = False := eq_false (by omega)
    have k1 : (k = 1) = True := eq_true hk
    have k2 : (k = 2) = False := eq_false (by omega)
    have k3 : (k = 3) = False := eq_false (by omega)
    have k4 : (k = 4) = False := eq_false (by omega)
    rw [if_neg (by omega)] at hy
    by_cases h0 : v = 0
    case neg =>
      have q0 : (v = 0) = False := eq_false h0
      have e : y = 2 := hy.trans (if_pos (.inl ⟨h0, by omega, by omega⟩))
      exact oz hret (cj7 @i64.eq_1 k0 k1 k2 k3 k4 q0) hle e
    have q0 : (v = 0) = True := eq_true h0
    rw [if_neg (by omega), if_neg (by omega), if_neg (by omega)] at hy
    refine tq (cj7 @i64.eq_1 k0 k1 k2 k3 k4 q0) ?_; intro Nx hNx Gx hGx
    refine hty.mono ?_
    rintro d _ ⟨rfl, rfl⟩
    by_cases h2 : T.2 = 0
    case neg =>
      have q2 : (T.2 = 0) = False := eq_false h2
      have e : y = T.2 := hy.trans (if_pos h2)
      exact oz hret (cj2 @i64.eq_1 q2) hle e
    have q2 : (T.2 = 0) = True := eq_true h2
    rw [if_neg (fun h => h h2)] at hy
    refine tq (cj3 @i64.eq_1 k0 q2) ?_; intro Nx hNx Gx hGx
    refine hdr.mono ?_
    rintro d _ ⟨rfl, rfl⟩
    have e : y = if hasDr p 0 = true then 22 else 0 := by
      rw [hy]
      cases hasDr p 0 <;> simp [hk]
    refine tq @i64.eq_1 ?_; intro Nx hNx Gx hGx
    refine (hfa _).mono ?_
    rintro d _ ⟨rfl, rfl⟩
    exact oz hret (cj2 @i64.eq_1 k0) hle e
  have k0 : (k = 0) = False := eq_false (by omega)
  have k1 : (k = 1) = False := eq_false (by omega)
  have k2 : (k = 2) = False := eq_false (by omega)
  have k3 : (k = 3) = False := eq_false (by omega)
  have k4 : (k = 4) = False := eq_false (by omega)
  have e : y = 14 := hy.trans (if_pos (by omega))
  exact oz hret (cj6 @i64.eq_1 k0 k1 k2 k3 k4) hle e
end Go.Proofs.YtgfhgeelfaalmaaGreatDoor
