/- Lemmas and contracts of functions, several texts in one: HA HB HC. -/
import Derived.Test.YtgfhgeelfaalmaaGreatDoorK31
import Derived.Test.YtgfhgeelfaalmaaGreatDoorK22
import Derived.Test.YtgfhgeelfaalmaaGreatDoorK33
namespace Go.Proofs.YtgfhgeelfaalmaaGreatDoor
open Go.RowKit
set_option maxRecDepth 100000
set_option linter.unusedVariables false
set_option linter.unusedSimpArgs false
structure Sm (b : BdS) : Prop where
  tt : tot b ≤ 3000
  ol : b.ol.length ≤ 200
  rg : b.rg.length ≤ 200
  bl : b.bl.length ≤ 200
theorem sm_ge1 {α : Type} {f : α → Nat} (hf : ∀ x, 1 ≤ f x) : ∀ l : List α, l.length ≤ sm f l
  | [] => Nat.le_refl _
  | x :: l => by
    have := sm_ge1 hf l
    have := hf x
    simp only [sm, List.length_cons]; omega
theorem tot_is (b : BdS) : tot b = b.nm.size + b.ol.length + sm (fun s : ByteArray => 1 + s.size) b.rg + sm (fun t : TyS => 1 + t.ar.length) b.ty + sm (fun l : LcS => 1 + l.nm.size) b.lc + sm szB b.bl := by
  unfold tot t4 t3 t2 t1
  simp only [List.take_length]
theorem sb_of {b : BdS} (ok : okBd b) (h : Sm b) : Sb b where
  ok := ok
  nm := by have := h.tt; rw [tot_is] at this; unfold big; omega
  rs := fun s hs => by have := h.tt; rw [tot_is] at this; have := sm_mem (f := fun s : ByteArray => 1 + s.size) hs; unfold big; omega
  ls := fun s hs => by have := h.tt; rw [tot_is] at this; have := sm_mem (f := fun l : LcS => 1 + l.nm.size) hs; unfold big; omega
  ts := fun s hs => by
    have h1 := h.tt
    rw [tot_is] at h1
    have h2 := sm_mem (f := szB) hs
    have h3 : s.tm.nm.size ≤ szB s := by unfold szB; omega
    unfold big
    omega
theorem ck_of {b : BdS} (ok : okBd b) (h : Sm b) (hd : decE b = 0) : Ck b := by
  obtain ⟨h1, h2, h3, h4, h5, h6, h7⟩ := dec_all hd
  obtain ⟨o1, o2, ⟨o3, o4⟩, o5, o6, o7⟩ := ok
  have ht := h.tt
  rw [tot_is] at ht
  obtain ⟨-, hok⟩ := chkT_ok.1 h4
  have h5' : lcsE b.ty.length [] b.lc = 0 := by
    unfold locE at h5
    by_cases p : 65535 < b.lc.length
    · rw [if_pos p] at h5; cases h5
    rw [if_neg p] at h5
    exact Classical.byContradiction fun q => by rw [if_pos q] at h5; exact q h5
  exact {
    wt := wf_of_ok hok
    rf := rfN_of_ok hok
    wl := lcs_wf h5'
    ar := fun t htm => by have := sm_mem (f := fun t : TyS => 1 + t.ar.length) htm; omega
    tl := by have := sm_ge1 (f := fun t : TyS => 1 + t.ar.length) (fun x => by omega) b.ty; omega
    ol := (checkR_in h3).2
    oll := by have := h.ol; omega
    rgl := by have := h.rg; omega
    lcl := o5
    bll := o6 }
set_option maxHeartbeats 1000000 in
theorem skip10_N (b : BdS) (H : Heap) (ok : okBd b) : Does Tryz.prog 9 [.agg (bdD b)] H fun d H' => (d = i64 1 ∨ (d = i64 0 ∧ Sm b)) ∧ H = H' := by
  refine Does.frz (K := fun d => d = i64 1 ∨ (d = i64 0 ∧ Sm b)) ?_
  have hle := Heap.le_refl H
  obtain ⟨o1, o2, ⟨o3, o4⟩, o5, o6, o7⟩ := id ok
  have hla := large_N b H ok
  have hsk := skip6_N b.ty H o3 o4
  have hkt := kchk_N b.ty b.rg.length H o3 o4
  have hok : chkT b.ty b.rg.length = 0 → wfT b.ty := fun h => wf_of_ok (chkT_ok.1 h).2
  have hmr : (List.map sD b.rg).length = b.rg.length := List.length_map _
  have hmo : (List.map pD b.ol).length = b.ol.length := List.length_map _
  have hmt : (List.map tyD b.ty).length = b.ty.length := List.length_map _
  have hmb : (List.map bkD b.bl).length = b.bl.length := List.length_map _
  unfold big at o1 o2 o3 o6
  obtain ⟨L, hL⟩ : ∃ L, L = lg b := ⟨_, rfl⟩
  rw [← hL] at hla
  unfold lg at hL
  obtain ⟨C, hC⟩ : ∃ C, C = chkT b.ty b.rg.length := ⟨_, rfl⟩
  rw [← hC] at hkt hok
  clear hC
  rw [bdD_eq] at hla ⊢
  refine does_of _ _ Tryz.func9 rfl rfl Tryz.ntmps9 Tryz.results9 (by simp only [List.length_cons, List.length_nil]; omega) fun w0 g0 Q hret => ?_
  refine tq @i64.eq_1 ?_; intro Nx hNx Gx hGx
  intro c1 hc1
  refine hNx _ ?_
  refine frz 1 hc1 ?_
  refine tq @i64.eq_1 ?_; intro Nx hNx Gx hGx
  refine hla.mono ?_
  rintro d _ ⟨rfl, rfl⟩
  by_cases h1 : 3000 < tot b
  · rw [if_pos h1] at hL
    subst hL
    refine tq (cj2 @i64.eq_1 @i64.eq_1) ?_; intro Nx hNx Gx hGx; refine rt hret @i64.eq_1 ?_; exact ⟨_, Heap.le_refl _, hle, _, frz_refl hle, .inl rfl⟩
  rw [if_neg h1] at hL
  subst hL
  refine tq @i64.eq_1 ?_; intro Nx hNx Gx hGx
  refine hsk.mono ?_
  rintro d _ ⟨hd, rfl⟩
  rcases hd with rfl | ⟨rfl, h6⟩
  · refine tq (cj2 @i64.eq_1 @i64.eq_1) ?_; intro Nx hNx Gx hGx; refine rt hret @i64.eq_1 ?_; exact ⟨_, Heap.le_refl _, hle, _, frz_refl hle, .inl rfl⟩
  by_cases h2 : 200 < b.ol.length
  · have q2 : ((200 : Int) < (b.ol.length : Int)) = True := eq_true (by omega)
    refine tq (cj3 @i64.eq_1 hmo q2) ?_; intro Nx hNx Gx hGx; refine rt hret @i64.eq_1 ?_; exact ⟨_, Heap.le_refl _, hle, _, frz_refl hle, .inl rfl⟩
  have q2 : ((200 : Int) < (b.ol.length : Int)) = False := eq_false (by omega)
  by_cases h3 : 200 < b.rg.length
  · have q3 : ((200 : Int) < (b.rg.length : Int)) = True := eq_true (by omega)
    refine tq (cj5 @i64.eq_1 hmo hmr q2 q3) ?_; intro Nx hNx Gx hGx; refine rt hret @i64.eq_1 ?_; exact ⟨_, Heap.le_refl _, hle, _, frz_refl hle, .inl rfl⟩
  have q3 : ((200 : Int) < (b.rg.length : Int)) = False := eq_false (by omega)
  by_cases h4 : 200 < b.bl.length
  · have q4 : ((200 : Int) < (b.bl.length : Int)) = True := eq_true (by omega)
    refine tq (cj7 @i64.eq_1 hmo hmr hmb q2 q3 q4) ?_; intro Nx hNx Gx hGx; refine rt hret @i64.eq_1 ?_; exact ⟨_, Heap.le_refl _, hle, _, frz_refl hle, .inl rfl⟩
  have q4 : ((200 : Int) < (b.bl.length : Int)) = False := eq_false (by omega)
  have hsm : Sm b := ⟨by omega, by omega, by omega, by omega⟩
  have htl : b.ty.length ≤ 1000000 := by
    have := h1; rw [tot_is] at this
    have := sm_ge1 (f := fun t : TyS => 1 + t.ar.length) (fun x => by omega) b.ty; omega
  refine tq (cj7 @i64.eq_1 hmo hmr hmb q2 q3 q4) ?_; intro Nx hNx Gx hGx
  refine hkt.mono ?_
  rintro d _ ⟨rfl, rfl⟩
  by_cases h5 : C = 0
  case neg =>
    have q5 : ((C : Int) = 0) = False := eq_false (by omega)
    refine tq (cj2 @i64.eq_1 q5) ?_; intro Nx hNx Gx hGx
    refine rt hret @i64.eq_1 ?_
    exact ⟨_, Heap.le_refl _, hle, _, frz_refl hle, .inr ⟨rfl, hsm⟩⟩
  have q5 : ((C : Int) = 0) = True := eq_true (by omega)
  have hw := hok h5
  refine tq (cj3 @i64.eq_1 q5 hmt) ?_; intro Nx hNx Gx hGx
  refine W_loopN b.ty.length (fun i s => s.df = [] ∧ s.fr 1 = .rp [strD b.nm, .seq 1 (b.rg.map sD), .seq 2 (b.ol.map pD), .seq 5 (b.ty.map tyD), .seq 2 (b.lc.map lcD), i64 b.ag, .seq 7 (b.bl.map bkD)] ∧ s.fr 40 = i64 b.ty.length ∧ s.fr 41 = i64 i ∧ s.H = H) ⟨rfl, rfl, rfl, rfl, rfl⟩ ?_
  rintro i s hi ⟨hdf, f1, f40, f41, hH⟩
  have hleS : H.le s.H := by rw [hH]; exact hle
  by_cases hil : i < b.ty.length
  case neg =>
    have q6 : ((i : Int) < (b.ty.length : Int)) = False := eq_false (by omega)
    refine tq (cj4 f40 f41 @i64.eq_1 q6) ?_; intro Nx hNx Gx hGx
    refine rt hret hdf ?_
    exact ⟨_, Heap.le_refl _, hleS, _, frz_refl hleS, .inr ⟨rfl, hsm⟩⟩
  have q6 : ((i : Int) < (b.ty.length : Int)) = True := eq_true (by omega)
  have w3 : IntKind.i64.wrap ((i : Int) + 1) = ((i + 1 : Nat) : Int) := by rw [wrap_i64_of (by omega)]; omega
  have hdp := kdep_N b.ty i s.H htl o4 hw
  obtain ⟨D0, hD⟩ : ∃ D0, D0 = depAt b.ty i := ⟨_, rfl⟩
  rw [← hD] at hdp
  clear hD
  refine tq (cj5 f1 f40 f41 @i64.eq_1 q6) ?_; intro Nx hNx Gx hGx
  refine hdp.mono ?_
  rintro d _ ⟨rfl, hHH⟩
  by_cases h8 : 8 < D0
  · have q8 : ((8 : Int) < (D0 : Int)) = True := eq_true (by omega)
    rw [hHH] at hleS
    refine tq (cj2 @i64.eq_1 q8) ?_; intro Nx hNx Gx hGx
    refine rt hret hdf ?_
    exact ⟨_, Heap.le_refl _, hleS, _, frz_refl hleS, .inl rfl⟩
  · have q8 : ((8 : Int) < (D0 : Int)) = False := eq_false (by omega)
    refine tq (cj4 f41 @i64.eq_1 q8 w3) ?_; intro Nx hNx Gx hGx
    exact ⟨hil, hdf, f1, f40, rfl, hHH ▸ hH⟩
def fS : ByteArray := ⟨#[102]⟩
def xS : ByteArray := ⟨#[120]⟩
def tI : TyS := ⟨2, false, 0, 0, []⟩
def zTm : TmS := ⟨2, [], [], ⟨0, []⟩, ByteArray.empty⟩
def z10 : BdS := ⟨fS, [], [], [tI], [⟨xS, 0⟩], 0, [⟨[], zTm⟩]⟩
def y10 : BdS := ⟨fS, [], [], [], [], 0, []⟩
def use10 (x k : Int) : StS := ⟨0, ⟨x, []⟩, ⟨0, 0, 0, false, ⟨0, []⟩, [⟨k, ⟨0, []⟩, 0⟩]⟩, 0⟩
def tm10 : TmS := ⟨0, [0], [], ⟨0, []⟩, ByteArray.empty⟩
def op10 : OpS := ⟨9, ⟨0, []⟩, 0⟩
theorem kid10 : kidM (depL []) tI + 1 ≤ 32 := by decide
theorem t10 : chkT z10.ty 0 = 0 := by
  have h : z10.ty = [tI] := rfl
  have hk := kid10
  have e : chk1 [] 0 tI = 0 := by
    unfold chk1
    rw [if_neg (by decide), if_neg (by decide), if_neg (by decide), if_neg (by rintro ⟨f, hf, _⟩; cases hf), if_neg (by decide), if_neg (by omega), if_neg (fun h => by cases h)]
  rw [h]
  unfold chkT
  rw [if_neg (by decide)]
  simp only [chkS, e, if_true]
theorem t10n : chkT [] 0 = 0 := by simp [chkT, chkS]
theorem dec10 : decE z10 = 0 := by
  unfold decE
  rw [if_neg (by decide), if_neg (by decide), if_neg (by decide)]
  have h : chkT z10.ty (z10.rg.length : Int) = 0 := t10
  rw [h, if_neg (fun k => k rfl)]
  decide
theorem dec10n : decE y10 = 15 := by
  unfold decE
  rw [if_neg (by decide), if_neg (by decide), if_neg (by decide)]
  have h : chkT y10.ty (y10.rg.length : Int) = 0 := t10n
  rw [h, if_neg (fun k => k rfl)]
  decide
theorem tm10z : tmE z10 zTm = 0 := by
  unfold tmE
  rw [if_neg (by decide), if_neg (by decide), if_neg (by decide), if_neg (by decide), if_neg (by decide), if_neg (by decide)]
theorem chk10 : chkE z10 = 0 := by
  unfold chkE
  rw [dec10, if_neg (fun k => k rfl)]
  have h : z10.bl = [⟨[], zTm⟩] := rfl
  rw [h]
  simp only [bksE, stsE, tm10z]
  rfl
theorem chk10n : chkE y10 = 15 := by
  unfold chkE
  rw [dec10n, if_pos (by decide)]
theorem op_k (k : Int) (h : k = 2 ∨ k = 3) : opE z10 ⟨k, ⟨0, []⟩, 0⟩ = 0 := by
  unfold opE
  rcases h with rfl | rfl
  · rw [if_neg (by decide), if_neg (by decide), if_neg (by decide), if_pos (by decide)]
  · rw [if_neg (by decide), if_neg (by decide), if_neg (by decide), if_pos (by decide)]
theorem op10e : opE z10 op10 = 14 := by
  unfold opE
  rw [if_pos (by decide)]
theorem fit2 : fitE z10 ⟨2, ⟨0, []⟩, 0⟩ 0 = true := by
  unfold fitE
  rw [if_pos (by decide)]
  decide
theorem fit3 : fitE z10 ⟨3, ⟨0, []⟩, 0⟩ 0 = false := by
  unfold fitE
  rw [if_pos (by decide)]
  decide
theorem wrt0 : wrtE z10 ⟨0, []⟩ = 0 := by decide
theorem wrt1 : wrtE z10 ⟨1, []⟩ = 3 := by decide
theorem toE0 : (toE z10 ⟨0, []⟩).1 = 0 := by decide
theorem ops10 (k : Int) (h : k = 2 ∨ k = 3) (t : Int) : opsE z10 [⟨k, ⟨0, []⟩, 0⟩] [t] = if fitE z10 ⟨k, ⟨0, []⟩, 0⟩ t = false then 22 else 0 := by
  have h2 : opsE z10 [⟨k, ⟨0, []⟩, 0⟩] [t] = if opE z10 ⟨k, ⟨0, []⟩, 0⟩ ≠ 0 then opE z10 ⟨k, ⟨0, []⟩, 0⟩ else if fitE z10 ⟨k, ⟨0, []⟩, 0⟩ t = false then 22 else 0 := rfl
  rw [h2, op_k k h, if_neg (fun k => k rfl)]
theorem st2 : stE z10 (use10 0 2) = 0 := by
  have e : (use10 0 2).pl = ⟨0, []⟩ := rfl
  unfold stE
  rw [if_pos (by decide), if_neg (by decide), e, wrt0, if_neg (fun k => k rfl), toE0]
  unfold rvE
  rw [if_neg (by decide), if_neg (by decide), if_pos (by decide)]
  have h := ops10 2 (.inl rfl) 0
  rw [fit2] at h
  exact h
theorem st3 : stE z10 (use10 0 3) = 22 := by
  have e : (use10 0 3).pl = ⟨0, []⟩ := rfl
  unfold stE
  rw [if_pos (by decide), if_neg (by decide), e, wrt0, if_neg (fun k => k rfl), toE0]
  unfold rvE
  rw [if_neg (by decide), if_neg (by decide), if_pos (by decide)]
  have h := ops10 3 (.inr rfl) 0
  rw [fit3] at h
  exact h
theorem st12 : stE z10 (use10 1 2) = 3 := by
  have e : (use10 1 2).pl = ⟨1, []⟩ := rfl
  unfold stE
  rw [if_pos (by decide), if_neg (by decide), e, wrt1, if_pos (by decide)]
theorem tm10e : tmE z10 tm10 = 0 := by
  unfold tmE
  rw [if_neg (by decide), if_neg (by decide), if_neg (by decide), if_neg (by decide), if_neg (by decide), if_neg (by decide)]
theorem ok10 : okBd z10 := by
  refine ⟨by unfold big; decide, by unfold big; decide, ⟨by unfold big; decide, fun t ht => ?_⟩, by unfold big; decide, by unfold big; decide, ?_⟩
  · have : t = tI := by simpa [z10] using ht
    subst this; unfold big; decide
  intro x hx
  have : x = ⟨[], zTm⟩ := by simpa [z10] using hx
  subst this
  exact ⟨⟨by unfold big; decide, fun s hs => by simp at hs⟩, by unfold big; decide, ⟨by unfold big; decide, fun o ho => by simp [zTm] at ho⟩, by unfold okPl big; decide⟩
theorem ok10n : okBd y10 := ⟨by unfold big; decide, by unfold big; decide, ⟨by unfold big; decide, fun t ht => by simp [y10] at ht⟩, by unfold big; decide, by unfold big; decide, fun x hx => by simp [y10] at hx⟩
theorem sm10 : Sm z10 := ⟨by decide, by decide, by decide, by decide⟩
theorem sm10n : Sm y10 := ⟨by decide, by decide, by decide, by decide⟩
theorem ck10 : Ck z10 := ck_of ok10 sm10 dec10
theorem okU (x k : Int) : okSt (use10 x k) := by
  refine ⟨by unfold okPl big; exact Nat.zero_le _, by unfold okPl big; exact Nat.zero_le _, by unfold big; show (1 : Nat) ≤ _; decide, fun o ho => ?_⟩
  have : o = ⟨k, ⟨0, []⟩, 0⟩ := by simpa [use10] using ho
  subst this; unfold okOp okPl big; exact Nat.zero_le _
theorem okT : okTm tm10 := ⟨by unfold big; decide, ⟨by unfold big; decide, fun o ho => by simp [tm10] at ho⟩, by unfold okPl big; decide⟩
theorem ImpL.cellsB {w : World} {S : Nat → Prop} : ∀ {ds es : List D} {vs : List Value}, ImpL ds es → cellsAll w S ds vs → cellsAll w S es vs
  | [], [], vs, _, h => by simp only [cellsAll] at h ⊢; exact h
  | d :: ds, e :: es, vs, hv, h => by
    simp only [cellsAll] at h ⊢
    obtain ⟨u, us, rfl, h0, h1, h2⟩ := h
    exact ⟨u, us, rfl, h0, hv.1 w S u h1, ImpL.cellsB hv.2 h2⟩
  | [], _ :: _, _, hv, _ => hv.elim
  | _ :: _, [], _, hv, _ => hv.elim
theorem imp_aggB {ds es : List D} (h : ImpL ds es) : Imp (.agg ds) (.agg es) := fun w S v hv => by
  simp only [D.is] at hv ⊢
  obtain ⟨vs, rfl, h1⟩ := hv
  exact ⟨vs, rfl, h.cellsB h1⟩
theorem imp_rpB {ds es : List D} (h : ImpL ds es) : Imp (.rp ds) (.rp es) := fun w S v hv => by
  simp only [D.is] at hv ⊢
  obtain ⟨b, o, h1, h2, h3, h4⟩ := hv
  exact ⟨b, o, h1, h2, h3, h.at h4⟩
def useN (x k : Int) : D := .agg [i64 0, i64 x, .val (.slice none 0 0), i64 0, i64 0, i64 0, .val (.bool false), i64 0, .val (.slice none 0 0), .seq 4 [[i64 k, i64 0, .val (.slice none 0 0), i64 0]], i64 0]
theorem useN_imp (x k : Int) : Imp (useN x k) (.agg (stD (use10 x k))) := imp_aggB ⟨imp_refl _, imp_refl _, imp_nil, imp_refl _, imp_refl _, imp_refl _, imp_refl _, imp_refl _, imp_nil, imp_seq ⟨⟨imp_refl _, imp_refl _, imp_nil, imp_refl _, trivial⟩, trivial⟩, imp_refl _, trivial⟩
set_option maxHeartbeats 1000000 in
theorem use_N (x k : Int) (H : Heap) : Does Tryz.prog 25 [i64 x, i64 k] H fun d H' => d = useN x k ∧ H = H' := by
  refine Does.frz (K := fun d => d = useN x k) ?_
  have hle := Heap.le_refl H
  refine does_of _ _ Tryz.func25 rfl rfl Tryz.ntmps25 Tryz.results25 (by simp only [List.length_cons, List.length_nil]; omega) fun w0 g0 Q hret => ?_
  refine tq @i64.eq_1 ?_; intro Nx hNx Gx hGx
  intro c4 hc4
  refine hNx _ ?_
  have hlc : (H.upd c4 (.row 46 0 11 [[i64 0, i64 0, .val (.slice none 0 0), i64 0, i64 0, i64 0, .val (.bool false), i64 0, .val (.slice none 0 0), .val (.slice none 0 0), i64 0]])) c4 = some (.row 46 0 11 [[i64 0, i64 0, .val (.slice none 0 0), i64 0, i64 0, i64 0, .val (.bool false), i64 0, .val (.slice none 0 0), .val (.slice none 0 0), i64 0]]) := Heap.upd_same _ _ _
  have hle2 : ∀ z : HObj, H.le (H.upd c4 z) := fun z => Heap.le_new (Heap.le_refl _) hc4
  simp only [i64] at hlc
  refine tq (cj2 @i64.eq_1 hlc) ?_; intro Nx hNx Gx hGx
  refine rt hret (cj2 @i64.eq_1 @useN.eq_1) ?_
  exact ⟨_, Heap.le_refl _, hle2 _, _, frz_refl (hle2 _), rfl⟩
set_option maxHeartbeats 2000000 in
theorem alive10_at (H : Heap) : Does Tryz.prog 10 [] H fun d H' => d = .val (.bool true) ∧ H = H' := by
  refine Does.frz (K := fun d => d = .val (.bool true)) ?_
  have hle := Heap.le_refl H
  have h12 : ∀ H1, CallOK Tryz.prog 11 [.agg (bdD z10)] H1 fun d A => A = Heap.none ∧ d = i64 0 := fun H1 => callOK_eq fun H'' hle'' => (check10_N z10 H'' (sb_of ok10 sm10) fun _ => ck10).mono fun d H' h => ⟨h.1.trans (by rw [chk10]), h.2⟩
  have h37 : ∀ H1, CallOK Tryz.prog 11 [.agg [strD fS, .val (.slice none 0 0), .val (.slice none 0 0), .val (.slice none 0 0), .val (.slice none 0 0), i64 0, .val (.slice none 0 0)]] H1 fun d A => A = Heap.none ∧ d = i64 15 := fun H1 => callOK_eq fun H'' hle'' => ((check10_N y10 H'' (sb_of ok10n sm10n) (fun h => by rw [dec10n] at h; cases h)).imp (ds := [.agg [strD fS, .val (.slice none 0 0), .val (.slice none 0 0), .val (.slice none 0 0), .val (.slice none 0 0), i64 0, .val (.slice none 0 0)]]) ⟨imp_aggB ⟨imp_refl _, imp_nil, imp_nil, imp_nil, imp_nil, imp_refl _, imp_nil, trivial⟩, trivial⟩).mono fun d H' h => ⟨h.1.trans (by rw [chk10n]), h.2⟩
  have hst : ∀ x k v H1, stE z10 (use10 x k) = v → CallOK Tryz.prog 17 [.agg (bdD z10), useN x k] H1 fun d A => A = Heap.none ∧ d = i64 v := fun x k v H1 hv => callOK_eq fun H'' hle'' => ((stmt10_N z10 (use10 x k) H'' ck10 dec10 (okU x k)).imp (ds := [.agg (bdD z10), useN x k]) ⟨imp_refl _, useN_imp x k, trivial⟩).mono fun d H' h => ⟨h.1.trans (by rw [hv]), h.2⟩
  have hus : ∀ x k H1, CallOK Tryz.prog 25 [i64 x, i64 k] H1 fun d A => A = Heap.none ∧ d = useN x k := fun x k H1 => callOK_eq fun H'' hle'' => use_N x k H''
  have htm : ∀ H1, CallOK Tryz.prog 19 [.agg (bdD z10), .agg [i64 0, .seq 1 [[i64 0]], .val (.slice none 0 0), i64 0, .val (.slice none 0 0), strD ByteArray.empty]] H1 fun d A => A = Heap.none ∧ d = i64 0 := fun H1 => callOK_eq fun H'' hle'' => ((term10_N z10 tm10 H'' ck10 dec10 okT (by unfold big; decide)).imp (ds := [.agg (bdD z10), .agg [i64 0, .seq 1 [[i64 0]], .val (.slice none 0 0), i64 0, .val (.slice none 0 0), strD ByteArray.empty]]) ⟨imp_refl _, imp_aggB ⟨imp_refl _, imp_refl _, imp_nil, imp_refl _, imp_nil, imp_refl _, trivial⟩, trivial⟩).mono fun d H' h => ⟨h.1.trans (by rw [tm10e]), h.2⟩
  have hop : ∀ H1, CallOK Tryz.prog 14 [.agg (bdD z10), .agg [i64 9, i64 0, .val (.slice none 0 0), i64 0]] H1 fun d A => A = Heap.none ∧ d = i64 14 := fun H1 => callOK_eq fun H'' hle'' => ((operand10_N z10 op10 H'' ck10 dec10 (by unfold okOp okPl big; decide)).imp (ds := [.agg (bdD z10), .agg [i64 9, i64 0, .val (.slice none 0 0), i64 0]]) ⟨imp_refl _, imp_aggB ⟨imp_refl _, imp_refl _, imp_nil, imp_refl _, trivial⟩, trivial⟩).mono fun d H' h => ⟨h.1.trans (by rw [op10e]), h.2⟩
  refine does_of _ _ Tryz.func10 rfl rfl Tryz.ntmps10 Tryz.results10 (by simp only [List.length_cons, List.length_nil]; omega) fun w0 g0 Q hret => ?_
  refine tq @i64.eq_1 ?_; intro Nx hNx Gx hGx
  intro c1 hc1
  refine hNx _ ?_
  refine frz 1 hc1 ?_
  refine W_as 1 (.rp (bdD z10)) (fun w v hv => imp_rpB ?_ _ _ _ hv) ?_
  · exact ⟨imp_refl _, imp_nil, imp_nil, imp_seq ⟨⟨imp_refl _, imp_refl _, imp_refl _, imp_refl _, imp_nil, trivial⟩, trivial⟩, imp_refl _, imp_refl _, imp_seq ⟨⟨imp_nil, imp_refl _, imp_nil, imp_nil, imp_refl _, imp_nil, imp_refl _, trivial⟩, trivial⟩, trivial⟩
  simp only [bdD]
  refine tq @i64.eq_1 ?_; intro Nx hNx Gx hGx
  (try refine W_seq ?_)
  refine W_drawE (fun t _ d A => A = .none ∧ d = (if t = some 12 then i64 0 else if t = some 17 then useN 0 2 else if t = some 18 then i64 0 else if t = some 24 then useN 0 3 else if t = some 25 then i64 22 else if t = some 31 then useN 1 2 else if t = some 32 then i64 3 else if t = some 37 then i64 15 else if t = some 44 then i64 0 else if t = some 50 then i64 14 else d)) (by kernel_rfl) (by kernel_rfl) (by kernel_rfl) fun Nx hNx => ?_; refine dst @i64.eq_1 ?_; intro Nx hNx Gx hGx
  refine ⟨h12 _, ?_⟩
  (first | refine hGx _ ?_ | refine hNx _ ?_ | skip)
  refine dst @i64.eq_1 ?_; intro Nx hNx Gx hGx
  refine ⟨hus 0 2 _, ?_⟩
  (first | refine hGx _ ?_ | refine hNx _ ?_ | skip)
  refine dst @i64.eq_1 ?_; intro Nx hNx Gx hGx
  refine ⟨hst 0 2 0 _ st2, ?_⟩
  (first | refine hGx _ ?_ | refine hNx _ ?_ | skip)
  refine dst @i64.eq_1 ?_; intro Nx hNx Gx hGx
  refine ⟨hus 0 3 _, ?_⟩
  (first | refine hGx _ ?_ | refine hNx _ ?_ | skip)
  refine dst @i64.eq_1 ?_; intro Nx hNx Gx hGx
  refine ⟨hst 0 3 22 _ st3, ?_⟩
  (first | refine hGx _ ?_ | refine hNx _ ?_ | skip)
  refine dst @i64.eq_1 ?_; intro Nx hNx Gx hGx
  refine ⟨hus 1 2 _, ?_⟩
  (first | refine hGx _ ?_ | refine hNx _ ?_ | skip)
  refine dst @i64.eq_1 ?_; intro Nx hNx Gx hGx
  refine ⟨hst 1 2 3 _ st12, ?_⟩
  (first | refine hGx _ ?_ | refine hNx _ ?_ | skip)
  refine dst @i64.eq_1 ?_; intro Nx hNx Gx hGx
  refine ⟨h37 _, ?_⟩
  (first | refine hGx _ ?_ | refine hNx _ ?_ | skip)
  refine dst @i64.eq_1 ?_; intro Nx hNx Gx hGx
  refine ⟨htm _, ?_⟩
  (first | refine hGx _ ?_ | refine hNx _ ?_ | skip)
  refine dst @i64.eq_1 ?_; intro Nx hNx Gx hGx
  refine ⟨hop _, ?_⟩
  (first | refine hGx _ ?_ | refine hNx _ ?_ | skip)
  refine dst @i64.eq_1 ?_; intro Nx hNx Gx hGx
  refine tq @i64.eq_1 ?_; intro Nx hNx Gx hGx
  refine rt hret @i64.eq_1 ?_
  exact ⟨_, Heap.le_refl _, hle, _, frz_refl hle, rfl⟩
end Go.Proofs.YtgfhgeelfaalmaaGreatDoor
