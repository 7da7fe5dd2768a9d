/- Lemmas and contracts of functions, several texts in one: HF N0 NP BIa E2f NQ BHk BIk. -/
import Derived.Test.YtgfhgeelfaalmaaGreatDoorK34
import Derived.Test.YtgfhgeelfaalmaaGreatDoorK36
import Derived.Test.YtgfhgeelfaalmaaGreatDoorK28
import Derived.Test.YtgfhgeelfaalmaaGreatDoorK35
import Derived.Test.YtgfhgeelfaalmaaGreatDoorK08
import Derived.Test.YtgfhgeelfaalmaaGreatDoorK22
namespace Go.Proofs.YtgfhgeelfaalmaaGreatDoor
open Go.RowKit
set_option maxRecDepth 100000
set_option linter.unusedVariables false
set_option linter.unusedSimpArgs false
theorem st_small {b : BdS} (sm : Sm b) : ∀ x ∈ b.bl, x.st.length ≤ 65535 := fun x hx => by
  have h := sm.tt
  rw [tot_is] at h
  have h2 := sm_mem (f := szB) hx
  have h3 : x.st.length ≤ szB x := by unfold szB; omega
  omega
def nopS : StS := ⟨2, ⟨0, []⟩, ⟨0, 0, 0, false, ⟨0, []⟩, []⟩, 0⟩
def nopB (x : BkS) : BkS := ⟨nopS :: x.st, x.tm⟩
def wbl (b : BdS) (l : List BkS) : BdS := ⟨b.nm, b.rg, b.ol, b.ty, b.lc, b.ag, l⟩
def nopD (b : BdS) : BdS := wbl b (b.bl.map nopB)
def unrB : BkS := ⟨[], ⟨5, [], [], ⟨0, []⟩, ByteArray.empty⟩⟩
theorem opsE_wbl (b : BdS) (m : List BkS) : ∀ (l : List OpS) (fs : List Int), opsE (wbl b m) l fs = opsE b l fs
  | [], _ => rfl
  | o :: l, [] => by
    have h1 : opsE (wbl b m) (o :: l) [] = if opE b o ≠ 0 then opE b o else opsE (wbl b m) l [] := rfl
    have h2 : opsE b (o :: l) [] = if opE b o ≠ 0 then opE b o else opsE b l [] := rfl
    rw [h1, h2, opsE_wbl b m l []]
  | o :: l, f :: fs => by
    have h1 : opsE (wbl b m) (o :: l) (f :: fs) = if opE b o ≠ 0 then opE b o else if fitE b o f = false then 22 else opsE (wbl b m) l fs := rfl
    have h2 : opsE b (o :: l) (f :: fs) = if opE b o ≠ 0 then opE b o else if fitE b o f = false then 22 else opsE b l fs := rfl
    rw [h1, h2, opsE_wbl b m l fs]
theorem oprE_wbl (b : BdS) (m : List BkS) (r : RvS) (t n : Int) (x : Int × Int) : oprE (wbl b m) r t n x = oprE b r t n x := by
  unfold oprE
  rw [opsE_wbl]
  rfl
theorem rvE_wbl (b : BdS) (m : List BkS) (r : RvS) (t : Int) : rvE (wbl b m) r t = rvE b r t := by
  unfold rvE
  rw [opsE_wbl, oprE_wbl, oprE_wbl, opsE_wbl]
  rfl
theorem stE_wbl (b : BdS) (m : List BkS) (s : StS) : stE (wbl b m) s = stE b s := by
  unfold stE
  rw [rvE_wbl]
  rfl
theorem stsE_wbl (b : BdS) (m : List BkS) : ∀ l : List StS, stsE (wbl b m) l = stsE b l
  | [] => rfl
  | s :: l => by rw [stsE, stsE, stE_wbl, stsE_wbl b m l]
theorem tmE_wbl (b : BdS) (m : List BkS) (hm : m.length = b.bl.length) (t : TmS) : tmE (wbl b m) t = tmE b t := by
  unfold tmE
  have h : (wbl b m).bl.length = b.bl.length := hm
  rw [h, opsE_wbl]
  rfl
theorem tmE_more (b : BdS) (m : List BkS) (hm : b.bl.length ≤ m.length) (t : TmS) (h : tmE b t = 0) : tmE (wbl b m) t = 0 := by
  unfold tmE at h ⊢
  have hl : (wbl b m).bl.length = m.length := rfl
  rw [opsE_wbl]
  by_cases h1 : t.k < 0 ∨ 5 < t.k
  · rw [if_pos h1] at h; cases h
  rw [if_neg h1] at h ⊢
  by_cases h2 : fldE t = false
  · rw [if_pos h2] at h; cases h
  rw [if_neg h2] at h ⊢
  by_cases h3 : (t.tg.all fun x => decide (InR b.bl.length x)) = false
  · rw [if_pos h3] at h; cases h
  rw [if_neg h3] at h
  have h4 : ¬ (t.tg.all fun x => decide (InR (wbl b m).bl.length x)) = false := fun h5 => h3 (by
    have h6 : (t.tg.all fun x => decide (InR b.bl.length x)) = true → (t.tg.all fun x => decide (InR (wbl b m).bl.length x)) = true := fun h7 => by
      rw [List.all_eq_true] at h7 ⊢
      intro x hx
      have h8 := of_decide_eq_true (h7 x hx)
      refine decide_eq_true ?_
      rw [hl]
      unfold InR at h8 ⊢; omega
    cases h8 : (t.tg.all fun x => decide (InR b.bl.length x))
    · rfl
    · rw [h6 h8] at h5; cases h5)
  rw [if_neg h4]
  exact h
theorem st_nop (b : BdS) : stE b nopS = 0 := by
  unfold stE
  rw [if_neg (by decide), if_neg (by decide), if_pos (by decide), if_neg (by decide)]
theorem bks_nop (b : BdS) (m : List BkS) (hm : m.length = b.bl.length) : ∀ l : List BkS, (∀ x ∈ l, x.st.length ≤ 60000) → bksE (wbl b m) (l.map nopB) = bksE b l
  | [], _ => rfl
  | x :: l, h => by
    have h1 := h x (by simp)
    have e : (nopB x).st.length = x.st.length + 1 := rfl
    have e2 : stsE (wbl b m) (nopB x).st = stsE b x.st := by
      show stsE (wbl b m) (nopS :: x.st) = _
      rw [stsE, stE_wbl, st_nop, if_neg (fun k => k rfl), stsE_wbl]
    have e3 : (nopB x).tm = x.tm := rfl
    rw [List.map_cons, bksE, bksE, if_neg (by omega : ¬ 65535 < (nopB x).st.length), if_neg (by omega : ¬ 65535 < x.st.length), e2, e3, tmE_wbl b m hm, bks_nop b m hm l fun y hy => h y (List.mem_cons_of_mem _ hy)]
theorem dec_wbl (b : BdS) (m : List BkS) (hm : m.length = b.bl.length) : decE (wbl b m) = decE b := by
  unfold decE
  have h : (wbl b m).bl.length = b.bl.length := hm
  rw [h]
  rfl
theorem chk_nop (b : BdS) (h : ∀ x ∈ b.bl, x.st.length ≤ 60000) : chkE (nopD b) = chkE b := by
  unfold chkE
  have e : decE (nopD b) = decE b := dec_wbl b _ (by rw [List.length_map])
  have e2 : bksE (nopD b) (nopD b).bl = bksE b b.bl := bks_nop b _ (by rw [List.length_map]) b.bl h
  rw [e, e2]
theorem bks_app (b : BdS) (x : BkS) (hs : stsE b x.st = 0) (hx : x.st.length ≤ 60000) (ht : tmE (wbl b (b.bl ++ [x])) x.tm = 0) : ∀ l : List BkS, bksE b l = 0 → bksE (wbl b (b.bl ++ [x])) (l ++ [x]) = 0
  | [], _ => by
    rw [List.nil_append, bksE, if_neg (by omega), stsE_wbl, hs, if_neg (fun k => k rfl), ht, if_neg (fun k => k rfl)]
    rfl
  | y :: l, h => by
    rw [bksE] at h
    rw [List.cons_append, bksE, stsE_wbl]
    by_cases h1 : 65535 < y.st.length
    · rw [if_pos h1] at h; cases h
    rw [if_neg h1] at h ⊢
    by_cases h2 : stsE b y.st = 0
    · rw [if_neg (fun k => k h2)] at h ⊢
      by_cases h3 : tmE b y.tm = 0
      · rw [if_neg (fun k => k h3)] at h
        rw [tmE_more b _ (by rw [List.length_append]; omega) y.tm h3, if_neg (fun k => k rfl)]
        exact bks_app b x hs hx ht l h
      · rw [if_pos h3] at h; exact absurd h h3
    · rw [if_pos h2] at h; exact absurd h h2
theorem chk_app (b : BdS) (x : BkS) (hs : stsE b x.st = 0) (hx : x.st.length ≤ 60000) (ht : tmE (wbl b (b.bl ++ [x])) x.tm = 0) (hl : b.bl.length + 1 ≤ 65535) (h : chkE b = 0) : chkE (wbl b (b.bl ++ [x])) = 0 := by
  unfold chkE at h ⊢
  by_cases h1 : decE b = 0
  case neg => rw [if_pos h1] at h; exact absurd h h1
  rw [if_neg (fun k => k h1)] at h
  obtain ⟨a1, a2, a3, a4, a5, a6, a7⟩ := dec_all h1
  have h2 : decE (wbl b (b.bl ++ [x])) = 0 := by
    unfold decE
    have e : (wbl b (b.bl ++ [x])).bl.length = b.bl.length + 1 := by show (b.bl ++ [x]).length = _; rw [List.length_append]; rfl
    rw [if_neg (by show ¬ isId b.nm = false; rw [a1]; decide), if_neg (by show ¬ namesE b.rg ≠ 0; rw [a2]; decide), if_neg (by show ¬ checkR b.ol b.rg.length ≠ 0; rw [a3]; decide), if_neg (by show ¬ chkT b.ty b.rg.length ≠ 0; rw [a4]; decide), if_neg (by show ¬ locE b ≠ 0; rw [a5]; decide), if_neg (by omega)]
  rw [h2, if_neg (fun k => k rfl)]
  exact bks_app b x hs hx ht b.bl h
theorem tm_unr (b : BdS) : tmE b unrB.tm = 0 := by
  unfold tmE
  rw [if_neg (by decide), if_neg (by decide), if_neg (by simp [unrB]), if_neg (by decide), if_neg (by decide), if_neg (by decide)]
theorem nodes_nop (b : BdS) : nodesT (wbl b ((nopD b).bl ++ [unrB])) = nodesT b + 4 * b.bl.length + 3 := by
  have h : ∀ l : List BkS, sm nBk (l.map nopB ++ [unrB]) = sm nBk l + 4 * l.length + 2 := fun l => by
    induction l with
    | nil => rfl
    | cons x l ih =>
      rw [List.map_cons, List.cons_append]
      show nBk (nopB x) + sm nBk (l.map nopB ++ [unrB]) = nBk x + sm nBk l + 4 * (l.length + 1) + 2
      rw [ih]
      have : nBk (nopB x) = 4 + nBk x := by
        unfold nBk
        show nSt nopS + sm nSt x.st + nTm x.tm = _
        have : nSt nopS = 4 := rfl
        omega
      omega
  unfold nodesT
  have e1 : (wbl b ((nopD b).bl ++ [unrB])).bl = b.bl.map nopB ++ [unrB] := rfl
  rw [e1, h, List.length_append, List.length_map]
  show 1 + b.rg.length + b.ol.length + b.lc.length + b.ty.length + (b.bl.length + 1) + sm (fun t => t.ar.length) b.ty + _ = _
  omega
def n0 (b : BdS) : Nat := 1 + b.rg.length + b.ol.length + b.lc.length + b.ty.length + b.bl.length
def n1 (b : BdS) (i : Nat) : Nat := n0 b + sm (fun t : TyS => t.ar.length) (b.ty.take i)
def n2 (b : BdS) (i : Nat) : Nat := n1 b b.ty.length + sm nBk (b.bl.take i)
def n3r (b : BdS) (i j : Nat) (st : List StS) : Nat := n2 b i + sm nSt (st.take j)
theorem n2_fin (b : BdS) : n2 b b.bl.length = nodesT b := by unfold n2 n1 n0 nodesT; rw [List.take_length, List.take_length]
theorem n2_le (b : BdS) (i : Nat) : n2 b i ≤ nodesT b := by
  have := sm_le nBk b.bl i
  unfold n2 n1 n0 nodesT; rw [List.take_length]; omega
theorem n1_le (b : BdS) (i : Nat) : n1 b i ≤ nodesT b := by
  have := sm_le (fun t : TyS => t.ar.length) b.ty i
  unfold n1 n0 nodesT; omega
theorem n1_succ {b : BdS} {i : Nat} (h : i < b.ty.length) : n1 b (i + 1) = n1 b i + b.ty[i].ar.length := by
  have := sm_take (f := fun t : TyS => t.ar.length) h
  unfold n1; omega
theorem n2_succ {b : BdS} {i : Nat} (h : i < b.bl.length) : n2 b (i + 1) = n2 b i + nBk b.bl[i] := by
  have := sm_take (f := nBk) h
  unfold n2; omega
theorem n3r_fin (b : BdS) (i : Nat) (x : BkS) : n3r b i x.st.length x.st + nTm x.tm = n2 b i + nBk x := by unfold n3r nBk; rw [List.take_length]; omega
theorem n3r_succ {b : BdS} {i j : Nat} {st : List StS} (h : j < st.length) : n3r b i (j + 1) st = n3r b i j st + nSt st[j] := by
  have := sm_take (f := nSt) h
  unfold n3r; omega
theorem n3r_le (b : BdS) (i j : Nat) (st : List StS) : n3r b i j st ≤ n2 b i + sm nSt st := by
  have := sm_le nSt st j
  unfold n3r; omega
def smB (b : BdS) : Prop := smL b ∧ b.ol.length ≤ 1000000 ∧ b.ty.length ≤ 1000000 ∧ (∀ x ∈ b.bl, smBk x) ∧ nodesT b ≤ 1000000
theorem sm_lenle {α : Type} {f : α → Nat} (hf : ∀ x, 1 ≤ f x) : ∀ l : List α, l.length ≤ sm f l
  | [] => Nat.zero_le _
  | x :: l => by
    have h1 := hf x
    have h2 := sm_lenle hf l
    simp only [sm, List.length_cons]; omega
theorem nOps_opz (l : List OpS) : nOps l = l.length + opz l := by
  unfold nOps opz
  rw [sm_add]
  have : sm (fun _ : OpS => 2) l = 2 * l.length := by
    have h := sm_mul (fun _ : OpS => 1) 2 l
    rw [sm_len] at h
    exact h
  omega
theorem nBk_szB (x : BkS) : nBk x ≤ 6 * szB x := by
  have h1 : sm nSt x.st ≤ 4 * x.st.length + 2 * sm szS x.st := by
    have e : sm nSt x.st ≤ sm (fun s => 4 * 1 + 2 * szS s) x.st := sm_mono fun s _ => by
      have := nOps_opz s.rv.ar
      have h2 : s.rv.ar.length ≤ opz s.rv.ar := by unfold opz; omega
      unfold nSt szS; omega
    rw [sm_add, sm_mul, sm_len, sm_mul] at e
    exact e
  have h2 := nOps_opz x.tm.ar
  have h3 : x.tm.ar.length ≤ opz x.tm.ar := by unfold opz; omega
  unfold nBk nTm szB; omega
theorem tot_eq (b : BdS) : tot b = b.nm.size + b.ol.length + sm (fun s : ByteArray => 1 + s.size) b.rg + sm (fun t : TyS => 1 + t.ar.length) b.ty + sm (fun l : LcS => 1 + l.nm.size) b.lc + sm szB b.bl := by
  unfold tot t4 t3 t2 t1; rw [List.take_length, List.take_length, List.take_length, List.take_length]
theorem smO_of {l : List OpS} (h : opz l ≤ 3000) : smO l := by
  refine ⟨by unfold opz at h; omega, fun o ho => ?_⟩
  have := sm_mem (f := fun o : OpS => o.pl.pr.length) ho
  unfold opz at h; unfold smP; omega
theorem smB_of {b : BdS} (h : tot b ≤ 3000) : (smL b ∧ b.ol.length ≤ 3000 ∧ b.ty.length ≤ 3000 ∧ b.bl.length ≤ 3000 ∧ (∀ x ∈ b.bl, smBk x ∧ x.st.length ≤ 3000 ∧ nBk x ≤ 18000) ∧ nodesT b ≤ 50000) := by
  rw [tot_eq] at h
  have r1 := sm_lenle (f := fun s : ByteArray => 1 + s.size) (fun x => by omega) b.rg
  have r2 := sm_lenle (f := fun t : TyS => 1 + t.ar.length) (fun x => by omega) b.ty
  have r3 := sm_lenle (f := fun l : LcS => 1 + l.nm.size) (fun x => by omega) b.lc
  have r4 := sm_lenle (f := szB) (fun x => by unfold szB; omega) b.bl
  have r5 : sm nBk b.bl ≤ 6 * sm szB b.bl := by
    have e : sm nBk b.bl ≤ sm (fun x => 6 * szB x) b.bl := sm_mono fun x _ => nBk_szB x
    rwa [sm_mul] at e
  have r6 : sm (fun t : TyS => t.ar.length) b.ty ≤ sm (fun t : TyS => 1 + t.ar.length) b.ty := sm_mono fun t _ => by omega
  refine ⟨⟨by omega, by omega, by omega⟩, by omega, by omega, by omega, fun x hx => ?_, by unfold nodesT; omega⟩
  have hz := sm_mem (f := szB) hx
  have hn := nBk_szB x
  have hs := fun s hs => sm_mem (f := szS) (x := s) (l := x.st) hs
  have ez : szB x = 1 + x.st.length + x.tm.tg.length + x.tm.pl.pr.length + x.tm.nm.size + sm szS x.st + opz x.tm.ar := rfl
  refine ⟨⟨by omega, fun s hm => ?_, by omega, smO_of (by omega), by unfold smP; omega, by omega⟩, by omega, by omega⟩
  have := hs s hm
  have es : szS s = s.pl.pr.length + s.rv.pl.pr.length + opz s.rv.ar := rfl
  exact ⟨by unfold smP; omega, by unfold smP; omega, smO_of (by omega)⟩
theorem smB_b {b : BdS} (h : tot b ≤ 3000) : smB b := by
  obtain ⟨h1, h2, h3, h4, h5, h6⟩ := smB_of h
  exact ⟨h1, by omega, by omega, fun x hx => (h5 x hx).1, by omega⟩
theorem smB_nop {b : BdS} (h : tot b ≤ 3000) (hn : nodesT (wbl b ((nopD b).bl ++ [unrB])) = nodesT b + 4 * b.bl.length + 3) : smB (wbl b ((nopD b).bl ++ [unrB])) := by
  obtain ⟨h1, h2, h3, h4, h5, h6⟩ := smB_of h
  obtain ⟨g1, g2, g3⟩ := h1
  refine ⟨⟨g1, g2, ?_⟩, by show b.ol.length ≤ _; omega, by show b.ty.length ≤ _; omega, fun x hx => ?_, by rw [hn]; omega⟩
  · show ((nopD b).bl ++ [unrB]).length ≤ _
    have e : (nopD b).bl.length = b.bl.length := List.length_map _
    rw [List.length_append, e]; show _ + 1 ≤ _; omega
  · rcases List.mem_append.1 (show x ∈ b.bl.map nopB ++ [unrB] from hx) with hx | hx
    · obtain ⟨y, hy, rfl⟩ := List.mem_map.1 hx
      obtain ⟨⟨k1, k2, k3, k4, k5, k6⟩, k7, k8⟩ := h5 y hy
      have e : nBk (nopB y) = 4 + nBk y := by
        unfold nBk
        show nSt nopS + sm nSt y.st + nTm y.tm = _
        have : nSt nopS = 4 := rfl
        omega
      refine ⟨by show y.st.length + 1 ≤ _; omega, fun s hs => ?_, k3, k4, k5, by rw [e]; omega⟩
      rcases List.mem_cons.1 (show s ∈ nopS :: y.st from hs) with rfl | hs
      · exact ⟨by unfold smP; decide, by unfold smP; decide, by decide, fun o ho => by simp [nopS] at ho⟩
      · exact k2 s hs
    · have : x = unrB := by simpa using hx
      subst this
      exact ⟨Nat.zero_le _, fun s hs => by simp [unrB] at hs, Nat.zero_le _, ⟨Nat.zero_le _, fun o ho => by simp [unrB] at ho⟩, Nat.zero_le _, by decide⟩
theorem kplace_N (p : PlS) (H : Heap) (hp : smP p) : Does Tryz.prog 43 [.agg (plD p)] H fun d H' => d = i64 ((1 + p.pr.length : Nat) : Int) ∧ H = H' := by
  unfold smP at hp
  have hll : (List.map pD p.pr).length = p.pr.length := List.length_map _
  have w1 : IntKind.i64.wrap (1 + (p.pr.length : Int)) = ((1 + p.pr.length : Nat) : Int) := by rw [wrap_i64_of (by omega)]; omega
  refine does_of _ _ Tryz.func43 rfl rfl Tryz.ntmps43 Tryz.results43 (by simp only [List.length_cons, List.length_nil]; omega) fun w0 g0 Q hret => ?_
  refine tq (cj2 @i64.eq_1 @plD.eq_1) ?_; intro Nx hNx Gx hGx
  intro c1 hc1
  refine hNx _ ?_
  refine frz 1 hc1 ?_
  refine tq (cj3 @i64.eq_1 hll w1) ?_; intro Nx hNx Gx hGx
  refine rt hret @i64.eq_1 ?_
  exact ⟨_, Heap.le_refl _, rfl⟩
set_option maxHeartbeats 1000000 in
theorem kopsn_N (l : List OpS) (H : Heap) (hs : smO l) (hn : nOps l ≤ 1000000000) : Does Tryz.prog 44 [.seq 4 (l.map opD)] H fun d H' => d = i64 (nOps l) ∧ H = H' := by
  obtain ⟨hl, hlx⟩ := hs
  have hll : (List.map opD l).length = l.length := List.length_map _
  refine does_of _ _ Tryz.func44 rfl rfl Tryz.ntmps44 Tryz.results44 (by simp only [List.length_cons, List.length_nil]; omega) fun w0 g0 Q hret => ?_
  refine tq @i64.eq_1 ?_; intro Nx hNx Gx hGx
  refine W_loopN l.length (fun i s => s.df = [] ∧ s.fr 0 = .seq 4 (l.map opD) ∧ s.fr 3 = i64 (nOps (l.take i)) ∧ s.fr 4 = i64 i ∧ s.H = H) ⟨rfl, rfl, rfl, rfl, rfl⟩ ?_
  rintro i s hi ⟨hdf, f0, f3, f4, hH⟩
  have hx : (i : Int).toNat = i := Int.toNat_natCast _
  have h00 : (0 : Int) ≤ (i : Int) := Int.natCast_nonneg _
  by_cases hil : i < l.length
  case neg =>
    have p1 : ((i : Int) < (l.length : Int)) = False := eq_false (by omega)
    rw [List.take_of_length_le (by omega)] at f3
    refine tq (cj6 f0 f3 f4 @i64.eq_1 p1 hll) ?_; intro Nx hNx Gx hGx
    refine rt hret hdf ?_
    exact ⟨_, Heap.le_refl _, rfl, hH.symm⟩
  have p1 : ((i : Int) < (l.length : Int)) = True := eq_true (by omega)
  have hgi := map_get (f := opD) hil
  have w3 : IntKind.i64.wrap ((i : Int) + 1) = ((i + 1 : Nat) : Int) := by rw [wrap_i64_of (by omega)]; omega
  have hsp := hlx l[i] (List.getElem_mem hil)
  have htk : nOps (l.take (i + 1)) = nOps (l.take i) + (2 + l[i].pl.pr.length) := sm_take hil
  have htl : nOps (l.take (i + 1)) ≤ nOps l := sm_le _ _ _
  obtain ⟨x, hxe⟩ : ∃ x, x = l[i] := ⟨_, rfl⟩
  rw [← hxe] at hgi hsp htk
  simp only [opD] at hgi
  have hsp' := hsp
  unfold smP at hsp'
  have w4 : IntKind.i64.wrap (1 + ((1 + x.pl.pr.length : Nat) : Int)) = ((2 + x.pl.pr.length : Nat) : Int) := by rw [wrap_i64_of (by omega)]; omega
  have w5 : IntKind.i64.wrap ((nOps (l.take i) : Int) + ((2 + x.pl.pr.length : Nat) : Int)) = (nOps (l.take (i + 1)) : Int) := by rw [wrap_i64_of (by omega)]; omega
  refine tq (cj10 f0 f3 f4 @i64.eq_1 p1 hll hgi hx h00 hil) ?_; intro Nx hNx Gx hGx
  refine (kplace_N x.pl _ hsp).mono ?_
  rintro d _ ⟨rfl, rfl⟩
  refine tq (cj6 f3 f4 @i64.eq_1 w3 w4 w5) ?_; intro Nx hNx Gx hGx
  exact ⟨hil, hdf, f0, rfl, rfl, hH⟩
set_option maxHeartbeats 2000000 in
theorem knodes_N (b : BdS) (H : Heap) (hs : smB b) : Does Tryz.prog 21 [.agg (bdD b)] H fun d H' => d = i64 (nodesT b) ∧ H = H' := by
  refine Does.frz (K := fun d => d = i64 (nodesT b)) ?_
  obtain ⟨⟨hrg, hlc, hbl⟩, hol, hty, hbx, hN⟩ := hs
  have lrg : (List.map sD b.rg).length = b.rg.length := List.length_map _
  have lol : (List.map pD b.ol).length = b.ol.length := List.length_map _
  have llc : (List.map lcD b.lc).length = b.lc.length := List.length_map _
  have lty : (List.map tyD b.ty).length = b.ty.length := List.length_map _
  have lbl : (List.map bkD b.bl).length = b.bl.length := List.length_map _
  have h0N : n0 b ≤ nodesT b := by unfold n0 nodesT; omega
  have e0 : n0 b = 1 + b.rg.length + b.ol.length + b.lc.length + b.bl.length + b.ty.length := by unfold n0; omega
  have s0 : IntKind.i64.wrap ((1 : Int) + (b.rg.length : Int)) = ((1 + b.rg.length : Nat) : Int) := by rw [wrap_i64_of (by omega)]; omega
  have s1 : IntKind.i64.wrap (((1 + b.rg.length : Nat) : Int) + (b.ol.length : Int)) = ((1 + b.rg.length + b.ol.length : Nat) : Int) := by rw [wrap_i64_of (by omega)]; omega
  have s2 : IntKind.i64.wrap (((1 + b.rg.length + b.ol.length : Nat) : Int) + (b.lc.length : Int)) = ((1 + b.rg.length + b.ol.length + b.lc.length : Nat) : Int) := by rw [wrap_i64_of (by omega)]; omega
  have s3 : IntKind.i64.wrap (((1 + b.rg.length + b.ol.length + b.lc.length : Nat) : Int) + (b.bl.length : Int)) = ((1 + b.rg.length + b.ol.length + b.lc.length + b.bl.length : Nat) : Int) := by rw [wrap_i64_of (by omega)]; omega
  have s4 : IntKind.i64.wrap (((1 + b.rg.length + b.ol.length + b.lc.length + b.bl.length : Nat) : Int) + (b.ty.length : Int)) = ((1 + b.rg.length + b.ol.length + b.lc.length + b.bl.length + b.ty.length : Nat) : Int) := by rw [wrap_i64_of (by omega)]; omega
  rw [← e0] at s4
  refine does_of _ _ Tryz.func21 rfl rfl Tryz.ntmps21 Tryz.results21 (by simp only [List.length_cons, List.length_nil]; omega) fun w0 g0 Q hret => ?_
  refine tq (cj2 @i64.eq_1 @bdD.eq_1) ?_; intro Nx hNx Gx hGx
  intro c1 hc1
  refine hNx _ ?_
  refine frz 1 hc1 ?_
  refine tq (cj11 @i64.eq_1 lrg lol llc lty lbl s0 s1 s2 s3 s4) ?_; intro Nx hNx Gx hGx
  refine W_loopN b.ty.length (fun i s => s.df = [] ∧ s.fr 1 = .rp (bdD b) ∧ s.fr 4 = i64 i ∧ s.fr 3 = i64 (n1 b i) ∧ H.le s.H) ⟨rfl, rfl, rfl, rfl, Heap.le_refl _⟩ ?_
  rintro i s hi ⟨hdf, f1, f4, f3, hle⟩
  have hx : (i : Int).toNat = i := Int.toNat_natCast _
  have h00 : (0 : Int) ≤ (i : Int) := Int.natCast_nonneg _
  have w3 : IntKind.i64.wrap ((i : Int) + 1) = ((i + 1 : Nat) : Int) := by rw [wrap_i64_of (by omega)]; omega
  have f1' := f1
  simp only [bdD] at f1
  by_cases hil : i < b.ty.length
  case pos =>
    have p1 : ((i : Int) < (b.ty.length : Int)) = True := eq_true (by omega)
    have hgi := map_get (f := tyD) hil
    have hsu := n1_succ hil
    have hsl := n1_le b (i + 1)
    obtain ⟨x, hxe⟩ : ∃ x, x = b.ty[i] := ⟨_, rfl⟩
    rw [← hxe] at hgi hsu
    simp only [tyD] at hgi
    have hlx : (List.map iD x.ar).length = x.ar.length := List.length_map _
    have w4 : IntKind.i64.wrap ((n1 b i : Int) + (x.ar.length : Int)) = ((n1 b (i + 1) : Nat) : Int) := by rw [wrap_i64_of (by omega)]; omega
    refine tq (cj13 f1 f3 f4 @i64.eq_1 p1 hgi hx h00 hil lty hlx w3 w4) ?_; intro Nx hNx Gx hGx
    exact ⟨hil, hdf, f1', rfl, rfl, hle⟩
  have p1 : ((i : Int) < (b.ty.length : Int)) = False := eq_false (by omega)
  have ei : i = b.ty.length := by omega
  subst ei
  refine tq (cj6 f1 f3 f4 @i64.eq_1 p1 lty) ?_; intro Nx hNx Gx hGx
  clear hx h00 w3
  refine W_loopN b.bl.length (fun i s => s.df = [] ∧ s.fr 1 = .rp (bdD b) ∧ s.fr 5 = i64 i ∧ s.fr 3 = i64 (n2 b i) ∧ H.le s.H) ⟨hdf, f1', rfl, f3, hle⟩ ?_
  clear hle f3 f4 f1 f1' hdf p1 hil
  rintro i s hib ⟨hdf, f1, f5, f3, hle⟩
  have hx : (i : Int).toNat = i := Int.toNat_natCast _
  have h00 : (0 : Int) ≤ (i : Int) := Int.natCast_nonneg _
  have w3 : IntKind.i64.wrap ((i : Int) + 1) = ((i + 1 : Nat) : Int) := by rw [wrap_i64_of (by omega)]; omega
  have f1' := f1
  simp only [bdD] at f1
  by_cases hil : i < b.bl.length
  case neg =>
    have p1 : ((i : Int) < (b.bl.length : Int)) = False := eq_false (by omega)
    have e : i = b.bl.length := by omega
    subst e
    rw [n2_fin] at f3
    refine tq (cj6 f1 f3 f5 @i64.eq_1 p1 lbl) ?_; intro Nx hNx Gx hGx
    refine rt hret hdf ?_
    exact ⟨_, Heap.le_refl _, hle, _, frz_refl hle, rfl⟩
  have p1 : ((i : Int) < (b.bl.length : Int)) = True := eq_true (by omega)
  have hgi := map_get (f := bkD) hil
  have hsu := n2_succ hil
  have hsl := n2_le b (i + 1)
  have hsx := hbx b.bl[i] (List.getElem_mem hil)
  obtain ⟨x, hxe⟩ : ∃ x, x = b.bl[i] := ⟨_, rfl⟩
  rw [← hxe] at hgi hsu hsx
  simp only [bkD] at hgi
  have hst : (List.map stD x.st).length = x.st.length := List.length_map _
  refine tq (cj10 f1 f3 f5 @i64.eq_1 p1 hgi hx h00 hil lbl) ?_; intro Nx hNx Gx hGx
  have hnb : nBk x = sm nSt x.st + nTm x.tm := rfl
  refine W_loopN x.st.length (fun j s => s.df = [] ∧ s.fr 1 = .rp (bdD b) ∧ s.fr 5 = i64 i ∧ s.fr 6 = .seq 11 (x.st.map stD) ∧ s.fr 7 = i64 j ∧ s.fr 3 = i64 (n3r b i j x.st) ∧ H.le s.H) ⟨hdf, f1', f5, rfl, rfl, f3, hle⟩ ?_
  clear f1 f1' f5 f3 hle hdf
  rintro j s hj ⟨hdf, f1, f5, f6, f7, f3, hle⟩
  have hx2 : (j : Int).toNat = j := Int.toNat_natCast _
  have h002 : (0 : Int) ≤ (j : Int) := Int.natCast_nonneg _
  have v3 : IntKind.i64.wrap ((j : Int) + 1) = ((j + 1 : Nat) : Int) := by rw [wrap_i64_of (by have := hsx.1; omega)]; omega
  by_cases hjl : j < x.st.length
  case pos =>
    have p2 : ((j : Int) < (x.st.length : Int)) = True := eq_true (by omega)
    have hgj := map_get (f := stD) hjl
    have hsj := n3r_succ (b := b) (i := i) hjl
    have hsjl := n3r_le b i (j + 1) x.st
    have hsy := hsx.2.1 x.st[j] (List.getElem_mem hjl)
    obtain ⟨y, hye⟩ : ∃ y, y = x.st[j] := ⟨_, rfl⟩
    rw [← hye] at hgj hsj hsy
    simp only [stD] at hgj
    have hn : nSt y = 4 + y.pl.pr.length + y.rv.pl.pr.length + nOps y.rv.ar := rfl
    have v4 : IntKind.i64.wrap (1 + ((1 + y.pl.pr.length : Nat) : Int)) = ((2 + y.pl.pr.length : Nat) : Int) := by rw [wrap_i64_of (by omega)]; omega
    have v5 : IntKind.i64.wrap (((2 + y.pl.pr.length : Nat) : Int) + 1) = ((3 + y.pl.pr.length : Nat) : Int) := by rw [wrap_i64_of (by omega)]; omega
    have v6 : IntKind.i64.wrap (((3 + y.pl.pr.length : Nat) : Int) + ((1 + y.rv.pl.pr.length : Nat) : Int)) = ((4 + y.pl.pr.length + y.rv.pl.pr.length : Nat) : Int) := by rw [wrap_i64_of (by omega)]; omega
    have v7 : IntKind.i64.wrap (((4 + y.pl.pr.length + y.rv.pl.pr.length : Nat) : Int) + (nOps y.rv.ar : Int)) = (nSt y : Int) := by rw [wrap_i64_of (by omega)]; omega
    have v8 : IntKind.i64.wrap ((n3r b i j x.st : Int) + (nSt y : Int)) = (n3r b i (j + 1) x.st : Int) := by rw [wrap_i64_of (by omega)]; omega
    refine tq (cj6 f3 f6 f7 @i64.eq_1 p2 hst) ?_; intro Nx hNx Gx hGx
    refine W_drawE (fun t _ d A => A = .none ∧ d = (if t = some 70 then i64 ((1 + y.pl.pr.length : Nat) : Int) else if t = some 79 then i64 ((1 + y.rv.pl.pr.length : Nat) : Int) else if t = some 87 then i64 (nOps y.rv.ar) else d)) (by kernel_rfl) (by kernel_rfl) (by kernel_rfl) fun Nx hNx => ?_; refine dst (cj14 f3 f6 f7 @i64.eq_1 hst hgj hx2 h002 hjl v4 v5 v6 v7 v8) ?_; intro Nx hNx Gx hGx
    refine ⟨callOK_eq fun H'' hle'' => (kplace_N y.pl _ hsy.1).mono fun d H' h => h, callOK_eq fun H'' hle'' => (kplace_N y.rv.pl _ hsy.2.1).mono fun d H' h => h, callOK_eq fun H'' hle'' => (kopsn_N y.rv.ar _ hsy.2.2 (by omega)).mono fun d H' h => h, ?_⟩
    (first | refine hGx _ ?_ | refine hNx _ ?_ | skip)
    refine tq (cj4 f3 f7 @i64.eq_1 v3) ?_; intro Nx hNx Gx hGx
    exact ⟨hjl, hdf, f1, f5, f6, rfl, rfl, hle⟩
  have p2 : ((j : Int) < (x.st.length : Int)) = False := eq_false (by omega)
  have ej : j = x.st.length := by omega
  subst ej
  have htg : (List.map iD x.tm.tg).length = x.tm.tg.length := List.length_map _
  have e3 := n3r_fin b i x
  have hT : nTm x.tm = 2 + x.tm.tg.length + nOps x.tm.ar + x.tm.pl.pr.length := rfl
  have u1 : IntKind.i64.wrap (1 + (x.tm.tg.length : Int)) = ((1 + x.tm.tg.length : Nat) : Int) := by rw [wrap_i64_of (by omega)]; omega
  have u2 : IntKind.i64.wrap (((1 + x.tm.tg.length : Nat) : Int) + (nOps x.tm.ar : Int)) = ((1 + x.tm.tg.length + nOps x.tm.ar : Nat) : Int) := by rw [wrap_i64_of (by omega)]; omega
  have u3 : IntKind.i64.wrap (((1 + x.tm.tg.length + nOps x.tm.ar : Nat) : Int) + ((1 + x.tm.pl.pr.length : Nat) : Int)) = ((nTm x.tm : Nat) : Int) := by rw [wrap_i64_of (by omega)]; omega
  have u4 : IntKind.i64.wrap ((n3r b i x.st.length x.st : Int) + (nTm x.tm : Int)) = ((n2 b (i + 1) : Nat) : Int) := by rw [wrap_i64_of (by omega)]; omega
  have f1' := f1
  simp only [bdD] at f1
  refine tq (cj13 f1 f3 f5 f6 f7 @i64.eq_1 p2 hst hgi hx h00 hil lbl) ?_; intro Nx hNx Gx hGx
  intro c8 hc8
  refine hNx _ ?_
  refine frz 8 hc8 ?_
  refine tq (cj2 f3 @i64.eq_1) ?_; intro Nx hNx Gx hGx
  refine W_drawE (fun t _ d A => A = .none ∧ d = (if t = some 103 then i64 (nOps x.tm.ar) else if t = some 107 then i64 ((1 + x.tm.pl.pr.length : Nat) : Int) else d)) (by kernel_rfl) (by kernel_rfl) (by kernel_rfl) fun Nx hNx => ?_; refine dst (cj7 f3 @i64.eq_1 htg u1 u2 u3 u4) ?_; intro Nx hNx Gx hGx
  refine ⟨callOK_eq fun H'' hle'' => (kopsn_N x.tm.ar _ hsx.2.2.2.1 (by omega)).mono fun d H' h => h, callOK_eq fun H'' hle'' => (kplace_N x.tm.pl _ hsx.2.2.2.2.1).mono fun d H' h => h, ?_⟩
  (first | refine hGx _ ?_ | refine hNx _ ?_ | skip)
  refine tq (cj3 f5 @i64.eq_1 w3) ?_; intro Nx hNx Gx hGx
  exact ⟨hil, hdf, f1', rfl, rfl, hle⟩
end Go.Proofs.YtgfhgeelfaalmaaGreatDoor
