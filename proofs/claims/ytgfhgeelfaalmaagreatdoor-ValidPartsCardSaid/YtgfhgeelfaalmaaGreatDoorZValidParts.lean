/- The walk of the law ValidParts. -/
import Derived.Test.YtgfhgeelfaalmaaGreatDoorK34
import Derived.Test.YtgfhgeelfaalmaaGreatDoorK36
import Derived.Test.YtgfhgeelfaalmaaGreatDoorK28
import Derived.Test.YtgfhgeelfaalmaaGreatDoorK35
/- Chapter 10: a body is valid exactly if its parts are. -/
namespace Go.Proofs.YtgfhgeelfaalmaaGreatDoor
open Go.RowKit
set_option maxRecDepth 100000
set_option linter.unusedVariables false
set_option linter.unusedSimpArgs false
noncomputable def okS (b : BdS) (l : List StS) : Bool := l.all fun s => decide (stE b s = 0)
noncomputable def okB (b : BdS) (l : List BkS) : Bool := l.all fun x => okS b x.st && decide (tmE b x.tm = 0)
theorem stsE_zero (b : BdS) : ∀ l : List StS, stsE b l = 0 ↔ okS b l = true
  | [] => by simp [stsE, okS]
  | s :: l => by
    have h1 : okS b (s :: l) = (decide (stE b s = 0) && okS b l) := rfl
    rw [h1, stsE]
    by_cases h : stE b s = 0
    · rw [if_neg (fun k => k h), decide_eq_true h, Bool.true_and]; exact stsE_zero b l
    · rw [if_pos h, decide_eq_false h, Bool.false_and]; exact ⟨fun k => absurd k h, fun k => by cases k⟩
theorem bksE_zero (b : BdS) : ∀ l : List BkS, (∀ x ∈ l, x.st.length ≤ 65535) → (bksE b l = 0 ↔ okB b l = true)
  | [], _ => by simp [bksE, okB]
  | x :: l, hl => by
    have h1 : okB b (x :: l) = ((okS b x.st && decide (tmE b x.tm = 0)) && okB b l) := rfl
    have h2 := hl x (by simp)
    rw [h1, bksE, if_neg (by omega)]
    by_cases h : stsE b x.st = 0
    · rw [if_neg (fun k => k h), (stsE_zero b _).1 h, Bool.true_and]
      by_cases h3 : tmE b x.tm = 0
      · rw [if_neg (fun k => k h3), decide_eq_true h3, Bool.true_and]; exact bksE_zero b l fun y hy => hl y (List.mem_cons_of_mem _ hy)
      · rw [if_pos h3, decide_eq_false h3, Bool.false_and]; exact ⟨fun k => absurd k h3, fun k => by cases k⟩
    · rw [if_pos h]
      have h4 : okS b x.st = false := by cases h5 : okS b x.st; rfl; exact absurd ((stsE_zero b _).2 h5) h
      rw [h4, Bool.false_and, Bool.false_and]; exact ⟨fun k => absurd k h, fun k => by cases k⟩
/-- A valid assignment of one operand has one valid operand. -/
theorem use_ok {b : BdS} {s : StS} (h : stE b s = 0) (hk : s.k = 0) (hr : s.rv.k = 0) : ∃ o, s.rv.ar = [o] ∧ opE b o = 0 := by
  unfold stE at h
  rw [if_pos hk] at h
  by_cases h1 : s.lo ≠ 0
  · rw [if_pos h1] at h; cases h
  rw [if_neg h1] at h
  by_cases h2 : wrtE b s.pl ≠ 0
  · rw [if_pos h2] at h; exact absurd h h2
  rw [if_neg h2] at h
  unfold rvE at h
  rw [if_neg (by omega)] at h
  by_cases h3 : shpE s.rv = false
  · rw [if_pos h3] at h; cases h
  rw [if_neg h3, if_pos hr] at h
  have h4 : shpE s.rv = true := by cases h5 : shpE s.rv; exact absurd h5 h3; rfl
  obtain ⟨o, ho⟩ := List.length_eq_one_iff.1 (shp_len h4 hr)
  rw [ho] at h
  have h6 := opsE_all (opsE_nil h)
  exact ⟨o, ho, h6 o (by simp)⟩
theorem st_small {b : BdS} (sm : Sm b) : ∀ x ∈ b.bl, x.st.length ≤ 65535 := fun x hx => by
  have h := sm.tt
  rw [tot_is] at h
  have h2 := sm_mem (f := szB) hx
  have h3 : x.st.length ≤ szB x := by unfold szB; omega
  omega
set_option maxHeartbeats 2000000 in
theorem lparts_N (b : BdS) (ok : okBd b) : Does Tryz.prog 7 [.agg (bdD b)] .none fun d _ => d = .val (.bool true) := by
  have hsk := skip10_N b .none ok
  have hde := fun sm => kdecl_N b .none (sb_of ok sm)
  have hckN : Sm b → decE b = 0 → ∀ H1, Does Tryz.prog 11 [.agg (bdD b)] H1 fun d H' => d = i64 (chkE b) ∧ H1 = H' := fun sm hd H1 => check10_N b H1 (sb_of ok sm) (ck_of ok sm)
  have hsN : Sm b → decE b = 0 → ∀ s, okSt s → ∀ H1, Does Tryz.prog 17 [.agg (bdD b), .agg (stD s)] H1 fun d H' => d = i64 (stE b s) ∧ H1 = H' := fun sm hd s hs H1 => stmt10_N b s H1 (ck_of ok sm hd) hd hs
  have htN : Sm b → decE b = 0 → ∀ t, okTm t → big t.nm.size → ∀ H1, Does Tryz.prog 19 [.agg (bdD b), .agg (tmD t)] H1 fun d H' => d = i64 (tmE b t) ∧ H1 = H' := fun sm hd t ht hn H1 => term10_N b t H1 (ck_of ok sm hd) hd ht hn
  have hoN : Sm b → decE b = 0 → ∀ o, okOp o → ∀ H1, Does Tryz.prog 14 [.agg (bdD b), .agg (opD o)] H1 fun d H' => d = i64 (opE b o) ∧ H1 = H' := fun sm hd o ho H1 => operand10_N b o H1 (ck_of ok sm hd) hd ho
  have hchk : Sm b → decE b = 0 → (chkE b = 0 ↔ okB b b.bl = true) := fun sm hd => by
    unfold chkE
    rw [if_neg (fun h => h hd)]
    exact bksE_zero b b.bl (st_small sm)
  have hsb := fun sm => (sb_of ok sm).ts
  obtain ⟨o1, o2, ⟨o3, o4⟩, o5, o6, o7⟩ := ok
  have hmb : (List.map bkD b.bl).length = b.bl.length := List.length_map _
  unfold big at o6
  rw [bdD_eq] at hsk hde hckN hsN htN hoN ⊢
  refine does_of _ _ Tryz.func7 rfl rfl Tryz.ntmps7 Tryz.results7 (by simp only [List.length_cons, List.length_nil]; omega) fun w0 g0 Q hret => ?_
  refine tq @i64.eq_1 ?_; intro Nx hNx Gx hGx
  intro c1 hc1
  refine hNx _ ?_
  refine frz 1 hc1 ?_
  refine tq @i64.eq_1 ?_; intro Nx hNx Gx hGx
  refine hsk.mono ?_
  rintro d _ ⟨hd, rfl⟩
  rcases hd with rfl | ⟨rfl, sm⟩
  · refine tq @i64.eq_1 ?_; intro Nx hNx Gx hGx
    refine (alive10_at _).mono ?_; rintro d _ ⟨rfl, rfl⟩; refine tq @i64.eq_1 ?_; intro Nx hNx Gx hGx; refine rt hret @i64.eq_1 ?_; exact ⟨_, Heap.le_refl _⟩
  refine tq @i64.eq_1 ?_; intro Nx hNx Gx hGx
  refine (hde sm).mono ?_
  rintro d _ ⟨rfl, rfl⟩
  by_cases h2 : decE b = 0
  case neg =>
    have q2 : (decE b = 0) = False := eq_false h2
    refine tq (cj2 @i64.eq_1 q2) ?_; intro Nx hNx Gx hGx
    refine (alive10_at _).mono ?_; rintro d _ ⟨rfl, rfl⟩; refine tq @i64.eq_1 ?_; intro Nx hNx Gx hGx; refine rt hret @i64.eq_1 ?_; exact ⟨_, Heap.le_refl _⟩
  have q2 : (decE b = 0) = True := eq_true h2
  have hckN := hckN sm h2
  have hsN := hsN sm h2
  have htN := htN sm h2
  have hoN := hoN sm h2
  have hchk := hchk sm h2
  have hsb := hsb sm
  refine tq (cj3 @i64.eq_1 q2 hmb) ?_; intro Nx hNx Gx hGx
  refine W_loopN b.bl.length (fun i s => s.df = [] ∧ s.fr 1 = .rp [strD b.nm, .seq 1 (b.rg.map sD), .seq 2 (b.ol.map pD), .seq 5 (b.ty.map tyD), .seq 2 (b.lc.map lcD), i64 b.ag, .seq 7 (b.bl.map bkD)] ∧ s.fr 3 = .val (.bool (okB b (b.bl.take i))) ∧ s.fr 18 = .seq 7 (b.bl.map bkD) ∧ s.fr 19 = i64 b.bl.length ∧ s.fr 20 = i64 i) ⟨rfl, rfl, rfl, rfl, rfl, rfl⟩ ?_
  rintro i s hi ⟨hdf, f1, f3, f18, f19, f20⟩
  have hx : (i : Int).toNat = i := Int.toNat_natCast _
  have h00 : (0 : Int) ≤ (i : Int) := Int.natCast_nonneg _
  by_cases hil : i < b.bl.length
  case neg =>
    have q6 : ((i : Int) < (b.bl.length : Int)) = False := eq_false (by omega)
    rw [List.take_of_length_le (by omega)] at f3
    by_cases h3 : chkE b = 0
    · have q3 : (chkE b = 0) = True := eq_true h3
      rw [hchk.1 h3] at f3
      refine tq (cj4 f19 f20 @i64.eq_1 q6) ?_; intro Nx hNx Gx hGx; refine (alive10_at _).mono ?_; rintro d _ ⟨rfl, rfl⟩; refine tq (cj3 f1 f3 @i64.eq_1) ?_; intro Nx hNx Gx hGx; refine (hckN _).mono ?_; rintro d _ ⟨rfl, rfl⟩; refine tq (cj3 f3 @i64.eq_1 q3) ?_; intro Nx hNx Gx hGx; refine rt hret hdf ?_; exact ⟨_, Heap.le_refl _⟩
    · have q3 : (chkE b = 0) = False := eq_false h3
      have h4 : okB b b.bl = false := by cases h5 : okB b b.bl; rfl; exact absurd (hchk.2 h5) h3
      rw [h4] at f3
      refine tq (cj4 f19 f20 @i64.eq_1 q6) ?_; intro Nx hNx Gx hGx; refine (alive10_at _).mono ?_; rintro d _ ⟨rfl, rfl⟩; refine tq (cj3 f1 f3 @i64.eq_1) ?_; intro Nx hNx Gx hGx; refine (hckN _).mono ?_; rintro d _ ⟨rfl, rfl⟩; refine tq (cj3 f3 @i64.eq_1 q3) ?_; intro Nx hNx Gx hGx; refine rt hret hdf ?_; exact ⟨_, Heap.le_refl _⟩
  have hil' : (i : Int) < (b.bl.length : Int) := by omega
  have q6 : ((i : Int) < (b.bl.length : Int)) = True := eq_true hil'
  have w3 : IntKind.i64.wrap ((i : Int) + 1) = ((i + 1 : Nat) : Int) := by rw [wrap_i64_of (by omega)]; omega
  have hgi := bk_get hil
  have hok := o7 b.bl[i] (List.getElem_mem hil)
  have hnm := hsb b.bl[i] (List.getElem_mem hil)
  have htk : okB b (b.bl.take (i + 1)) = (okB b (b.bl.take i) && (okS b b.bl[i].st && decide (tmE b b.bl[i].tm = 0))) := by
    rw [List.take_succ_eq_append_getElem hil]; unfold okB; rw [List.all_append, List.all_cons, List.all_nil, Bool.and_true]
  obtain ⟨x, hxx⟩ : ∃ x, x = b.bl[i] := ⟨_, rfl⟩
  rw [← hxx] at hgi hok hnm htk
  clear hxx
  obtain ⟨xs, xt⟩ := x
  obtain ⟨⟨hsl, hso⟩, hto⟩ := hok
  simp only at hsl hso hto hnm htk
  have hms : (List.map stD xs).length = xs.length := List.length_map _
  unfold big at hsl
  simp only [bkD] at hgi
  have htm := htN xt hto hnm
  simp only [tmD] at htm
  obtain ⟨P, hP⟩ : ∃ P, P = okB b (b.bl.take i) := ⟨_, rfl⟩
  rw [← hP] at f3 htk
  clear hP
  refine tq (cj11 f18 f19 f20 @i64.eq_1 hmb q6 hgi hx h00 hil hil') ?_; intro Nx hNx Gx hGx
  intro c5 hc5
  refine hNx _ ?_
  refine frz 5 hc5 ?_
  refine tq (cj2 @i64.eq_1 hms) ?_; intro Nx hNx Gx hGx
  refine W_loopN xs.length (fun j s2 => s2.df = [] ∧ s2.fr 1 = .rp [strD b.nm, .seq 1 (b.rg.map sD), .seq 2 (b.ol.map pD), .seq 5 (b.ty.map tyD), .seq 2 (b.lc.map lcD), i64 b.ag, .seq 7 (b.bl.map bkD)] ∧ s2.fr 3 = .val (.bool (P && okS b (xs.take j))) ∧ s2.fr 5 = .rp [.seq 11 (xs.map stD), i64 xt.k, .seq 1 (xt.tg.map iD), .seq 4 (xt.ar.map opD), i64 xt.pl.lo, .seq 2 (xt.pl.pr.map pD), strD xt.nm] ∧ s2.fr 18 = .seq 7 (b.bl.map bkD) ∧ s2.fr 19 = i64 b.bl.length ∧ s2.fr 20 = i64 i ∧ s2.fr 25 = .seq 11 (xs.map stD) ∧ s2.fr 26 = i64 xs.length ∧ s2.fr 27 = i64 j) ⟨hdf, f1, by rw [List.take_zero]; show s.fr 3 = _; rw [f3]; unfold okS; rw [List.all_nil, Bool.and_true], rfl, f18, f19, f20, rfl, rfl, rfl⟩ ?_
  clear hdf f1 f3 f18 f19 f20
  rintro j s2 hj ⟨hdf, f1, f3, f5, f18, f19, f20, f25, f26, f27⟩
  have hy0 : (j : Int).toNat = j := Int.toNat_natCast _
  have g00 : (0 : Int) ≤ (j : Int) := Int.natCast_nonneg _
  by_cases hjl : j < xs.length
  case neg =>
    have p6 : ((j : Int) < (xs.length : Int)) = False := eq_false (by omega)
    rw [List.take_of_length_le (by omega)] at f3
    obtain ⟨R, hR⟩ : ∃ R, R = (P && okS b xs) := ⟨_, rfl⟩
    rw [← hR] at f3
    have htk2 : okB b (b.bl.take (i + 1)) = (R && decide (tmE b xt = 0)) := by rw [htk, hR, Bool.and_assoc]
    cases R
    · refine tq (cj7 f3 f20 f26 f27 @i64.eq_1 p6 w3) ?_; intro Nx hNx Gx hGx
      exact ⟨hil, hdf, f1, by rw [htk2]; rfl, f18, f19, rfl⟩
    refine tq (cj7 f1 f3 f5 f26 f27 @i64.eq_1 p6) ?_; intro Nx hNx Gx hGx
    refine (htm _).mono ?_
    rintro d _ ⟨rfl, rfl⟩
    by_cases h3 : tmE b xt = 0
    · have q3 : (tmE b xt = 0) = True := eq_true h3
      refine tq (cj4 f20 @i64.eq_1 q3 w3) ?_; intro Nx hNx Gx hGx
      exact ⟨hil, hdf, f1, by rw [htk2, decide_eq_true h3]; rfl, f18, f19, rfl⟩
    · have q3 : (tmE b xt = 0) = False := eq_false h3
      refine tq (cj4 f20 @i64.eq_1 q3 w3) ?_; intro Nx hNx Gx hGx
      exact ⟨hil, hdf, f1, by rw [htk2, decide_eq_false h3]; rfl, f18, f19, rfl⟩
  have hjl' : (j : Int) < (xs.length : Int) := by omega
  have p6 : ((j : Int) < (xs.length : Int)) = True := eq_true hjl'
  have w4 : IntKind.i64.wrap ((j : Int) + 1) = ((j + 1 : Nat) : Int) := by rw [wrap_i64_of (by omega)]; omega
  have hgj := st_get hjl
  have hsk2 : okS b (xs.take (j + 1)) = (okS b (xs.take j) && decide (stE b xs[j] = 0)) := by
    rw [List.take_succ_eq_append_getElem hjl]; unfold okS; rw [List.all_append, List.all_cons, List.all_nil, Bool.and_true]
  have hsok := hso xs[j] (List.getElem_mem hjl)
  obtain ⟨v, hv⟩ : ∃ v, v = xs[j] := ⟨_, rfl⟩
  rw [← hv] at hgj hsk2 hsok
  clear hv
  have hst := hsN v hsok
  have hse : ∀ H1, CallOK Tryz.prog 17 [.agg [strD b.nm, .seq 1 (b.rg.map sD), .seq 2 (b.ol.map pD), .seq 5 (b.ty.map tyD), .seq 2 (b.lc.map lcD), i64 b.ag, .seq 7 (b.bl.map bkD)], .agg (stD v)] H1 fun d A => A = Heap.none ∧ d = i64 (stE b v) := fun H1 => callOK_eq fun H'' hle'' => hsN v hsok H''
  have huse : stE b v = 0 → v.k = 0 → v.rv.k = 0 → ∃ o, v.rv.ar = [o] ∧ opE b o = 0 := use_ok
  have hoo : ∀ o ∈ v.rv.ar, ∀ H1, CallOK Tryz.prog 14 [.agg [strD b.nm, .seq 1 (b.rg.map sD), .seq 2 (b.ol.map pD), .seq 5 (b.ty.map tyD), .seq 2 (b.lc.map lcD), i64 b.ag, .seq 7 (b.bl.map bkD)], .agg (opD o)] H1 fun d A => A = Heap.none ∧ d = i64 (opE b o) := fun o ho H1 => callOK_eq fun H'' hle'' => hoN o (hsok.2.2.2 o ho) H''
  obtain ⟨E, hE⟩ : ∃ E, E = stE b v := ⟨_, rfl⟩
  rw [← hE] at hst hse huse hsk2
  clear hE hsok
  obtain ⟨Q0, hQ0⟩ : ∃ Q0, Q0 = (P && okS b (xs.take j)) := ⟨_, rfl⟩
  have hnext : (P && okS b (xs.take (j + 1))) = (Q0 && decide (E = 0)) := by rw [hsk2, hQ0, Bool.and_assoc]
  rw [← hQ0] at f3
  clear hQ0 hsk2
  have hmv : (List.map opD v.rv.ar).length = v.rv.ar.length := List.length_map _
  obtain ⟨k, pl, ⟨rk, rop, rrg, rmu, rpl, rar⟩, lo⟩ := v
  simp only [stD] at hgj hst hse
  simp only at huse hoo hmv
  refine tq (cj11 f25 f26 f27 @i64.eq_1 hms p6 hgj hy0 g00 hjl hjl') ?_; intro Nx hNx Gx hGx
  intro c7 hc7
  refine hNx _ ?_
  refine frz 7 hc7 ?_
  refine W_seq ?_
  refine W_to (fun s3 => s3.df = [] ∧ s3.fr 1 = .rp [strD b.nm, .seq 1 (b.rg.map sD), .seq 2 (b.ol.map pD), .seq 5 (b.ty.map tyD), .seq 2 (b.lc.map lcD), i64 b.ag, .seq 7 (b.bl.map bkD)] ∧ s3.fr 3 = .val (.bool (Q0 && decide (E = 0))) ∧ s3.fr 5 = s2.fr 5 ∧ s3.fr 7 = .rp [i64 k, i64 pl.lo, .seq 2 (pl.pr.map pD), i64 rk, i64 rop, i64 rrg, .val (.bool rmu), i64 rpl.lo, .seq 2 (rpl.pr.map pD), .seq 4 (rar.map opD), i64 lo] ∧ s3.fr 18 = .seq 7 (b.bl.map bkD) ∧ s3.fr 19 = i64 b.bl.length ∧ s3.fr 20 = i64 i ∧ s3.fr 25 = .seq 11 (xs.map stD) ∧ s3.fr 26 = i64 xs.length ∧ s3.fr 27 = i64 j) ?_ ?_
  · cases Q0
    · refine tq (cj2 f3 @i64.eq_1) ?_; intro Nx hNx Gx hGx
      exact ⟨hdf, f1, rfl, rfl, rfl, f18, f19, f20, f25, f26, f27⟩
    refine tq (cj3 f1 f3 @i64.eq_1) ?_; intro Nx hNx Gx hGx
    refine (hst _).mono ?_
    rintro d _ ⟨rfl, rfl⟩
    by_cases h3 : E = 0
    · have q3 : (E = 0) = True := eq_true h3
      refine tq (cj2 @i64.eq_1 q3) ?_; intro Nx hNx Gx hGx
      exact ⟨hdf, f1, by rw [decide_eq_true h3]; rfl, rfl, rfl, f18, f19, f20, f25, f26, f27⟩
    · have q3 : (E = 0) = False := eq_false h3
      refine tq (cj2 @i64.eq_1 q3) ?_; intro Nx hNx Gx hGx
      exact ⟨hdf, f1, by rw [decide_eq_false h3]; rfl, rfl, rfl, f18, f19, f20, f25, f26, f27⟩
  clear hdf f1 f3 f18 f19 f20 f25 f26 f27
  rintro s3 ⟨hdf, f1, f3, f5', f7, f18, f19, f20, f25, f26, f27⟩
  rw [f5] at f5'
  rw [← hnext] at f3
  (try refine W_seq ?_)
  (try refine W_seq ?_)
  by_cases hk : k = 0
  case neg =>
    have k0 : (k = 0) = False := eq_false hk
    refine W_drawE (fun _ _ _ _ => False) (by kernel_rfl) (by kernel_rfl) (by kernel_rfl) fun Nx hNx => ?_; refine dst (cj4 f1 f7 @i64.eq_1 k0) ?_; intro Nx hNx Gx hGx
    refine tq (cj3 f27 @i64.eq_1 w4) ?_; intro Nx hNx Gx hGx
    exact ⟨hjl, hdf, f1, f3, f5', f18, f19, f20, f25, f26, rfl⟩
  have k0 : (k = 0) = True := eq_true hk
  by_cases hrk : rk = 0
  case neg =>
    have r0 : (rk = 0) = False := eq_false hrk
    refine W_drawE (fun _ _ _ _ => False) (by kernel_rfl) (by kernel_rfl) (by kernel_rfl) fun Nx hNx => ?_; refine dst (cj5 f1 f7 @i64.eq_1 k0 r0) ?_; intro Nx hNx Gx hGx
    refine tq (cj3 f27 @i64.eq_1 w4) ?_; intro Nx hNx Gx hGx
    exact ⟨hjl, hdf, f1, f3, f5', f18, f19, f20, f25, f26, rfl⟩
  have r0 : (rk = 0) = True := eq_true hrk
  by_cases hE : E = 0
  case neg =>
    have q3 : (E = 0) = False := eq_false hE
    refine W_drawE (fun _ _ d A => A = .none ∧ d = i64 E) (by kernel_rfl) (by kernel_rfl) (by kernel_rfl) fun Nx hNx => ?_; refine dst (cj6 f1 f7 @i64.eq_1 k0 r0 q3) ?_; intro Nx hNx Gx hGx
    refine ⟨hse _, ?_⟩
    (first | refine hGx _ ?_ | skip)
    (first | refine dst (cj6 f1 f7 @i64.eq_1 k0 r0 q3) ?_; intro Nx hNx Gx hGx | skip)
    refine tq (cj3 f27 @i64.eq_1 w4) ?_; intro Nx hNx Gx hGx
    exact ⟨hjl, hdf, f1, f3, f5', f18, f19, f20, f25, f26, rfl⟩
  have q3 : (E = 0) = True := eq_true hE
  obtain ⟨o, rfl, hoe⟩ := huse hE hk hrk
  have hoo := hoo o (by simp) s3.H
  rw [hoe] at hoo
  simp only [opD] at hoo
  have q0 : ((1 : Int) = 0) = False := eq_false (by decide)
  refine W_drawE (fun t _ d A => A = .none ∧ d = (if t = some 50 then i64 E else i64 0)) (by kernel_rfl) (by kernel_rfl) (by kernel_rfl) fun Nx hNx => ?_; refine dst (cj7 f1 f7 @i64.eq_1 k0 r0 q3 @opD.eq_1) ?_; intro Nx hNx Gx hGx
  refine ⟨hse _, ?_⟩
  (first | refine hGx _ ?_ | skip)
  (first | refine dst (cj7 f1 f7 @i64.eq_1 k0 r0 q3 @opD.eq_1) ?_; intro Nx hNx Gx hGx | skip)
  refine ⟨hoo, ?_⟩
  (first | refine hGx _ ?_ | skip)
  (first | refine dst (cj7 f1 f7 @i64.eq_1 k0 r0 q3 @opD.eq_1) ?_; intro Nx hNx Gx hGx | skip)
  refine tq (cj3 f27 @i64.eq_1 w4) ?_; intro Nx hNx Gx hGx
  exact ⟨hjl, hdf, f1, f3, f5', f18, f19, f20, f25, f26, rfl⟩
theorem ValidParts_walk (x0 : X) (v0 : Value) (w : World) (o0 : DT.ok (DT.struct [DT.string, DT.slice 1 16 (DT.string), DT.slice 2 16 (DT.array 2 (DT.int .i64)), DT.slice 5 56 (DT.struct [DT.int .i64, DT.bool, DT.int .i64, DT.int .i64, DT.slice 1 8 (DT.int .i64)]), DT.slice 2 24 (DT.struct [DT.string, DT.int .i64]), DT.int .i64, DT.slice 7 128 (DT.struct [DT.slice 11 136 (DT.struct [DT.int .i64, DT.struct [DT.int .i64, DT.slice 2 16 (DT.struct [DT.int .i64, DT.int .i64])], DT.struct [DT.int .i64, DT.int .i64, DT.int .i64, DT.bool, DT.struct [DT.int .i64, DT.slice 2 16 (DT.struct [DT.int .i64, DT.int .i64])], DT.slice 4 48 (DT.struct [DT.int .i64, DT.struct [DT.int .i64, DT.slice 2 16 (DT.struct [DT.int .i64, DT.int .i64])], DT.int .i64])], DT.int .i64]), DT.struct [DT.int .i64, DT.slice 1 8 (DT.int .i64), DT.slice 4 48 (DT.struct [DT.int .i64, DT.struct [DT.int .i64, DT.slice 2 16 (DT.struct [DT.int .i64, DT.int .i64])], DT.int .i64]), DT.struct [DT.int .i64, DT.slice 2 16 (DT.struct [DT.int .i64, DT.int .i64])], DT.string]])]) x0) (i0 : D.is w Heap.none.others x0.d v0) (hG : GOk w Heap.none) :
    Calls Tryz.prog 7 #[v0] w fun e w' => e = .returned (.bool true) ∧ Below w.heap.size w w' := by
  obtain ⟨a, ha, hoka⟩ := ok_body o0
  rw [ha] at i0
  exact walk_of (lparts_N a hoka) ⟨_, _, rfl, i0, rfl⟩ hG
end Go.Proofs.YtgfhgeelfaalmaaGreatDoor
