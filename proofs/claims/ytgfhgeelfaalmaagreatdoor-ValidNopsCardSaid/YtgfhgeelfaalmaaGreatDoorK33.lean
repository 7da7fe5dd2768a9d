/- Lemmas and contracts of functions, several texts in one: GG GH. -/
import Derived.Test.YtgfhgeelfaalmaaGreatDoorK31
import Derived.Test.YtgfhgeelfaalmaaGreatDoorK32
namespace Go.Proofs.YtgfhgeelfaalmaaGreatDoor
open Go.RowKit
set_option maxRecDepth 100000
set_option linter.unusedVariables false
set_option linter.unusedSimpArgs false
theorem dec_all {b : BdS} (h : decE b = 0) : isId b.nm = true ∧ namesE b.rg = 0 ∧ checkR b.ol b.rg.length = 0 ∧ chkT b.ty b.rg.length = 0 ∧ locE b = 0 ∧ b.bl.length ≠ 0 ∧ b.bl.length ≤ 65535 := by
  unfold decE at h
  by_cases h1 : isId b.nm = false
  · rw [if_pos h1] at h; cases h
  rw [if_neg h1] at h
  by_cases h2 : namesE b.rg = 0
  case neg => rw [if_pos h2] at h; exact absurd h h2
  rw [if_neg (fun k => k h2)] at h
  by_cases h3 : checkR b.ol b.rg.length = 0
  case neg => rw [if_pos h3] at h; exact absurd (by omega) h3
  rw [if_neg (fun k => k h3)] at h
  by_cases h4 : chkT b.ty b.rg.length = 0
  case neg => rw [if_pos h4] at h; exact absurd (by omega) h4
  rw [if_neg (fun k => k h4)] at h
  by_cases h5 : locE b = 0
  case neg => rw [if_pos h5] at h; exact absurd h h5
  rw [if_neg (fun k => k h5)] at h
  by_cases h6 : b.bl.length = 0 ∨ 65535 < b.bl.length
  · rw [if_pos h6] at h; cases h
  exact ⟨by cases h : isId b.nm; exact absurd h h1; rfl, h2, h3, h4, h5, by omega, by omega⟩
theorem dec_cr {b : BdS} (h : decE b = 0) : checkR b.ol b.rg.length = 0 := (dec_all h).2.2.1
theorem bk_get {l : List BkS} {i : Nat} (h : i < l.length) : (l.map bkD)[i]? = some (bkD l[i]) := by
  rw [List.getElem?_map, List.getElem?_eq_getElem h]; rfl
theorem st_get {l : List StS} {i : Nat} (h : i < l.length) : (l.map stD)[i]? = some (stD l[i]) := by
  rw [List.getElem?_map, List.getElem?_eq_getElem h]; rfl
set_option maxHeartbeats 2000000 in
theorem check10_N (b : BdS) (H : Heap) (sb : Sb b) (hck : decE b = 0 → Ck b) : Does Tryz.prog 11 [.agg (bdD b)] H fun d H' => d = i64 (chkE b) ∧ H = H' := by
  refine Does.frz (K := fun d => d = i64 (chkE b)) ?_
  have hle := Heap.le_refl H
  obtain ⟨o1, o2, ⟨o3, o4⟩, o5, o6, o7⟩ := sb.ok
  have hts := sb.ts
  have hde := decl_N b H sb
  have hmb : (List.map bkD b.bl).length = b.bl.length := List.length_map _
  unfold big at o6
  obtain ⟨y, hy⟩ : ∃ y, y = chkE b := ⟨_, rfl⟩
  rw [← hy]
  unfold chkE at hy
  have hnw : decE b = 0 → Does Tryz.prog 27 [.agg (bdD b)] H fun d H' => ∃ b1 b2 m1 m2, d = .agg (ckD b b.rg.length b1 b2) ∧ H b1 = none ∧ H b2 = none ∧ b1 ≠ b2 ∧ H' = (H.upd b1 (.map m1)).upd b2 (.map m2) ∧ RelH b.ol b1 b2 H' ∧ H.le H' := fun h => newC_N b H (hck h).rgl (dec_cr h)
  obtain ⟨D0, hD⟩ : ∃ D0, D0 = decE b := ⟨_, rfl⟩
  rw [← hD] at hde hck hnw hy
  rw [bdD_eq] at hde hnw ⊢
  refine does_of _ _ Tryz.func11 rfl rfl Tryz.ntmps11 Tryz.results11 (by simp only [List.length_cons, List.length_nil]; omega) fun w0 g0 Q hret => ?_
  refine tq @i64.eq_1 ?_; intro Nx hNx Gx hGx
  intro c1 hc1
  refine hNx _ ?_
  refine frz 1 hc1 ?_
  refine tq @i64.eq_1 ?_; intro Nx hNx Gx hGx
  refine hde.mono ?_
  rintro d _ ⟨rfl, rfl⟩
  by_cases h0 : D0 = 0
  case neg =>
    have q0 : (D0 = 0) = False := eq_false h0
    have e : y = D0 := hy.trans (if_pos h0)
    refine tq (cj2 @i64.eq_1 q0) ?_; intro Nx hNx Gx hGx
    refine rt hret @i64.eq_1 ?_
    exact ⟨_, Heap.le_refl _, hle, _, frz_refl hle, by rw [e]⟩
  have q0 : (D0 = 0) = True := eq_true h0
  rw [if_neg (fun h => h h0)] at hy
  have ck := hck h0
  refine tq (cj2 @i64.eq_1 q0) ?_; intro Nx hNx Gx hGx
  refine (hnw h0).mono ?_
  rintro d H1 ⟨b1, b2, m1, m2, rfl, hb1, hb2, hne, hH1, hR, hle1⟩
  rw [ckD_eq]
  clear hH1
  refine tq @i64.eq_1 ?_; intro Nx hNx Gx hGx
  intro c4 hc4
  refine hNx _ ?_
  refine frz 4 hc4 ?_
  refine tq (cj2 @i64.eq_1 hmb) ?_; intro Nx hNx Gx hGx
  refine W_loopN b.bl.length (fun i s => s.df = [] ∧ s.fr 3 = i64 0 ∧ s.fr 4 = .rp [strD b.nm, .seq 1 (b.rg.map sD), .seq 2 (b.ol.map pD), .seq 5 (b.ty.map tyD), .seq 2 (b.lc.map lcD), i64 b.ag, .seq 7 (b.bl.map bkD), relD (b.rg.length : Int) b1 b2] ∧ s.fr 17 = .seq 7 (b.bl.map bkD) ∧ s.fr 18 = i64 b.bl.length ∧ s.fr 19 = i64 i ∧ s.H = H1 ∧ bksE b b.bl = bksE b (b.bl.drop i)) ⟨rfl, by rw [h0]; rfl, rfl, rfl, rfl, rfl, rfl, rfl⟩ ?_
  rintro i s hi ⟨hdf, f3, f4, f17, f18, f19, hH, ha⟩
  have hx : (i : Int).toNat = i := Int.toNat_natCast _
  have h00 : (0 : Int) ≤ (i : Int) := Int.natCast_nonneg _
  have hleS : H.le s.H := by rw [hH]; exact hle1
  by_cases hil : i < b.bl.length
  case neg =>
    have q6 : ((i : Int) < (b.bl.length : Int)) = False := eq_false (by omega)
    rw [List.drop_eq_nil_of_le (by omega)] at ha
    have e : y = 0 := by rw [hy, ha]; rfl
    exact oz hret (cj5 @i64.eq_1 f3 f18 f19 q6) hleS e
  have hil' : (i : Int) < (b.bl.length : Int) := by omega
  have q6 : ((i : Int) < (b.bl.length : Int)) = True := eq_true hil'
  have w3 : IntKind.i64.wrap ((i : Int) + 1) = ((i + 1 : Nat) : Int) := by rw [wrap_i64_of (by omega)]; omega
  have hgi := bk_get hil
  have hok := o7 b.bl[i] (List.getElem_mem hil)
  have hnm := hts b.bl[i] (List.getElem_mem hil)
  rw [List.drop_eq_getElem_cons hil, bksE] at ha
  obtain ⟨x, hxx⟩ : ∃ x, x = b.bl[i] := ⟨_, rfl⟩
  rw [← hxx] at hgi hok hnm ha
  clear hxx
  obtain ⟨xs, xt⟩ := x
  obtain ⟨⟨hsl, hso⟩, hto⟩ := hok
  simp only at hsl hso hto ha hnm
  have htm := term_N b b.rg.length b1 b2 xt H1 ck rfl hR hto hnm
  have hst := fun s hs => stmt_N b b.rg.length b1 b2 s H1 ck rfl hR (hso s hs)
  rw [ckD_eq] at htm hst
  have hms : (List.map stD xs).length = xs.length := List.length_map _
  unfold big at hsl
  simp only [bkD] at hgi
  simp only [tmD] at htm
  refine tq (cj11 f17 f18 f19 @i64.eq_1 hmb q6 hgi hx h00 hil hil') ?_; intro Nx hNx Gx hGx
  intro c6 hc6
  refine hNx _ ?_
  refine frz 6 hc6 ?_
  by_cases h1 : 65535 < xs.length
  · have q1 : ((65535 : Int) < (xs.length : Int)) = True := eq_true (by omega)
    have e : y = 15 := by rw [hy, ha, if_pos h1]
    exact oz hret (cj3 @i64.eq_1 hms q1) hleS e
  have q1 : ((65535 : Int) < (xs.length : Int)) = False := eq_false (by omega)
  rw [if_neg h1] at ha
  refine tq (cj3 @i64.eq_1 hms q1) ?_; intro Nx hNx Gx hGx
  refine W_loopN xs.length (fun j s2 => s2.df = [] ∧ s2.fr 3 = i64 0 ∧ s2.fr 4 = .rp [strD b.nm, .seq 1 (b.rg.map sD), .seq 2 (b.ol.map pD), .seq 5 (b.ty.map tyD), .seq 2 (b.lc.map lcD), i64 b.ag, .seq 7 (b.bl.map bkD), relD (b.rg.length : Int) b1 b2] ∧ s2.fr 6 = .rp [.seq 11 (xs.map stD), i64 xt.k, .seq 1 (xt.tg.map iD), .seq 4 (xt.ar.map opD), i64 xt.pl.lo, .seq 2 (xt.pl.pr.map pD), strD xt.nm] ∧ s2.fr 17 = .seq 7 (b.bl.map bkD) ∧ s2.fr 18 = i64 b.bl.length ∧ s2.fr 19 = i64 i ∧ s2.fr 28 = .seq 11 (xs.map stD) ∧ s2.fr 29 = i64 xs.length ∧ s2.fr 30 = i64 j ∧ s2.H = H1 ∧ stsE b xs = stsE b (xs.drop j)) ⟨hdf, f3, f4, rfl, f17, f18, f19, rfl, rfl, rfl, hH, rfl⟩ ?_
  rintro j s2 hj ⟨hdf, f3, f4, f6, f17, f18, f19, f28, f29, f30, hH, hb⟩
  have hy0 : (j : Int).toNat = j := Int.toNat_natCast _
  have g00 : (0 : Int) ≤ (j : Int) := Int.natCast_nonneg _
  have hleS : H.le s2.H := by rw [hH]; exact hle1
  by_cases hjl : j < xs.length
  case pos =>
    have hjl' : (j : Int) < (xs.length : Int) := by omega
    have p6 : ((j : Int) < (xs.length : Int)) = True := eq_true hjl'
    have w4 : IntKind.i64.wrap ((j : Int) + 1) = ((j + 1 : Nat) : Int) := by rw [wrap_i64_of (by omega)]; omega
    have hgj := st_get hjl
    have hst := hst xs[j] (List.getElem_mem hjl)
    rw [List.drop_eq_getElem_cons hjl, stsE] at hb
    obtain ⟨v, hv⟩ : ∃ v, v = xs[j] := ⟨_, rfl⟩
    rw [← hv] at hgj hst hb
    clear hv
    obtain ⟨E, hE⟩ : ∃ E, E = stE b v := ⟨_, rfl⟩
    rw [← hE] at hst hb
    clear hE
    simp only [stD] at hgj hst
    rw [← hH] at hst
    refine tq (cj11 f28 f29 f30 @i64.eq_1 hms p6 hgj hy0 g00 hjl hjl') ?_; intro Nx hNx Gx hGx
    intro c8 hc8
    refine hNx _ ?_
    refine frz 8 hc8 ?_
    refine tq (cj2 f4 @i64.eq_1) ?_; intro Nx hNx Gx hGx
    refine hst.mono ?_
    rintro d _ ⟨rfl, hH2⟩
    by_cases h2 : E = 0
    · have q2 : (E = 0) = True := eq_true h2
      rw [if_neg (fun h => h h2)] at hb
      refine tq (cj4 f30 @i64.eq_1 q2 w4) ?_; intro Nx hNx Gx hGx
      exact ⟨hjl, hdf, by rw [h2]; rfl, f4, f6, f17, f18, f19, f28, f29, rfl, by rw [← hH2]; exact hH, hb⟩
    · have q2 : (E = 0) = False := eq_false h2
      rw [if_pos h2] at hb
      have e : y = E := by rw [hy, ha, hb, if_pos h2]
      rw [hH2] at hleS
      exact oz hret (cj2 @i64.eq_1 q2) hleS e
  have p6 : ((j : Int) < (xs.length : Int)) = False := eq_false (by omega)
  rw [List.drop_eq_nil_of_le (by omega), stsE] at hb
  rw [hb, if_neg (fun h => h rfl)] at ha
  clear hb
  obtain ⟨E, hE⟩ : ∃ E, E = tmE b xt := ⟨_, rfl⟩
  rw [← hE] at htm ha
  clear hE
  rw [← hH] at htm
  refine tq (cj6 f4 f6 f29 f30 @i64.eq_1 p6) ?_; intro Nx hNx Gx hGx
  refine htm.mono ?_
  rintro d _ ⟨rfl, hH2⟩
  by_cases h2 : E = 0
  · have q2 : (E = 0) = True := eq_true h2
    rw [if_neg (fun h => h h2)] at ha
    refine tq (cj4 f19 @i64.eq_1 q2 w3) ?_; intro Nx hNx Gx hGx
    exact ⟨hil, hdf, by rw [h2]; rfl, f4, f17, f18, rfl, by rw [← hH2]; exact hH, ha⟩
  · have q2 : (E = 0) = False := eq_false h2
    rw [if_pos h2] at ha
    have e : y = E := by rw [hy, ha]
    rw [hH2] at hleS
    exact oz hret (cj2 @i64.eq_1 q2) hleS e
set_option maxHeartbeats 1000000 in
theorem operand10_N (b : BdS) (o : OpS) (H : Heap) (ck : Ck b) (hd : decE b = 0) (hp : okOp o) : Does Tryz.prog 14 [.agg (bdD b), .agg (opD o)] H fun d H' => d = i64 (opE b o) ∧ H = H' := by
  refine Does.frz (K := fun d => d = i64 (opE b o)) ?_
  have hle := Heap.le_refl H
  have hnw := newC_N b H ck.rgl (dec_cr hd)
  have hop : ∀ b1 b2 H1, RelH b.ol b1 b2 H1 → Does Tryz.prog 33 [.agg (ckD b b.rg.length b1 b2), .agg (opD o)] H1 fun d H' => d = i64 (opE b o) ∧ H1 = H' := fun b1 b2 H1 hR => operand_N b _ b1 b2 o H1 ck hp
  obtain ⟨y, hy⟩ : ∃ y, y = opE b o := ⟨_, rfl⟩
  rw [← hy] at hop ⊢
  clear hy
  simp only [opD] at hop ⊢
  refine does_of _ _ Tryz.func14 rfl rfl Tryz.ntmps14 Tryz.results14 (by simp only [List.length_cons, List.length_nil]; omega) fun w0 g0 Q hret => ?_
  refine tq @i64.eq_1 ?_; intro Nx hNx Gx hGx
  intro c2 hc2 c3 hc3
  refine hNx _ ?_
  rw [bdD_eq] at hnw ⊢
  obtain ⟨nFz, hFz⟩ := Heap.upd_none.1 hc3; refine W_frzp 2 rfl ((Heap.upd_ne nFz.symm).trans (Heap.upd_same _ _ _)) rfl ?_; refine W_frzp 3 rfl ((Heap.del_ne nFz).trans (Heap.upd_same _ _ _)) rfl ?_; refine W_less _ (le_two hc2 hFz) ?_; simp only [St.frzp, List.drop]
  refine W_seq ?_
  refine W_wildE (fun t => t == some 5 || t == some 7) (fun _ => true) (fun _ _ _ _ => False) (fun t _ H0 d H' => if t = some 8 then d = i64 y ∧ H' = H0 else ∃ b1 b2, d = .agg (ckD b b.rg.length b1 b2) ∧ RelH b.ol b1 b2 H' ∧ H.le H') (by kernel_rfl) (by kernel_rfl) (by kernel_rfl) (by kernel_rfl) (by kernel_rfl) fun Nx hNx => ?_; refine vcWS_to ?_; have fs := @i64.eq_1; refine evD ?_; (first | refine hGx _ ?_ | refine hNx _ ?_ | skip); (try clear fs)
  refine ⟨hnw.mono fun d H' hh => ?_, ?_⟩
  · obtain ⟨b1, b2, m1, m2, h1, h2, h3, h4, h5, h6, h7⟩ := hh
    exact ⟨b1, b2, h1, h6, h7⟩
  rintro d H1 ⟨b1, b2, rfl, hR, hle1⟩
  refine ⟨(hop b1 b2 H1 hR).mono fun d H' hh => ⟨hh.1, hh.2.symm⟩, ?_⟩
  (first | refine hGx _ ?_ | refine hNx _ ?_ | skip)
  refine tq @i64.eq_1 ?_; intro Nx hNx Gx hGx
  refine rt hret @i64.eq_1 ?_
  exact ⟨_, Heap.le_refl _, hle1, _, frz_refl hle1, rfl⟩
set_option maxHeartbeats 1000000 in
theorem stmt10_N (b : BdS) (o : StS) (H : Heap) (ck : Ck b) (hd : decE b = 0) (hp : okSt o) : Does Tryz.prog 17 [.agg (bdD b), .agg (stD o)] H fun d H' => d = i64 (stE b o) ∧ H = H' := by
  refine Does.frz (K := fun d => d = i64 (stE b o)) ?_
  have hle := Heap.le_refl H
  have hnw := newC_N b H ck.rgl (dec_cr hd)
  have hop : ∀ b1 b2 H1, RelH b.ol b1 b2 H1 → Does Tryz.prog 28 [.agg (ckD b b.rg.length b1 b2), .agg (stD o)] H1 fun d H' => d = i64 (stE b o) ∧ H1 = H' := fun b1 b2 H1 hR => stmt_N b _ b1 b2 o H1 ck rfl hR hp
  obtain ⟨y, hy⟩ : ∃ y, y = stE b o := ⟨_, rfl⟩
  rw [← hy] at hop ⊢
  clear hy
  simp only [stD] at hop ⊢
  refine does_of _ _ Tryz.func17 rfl rfl Tryz.ntmps17 Tryz.results17 (by simp only [List.length_cons, List.length_nil]; omega) fun w0 g0 Q hret => ?_
  refine tq @i64.eq_1 ?_; intro Nx hNx Gx hGx
  intro c2 hc2 c3 hc3
  refine hNx _ ?_
  rw [bdD_eq] at hnw ⊢
  obtain ⟨nFz, hFz⟩ := Heap.upd_none.1 hc3; refine W_frzp 2 rfl ((Heap.upd_ne nFz.symm).trans (Heap.upd_same _ _ _)) rfl ?_; refine W_frzp 3 rfl ((Heap.del_ne nFz).trans (Heap.upd_same _ _ _)) rfl ?_; refine W_less _ (le_two hc2 hFz) ?_; simp only [St.frzp, List.drop]
  refine W_seq ?_
  refine W_wildE (fun t => t == some 5 || t == some 7) (fun _ => true) (fun _ _ _ _ => False) (fun t _ H0 d H' => if t = some 8 then d = i64 y ∧ H' = H0 else ∃ b1 b2, d = .agg (ckD b b.rg.length b1 b2) ∧ RelH b.ol b1 b2 H' ∧ H.le H') (by kernel_rfl) (by kernel_rfl) (by kernel_rfl) (by kernel_rfl) (by kernel_rfl) fun Nx hNx => ?_; refine vcWS_to ?_; have fs := @i64.eq_1; refine evD ?_; (first | refine hGx _ ?_ | refine hNx _ ?_ | skip); (try clear fs)
  refine ⟨hnw.mono fun d H' hh => ?_, ?_⟩
  · obtain ⟨b1, b2, m1, m2, h1, h2, h3, h4, h5, h6, h7⟩ := hh
    exact ⟨b1, b2, h1, h6, h7⟩
  rintro d H1 ⟨b1, b2, rfl, hR, hle1⟩
  refine ⟨(hop b1 b2 H1 hR).mono fun d H' hh => ⟨hh.1, hh.2.symm⟩, ?_⟩
  (first | refine hGx _ ?_ | refine hNx _ ?_ | skip)
  refine tq @i64.eq_1 ?_; intro Nx hNx Gx hGx
  refine rt hret @i64.eq_1 ?_
  exact ⟨_, Heap.le_refl _, hle1, _, frz_refl hle1, rfl⟩
set_option maxHeartbeats 1000000 in
theorem term10_N (b : BdS) (o : TmS) (H : Heap) (ck : Ck b) (hd : decE b = 0) (hp : okTm o) (hnm : big o.nm.size) : Does Tryz.prog 19 [.agg (bdD b), .agg (tmD o)] H fun d H' => d = i64 (tmE b o) ∧ H = H' := by
  refine Does.frz (K := fun d => d = i64 (tmE b o)) ?_
  have hle := Heap.le_refl H
  have hnw := newC_N b H ck.rgl (dec_cr hd)
  have hop : ∀ b1 b2 H1, RelH b.ol b1 b2 H1 → Does Tryz.prog 29 [.agg (ckD b b.rg.length b1 b2), .agg (tmD o)] H1 fun d H' => d = i64 (tmE b o) ∧ H1 = H' := fun b1 b2 H1 hR => term_N b _ b1 b2 o H1 ck rfl hR hp hnm
  obtain ⟨y, hy⟩ : ∃ y, y = tmE b o := ⟨_, rfl⟩
  rw [← hy] at hop ⊢
  clear hy
  simp only [tmD] at hop ⊢
  refine does_of _ _ Tryz.func19 rfl rfl Tryz.ntmps19 Tryz.results19 (by simp only [List.length_cons, List.length_nil]; omega) fun w0 g0 Q hret => ?_
  refine tq @i64.eq_1 ?_; intro Nx hNx Gx hGx
  intro c2 hc2 c3 hc3
  refine hNx _ ?_
  rw [bdD_eq] at hnw ⊢
  obtain ⟨nFz, hFz⟩ := Heap.upd_none.1 hc3; refine W_frzp 2 rfl ((Heap.upd_ne nFz.symm).trans (Heap.upd_same _ _ _)) rfl ?_; refine W_frzp 3 rfl ((Heap.del_ne nFz).trans (Heap.upd_same _ _ _)) rfl ?_; refine W_less _ (le_two hc2 hFz) ?_; simp only [St.frzp, List.drop]
  refine W_seq ?_
  refine W_wildE (fun t => t == some 5 || t == some 7) (fun _ => true) (fun _ _ _ _ => False) (fun t _ H0 d H' => if t = some 8 then d = i64 y ∧ H' = H0 else ∃ b1 b2, d = .agg (ckD b b.rg.length b1 b2) ∧ RelH b.ol b1 b2 H' ∧ H.le H') (by kernel_rfl) (by kernel_rfl) (by kernel_rfl) (by kernel_rfl) (by kernel_rfl) fun Nx hNx => ?_; refine vcWS_to ?_; have fs := @i64.eq_1; refine evD ?_; (first | refine hGx _ ?_ | refine hNx _ ?_ | skip); (try clear fs)
  refine ⟨hnw.mono fun d H' hh => ?_, ?_⟩
  · obtain ⟨b1, b2, m1, m2, h1, h2, h3, h4, h5, h6, h7⟩ := hh
    exact ⟨b1, b2, h1, h6, h7⟩
  rintro d H1 ⟨b1, b2, rfl, hR, hle1⟩
  refine ⟨(hop b1 b2 H1 hR).mono fun d H' hh => ⟨hh.1, hh.2.symm⟩, ?_⟩
  (first | refine hGx _ ?_ | refine hNx _ ?_ | skip)
  refine tq @i64.eq_1 ?_; intro Nx hNx Gx hGx
  refine rt hret @i64.eq_1 ?_
  exact ⟨_, Heap.le_refl _, hle1, _, frz_refl hle1, rfl⟩
end Go.Proofs.YtgfhgeelfaalmaaGreatDoor
