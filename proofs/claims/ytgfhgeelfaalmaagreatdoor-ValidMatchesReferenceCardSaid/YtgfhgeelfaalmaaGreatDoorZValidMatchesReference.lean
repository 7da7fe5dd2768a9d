/- The walk of the law ValidMatchesReference. -/
import Derived.Test.YtgfhgeelfaalmaaGreatDoorK42
import Derived.Test.YtgfhgeelfaalmaaGreatDoorK36
import Derived.Test.YtgfhgeelfaalmaaGreatDoorK34
import Derived.Test.YtgfhgeelfaalmaaGreatDoorK35
namespace Go.Proofs.YtgfhgeelfaalmaaGreatDoor
open Go.RowKit
set_option maxRecDepth 100000
set_option linter.unusedVariables false
set_option linter.unusedSimpArgs false
set_option maxHeartbeats 2000000 in
theorem kcheck10_N (b : BdS) (H : Heap) (sb : Sb b) (hck : decE b = 0 → Ck b) : Does Tryz.prog 12 [.agg (bdD b)] H fun d H' => d = i64 (chkE b) ∧ H = H' := by
  refine Does.frz (K := fun d => d = i64 (chkE b)) ?_
  have hle := Heap.le_refl H
  obtain ⟨o1, o2, ⟨o3, o4⟩, o5, o6, o7⟩ := sb.ok
  have hts := sb.ts
  have hde := kdecl_N b H sb
  have hmb : (List.map bkD b.bl).length = b.bl.length := List.length_map _
  unfold big at o6
  obtain ⟨y, hy⟩ : ∃ y, y = chkE b := ⟨_, rfl⟩
  rw [← hy]
  unfold chkE at hy
  obtain ⟨D0, hD⟩ : ∃ D0, D0 = decE b := ⟨_, rfl⟩
  rw [← hD] at hde hck hy
  clear hD
  rw [bdD_eq] at hde ⊢
  refine does_of _ _ Tryz.func12 rfl rfl Tryz.ntmps12 Tryz.results12 (by simp only [List.length_cons, List.length_nil]; omega) fun w0 g0 Q hret => ?_
  refine tq @i64.eq_1 ?_; intro Nx hNx Gx hGx
  intro c1 hc1
  refine hNx _ ?_
  refine frz 1 hc1 ?_
  refine tq @i64.eq_1 ?_; intro Nx hNx Gx hGx
  refine hde.mono ?_
  rintro d _ ⟨rfl, rfl⟩
  by_cases h0 : D0 = 0
  case neg =>
    have q0 : (D0 = 0) = False := eq_false h0
    have e : y = D0 := hy.trans (if_pos h0)
    refine tq (cj2 @i64.eq_1 q0) ?_; intro Nx hNx Gx hGx
    refine rt hret @i64.eq_1 ?_
    exact ⟨_, Heap.le_refl _, hle, _, frz_refl hle, by rw [e]⟩
  have q0 : (D0 = 0) = True := eq_true h0
  rw [if_neg (fun h => h h0)] at hy
  have ck := hck h0
  refine tq (cj2 @i64.eq_1 q0) ?_; intro Nx hNx Gx hGx
  refine W_loopN b.bl.length (fun i s => s.df = [] ∧ s.fr 1 = .rp [strD b.nm, .seq 1 (b.rg.map sD), .seq 2 (b.ol.map pD), .seq 5 (b.ty.map tyD), .seq 2 (b.lc.map lcD), i64 b.ag, .seq 7 (b.bl.map bkD)] ∧ s.fr 4 = i64 i ∧ s.H = H ∧ bksE b b.bl = bksE b (b.bl.drop i)) ⟨rfl, rfl, rfl, rfl, rfl⟩ ?_
  rintro i s hi ⟨hdf, f1, f4, hH, ha⟩
  have hx : (i : Int).toNat = i := Int.toNat_natCast _
  have h00 : (0 : Int) ≤ (i : Int) := Int.natCast_nonneg _
  have hleS : H.le s.H := by rw [hH]; exact hle
  by_cases hil : i < b.bl.length
  case neg =>
    have q6 : ((i : Int) < (b.bl.length : Int)) = False := eq_false (by omega)
    rw [List.drop_eq_nil_of_le (by omega)] at ha
    have e : y = 0 := by rw [hy, ha]; rfl
    exact oz hret (cj5 @i64.eq_1 f1 f4 hmb q6) hleS e
  have hil' : (i : Int) < (b.bl.length : Int) := by omega
  have q6 : ((i : Int) < (b.bl.length : Int)) = True := eq_true hil'
  have w3 : IntKind.i64.wrap ((i : Int) + 1) = ((i + 1 : Nat) : Int) := by rw [wrap_i64_of (by omega)]; omega
  have hgi := bk_get hil
  have hok := o7 b.bl[i] (List.getElem_mem hil)
  have hnm := hts b.bl[i] (List.getElem_mem hil)
  rw [List.drop_eq_getElem_cons hil, bksE] at ha
  obtain ⟨x, hxx⟩ : ∃ x, x = b.bl[i] := ⟨_, rfl⟩
  rw [← hxx] at hgi hok hnm ha
  clear hxx
  obtain ⟨xs, xt⟩ := x
  obtain ⟨⟨hsl, hso⟩, hto⟩ := hok
  simp only at hsl hso hto ha hnm
  have htm := kterm_N b xt H ck hto hnm
  have hst : ∀ s ∈ xs, ∀ H1, CallOK Tryz.prog 18 [.agg (bdD b), .agg (stD s)] H1 fun d A => A = Heap.none ∧ d = i64 (stE b s) := fun s hs H1 => callOK_eq fun H'' hle'' => kstmt_N b s H'' ck (hso s hs)
  rw [bdD_eq] at htm hst
  have hms : (List.map stD xs).length = xs.length := List.length_map _
  unfold big at hsl
  simp only [bkD] at hgi
  simp only [tmD] at htm
  refine tq (cj10 f1 f4 @i64.eq_1 hmb q6 hgi hx h00 hil hil') ?_; intro Nx hNx Gx hGx
  intro c5 hc5
  refine hNx _ ?_
  refine frz 5 hc5 ?_
  by_cases h1 : 65535 < xs.length
  · have q1 : ((65535 : Int) < (xs.length : Int)) = True := eq_true (by omega)
    have e : y = 15 := by rw [hy, ha, if_pos h1]
    exact oz hret (cj3 @i64.eq_1 hms q1) hleS e
  have q1 : ((65535 : Int) < (xs.length : Int)) = False := eq_false (by omega)
  rw [if_neg h1] at ha
  refine tq (cj3 @i64.eq_1 hms q1) ?_; intro Nx hNx Gx hGx
  refine W_loopN xs.length (fun j s2 => s2.df = [] ∧ s2.fr 1 = .rp [strD b.nm, .seq 1 (b.rg.map sD), .seq 2 (b.ol.map pD), .seq 5 (b.ty.map tyD), .seq 2 (b.lc.map lcD), i64 b.ag, .seq 7 (b.bl.map bkD)] ∧ s2.fr 4 = i64 i ∧ s2.fr 5 = .rp [.seq 11 (xs.map stD), i64 xt.k, .seq 1 (xt.tg.map iD), .seq 4 (xt.ar.map opD), i64 xt.pl.lo, .seq 2 (xt.pl.pr.map pD), strD xt.nm] ∧ s2.fr 6 = i64 j ∧ s2.H = H ∧ stsE b xs = stsE b (xs.drop j)) ⟨hdf, f1, f4, rfl, rfl, hH, rfl⟩ ?_
  clear hdf f1 f4 hH hleS
  rintro j s2 hj ⟨hdf, f1, f4, f5, f6, hH, hb⟩
  have hy0 : (j : Int).toNat = j := Int.toNat_natCast _
  have g00 : (0 : Int) ≤ (j : Int) := Int.natCast_nonneg _
  have hleS : H.le s2.H := by rw [hH]; exact hle
  by_cases hjl : j < xs.length
  case pos =>
    have hjl' : (j : Int) < (xs.length : Int) := by omega
    have p6 : ((j : Int) < (xs.length : Int)) = True := eq_true hjl'
    have w4 : IntKind.i64.wrap ((j : Int) + 1) = ((j + 1 : Nat) : Int) := by rw [wrap_i64_of (by omega)]; omega
    have hgj := st_get hjl
    have hst := hst xs[j] (List.getElem_mem hjl) s2.H
    rw [List.drop_eq_getElem_cons hjl, stsE] at hb
    obtain ⟨v, hv⟩ : ∃ v, v = xs[j] := ⟨_, rfl⟩
    rw [← hv] at hgj hst hb
    clear hv
    obtain ⟨E, hE⟩ : ∃ E, E = stE b v := ⟨_, rfl⟩
    rw [← hE] at hst hb
    clear hE
    simp only [stD] at hgj hst
    refine tq (cj5 f5 f6 @i64.eq_1 hms p6) ?_; intro Nx hNx Gx hGx
    (try refine W_seq ?_)
    refine W_drawE (fun _ _ d A => A = .none ∧ d = i64 E) (by kernel_rfl) (by kernel_rfl) (by kernel_rfl) fun Nx hNx => ?_; refine dst (cj10 f1 f5 f6 @i64.eq_1 hms hgj hy0 g00 hjl hjl') ?_; intro Nx hNx Gx hGx
    refine ⟨hst, ?_⟩
    (first | refine hGx _ ?_ | refine hNx _ ?_ | skip)
    by_cases h2 : E = 0
    · have q2 : (E = 0) = True := eq_true h2
      rw [if_neg (fun h => h h2)] at hb
      refine tq (cj4 f6 @i64.eq_1 q2 w4) ?_; intro Nx hNx Gx hGx
      exact ⟨hjl, hdf, f1, f4, f5, rfl, hH, hb⟩
    · have q2 : (E = 0) = False := eq_false h2
      rw [if_pos h2] at hb
      have e : y = E := by rw [hy, ha, hb, if_pos h2]
      exact oz hret (cj2 @i64.eq_1 q2) hleS e
  have p6 : ((j : Int) < (xs.length : Int)) = False := eq_false (by omega)
  rw [List.drop_eq_nil_of_le (by omega), stsE] at hb
  rw [hb, if_neg (fun h => h rfl)] at ha
  clear hb
  obtain ⟨E, hE⟩ : ∃ E, E = tmE b xt := ⟨_, rfl⟩
  rw [← hE] at htm ha
  clear hE
  rw [← hH] at htm
  refine tq (cj6 f1 f5 f6 @i64.eq_1 hms p6) ?_; intro Nx hNx Gx hGx
  refine htm.mono ?_
  rintro d _ ⟨rfl, hH2⟩
  by_cases h2 : E = 0
  · have q2 : (E = 0) = True := eq_true h2
    rw [if_neg (fun h => h h2)] at ha
    refine tq (cj4 f4 @i64.eq_1 q2 w3) ?_; intro Nx hNx Gx hGx
    exact ⟨hil, hdf, f1, rfl, by rw [← hH2]; exact hH, ha⟩
  · have q2 : (E = 0) = False := eq_false h2
    rw [if_pos h2] at ha
    have e : y = E := by rw [hy, ha]
    rw [hH2] at hleS
    exact oz hret (cj2 @i64.eq_1 q2) hleS e
theorem alive10_ok (H1 : Heap) : CallOK Tryz.prog 10 [] H1 fun d A => A = Heap.none ∧ d = .val (.bool true) := callOK_eq fun H'' hle'' => alive10_at H''
set_option maxHeartbeats 1000000 in
theorem lmatch_N (b : BdS) (ok : okBd b) : Does Tryz.prog 3 [.agg (bdD b)] .none fun d _ => d = .val (.bool true) := by
  have hsk := skip10_N b .none ok
  have hc : Sm b → ∀ H1, CallOK Tryz.prog 11 [.agg (bdD b)] H1 fun d A => A = Heap.none ∧ d = i64 (chkE b) := fun sm H1 => callOK_eq fun H'' hle'' => check10_N b H'' (sb_of ok sm) (ck_of ok sm)
  have hk : Sm b → ∀ H1, CallOK Tryz.prog 12 [.agg (bdD b)] H1 fun d A => A = Heap.none ∧ d = i64 (chkE b) := fun sm H1 => callOK_eq fun H'' hle'' => kcheck10_N b H'' (sb_of ok sm) (ck_of ok sm)
  obtain ⟨C, hC⟩ : ∃ C, C = chkE b := ⟨_, rfl⟩
  rw [← hC] at hc hk
  rw [bdD_eq] at hsk hc hk ⊢
  refine does_of _ _ Tryz.func3 rfl rfl Tryz.ntmps3 Tryz.results3 (by simp only [List.length_cons, List.length_nil]; omega) fun w0 g0 Q hret => ?_
  refine tq @i64.eq_1 ?_; intro Nx hNx Gx hGx
  intro c1 hc1
  refine hNx _ ?_
  refine frz 1 hc1 ?_
  refine tq @i64.eq_1 ?_; intro Nx hNx Gx hGx
  refine hsk.mono ?_
  rintro d _ ⟨hd, rfl⟩
  rcases hd with rfl | ⟨rfl, sm⟩
  · refine tq @i64.eq_1 ?_; intro Nx hNx Gx hGx
    refine (alive10_at _).mono ?_; rintro d _ ⟨rfl, rfl⟩; refine tq @i64.eq_1 ?_; intro Nx hNx Gx hGx; refine rt hret @i64.eq_1 ?_; exact ⟨_, Heap.le_refl _⟩
  refine tq @i64.eq_1 ?_; intro Nx hNx Gx hGx
  (try refine W_seq ?_)
  have qe : (C = C) = True := eq_true rfl
  refine W_drawE (fun t _ d A => A = .none ∧ d = (if t = some 7 then .val (.bool true) else i64 C)) (by kernel_rfl) (by kernel_rfl) (by kernel_rfl) fun Nx hNx => ?_; refine dst @i64.eq_1 ?_; intro Nx hNx Gx hGx
  refine ⟨alive10_ok _, ?_⟩
  (first | refine hGx _ ?_ | refine hNx _ ?_ | skip)
  (first | refine dst (cj2 @i64.eq_1 qe) ?_; intro Nx hNx Gx hGx | skip)
  refine ⟨hc sm _, ?_⟩
  (first | refine hGx _ ?_ | skip)
  (first | refine dst (cj2 @i64.eq_1 qe) ?_; intro Nx hNx Gx hGx | skip)
  refine ⟨hk sm _, ?_⟩
  (first | refine hGx _ ?_ | skip)
  (first | refine dst (cj2 @i64.eq_1 qe) ?_; intro Nx hNx Gx hGx | skip)
  refine tq @i64.eq_1 ?_; intro Nx hNx Gx hGx
  refine rt hret @i64.eq_1 ?_; exact ⟨_, Heap.le_refl _⟩
theorem ValidMatchesReference_walk (x0 : X) (v0 : Value) (w : World) (o0 : DT.ok (DT.struct [DT.string, DT.slice 1 16 (DT.string), DT.slice 2 16 (DT.array 2 (DT.int .i64)), DT.slice 5 56 (DT.struct [DT.int .i64, DT.bool, DT.int .i64, DT.int .i64, DT.slice 1 8 (DT.int .i64)]), DT.slice 2 24 (DT.struct [DT.string, DT.int .i64]), DT.int .i64, DT.slice 7 128 (DT.struct [DT.slice 11 136 (DT.struct [DT.int .i64, DT.struct [DT.int .i64, DT.slice 2 16 (DT.struct [DT.int .i64, DT.int .i64])], DT.struct [DT.int .i64, DT.int .i64, DT.int .i64, DT.bool, DT.struct [DT.int .i64, DT.slice 2 16 (DT.struct [DT.int .i64, DT.int .i64])], DT.slice 4 48 (DT.struct [DT.int .i64, DT.struct [DT.int .i64, DT.slice 2 16 (DT.struct [DT.int .i64, DT.int .i64])], DT.int .i64])], DT.int .i64]), DT.struct [DT.int .i64, DT.slice 1 8 (DT.int .i64), DT.slice 4 48 (DT.struct [DT.int .i64, DT.struct [DT.int .i64, DT.slice 2 16 (DT.struct [DT.int .i64, DT.int .i64])], DT.int .i64]), DT.struct [DT.int .i64, DT.slice 2 16 (DT.struct [DT.int .i64, DT.int .i64])], DT.string]])]) x0) (i0 : D.is w Heap.none.others x0.d v0) (hG : GOk w Heap.none) :
    Calls Tryz.prog 3 #[v0] w fun e w' => e = .returned (.bool true) ∧ Below w.heap.size w w' := by
  obtain ⟨a, ha, hoka⟩ := ok_body o0
  rw [ha] at i0
  exact walk_of (lmatch_N a hoka) ⟨_, _, rfl, i0, rfl⟩ hG
end Go.Proofs.YtgfhgeelfaalmaaGreatDoor
