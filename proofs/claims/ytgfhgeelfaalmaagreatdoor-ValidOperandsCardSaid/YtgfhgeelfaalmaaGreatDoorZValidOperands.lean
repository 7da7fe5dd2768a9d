/- The walk of the law ValidOperands. -/
import Derived.Test.YtgfhgeelfaalmaaGreatDoorK42
import Derived.Test.YtgfhgeelfaalmaaGreatDoorK36
import Derived.Test.YtgfhgeelfaalmaaGreatDoorK34
import Derived.Test.YtgfhgeelfaalmaaGreatDoorK35
namespace Go.Proofs.YtgfhgeelfaalmaaGreatDoor
open Go.RowKit
set_option maxRecDepth 100000
set_option linter.unusedVariables false
set_option linter.unusedSimpArgs false
theorem alive10_ok (H1 : Heap) : CallOK Tryz.prog 10 [] H1 fun d A => A = Heap.none ∧ d = .val (.bool true) := callOK_eq fun H'' hle'' => alive10_at H''
set_option maxHeartbeats 1000000 in
theorem lopd_N (b : BdS) (o : OpS) (ok : okBd b) (hp : okOp o) : Does Tryz.prog 4 [.agg (bdD b), .agg (opD o)] .none fun d _ => d = .val (.bool true) := by
  have hsk := skip10_N b .none ok
  have hde := fun sm => kdecl_N b .none (sb_of ok sm)
  have hv : Sm b → decE b = 0 → ∀ H1, CallOK Tryz.prog 14 [.agg (bdD b), .agg (opD o)] H1 fun d A => A = Heap.none ∧ d = i64 (opE b o) := fun sm hd H1 => callOK_eq fun H'' hle'' => operand10_N b o H'' (ck_of ok sm hd) hd hp
  have hk : Sm b → decE b = 0 → ∀ H1, CallOK Tryz.prog 15 [.agg (bdD b), .agg (opD o)] H1 fun d A => A = Heap.none ∧ d = i64 (opE b o) := fun sm hd H1 => callOK_eq fun H'' hle'' => koperand_N b o H'' (ck_of ok sm hd) hp
  obtain ⟨C, hC⟩ : ∃ C, C = opE b o := ⟨_, rfl⟩
  rw [← hC] at hv hk
  clear hC
  rw [bdD_eq] at hsk hde hv hk ⊢
  have hml : (List.map pD o.pl.pr).length = o.pl.pr.length := List.length_map _
  simp only [opD] at hv hk ⊢
  refine does_of _ _ Tryz.func4 rfl rfl Tryz.ntmps4 Tryz.results4 (by simp only [List.length_cons, List.length_nil]; omega) fun w0 g0 Q hret => ?_
  refine tq @i64.eq_1 ?_; intro Nx hNx Gx hGx
  intro c2 hc2 c3 hc3
  refine hNx _ ?_
  obtain ⟨nFz, hFz⟩ := Heap.upd_none.1 hc3; refine W_frzp 2 rfl ((Heap.upd_ne nFz.symm).trans (Heap.upd_same _ _ _)) rfl ?_; refine W_frzp 3 rfl ((Heap.del_ne nFz).trans (Heap.upd_same _ _ _)) rfl ?_; refine W_less _ (le_two hc2 hFz) ?_; simp only [St.frzp, List.drop]
  refine tq @i64.eq_1 ?_; intro Nx hNx Gx hGx
  refine hsk.mono ?_
  rintro d _ ⟨hd, rfl⟩
  rcases hd with rfl | ⟨rfl, sm⟩
  · refine tq @i64.eq_1 ?_; intro Nx hNx Gx hGx
    refine (alive10_at _).mono ?_; rintro d _ ⟨rfl, rfl⟩; refine tq @i64.eq_1 ?_; intro Nx hNx Gx hGx; refine rt hret @i64.eq_1 ?_; exact ⟨_, Heap.le_refl _⟩
  by_cases h1 : 100 < o.pl.pr.length
  · have q1 : ((100 : Int) < (o.pl.pr.length : Int)) = True := eq_true (by omega)
    refine tq (cj3 @i64.eq_1 hml q1) ?_; intro Nx hNx Gx hGx
    refine (alive10_at _).mono ?_; rintro d _ ⟨rfl, rfl⟩; refine tq @i64.eq_1 ?_; intro Nx hNx Gx hGx; refine rt hret @i64.eq_1 ?_; exact ⟨_, Heap.le_refl _⟩
  have q1 : ((100 : Int) < (o.pl.pr.length : Int)) = False := eq_false (by omega)
  refine tq (cj3 @i64.eq_1 hml q1) ?_; intro Nx hNx Gx hGx
  refine (hde sm).mono ?_
  rintro d _ ⟨rfl, rfl⟩
  by_cases h2 : decE b = 0
  case neg =>
    have q2 : (decE b = 0) = False := eq_false h2
    refine tq (cj2 @i64.eq_1 q2) ?_; intro Nx hNx Gx hGx
    refine (alive10_at _).mono ?_; rintro d _ ⟨rfl, rfl⟩; refine tq @i64.eq_1 ?_; intro Nx hNx Gx hGx; refine rt hret @i64.eq_1 ?_; exact ⟨_, Heap.le_refl _⟩
  have q2 : (decE b = 0) = True := eq_true h2
  refine tq (cj2 @i64.eq_1 q2) ?_; intro Nx hNx Gx hGx
  (try refine W_seq ?_)
  have qe : (C = C) = True := eq_true rfl
  refine W_drawE (fun t _ d A => A = .none ∧ d = (if t = some 21 then .val (.bool true) else i64 C)) (by kernel_rfl) (by kernel_rfl) (by kernel_rfl) fun Nx hNx => ?_; refine dst @i64.eq_1 ?_; intro Nx hNx Gx hGx
  refine ⟨alive10_ok _, ?_⟩
  (first | refine hGx _ ?_ | refine hNx _ ?_ | skip)
  (first | refine dst (cj2 @i64.eq_1 qe) ?_; intro Nx hNx Gx hGx | skip)
  refine ⟨hv sm h2 _, ?_⟩
  (first | refine hGx _ ?_ | skip)
  (first | refine dst (cj2 @i64.eq_1 qe) ?_; intro Nx hNx Gx hGx | skip)
  refine ⟨hk sm h2 _, ?_⟩
  (first | refine hGx _ ?_ | skip)
  (first | refine dst (cj2 @i64.eq_1 qe) ?_; intro Nx hNx Gx hGx | skip)
  refine tq @i64.eq_1 ?_; intro Nx hNx Gx hGx
  refine rt hret @i64.eq_1 ?_; exact ⟨_, Heap.le_refl _⟩
theorem ValidOperands_walk (x0 : X) (v0 : Value) (x1 : X) (v1 : Value) (w : World) (o0 : DT.ok (DT.struct [DT.string, DT.slice 1 16 (DT.string), DT.slice 2 16 (DT.array 2 (DT.int .i64)), DT.slice 5 56 (DT.struct [DT.int .i64, DT.bool, DT.int .i64, DT.int .i64, DT.slice 1 8 (DT.int .i64)]), DT.slice 2 24 (DT.struct [DT.string, DT.int .i64]), DT.int .i64, DT.slice 7 128 (DT.struct [DT.slice 11 136 (DT.struct [DT.int .i64, DT.struct [DT.int .i64, DT.slice 2 16 (DT.struct [DT.int .i64, DT.int .i64])], DT.struct [DT.int .i64, DT.int .i64, DT.int .i64, DT.bool, DT.struct [DT.int .i64, DT.slice 2 16 (DT.struct [DT.int .i64, DT.int .i64])], DT.slice 4 48 (DT.struct [DT.int .i64, DT.struct [DT.int .i64, DT.slice 2 16 (DT.struct [DT.int .i64, DT.int .i64])], DT.int .i64])], DT.int .i64]), DT.struct [DT.int .i64, DT.slice 1 8 (DT.int .i64), DT.slice 4 48 (DT.struct [DT.int .i64, DT.struct [DT.int .i64, DT.slice 2 16 (DT.struct [DT.int .i64, DT.int .i64])], DT.int .i64]), DT.struct [DT.int .i64, DT.slice 2 16 (DT.struct [DT.int .i64, DT.int .i64])], DT.string]])]) x0) (i0 : D.is w Heap.none.others x0.d v0) (o1 : DT.ok (DT.struct [DT.int .i64, DT.struct [DT.int .i64, DT.slice 2 16 (DT.struct [DT.int .i64, DT.int .i64])], DT.int .i64]) x1) (i1 : D.is w Heap.none.others x1.d v1) (hG : GOk w Heap.none) :
    Calls Tryz.prog 4 #[v0, v1] w fun e w' => e = .returned (.bool true) ∧ Below w.heap.size w w' := by
  obtain ⟨a, ha, hoka⟩ := ok_body o0
  rw [ha] at i0
  obtain ⟨p, hpc, hp⟩ := c_Op x1 o1
  have h1 : x1.d = .agg (X.cs x1) := by
    obtain ⟨xs, rfl, _⟩ := ok_s o1
    rfl
  rw [h1, hpc] at i1
  exact walk_of (lopd_N a p hoka hp) ⟨_, _, rfl, i0, _, _, rfl, i1, rfl⟩ hG
end Go.Proofs.YtgfhgeelfaalmaaGreatDoor
