/- The statement of the law TopRenames: for every input that can be read as data (no condition) the call returns true, and each argument reads afterwards as it read before. The order of the steps of the frame is the kit's proof-skeleton's; the walk is in the texts that are imported. -/
import Derived.Test.YtffgfafbffdgaaaGreatDoorRows
import Derived.Test.YtffgfafbffdgaaaGreatDoorCards
import Derived.Test.YtffgfafbffdgaaaGreatDoorTie
import Derived.Test.YtffgfafbffdgaaaGreatDoorR35
import Derived.LaidMore
import Derived.Lay
import Derived.SevenTiedAt
import Derived.Stop.Joined
import Derived.WalkKit
import Derived.ProofKit
import Derived.OpenShut
import Derived.ShutString
import Derived.ChangeOld
import Derived.Below
import Derived.SizedLaws
import Derived.Test.YtffgfafbffdgaaaGreatDoorR08
import Derived.Test.YtffgfafbffdgaaaGreatDoorR36
namespace Go.Proofs.YtffgfafbffdgaaaGreatDoor.topRenames
open Go.ChangeShapes Go.WideShapes Go.ChangeAt Go.RowKit
open Go.ChangeMaps (open_string shut_string)
set_option linter.unusedVariables false

theorem own : ownKnob Tryz.prog.godebug = none := by kernel_rfl
theorem aGA : laidOutB Tryz.prog = true := by kernel_rfl

/-- aKw the row aLW of aJ0.unary and aJ0.binary. -/
theorem aJW {W : World} (h : laidMetH Tryz.prog Rows.topRenamesRow.laid W) : wW W aA.none := by
  rw [MakeChecks.laidMetH_plain _ _ _ (by kernel_rfl)] at h
  obtain ⟨ps, ⟨g0, t0, cs0, fu0, p0, q0, hg0, ht0, hv0, hd0, ⟨g1, t1, cs1, fu1, p1, q1, hg1, ht1, hv1, hd1, ⟨g2, t2, cs2, fu2, p2, q2, hg2, ht2, hv2, hd2, _, _⟩, _⟩, _⟩, _, _⟩ := h
  obtain rfl := Option.some.inj ((show Tryz.prog.globalNamed "mirtower/valid.unary" = some 0 by kernel_rfl).symm.trans hg1)
  obtain rfl := Option.some.inj ((show (Tryz.prog.globals[0]?).map (·.type) = some 308 by kernel_rfl).symm.trans ht1)
  obtain rfl := Option.some.inj ((show Tryz.prog.globalNamed "mirtower/valid.binary" = some 1 by kernel_rfl).symm.trans hg2)
  obtain rfl := Option.some.inj ((show (Tryz.prog.globals[1]?).map (·.type) = some 309 by kernel_rfl).symm.trans ht2)
  have c1 : cs1.toList = [(2, 2), (1, 1)].flatMap fun p : Int × Int => [Value.int .i64 p.1, Value.int .i64 p.2] := Ae Tryz.underlying308 Tryz.underlying307 Tryz.underlying3 ⟨rfl, rfl⟩ ⟨rfl, rfl⟩ (by kernel_rfl) (by kernel_rfl) (by kernel_rfl) rfl hd1
  have c2 : cs2.toList = [(2, 2), (2, 2), (2, 2), (2, 1), (2, 1), (1, 1)].flatMap fun p : Int × Int => [Value.int .i64 p.1, Value.int .i64 p.2] := Ae Tryz.underlying309 Tryz.underlying307 Tryz.underlying3 ⟨rfl, rfl⟩ ⟨rfl, rfl⟩ (by kernel_rfl) (by kernel_rfl) (by kernel_rfl) rfl hd2
  obtain ⟨u1, r1, e1⟩ := Cq hg1 hv1
  obtain ⟨u2, r2, e2⟩ := Cq hg2 hv2
  intro g vs hg
  unfold GLB at hg
  by_cases h0 : g = 0
  · subst h0
    rw [if_pos rfl] at hg
    injection hg with hg
    subst hg
    refine ⟨rfl, by decide, u1, r1, ?_⟩
    rw [e1]
    have : cs1 = [Value.int .i64 2, .int .i64 2, .int .i64 1, .int .i64 1].toArray := by cases cs1; exact congrArg Array.mk c1
    rw [this]
  · rw [if_neg h0] at hg
    by_cases h1 : g = 1
    · subst h1
      rw [if_pos rfl] at hg
      injection hg with hg
      subst hg
      refine ⟨rfl, by decide, u2, r2, ?_⟩
      rw [e2]
      have : cs2 = [Value.int .i64 2, .int .i64 2, .int .i64 2, .int .i64 2, .int .i64 2, .int .i64 2, .int .i64 2, .int .i64 1, .int .i64 2, .int .i64 1, .int .i64 1, .int .i64 1].toArray := by cases cs2; exact congrArg Array.mk c2
      rw [this]
    · rw [if_neg h1] at hg; cases hg
set_option maxRecDepth 100000 in
theorem lifted (os : Os) (aFW : os.Started) (H : Type) (enc : TypeId × Value → H) :
    ReturnsInHanded {} Tryz.checked os 3 .any (fun w args => (Rows.topRenamesSpec.pre enc Tryz.prog Tryz.f3 Rows.topRenamesRow.domain false w args ∧ laidMetH Tryz.prog Rows.topRenamesRow.laid w) ∧ sizedMet enc Tryz.prog Tryz.f3 (OpenSpec.ofChange Rows.topRenamesSpec) false w args)
      (Rows.topRenamesSpec.post enc Tryz.prog Tryz.f3 false true false false) := by
  refine returnsInHanded_of_change_and (C := Tryz.checked) (X := fun w _ => laidMetH Tryz.prog Rows.topRenamesRow.laid w) (fun _ _ _ hh h => h.of_heap hh) own aFW (by kernel_rfl) Tryz.func3
    (ChangeSpec.witness_shaped (enc := enc) (C := Tryz.checked) (os := os) (X := fun w _ => laidMetH Tryz.prog Rows.topRenamesRow.laid w) false (World.laidAll Tryz.prog os Rows.topRenamesRow.laid) #[.agg #[.string ByteArray.empty, .slice none 0 0, .slice none 0 0, .slice none 0 0, .slice none 0 0, .int .i64 0, .slice none 0 0], .string ByteArray.empty] 8 (World.laidAll_os _ _ _)
      (World.shaped_of_ZipB (by kernel_rfl) (by kernel_rfl)) (by kernel_rfl) (by kernel_rfl) (by kernel_rfl)
      (by rw [MakeChecks.laidMetH_plain _ _ _ (by kernel_rfl)]; exact laidMet_laidAll _ (by kernel_rfl) (by kernel_rfl))) ?_
  intro W base args ds gs aHY aHU hW aLK aJJ hL _
  have hG := aJW hL
  clear hL
  have ir : (DataW.weightsEach Tryz.prog (Tryz.f3.params.toList ++ Rows.topRenamesSpec.plain.varTypes Tryz.prog) (ds ++ gs)).all (· ≤ reachBytes) = true := aJJ
  clear aJJ
  have aIB : ∀ (j : Nat) t v, Tryz.f3.params[j]? = some t → args[j]? = some v → Value.okWide Tryz.prog W .any base t v := aHU
  have hW' := hW
  obtain ⟨p, q, hA0, hV, rfl, hfz, hnd⟩ := hW
  have hA : DataW.TrodAll enc Tryz.prog W 0 (fun _ => true) true Tryz.f3.params.toList args.toList ds p := hA0
  rw [Tryz.params3] at hA aIB ir
  obtain ⟨v0, vs0, d0, ds0, p0, q0, aEQ, rfl, rfl, h0, r0⟩ := trodAll_cons hA
  obtain ⟨v1, vs1, d1, ds1, p1, q1, rfl, rfl, rfl, h1, r1⟩ := trodAll_cons r0
  obtain ⟨rfl, rfl, rfl⟩ := trodAll_nil r1
  obtain rfl : args = #[v0, v1] := by cases args; simp_all
  obtain ⟨rfl, rfl⟩ := trodVars_none hV
  have k0 := h0
  have lt0 : ∀ x ∈ p0, x.block < W.heap.size := by obtain ⟨m, hm⟩ := k0; exact DataW.trod_lt m _ _ _ hm
  obtain ⟨x0, o0, i0⟩ := PM (DT.struct [DT.string, DT.slice 1 16 (DT.string), DT.slice 2 16 (DT.array 2 (DT.int .i64)), DT.slice 5 56 (DT.struct [DT.int .i64, DT.bool, DT.int .i64, DT.int .i64, DT.slice 1 8 (DT.int .i64)]), DT.slice 2 24 (DT.struct [DT.string, DT.int .i64]), DT.int .i64, DT.slice 7 128 (DT.struct [DT.slice 11 136 (DT.struct [DT.int .i64, DT.struct [DT.int .i64, DT.slice 2 16 (DT.struct [DT.int .i64, DT.int .i64])], DT.struct [DT.int .i64, DT.int .i64, DT.int .i64, DT.bool, DT.struct [DT.int .i64, DT.slice 2 16 (DT.struct [DT.int .i64, DT.int .i64])], DT.slice 4 48 (DT.struct [DT.int .i64, DT.struct [DT.int .i64, DT.slice 2 16 (DT.struct [DT.int .i64, DT.int .i64])], DT.int .i64])], DT.int .i64]), DT.struct [DT.int .i64, DT.slice 1 8 (DT.int .i64), DT.slice 4 48 (DT.struct [DT.int .i64, DT.struct [DT.int .i64, DT.slice 2 16 (DT.struct [DT.int .i64, DT.int .i64])], DT.int .i64]), DT.struct [DT.int .i64, DT.slice 2 16 (DT.struct [DT.int .i64, DT.int .i64])], DT.string]])]) (by kernel_rfl) (aIB 0 28 v0 rfl rfl) h0 (kB ir 0 28 _ rfl rfl)
  have k1 := h1
  have lt1 : ∀ x ∈ p1, x.block < W.heap.size := by obtain ⟨m, hm⟩ := k1; exact DataW.trod_lt m _ _ _ hm
  obtain ⟨x1, o1, i1⟩ := PM (DT.string) (by kernel_rfl) (aIB 1 9 v1 rfl rfl) h1 (kB ir 1 9 _ rfl rfl)
  clear hA0 aHU
  refine (yP x0 v0 x1 v1 W o0 i0 o1 i1 hG).mono fun e W' ⟨he, bel⟩ => ?_
  subst he
  exact ⟨_, rfl, _, _, _, [], _, [], hW', trodAll_mk1 (shut_bool Tryz.underlying4 _), (trodAll_cons_mk (Below.trod aGA (by kernel_rfl) (of_decide_eq_true (by kernel_rfl)) k0 bel lt0) (trodAll_cons_mk (Below.trod aGA (by kernel_rfl) (of_decide_eq_true (by kernel_rfl)) k1 bel lt1) (trodAll_mk0))), rfl, bel.frame _, fun h => by cases h⟩

theorem bA {a b : Bool} (h : a = true) (k : b = true) : (a && b) = true := by rw [h, k]; rfl
theorem m1 : (laidOutB Tryz.prog) = true := by kernel_rfl
theorem m2 : (mapsRowed Tryz.prog) = true := by kernel_rfl
theorem m9 : (Rows.topRenamesRow.inPlace == Tryz.prog.inPlace 3) = true := by kernel_rfl
theorem m10 : (Rows.topRenamesRow.unfollowed == Tryz.prog.unfollowed 3) = true := by kernel_rfl
theorem m11 : (Rows.topRenamesRow.recurses == Tryz.prog.recurses 3) = true := by kernel_rfl
theorem m12 : (Rows.topRenamesRow.named == Tryz.prog.varsNamed 3) = true := by kernel_rfl
theorem m16 : (Rows.topRenamesRow.loops == (Tryz.f3.params.toList ++ Rows.topRenamesSpec.plain.varTypes Tryz.prog).any (Tryz.prog.loopsFrom ·)) = true := by kernel_rfl
theorem m24 : (Tryz.prog.stopsHeard) = true := by kernel_rfl
theorem m25 : (Tryz.prog.mayEnter) = true := by kernel_rfl
theorem m26 : (Rows.topRenamesRow.lifted == Tryz.prog.liftsFinal) = true := by kernel_rfl
theorem m27 : (Tryz.prog.make == some Rows.topRenamesRow.make) = true := by kernel_rfl
theorem aHZ : joinedFacts Tryz.prog 3 Tryz.f3 Rows.topRenamesSpec Rows.topRenamesRow = true :=
  bA (bA (bA (bA (bA (bA (bA (bA (bA (bA (bA (bA (bA (bA (bA (bA (bA (bA (bA (bA (bA (bA (bA (bA (bA (bA (bA (bA (bA (bA (bA (by kernel_rfl) m1) m2) (by kernel_rfl)) (by kernel_rfl)) (by kernel_rfl)) (by kernel_rfl)) (by kernel_rfl)) (by kernel_rfl)) m9) m10) m11) m12) (by kernel_rfl)) (by kernel_rfl)) (by kernel_rfl)) m16) (by kernel_rfl)) (by kernel_rfl)) (by kernel_rfl)) (by kernel_rfl)) (by kernel_rfl)) (by kernel_rfl)) (by kernel_rfl)) m24) m25) m26) m27) (by kernel_rfl)) (by kernel_rfl)) (by kernel_rfl)) (by kernel_rfl)
theorem over : Rows.TopRenamesSaid :=
  OpenClaim.holds_of_wide 3 Tryz.f3 rfl rfl rfl rfl rfl rfl rfl ⟨rfl, rfl, rfl, rfl, rfl⟩ rfl rfl rfl rfl rfl (by kernel_rfl) Tryz.func3 aHZ
    (of_decide_eq_true (by kernel_rfl)) (by unfold Func.isWrapper; first | (rw [if_pos (by decide +kernel)]; kernel_rfl) | (rw [if_neg (by decide +kernel)]; exact ⟨rfl, rfl⟩))
    (fun os aFW H enc _ => lifted os aFW H enc)

theorem aIQ : Tryz.prog.funcs.any Func.goes = false := by kernel_rfl
/-- No aIP aKm a goroutine: so none aJY the law can aKx to aKy. -/
theorem aJ9 (f : FuncId) : Tryz.prog.goes f = false := by
  unfold Program.goes
  rw [aIQ, Bool.and_false, Bool.or_false, List.any_eq_false]
  intro g _
  cases h : Tryz.prog.funcs[g]? with
  | none => simp
  | some fn =>
    obtain ⟨hi, rfl⟩ := Array.getElem?_eq_some_iff.1 h
    have := Array.any_eq_false.1 aIQ g hi
    simpa using this
set_option maxRecDepth 10000 in
theorem aJa : false = Rows.topRenamesRow.goesBy Tryz.prog := by
  unfold OpenClaim.goesBy Program.goesAt Program.goesFrom
  have h1 : ∀ o : Option FuncId, o.any Tryz.prog.goes = false := fun o => by
    cases o with
    | none => rfl
    | some f => simp only [Option.any, aJ9]
  rw [h1]
  rfl
theorem proved : Rows.TopRenamesCardSaid :=
  Claim7.holds_tied_plain_at .later [] [.data, .widerDeep, .widerDeep, .pinned] true (true, "f202f05cb3d5cc9da15c8bf66aa45651d4394002680513f148b0bb28f32d4a15") false over (fun _ h => by cases h) (by kernel_rfl) (fun _ h => by cases h) topRenames_row_tie rfl ⟨rfl, rfl⟩ (by kernel_rfl) rfl
    (fun f fn hf hfn => by
      obtain rfl : f = 3 := Option.some.inj ((show Tryz.prog.funcNamed "mirtower/mirtowertop.TopRenames" = some 3 by kernel_rfl).symm.trans hf) |>.symm
      obtain rfl : fn = Tryz.f3 := (Option.some.inj (Tryz.func3.symm.trans hfn)).symm
      exact ⟨by kernel_rfl, fun j t ht => by
        rw [Tryz.params3] at ht
        have hm : t ∈ [28, 9] := by simpa using Array.mem_of_getElem? ht
        have aDk : ([28, 9].all fun u => !Tryz.prog.wantsStandIn u) = true := by kernel_rfl
        exact (show Tryz.prog.wantsStandIn t = false by simpa using List.all_eq_true.1 aDk t hm)⟩)
    aJa
end Go.Proofs.YtffgfafbffdgaaaGreatDoor.topRenames
