/- The statement of the law TopRefusesInvalid: for every input that can be read as data (no condition) the call returns true, and each argument reads afterwards as it read before. The order of the steps of the frame is the kit's proof-skeleton's; the walk is in the texts that are imported. -/
import Derived.Test.YtelbfbioomcmeaaGreatDoorRows
import Derived.Test.YtelbfbioomcmeaaGreatDoorCards
import Derived.Test.YtelbfbioomcmeaaGreatDoorTie
import Derived.Test.YtelbfbioomcmeaaGreatDoorQ34
import Derived.LaidMore
import Derived.Lay
import Derived.SevenTiedAt
import Derived.Stop.Joined
import Derived.WalkKit
import Derived.ProofKit
import Derived.OpenShut
import Derived.ShutString
import Derived.ChangeOld
import Derived.Below
import Derived.SizedLaws
import Derived.Test.YtelbfbioomcmeaaGreatDoorQ11
import Derived.Test.YtelbfbioomcmeaaGreatDoorQ35
namespace Go.Proofs.YtelbfbioomcmeaaGreatDoor.topRefusesInvalid
open Go.ChangeShapes Go.WideShapes Go.ChangeAt Go.RowKit
open Go.ChangeMaps (open_string shut_string)
set_option linter.unusedVariables false

theorem own : ownKnob Tryz.prog.godebug = none := by kernel_rfl
theorem aES : laidOutB Tryz.prog = true := by kernel_rfl

/-- a0V the row a0d of aQq.unary and aQq.binary. -/
theorem aJZ {W : World} (h : laidMetH Tryz.prog Rows.topRefusesInvalidRow.laid W) : E3 W aA.none := by
  rw [MakeChecks.laidMetH_plain _ _ _ (by kernel_rfl)] at h
  obtain ⟨ps, ⟨g0, t0, cs0, fu0, p0, q0, B3, B4, hv0, hd0, ⟨g1, t1, cs1, fu1, p1, q1, KF, ht1, hv1, hd1, ⟨g2, t2, cs2, fu2, p2, q2, NU, ht2, hv2, hd2, ⟨g3, t3, cs3, fu3, p3, q3, hg3, ht3, hv3, ZC, ⟨g4, t4, cs4, fu4, p4, q4, hg4, ht4, hv4, hd4, ⟨g5, t5, cs5, fu5, p5, q5, hg5, ht5, hv5, hd5, ⟨g6, t6, cs6, fu6, p6, q6, kK, ht6, hv6, hd6, ⟨g7, t7, cs7, fu7, p7, q7, hg7, ht7, hv7, hd7, _, _⟩, _⟩, _⟩, _⟩, _⟩, _⟩, _⟩, _⟩, _, _⟩ := h
  obtain rfl := Option.some.inj ((show Tryz.prog.globalNamed "mirtower/valid.unary" = some 0 by kernel_rfl).symm.trans kK)
  obtain rfl := Option.some.inj ((show (Tryz.prog.globals[0]?).map (·.type) = some 361 by kernel_rfl).symm.trans ht6)
  obtain rfl := Option.some.inj ((show Tryz.prog.globalNamed "mirtower/valid.binary" = some 1 by kernel_rfl).symm.trans hg7)
  obtain rfl := Option.some.inj ((show (Tryz.prog.globals[1]?).map (·.type) = some 362 by kernel_rfl).symm.trans ht7)
  have c1 : cs6.toList = [(2, 2), (1, 1)].flatMap fun p : Int × Int => [Value.int .i64 p.1, Value.int .i64 p.2] := I4 Tryz.underlying361 Tryz.underlying360 Tryz.underlying3 ⟨rfl, rfl⟩ ⟨rfl, rfl⟩ (by kernel_rfl) (by kernel_rfl) (by kernel_rfl) rfl hd6
  have c2 : cs7.toList = [(2, 2), (2, 2), (2, 2), (2, 1), (2, 1), (1, 1)].flatMap fun p : Int × Int => [Value.int .i64 p.1, Value.int .i64 p.2] := I4 Tryz.underlying362 Tryz.underlying360 Tryz.underlying3 ⟨rfl, rfl⟩ ⟨rfl, rfl⟩ (by kernel_rfl) (by kernel_rfl) (by kernel_rfl) rfl hd7
  obtain ⟨u1, r1, e1⟩ := MB kK hv6
  obtain ⟨u2, r2, e2⟩ := MB hg7 hv7
  intro g vs hg
  unfold GLB at hg
  by_cases h0 : g = 0
  · subst h0
    rw [if_pos rfl] at hg
    injection hg with hg
    subst hg
    refine ⟨rfl, by decide, u1, r1, ?_⟩
    rw [e1]
    have : cs6 = [Value.int .i64 2, .int .i64 2, .int .i64 1, .int .i64 1].toArray := by cases cs6; exact congrArg Array.mk c1
    rw [this]
  · rw [if_neg h0] at hg
    by_cases h1 : g = 1
    · subst h1
      rw [if_pos rfl] at hg
      injection hg with hg
      subst hg
      refine ⟨rfl, by decide, u2, r2, ?_⟩
      rw [e2]
      have : cs7 = [Value.int .i64 2, .int .i64 2, .int .i64 2, .int .i64 2, .int .i64 2, .int .i64 2, .int .i64 2, .int .i64 1, .int .i64 2, .int .i64 1, .int .i64 1, .int .i64 1].toArray := by cases cs7; exact congrArg Array.mk c2
      rw [this]
    · rw [if_neg h1] at hg; cases hg
set_option maxRecDepth 100000 in
theorem lifted (os : Os) (OT : os.Started) (H : Type) (enc : TypeId × Value → H) :
    ReturnsInHanded {} Tryz.checked os 4 .any (fun w args => (Rows.topRefusesInvalidSpec.pre enc Tryz.prog Tryz.f4 Rows.topRefusesInvalidRow.domain false w args ∧ laidMetH Tryz.prog Rows.topRefusesInvalidRow.laid w) ∧ sizedMet enc Tryz.prog Tryz.f4 (OpenSpec.ofChange Rows.topRefusesInvalidSpec) false w args)
      (Rows.topRefusesInvalidSpec.post enc Tryz.prog Tryz.f4 false true false false) := by
  refine returnsInHanded_of_change_and (C := Tryz.checked) (X := fun w _ => laidMetH Tryz.prog Rows.topRefusesInvalidRow.laid w) (fun _ _ _ hh h => h.of_heap hh) own OT (by kernel_rfl) Tryz.func4
    (ChangeSpec.witness_shaped (enc := enc) (C := Tryz.checked) (os := os) (X := fun w _ => laidMetH Tryz.prog Rows.topRefusesInvalidRow.laid w) false (World.laidAll Tryz.prog os Rows.topRefusesInvalidRow.laid) #[.agg #[.string ByteArray.empty, .slice none 0 0, .slice none 0 0, .slice none 0 0, .slice none 0 0, .int .i64 0, .slice none 0 0]] 8 (World.laidAll_os _ _ _)
      (World.shaped_of_ZipB (by kernel_rfl) (by kernel_rfl)) (by kernel_rfl) (by kernel_rfl) (by kernel_rfl)
      (by rw [MakeChecks.laidMetH_plain _ _ _ (by kernel_rfl)]; exact laidMet_laidAll _ (by kernel_rfl) (by kernel_rfl))) ?_
  intro W uK args ds gs aGI aFf hW a06 aHE hL _
  have hG := aJZ hL
  clear hL
  have lE : (DataW.weightsEach Tryz.prog (Tryz.f4.params.toList ++ Rows.topRefusesInvalidSpec.plain.varTypes Tryz.prog) (ds ++ gs)).all (· ≤ reachBytes) = true := aHE
  clear aHE
  have aJL : ∀ (j : Nat) t v, Tryz.f4.params[j]? = some t → args[j]? = some v → Value.okWide Tryz.prog W .any uK t v := aFf
  have hW' := hW
  obtain ⟨p, q, hA0, hV, rfl, hfz, hnd⟩ := hW
  have hA : DataW.TrodAll enc Tryz.prog W 0 (fun _ => true) true Tryz.f4.params.toList args.toList ds p := hA0
  rw [Tryz.params4] at hA aJL lE
  obtain ⟨v0, vs0, d0, ds0, p0, q0, AV, rfl, rfl, h0, r0⟩ := trodAll_cons hA
  obtain ⟨rfl, rfl, rfl⟩ := trodAll_nil r0
  obtain rfl : args = #[v0] := by cases args; simp_all
  obtain ⟨rfl, rfl⟩ := trodVars_none hV
  have k0 := h0
  have lt0 : ∀ x ∈ p0, x.block < W.heap.size := by obtain ⟨m, hm⟩ := k0; exact DataW.trod_lt m _ _ _ hm
  obtain ⟨x0, o0, i0⟩ := aHb (DT.struct [DT.string, DT.slice 1 16 (DT.string), DT.slice 2 16 (DT.array 2 (DT.int .i64)), DT.slice 5 56 (DT.struct [DT.int .i64, DT.bool, DT.int .i64, DT.int .i64, DT.slice 1 8 (DT.int .i64)]), DT.slice 2 24 (DT.struct [DT.string, DT.int .i64]), DT.int .i64, DT.slice 7 128 (DT.struct [DT.slice 11 136 (DT.struct [DT.int .i64, DT.struct [DT.int .i64, DT.slice 2 16 (DT.struct [DT.int .i64, DT.int .i64])], DT.struct [DT.int .i64, DT.int .i64, DT.int .i64, DT.bool, DT.struct [DT.int .i64, DT.slice 2 16 (DT.struct [DT.int .i64, DT.int .i64])], DT.slice 4 48 (DT.struct [DT.int .i64, DT.struct [DT.int .i64, DT.slice 2 16 (DT.struct [DT.int .i64, DT.int .i64])], DT.int .i64])], DT.int .i64]), DT.struct [DT.int .i64, DT.slice 1 8 (DT.int .i64), DT.slice 4 48 (DT.struct [DT.int .i64, DT.struct [DT.int .i64, DT.slice 2 16 (DT.struct [DT.int .i64, DT.int .i64])], DT.int .i64]), DT.struct [DT.int .i64, DT.slice 2 16 (DT.struct [DT.int .i64, DT.int .i64])], DT.string]])]) (by kernel_rfl) (aJL 0 28 v0 rfl rfl) h0 (qW lE 0 28 _ rfl rfl)
  clear hA0 aFf
  refine (vE x0 v0 W o0 i0 hG).mono fun e W' ⟨he, bel⟩ => ?_
  subst he
  exact ⟨_, rfl, _, _, _, [], _, [], hW', trodAll_mk1 (shut_bool Tryz.underlying4 _), (trodAll_cons_mk (Below.trod aES (by kernel_rfl) (of_decide_eq_true (by kernel_rfl)) k0 bel lt0) (trodAll_mk0)), rfl, bel.frame _, fun h => by cases h⟩

theorem bA {a b : Bool} (h : a = true) (k : b = true) : (a && b) = true := by rw [h, k]; rfl
theorem m1 : (laidOutB Tryz.prog) = true := by kernel_rfl
theorem m2 : (mapsRowed Tryz.prog) = true := by kernel_rfl
theorem m9 : (Rows.topRefusesInvalidRow.inPlace == Tryz.prog.inPlace 4) = true := by kernel_rfl
theorem m10 : (Rows.topRefusesInvalidRow.unfollowed == Tryz.prog.unfollowed 4) = true := by kernel_rfl
theorem m11 : (Rows.topRefusesInvalidRow.recurses == Tryz.prog.recurses 4) = true := by kernel_rfl
theorem m12 : (Rows.topRefusesInvalidRow.named == Tryz.prog.varsNamed 4) = true := by kernel_rfl
theorem m16 : (Rows.topRefusesInvalidRow.loops == (Tryz.f4.params.toList ++ Rows.topRefusesInvalidSpec.plain.varTypes Tryz.prog).any (Tryz.prog.loopsFrom ·)) = true := by kernel_rfl
theorem m24 : (Tryz.prog.stopsHeard) = true := by kernel_rfl
theorem m25 : (Tryz.prog.mayEnter) = true := by kernel_rfl
theorem m26 : (Rows.topRefusesInvalidRow.lifted == Tryz.prog.liftsFinal) = true := by kernel_rfl
theorem m27 : (Tryz.prog.make == some Rows.topRefusesInvalidRow.make) = true := by kernel_rfl
theorem aGW : joinedFacts Tryz.prog 4 Tryz.f4 Rows.topRefusesInvalidSpec Rows.topRefusesInvalidRow = true :=
  bA (bA (bA (bA (bA (bA (bA (bA (bA (bA (bA (bA (bA (bA (bA (bA (bA (bA (bA (bA (bA (bA (bA (bA (bA (bA (bA (bA (bA (bA (bA (by kernel_rfl) m1) m2) (by kernel_rfl)) (by kernel_rfl)) (by kernel_rfl)) (by kernel_rfl)) (by kernel_rfl)) (by kernel_rfl)) m9) m10) m11) m12) (by kernel_rfl)) (by kernel_rfl)) (by kernel_rfl)) m16) (by kernel_rfl)) (by kernel_rfl)) (by kernel_rfl)) (by kernel_rfl)) (by kernel_rfl)) (by kernel_rfl)) (by kernel_rfl)) m24) m25) m26) m27) (by kernel_rfl)) (by kernel_rfl)) (by kernel_rfl)) (by kernel_rfl)
theorem over : Rows.TopRefusesInvalidSaid :=
  OpenClaim.holds_of_wide 4 Tryz.f4 rfl rfl rfl rfl rfl rfl rfl ⟨rfl, rfl, rfl, rfl, rfl⟩ rfl rfl rfl rfl rfl (by kernel_rfl) Tryz.func4 aGW
    (of_decide_eq_true (by kernel_rfl)) (by unfold Func.isWrapper; first | (rw [if_pos (by decide +kernel)]; kernel_rfl) | (rw [if_neg (by decide +kernel)]; exact ⟨rfl, rfl⟩))
    (fun os OT H enc _ => lifted os OT H enc)

theorem goN0 : Tryz.prog.funcs.any Func.goes = false := by kernel_rfl
/-- No function starts a goroutine: so none that the law can come to does. -/
theorem goN1 (f : FuncId) : Tryz.prog.goes f = false := by
  unfold Program.goes
  rw [goN0, Bool.and_false, Bool.or_false, List.any_eq_false]
  intro g _
  cases h : Tryz.prog.funcs[g]? with
  | none => simp
  | some fn =>
    obtain ⟨hi, rfl⟩ := Array.getElem?_eq_some_iff.1 h
    have := Array.any_eq_false.1 goN0 g hi
    simpa using this
set_option maxRecDepth 10000 in
theorem goN2 : false = Rows.topRefusesInvalidRow.goesBy Tryz.prog := by
  unfold OpenClaim.goesBy Program.goesAt Program.goesFrom
  have h1 : ∀ o : Option FuncId, o.any Tryz.prog.goes = false := fun o => by
    cases o with
    | none => rfl
    | some f => simp only [Option.any, goN1]
  rw [h1]
  rfl
theorem proved : Rows.TopRefusesInvalidCardSaid :=
  Claim7.holds_tied_plain_at .later [] [.data, .data, .data, .data, .listed, .data, .widerDeep, .widerDeep, .pinned] true (true, "cb2880520cc21a505ee4ca7330df1ef2ba1d39fc8f0f97b94a89256b11344cda") false over (fun _ h => by cases h) (by kernel_rfl) (fun _ h => by cases h) topRefusesInvalid_row_tie rfl ⟨rfl, rfl⟩ (by kernel_rfl) rfl
    (fun f fn hf hfn => by
      obtain rfl : f = 4 := Option.some.inj ((show Tryz.prog.funcNamed "mirtower/mirtowertop.TopRefusesInvalid" = some 4 by kernel_rfl).symm.trans hf) |>.symm
      obtain rfl : fn = Tryz.f4 := (Option.some.inj (Tryz.func4.symm.trans hfn)).symm
      exact ⟨by kernel_rfl, fun j t ht => by
        rw [Tryz.params4] at ht
        have hm : t ∈ [28] := by simpa using Array.mem_of_getElem? ht
        have eW : ([28].all fun u => !Tryz.prog.wantsStandIn u) = true := by kernel_rfl
        exact (show Tryz.prog.wantsStandIn t = false by simpa using List.all_eq_true.1 eW t hm)⟩)
    goN2
end Go.Proofs.YtelbfbioomcmeaaGreatDoor.topRefusesInvalid
