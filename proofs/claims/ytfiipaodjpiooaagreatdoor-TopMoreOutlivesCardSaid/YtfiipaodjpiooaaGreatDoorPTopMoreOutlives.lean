/- The statement of the law TopMoreOutlives: for every input that can be read as data (no condition) the call returns true, and each argument reads afterwards as it read before. The order of the steps of the frame is the kit's proof-skeleton's; the walk is in the texts that are imported. -/
import Derived.Test.YtfiipaodjpiooaaGreatDoorRows
import Derived.Test.YtfiipaodjpiooaaGreatDoorCards
import Derived.Test.YtfiipaodjpiooaaGreatDoorTie
import Derived.Test.YtfiipaodjpiooaaGreatDoorQ46
import Derived.LaidMore
import Derived.Lay
import Derived.SevenTiedAt
import Derived.Stop.Joined
import Derived.WalkKit
import Derived.ProofKit
import Derived.OpenShut
import Derived.ShutString
import Derived.ChangeOld
import Derived.Below
import Derived.SizedLaws
import Derived.Test.YtfiipaodjpiooaaGreatDoorQ10
import Derived.Test.YtfiipaodjpiooaaGreatDoorQ37
namespace Go.Proofs.YtfiipaodjpiooaaGreatDoor.topMoreOutlives
open Go.ChangeShapes Go.WideShapes Go.ChangeAt Go.RowKit
open Go.ChangeMaps (open_string shut_string)
set_option linter.unusedVariables false

theorem own : ownKnob Tryz.prog.godebug = none := by kernel_rfl
theorem sY : laidOutB Tryz.prog = true := by kernel_rfl

/-- aJ1 CO row aLv of KG.unary and KG.binary. -/
theorem JW {W : World} (h : laidMetH Tryz.prog Rows.topMoreOutlivesRow.laid W) : DW W aC.none := by
  rw [MakeChecks.laidMetH_plain _ _ _ (by kernel_rfl)] at h
  obtain ⟨ps, ⟨g0, t0, cs0, fu0, p0, q0, GK, AM, hv0, hd0, ⟨g1, t1, U7, fu1, p1, q1, JN, ht1, hv1, X5, ⟨g2, t2, S9, fu2, p2, q2, GL, ht2, hv2, OU, _, _⟩, _⟩, _⟩, _, _⟩ := h
  obtain rfl := Option.some.inj ((show Tryz.prog.globalNamed "mirtower/valid.unary" = some 0 by kernel_rfl).symm.trans JN)
  obtain rfl := Option.some.inj ((show (Tryz.prog.globals[0]?).map (·.type) = some 227 by kernel_rfl).symm.trans ht1)
  obtain rfl := Option.some.inj ((show Tryz.prog.globalNamed "mirtower/valid.binary" = some 1 by kernel_rfl).symm.trans GL)
  obtain rfl := Option.some.inj ((show (Tryz.prog.globals[1]?).map (·.type) = some 228 by kernel_rfl).symm.trans ht2)
  have c1 : U7.toList = [(2, 2), (1, 1)].flatMap fun p : Int × Int => [Value.int .i64 p.1, Value.int .i64 p.2] := mC Tryz.underlying227 Tryz.underlying226 Tryz.underlying3 ⟨rfl, rfl⟩ ⟨rfl, rfl⟩ (by kernel_rfl) (by kernel_rfl) (by kernel_rfl) rfl X5
  have c2 : S9.toList = [(2, 2), (2, 2), (2, 2), (2, 1), (2, 1), (1, 1)].flatMap fun p : Int × Int => [Value.int .i64 p.1, Value.int .i64 p.2] := mC Tryz.underlying228 Tryz.underlying226 Tryz.underlying3 ⟨rfl, rfl⟩ ⟨rfl, rfl⟩ (by kernel_rfl) (by kernel_rfl) (by kernel_rfl) rfl OU
  obtain ⟨u1, r1, e1⟩ := oP JN hv1
  obtain ⟨u2, r2, e2⟩ := oP GL hv2
  intro g vs hg
  unfold GLB at hg
  by_cases h0 : g = 0
  · subst h0
    rw [if_pos rfl] at hg
    injection hg with hg
    subst hg
    refine ⟨rfl, by decide, u1, r1, ?_⟩
    rw [e1]
    have : U7 = [Value.int .i64 2, .int .i64 2, .int .i64 1, .int .i64 1].toArray := by cases U7; exact congrArg Array.mk c1
    rw [this]
  · rw [if_neg h0] at hg
    by_cases h1 : g = 1
    · subst h1
      rw [if_pos rfl] at hg
      injection hg with hg
      subst hg
      refine ⟨rfl, by decide, u2, r2, ?_⟩
      rw [e2]
      have : S9 = [Value.int .i64 2, .int .i64 2, .int .i64 2, .int .i64 2, .int .i64 2, .int .i64 2, .int .i64 2, .int .i64 1, .int .i64 2, .int .i64 1, .int .i64 1, .int .i64 1].toArray := by cases S9; exact congrArg Array.mk c2
      rw [this]
    · rw [if_neg h1] at hg; cases hg
set_option maxRecDepth 100000 in
theorem lifted (os : Os) (kG : os.Started) (H : Type) (enc : TypeId × Value → H) :
    ReturnsInHanded {} Tryz.checked os 6 .any (fun w args => (Rows.topMoreOutlivesSpec.pre enc Tryz.prog Tryz.f6 Rows.topMoreOutlivesRow.domain false w args ∧ laidMetH Tryz.prog Rows.topMoreOutlivesRow.laid w) ∧ sizedMet enc Tryz.prog Tryz.f6 (OpenSpec.ofChange Rows.topMoreOutlivesSpec) false w args)
      (Rows.topMoreOutlivesSpec.post enc Tryz.prog Tryz.f6 false true false false) := by
  refine returnsInHanded_of_change_and (C := Tryz.checked) (X := fun w _ => laidMetH Tryz.prog Rows.topMoreOutlivesRow.laid w) (fun _ _ _ hh h => h.of_heap hh) own kG (by kernel_rfl) Tryz.func6
    (ChangeSpec.witness_shaped (enc := enc) (C := Tryz.checked) (os := os) (X := fun w _ => laidMetH Tryz.prog Rows.topMoreOutlivesRow.laid w) false (World.laidAll Tryz.prog os Rows.topMoreOutlivesRow.laid) #[.agg #[.string ByteArray.empty, .slice none 0 0, .slice none 0 0, .slice none 0 0, .slice none 0 0, .int .i64 0, .slice none 0 0], .agg #[.int .u8 0, .int .u8 0]] 8 (World.laidAll_os _ _ _)
      (World.shaped_of_ZipB (by kernel_rfl) (by kernel_rfl)) (by kernel_rfl) (by kernel_rfl) (by kernel_rfl)
      (by rw [MakeChecks.laidMetH_plain _ _ _ (by kernel_rfl)]; exact laidMet_laidAll _ (by kernel_rfl) (by kernel_rfl))) ?_
  intro W base args ds gs BZ zC hW aKV HT hL _
  have hG := JW hL
  clear hL
  have lZ : (DataW.weightsEach Tryz.prog (Tryz.f6.params.toList ++ Rows.topMoreOutlivesSpec.plain.varTypes Tryz.prog) (ds ++ gs)).all (· ≤ reachBytes) = true := HT
  clear HT
  have GQ : ∀ (j : Nat) t v, Tryz.f6.params[j]? = some t → args[j]? = some v → Value.okWide Tryz.prog W .any base t v := zC
  have hW' := hW
  obtain ⟨p, q, hA0, hV, rfl, hfz, IK⟩ := hW
  have hA : DataW.TrodAll enc Tryz.prog W 0 (fun _ => true) true Tryz.f6.params.toList args.toList ds p := hA0
  rw [Tryz.params6] at hA GQ lZ
  obtain ⟨v0, vs0, d0, ds0, p0, q0, xX, rfl, rfl, h0, r0⟩ := trodAll_cons hA
  obtain ⟨v1, vs1, d1, ds1, p1, q1, rfl, rfl, rfl, h1, r1⟩ := trodAll_cons r0
  obtain ⟨rfl, rfl, rfl⟩ := trodAll_nil r1
  obtain rfl : args = #[v0, v1] := by cases args; simp_all
  obtain ⟨rfl, rfl⟩ := trodVars_none hV
  have k0 := h0
  have lt0 : ∀ x ∈ p0, x.block < W.heap.size := by obtain ⟨m, hm⟩ := k0; exact DataW.trod_lt m _ _ _ hm
  obtain ⟨x0, o0, i0⟩ := IB (DT.struct [DT.string, DT.slice 1 16 (DT.string), DT.slice 2 16 (DT.array 2 (DT.int .i64)), DT.slice 5 56 (DT.struct [DT.int .i64, DT.bool, DT.int .i64, DT.int .i64, DT.slice 1 8 (DT.int .i64)]), DT.slice 2 24 (DT.struct [DT.string, DT.int .i64]), DT.int .i64, DT.slice 7 128 (DT.struct [DT.slice 11 136 (DT.struct [DT.int .i64, DT.struct [DT.int .i64, DT.slice 2 16 (DT.struct [DT.int .i64, DT.int .i64])], DT.struct [DT.int .i64, DT.int .i64, DT.int .i64, DT.bool, DT.struct [DT.int .i64, DT.slice 2 16 (DT.struct [DT.int .i64, DT.int .i64])], DT.slice 4 48 (DT.struct [DT.int .i64, DT.struct [DT.int .i64, DT.slice 2 16 (DT.struct [DT.int .i64, DT.int .i64])], DT.int .i64])], DT.int .i64]), DT.struct [DT.int .i64, DT.slice 1 8 (DT.int .i64), DT.slice 4 48 (DT.struct [DT.int .i64, DT.struct [DT.int .i64, DT.slice 2 16 (DT.struct [DT.int .i64, DT.int .i64])], DT.int .i64]), DT.struct [DT.int .i64, DT.slice 2 16 (DT.struct [DT.int .i64, DT.int .i64])], DT.string]])]) (by kernel_rfl) (GQ 0 28 v0 rfl rfl) h0 (iG lZ 0 28 _ rfl rfl)
  have k1 := h1
  have lt1 : ∀ x ∈ p1, x.block < W.heap.size := by obtain ⟨m, hm⟩ := k1; exact DataW.trod_lt m _ _ _ hm
  obtain ⟨x1, o1, i1⟩ := IB (DT.array 2 (DT.int .u8)) (by kernel_rfl) (GQ 1 59 v1 rfl rfl) h1 (iG lZ 1 59 _ rfl rfl)
  clear hA0 zC
  refine (DY x0 v0 x1 v1 W o0 i0 o1 i1 hG).mono fun e W' ⟨he, bel⟩ => ?_
  subst he
  exact ⟨_, rfl, _, _, _, [], _, [], hW', trodAll_mk1 (shut_bool Tryz.underlying4 _), (trodAll_cons_mk (Below.trod sY (by kernel_rfl) (of_decide_eq_true (by kernel_rfl)) k0 bel lt0) (trodAll_cons_mk (Below.trod sY (by kernel_rfl) (of_decide_eq_true (by kernel_rfl)) k1 bel lt1) (trodAll_mk0))), rfl, bel.frame _, fun h => by cases h⟩

theorem bA {a b : Bool} (h : a = true) (k : b = true) : (a && b) = true := by rw [h, k]; rfl
theorem m1 : (laidOutB Tryz.prog) = true := by kernel_rfl
theorem m2 : (mapsRowed Tryz.prog) = true := by kernel_rfl
theorem m9 : (Rows.topMoreOutlivesRow.inPlace == Tryz.prog.inPlace 6) = true := by kernel_rfl
theorem m10 : (Rows.topMoreOutlivesRow.unfollowed == Tryz.prog.unfollowed 6) = true := by kernel_rfl
theorem m11 : (Rows.topMoreOutlivesRow.recurses == Tryz.prog.recurses 6) = true := by kernel_rfl
theorem m12 : (Rows.topMoreOutlivesRow.named == Tryz.prog.varsNamed 6) = true := by kernel_rfl
theorem m16 : (Rows.topMoreOutlivesRow.loops == (Tryz.f6.params.toList ++ Rows.topMoreOutlivesSpec.plain.varTypes Tryz.prog).any (Tryz.prog.loopsFrom ·)) = true := by kernel_rfl
theorem m24 : (Tryz.prog.stopsHeard) = true := by kernel_rfl
theorem m25 : (Tryz.prog.mayEnter) = true := by kernel_rfl
theorem m26 : (Rows.topMoreOutlivesRow.lifted == Tryz.prog.liftsFinal) = true := by kernel_rfl
theorem m27 : (Tryz.prog.make == some Rows.topMoreOutlivesRow.make) = true := by kernel_rfl
theorem B5 : joinedFacts Tryz.prog 6 Tryz.f6 Rows.topMoreOutlivesSpec Rows.topMoreOutlivesRow = true :=
  bA (bA (bA (bA (bA (bA (bA (bA (bA (bA (bA (bA (bA (bA (bA (bA (bA (bA (bA (bA (bA (bA (bA (bA (bA (bA (bA (bA (bA (bA (bA (by kernel_rfl) m1) m2) (by kernel_rfl)) (by kernel_rfl)) (by kernel_rfl)) (by kernel_rfl)) (by kernel_rfl)) (by kernel_rfl)) m9) m10) m11) m12) (by kernel_rfl)) (by kernel_rfl)) (by kernel_rfl)) m16) (by kernel_rfl)) (by kernel_rfl)) (by kernel_rfl)) (by kernel_rfl)) (by kernel_rfl)) (by kernel_rfl)) (by kernel_rfl)) m24) m25) m26) m27) (by kernel_rfl)) (by kernel_rfl)) (by kernel_rfl)) (by kernel_rfl)
theorem over : Rows.TopMoreOutlivesSaid :=
  OpenClaim.holds_of_wide 6 Tryz.f6 rfl rfl rfl rfl rfl rfl rfl ⟨rfl, rfl, rfl, rfl, rfl⟩ rfl rfl rfl rfl rfl (by kernel_rfl) Tryz.func6 B5
    (of_decide_eq_true (by kernel_rfl)) (by unfold Func.isWrapper; first | (rw [if_pos (by decide +kernel)]; kernel_rfl) | (rw [if_neg (by decide +kernel)]; exact ⟨rfl, rfl⟩))
    (fun os kG H enc _ => lifted os kG H enc)

theorem proved : Rows.TopMoreOutlivesCardSaid :=
  Claim7.holds_tied_plain_at .later [] [.data, .widerDeep, .widerDeep, .pinned] true (true, "5e79908ab6604f75e73fa9a045bc4556d3e90d0ef643eb5ddbbbabfff80ed1cc") false over (fun _ h => by cases h) (by kernel_rfl) (fun _ h => by cases h) topMoreOutlives_row_tie rfl ⟨rfl, rfl⟩ (by kernel_rfl) rfl
    (fun f fn hf EJ => by
      obtain rfl : f = 6 := Option.some.inj ((show Tryz.prog.funcNamed "mirtower/mirtowertop.TopMoreOutlives" = some 6 by kernel_rfl).symm.trans hf) |>.symm
      obtain rfl : fn = Tryz.f6 := (Option.some.inj (Tryz.func6.symm.trans EJ)).symm
      exact ⟨by kernel_rfl, fun j t ht => by
        rw [Tryz.params6] at ht
        have hm : t ∈ [28, 59] := by simpa using Array.mem_of_getElem? ht
        have fF : ([28, 59].all fun u => !Tryz.prog.wantsStandIn u) = true := by kernel_rfl
        exact (show Tryz.prog.wantsStandIn t = false by simpa using List.all_eq_true.1 fF t hm)⟩)
    (by kernel_rfl)
end Go.Proofs.YtfiipaodjpiooaaGreatDoor.topMoreOutlives
