/-
  No cell of these rows narrows 'for every input' (looked for: loops, veiled, ifaces, maps, wideKeys, modest, calm, conditions, laid).
  DERIVED. THE GIVEN ROWS OF THIS SEAT. 14 by the template 'for every input the law returns true; each argument reads behind the call as it read before'; 0 by the template 'total and deterministic' (their statements: YtdggkophnlldoaaTotals.lean).
  GIVEN WITH THE SEED: the statements are not yours to turn. If you find one false, say at which input.
  Laid BY PROGRAM, IN A SANDBOX (cutbox-rows.mjs): the forced cells as the released guide's own fill.sh prints them over the translation debeec7acf7e413b… (all of the seat's roots in one cut). By AI agents, Wed Nov 11 2026. No macro, syntax, notation, axiom, sorry.
-/
import Derived.Test.YtdggkophnlldoaaChecked
import GoSem.Claim
import GoSem.ClaimJoined
import GoSem.ClaimMapViews
import Derived.JoinedTies
import Derived.KernelRfl
namespace Go.Proofs.Ytdggkophnlldoaa
/- THE CELL 'sum', in the pinned program and in every row, IS THE sha256 OF THE DUMP (.gsa) THAT YtdggkophnlldoaaProg.lean LOADS. Nothing in Lean hashes anything: it is a label: what it is worth is what the hold of that sum in a sandbox is worth. -/
noncomputable def Try.pinned : Pinned := { name := "ytdggkophnlldoaa", sum := "debeec7acf7e413b8297d6b52d78a0a41709b29415088b727db5dbbd0f6136ec", checked := Try.checked }
namespace Rows
def none {H : Type} : Left H := { results := [], args := [] }

/-- 'mirtowerlaw11.PointsMatchReference': WHATEVER THE INPUT: true; the input reads as it did. -/
def pointsMatchReferenceSpec : ChangeSpec := { name := "pointsMatchReference", fn := fun _ => fun
  | [d1, d2, d3] => { results := [.lit (.bool true)], args := [d1, d2, d3] }
  | _ => none }
def pointsMatchReferenceRow : OpenClaim := { program := "ytdggkophnlldoaa", sum := "debeec7acf7e413b8297d6b52d78a0a41709b29415088b727db5dbbd0f6136ec", func := "mirtower/mirtowerlaw11.PointsMatchReference", spec := "pointsMatchReference", unfollowed := true, recurses := true, plainKeys := false, apart := false }
def PointsMatchReferenceSaid : Prop := pointsMatchReferenceRow.holds Try.pinned (OpenSpec.ofChange pointsMatchReferenceSpec)

/-- ITS FALSE NEIGHBOUR: 'it returns false'. Refute it at one input. -/
def pointsMatchReferenceWrong : ChangeSpec := { name := "pointsMatchReference", fn := fun _ => fun
  | [d1, d2, d3] => { results := [.lit (.bool false)], args := [d1, d2, d3] }
  | _ => none }
def PointsMatchReferenceWrongFalsely : Prop := pointsMatchReferenceRow.holds Try.pinned (OpenSpec.ofChange pointsMatchReferenceWrong)

/-- 'mirtowerlaw11.PointsFlow': WHATEVER THE INPUT: true; the input reads as it did. -/
def pointsFlowSpec : ChangeSpec := { name := "pointsFlow", fn := fun _ => fun
  | [d1, d2] => { results := [.lit (.bool true)], args := [d1, d2] }
  | _ => none }
def pointsFlowRow : OpenClaim := { program := "ytdggkophnlldoaa", sum := "debeec7acf7e413b8297d6b52d78a0a41709b29415088b727db5dbbd0f6136ec", func := "mirtower/mirtowerlaw11.PointsFlow", spec := "pointsFlow", unfollowed := true, recurses := true, plainKeys := false, apart := false }
def PointsFlowSaid : Prop := pointsFlowRow.holds Try.pinned (OpenSpec.ofChange pointsFlowSpec)

/-- ITS FALSE NEIGHBOUR: 'it returns false'. Refute it at one input. -/
def pointsFlowWrong : ChangeSpec := { name := "pointsFlow", fn := fun _ => fun
  | [d1, d2] => { results := [.lit (.bool false)], args := [d1, d2] }
  | _ => none }
def PointsFlowWrongFalsely : Prop := pointsFlowRow.holds Try.pinned (OpenSpec.ofChange pointsFlowWrong)

/-- 'mirtowerlaw11.PointsReach': WHATEVER THE INPUT: true; the input reads as it did. -/
def pointsReachSpec : ChangeSpec := { name := "pointsReach", fn := fun _ => fun
  | [d1, d2, d3] => { results := [.lit (.bool true)], args := [d1, d2, d3] }
  | _ => none }
def pointsReachRow : OpenClaim := { program := "ytdggkophnlldoaa", sum := "debeec7acf7e413b8297d6b52d78a0a41709b29415088b727db5dbbd0f6136ec", func := "mirtower/mirtowerlaw11.PointsReach", spec := "pointsReach", unfollowed := true, recurses := true, plainKeys := false, apart := false }
def PointsReachSaid : Prop := pointsReachRow.holds Try.pinned (OpenSpec.ofChange pointsReachSpec)

/-- ITS FALSE NEIGHBOUR: 'it returns false'. Refute it at one input. -/
def pointsReachWrong : ChangeSpec := { name := "pointsReach", fn := fun _ => fun
  | [d1, d2, d3] => { results := [.lit (.bool false)], args := [d1, d2, d3] }
  | _ => none }
def PointsReachWrongFalsely : Prop := pointsReachRow.holds Try.pinned (OpenSpec.ofChange pointsReachWrong)

/-- 'mirtowerlaw11.PointsInverse': WHATEVER THE INPUT: true; the input reads as it did. -/
def pointsInverseSpec : ChangeSpec := { name := "pointsInverse", fn := fun _ => fun
  | [d] => { results := [.lit (.bool true)], args := [d] }
  | _ => none }
def pointsInverseRow : OpenClaim := { program := "ytdggkophnlldoaa", sum := "debeec7acf7e413b8297d6b52d78a0a41709b29415088b727db5dbbd0f6136ec", func := "mirtower/mirtowerlaw11.PointsInverse", spec := "pointsInverse", unfollowed := true, recurses := true, plainKeys := false, apart := false }
def PointsInverseSaid : Prop := pointsInverseRow.holds Try.pinned (OpenSpec.ofChange pointsInverseSpec)

/-- ITS FALSE NEIGHBOUR: 'it returns false'. Refute it at one input. -/
def pointsInverseWrong : ChangeSpec := { name := "pointsInverse", fn := fun _ => fun
  | [d] => { results := [.lit (.bool false)], args := [d] }
  | _ => none }
def PointsInverseWrongFalsely : Prop := pointsInverseRow.holds Try.pinned (OpenSpec.ofChange pointsInverseWrong)

/-- 'mirtowerlaw11.PointsEdges': WHATEVER THE INPUT: true; the input reads as it did. -/
def pointsEdgesSpec : ChangeSpec := { name := "pointsEdges", fn := fun _ => fun
  | [d] => { results := [.lit (.bool true)], args := [d] }
  | _ => none }
def pointsEdgesRow : OpenClaim := { program := "ytdggkophnlldoaa", sum := "debeec7acf7e413b8297d6b52d78a0a41709b29415088b727db5dbbd0f6136ec", func := "mirtower/mirtowerlaw11.PointsEdges", spec := "pointsEdges", unfollowed := true, recurses := true, plainKeys := false, apart := false }
def PointsEdgesSaid : Prop := pointsEdgesRow.holds Try.pinned (OpenSpec.ofChange pointsEdgesSpec)

/-- ITS FALSE NEIGHBOUR: 'it returns false'. Refute it at one input. -/
def pointsEdgesWrong : ChangeSpec := { name := "pointsEdges", fn := fun _ => fun
  | [d] => { results := [.lit (.bool false)], args := [d] }
  | _ => none }
def PointsEdgesWrongFalsely : Prop := pointsEdgesRow.holds Try.pinned (OpenSpec.ofChange pointsEdgesWrong)

/-- 'mirtowerlaw11.PointsTransitive': WHATEVER THE INPUT: true; the input reads as it did. -/
def pointsTransitiveSpec : ChangeSpec := { name := "pointsTransitive", fn := fun _ => fun
  | [d1, d2] => { results := [.lit (.bool true)], args := [d1, d2] }
  | _ => none }
def pointsTransitiveRow : OpenClaim := { program := "ytdggkophnlldoaa", sum := "debeec7acf7e413b8297d6b52d78a0a41709b29415088b727db5dbbd0f6136ec", func := "mirtower/mirtowerlaw11.PointsTransitive", spec := "pointsTransitive", unfollowed := true, recurses := true, plainKeys := false, apart := false }
def PointsTransitiveSaid : Prop := pointsTransitiveRow.holds Try.pinned (OpenSpec.ofChange pointsTransitiveSpec)

/-- ITS FALSE NEIGHBOUR: 'it returns false'. Refute it at one input. -/
def pointsTransitiveWrong : ChangeSpec := { name := "pointsTransitive", fn := fun _ => fun
  | [d1, d2] => { results := [.lit (.bool false)], args := [d1, d2] }
  | _ => none }
def PointsTransitiveWrongFalsely : Prop := pointsTransitiveRow.holds Try.pinned (OpenSpec.ofChange pointsTransitiveWrong)

/-- 'mirtowerlaw07.RegionsChecks': WHATEVER THE INPUT: true; the input reads as it did. -/
def regionsChecksSpec : ChangeSpec := { name := "regionsChecks", fn := fun _ => fun
  | [d1, d2] => { results := [.lit (.bool true)], args := [d1, d2] }
  | _ => none }
def regionsChecksRow : OpenClaim := { program := "ytdggkophnlldoaa", sum := "debeec7acf7e413b8297d6b52d78a0a41709b29415088b727db5dbbd0f6136ec", func := "mirtower/mirtowerlaw07.RegionsChecks", spec := "regionsChecks", unfollowed := true, recurses := true, plainKeys := false, apart := false }
def RegionsChecksSaid : Prop := regionsChecksRow.holds Try.pinned (OpenSpec.ofChange regionsChecksSpec)

/-- ITS FALSE NEIGHBOUR: 'it returns false'. Refute it at one input. -/
def regionsChecksWrong : ChangeSpec := { name := "regionsChecks", fn := fun _ => fun
  | [d1, d2] => { results := [.lit (.bool false)], args := [d1, d2] }
  | _ => none }
def RegionsChecksWrongFalsely : Prop := regionsChecksRow.holds Try.pinned (OpenSpec.ofChange regionsChecksWrong)

/-- 'mirtowerlaw07.RegionsOutlives': WHATEVER THE INPUT: true; the input reads as it did. -/
def regionsOutlivesSpec : ChangeSpec := { name := "regionsOutlives", fn := fun _ => fun
  | [d1, d2, d3] => { results := [.lit (.bool true)], args := [d1, d2, d3] }
  | _ => none }
def regionsOutlivesRow : OpenClaim := { program := "ytdggkophnlldoaa", sum := "debeec7acf7e413b8297d6b52d78a0a41709b29415088b727db5dbbd0f6136ec", func := "mirtower/mirtowerlaw07.RegionsOutlives", spec := "regionsOutlives", unfollowed := true, recurses := true, plainKeys := false, apart := false }
def RegionsOutlivesSaid : Prop := regionsOutlivesRow.holds Try.pinned (OpenSpec.ofChange regionsOutlivesSpec)

/-- ITS FALSE NEIGHBOUR: 'it returns false'. Refute it at one input. -/
def regionsOutlivesWrong : ChangeSpec := { name := "regionsOutlives", fn := fun _ => fun
  | [d1, d2, d3] => { results := [.lit (.bool false)], args := [d1, d2, d3] }
  | _ => none }
def RegionsOutlivesWrongFalsely : Prop := regionsOutlivesRow.holds Try.pinned (OpenSpec.ofChange regionsOutlivesWrong)

/-- 'mirtowerlaw07.RegionsCloses': WHATEVER THE INPUT: true; the input reads as it did. -/
def regionsClosesSpec : ChangeSpec := { name := "regionsCloses", fn := fun _ => fun
  | [d1, d2, d3] => { results := [.lit (.bool true)], args := [d1, d2, d3] }
  | _ => none }
def regionsClosesRow : OpenClaim := { program := "ytdggkophnlldoaa", sum := "debeec7acf7e413b8297d6b52d78a0a41709b29415088b727db5dbbd0f6136ec", func := "mirtower/mirtowerlaw07.RegionsCloses", spec := "regionsCloses", unfollowed := true, recurses := true, plainKeys := false, apart := false }
def RegionsClosesSaid : Prop := regionsClosesRow.holds Try.pinned (OpenSpec.ofChange regionsClosesSpec)

/-- ITS FALSE NEIGHBOUR: 'it returns false'. Refute it at one input. -/
def regionsClosesWrong : ChangeSpec := { name := "regionsCloses", fn := fun _ => fun
  | [d1, d2, d3] => { results := [.lit (.bool false)], args := [d1, d2, d3] }
  | _ => none }
def RegionsClosesWrongFalsely : Prop := regionsClosesRow.holds Try.pinned (OpenSpec.ofChange regionsClosesWrong)

/-- 'mirtowerlaw07.RegionsIsPreorder': WHATEVER THE INPUT: true; the input reads as it did. -/
def regionsIsPreorderSpec : ChangeSpec := { name := "regionsIsPreorder", fn := fun _ => fun
  | [d1, d2, d3] => { results := [.lit (.bool true)], args := [d1, d2, d3] }
  | _ => none }
def regionsIsPreorderRow : OpenClaim := { program := "ytdggkophnlldoaa", sum := "debeec7acf7e413b8297d6b52d78a0a41709b29415088b727db5dbbd0f6136ec", func := "mirtower/mirtowerlaw07.RegionsIsPreorder", spec := "regionsIsPreorder", unfollowed := true, recurses := true, plainKeys := false, apart := false }
def RegionsIsPreorderSaid : Prop := regionsIsPreorderRow.holds Try.pinned (OpenSpec.ofChange regionsIsPreorderSpec)

/-- ITS FALSE NEIGHBOUR: 'it returns false'. Refute it at one input. -/
def regionsIsPreorderWrong : ChangeSpec := { name := "regionsIsPreorder", fn := fun _ => fun
  | [d1, d2, d3] => { results := [.lit (.bool false)], args := [d1, d2, d3] }
  | _ => none }
def RegionsIsPreorderWrongFalsely : Prop := regionsIsPreorderRow.holds Try.pinned (OpenSpec.ofChange regionsIsPreorderWrong)

/-- 'mirtowerlaw07.RegionsSubtypes': WHATEVER THE INPUT: true; the input reads as it did. -/
def regionsSubtypesSpec : ChangeSpec := { name := "regionsSubtypes", fn := fun _ => fun
  | [d1, d2, d3] => { results := [.lit (.bool true)], args := [d1, d2, d3] }
  | _ => none }
def regionsSubtypesRow : OpenClaim := { program := "ytdggkophnlldoaa", sum := "debeec7acf7e413b8297d6b52d78a0a41709b29415088b727db5dbbd0f6136ec", func := "mirtower/mirtowerlaw07.RegionsSubtypes", spec := "regionsSubtypes", unfollowed := true, recurses := true, plainKeys := false, apart := false }
def RegionsSubtypesSaid : Prop := regionsSubtypesRow.holds Try.pinned (OpenSpec.ofChange regionsSubtypesSpec)

/-- ITS FALSE NEIGHBOUR: 'it returns false'. Refute it at one input. -/
def regionsSubtypesWrong : ChangeSpec := { name := "regionsSubtypes", fn := fun _ => fun
  | [d1, d2, d3] => { results := [.lit (.bool false)], args := [d1, d2, d3] }
  | _ => none }
def RegionsSubtypesWrongFalsely : Prop := regionsSubtypesRow.holds Try.pinned (OpenSpec.ofChange regionsSubtypesWrong)

/-- 'mirtowerlaw07.RegionsSubtypeIsPreorder': WHATEVER THE INPUT: true; the input reads as it did. -/
def regionsSubtypeIsPreorderSpec : ChangeSpec := { name := "regionsSubtypeIsPreorder", fn := fun _ => fun
  | [d1, d2, d3] => { results := [.lit (.bool true)], args := [d1, d2, d3] }
  | _ => none }
def regionsSubtypeIsPreorderRow : OpenClaim := { program := "ytdggkophnlldoaa", sum := "debeec7acf7e413b8297d6b52d78a0a41709b29415088b727db5dbbd0f6136ec", func := "mirtower/mirtowerlaw07.RegionsSubtypeIsPreorder", spec := "regionsSubtypeIsPreorder", unfollowed := true, recurses := true, plainKeys := false, apart := false }
def RegionsSubtypeIsPreorderSaid : Prop := regionsSubtypeIsPreorderRow.holds Try.pinned (OpenSpec.ofChange regionsSubtypeIsPreorderSpec)

/-- ITS FALSE NEIGHBOUR: 'it returns false'. Refute it at one input. -/
def regionsSubtypeIsPreorderWrong : ChangeSpec := { name := "regionsSubtypeIsPreorder", fn := fun _ => fun
  | [d1, d2, d3] => { results := [.lit (.bool false)], args := [d1, d2, d3] }
  | _ => none }
def RegionsSubtypeIsPreorderWrongFalsely : Prop := regionsSubtypeIsPreorderRow.holds Try.pinned (OpenSpec.ofChange regionsSubtypeIsPreorderWrong)

/-- 'mirtowerlaw07.RegionsNests': WHATEVER THE INPUT: true; the input reads as it did. -/
def regionsNestsSpec : ChangeSpec := { name := "regionsNests", fn := fun _ => fun
  | [d1, d2] => { results := [.lit (.bool true)], args := [d1, d2] }
  | _ => none }
def regionsNestsRow : OpenClaim := { program := "ytdggkophnlldoaa", sum := "debeec7acf7e413b8297d6b52d78a0a41709b29415088b727db5dbbd0f6136ec", func := "mirtower/mirtowerlaw07.RegionsNests", spec := "regionsNests", unfollowed := true, recurses := true, plainKeys := false, apart := false }
def RegionsNestsSaid : Prop := regionsNestsRow.holds Try.pinned (OpenSpec.ofChange regionsNestsSpec)

/-- ITS FALSE NEIGHBOUR: 'it returns false'. Refute it at one input. -/
def regionsNestsWrong : ChangeSpec := { name := "regionsNests", fn := fun _ => fun
  | [d1, d2] => { results := [.lit (.bool false)], args := [d1, d2] }
  | _ => none }
def RegionsNestsWrongFalsely : Prop := regionsNestsRow.holds Try.pinned (OpenSpec.ofChange regionsNestsWrong)

/-- 'mirtowerlaw07.RegionsNil': WHATEVER THE INPUT: true; the input reads as it did. -/
def regionsNilSpec : ChangeSpec := { name := "regionsNil", fn := fun _ => fun
  | [d1, d2, d3] => { results := [.lit (.bool true)], args := [d1, d2, d3] }
  | _ => none }
def regionsNilRow : OpenClaim := { program := "ytdggkophnlldoaa", sum := "debeec7acf7e413b8297d6b52d78a0a41709b29415088b727db5dbbd0f6136ec", func := "mirtower/mirtowerlaw07.RegionsNil", spec := "regionsNil", unfollowed := true, recurses := true, plainKeys := false, apart := false }
def RegionsNilSaid : Prop := regionsNilRow.holds Try.pinned (OpenSpec.ofChange regionsNilSpec)

/-- ITS FALSE NEIGHBOUR: 'it returns false'. Refute it at one input. -/
def regionsNilWrong : ChangeSpec := { name := "regionsNil", fn := fun _ => fun
  | [d1, d2, d3] => { results := [.lit (.bool false)], args := [d1, d2, d3] }
  | _ => none }
def RegionsNilWrongFalsely : Prop := regionsNilRow.holds Try.pinned (OpenSpec.ofChange regionsNilWrong)

/- THE SECOND FORM. 'bulk': how many values and letters a reading holds, each counted each time it is reached (what is shared counts as often as it is met; a slice's spare places count too). A statement '..UptoSaid' is the law's where the arguments, and the package variables that the reading takes, are together of bulk at most 1048576: NARROWER than '..Said'. Prove '..Said' where nothing that the law and all that it calls make is longer than what came in: it says more and counts as full. Else prove '..UptoSaid'. A law counts once. -/
mutual
def uptoBulk {H : Type} : DataW H → Nat
  | .lit (.string bytes) => bytes.length + 1
  | .lit _ => 1
  | .nil => 1
  | .ptr d => uptoBulk d + 1
  | .slice elems spare => uptoBulkAll elems + uptoBulkAll spare + 1
  | .agg parts => uptoBulkAll parts + 1
  | .iface _ d => uptoBulk d + 1
  | .map entries => uptoBulkEntries entries + 1
  | .held _ => 1
def uptoBulkAll {H : Type} : List (DataW H) → Nat
  | [] => 0
  | d :: r => uptoBulk d + uptoBulkAll r
def uptoBulkEntries {H : Type} : List (Lit × DataW H) → Nat
  | [] => 0
  | x :: r => uptoBulkEntry x + uptoBulkEntries r
def uptoBulkEntry {H : Type} : Lit × DataW H → Nat
  | (.string bytes, d) => bytes.length + uptoBulk d + 1
  | (_, d) => uptoBulk d + 1
 end
def uptoSmall : (H : Type) → List (DataW H) → Bool := fun _ ds => decide (uptoBulkAll ds ≤ 1048576)
def OpenSpec.upto (s : _root_.Go.ChangeSpec) : _root_.Go.OpenSpec := { _root_.Go.OpenSpec.ofChange s with cond := some uptoSmall }

/-- 'mirtowerlaw11.PointsMatchReference', WHERE WHAT IT READS IS OF BULK AT MOST 1048576: true; the input reads as it did. -/
def pointsMatchReferenceUptoRow : OpenClaim := { program := "ytdggkophnlldoaa", sum := "debeec7acf7e413b8297d6b52d78a0a41709b29415088b727db5dbbd0f6136ec", func := "mirtower/mirtowerlaw11.PointsMatchReference", spec := "pointsMatchReference", unfollowed := true, recurses := true, plainKeys := false, apart := false, narrowed := true }
def PointsMatchReferenceUptoSaid : Prop := pointsMatchReferenceUptoRow.holds Try.pinned (OpenSpec.upto pointsMatchReferenceSpec)

/-- 'mirtowerlaw11.PointsFlow', WHERE WHAT IT READS IS OF BULK AT MOST 1048576: true; the input reads as it did. -/
def pointsFlowUptoRow : OpenClaim := { program := "ytdggkophnlldoaa", sum := "debeec7acf7e413b8297d6b52d78a0a41709b29415088b727db5dbbd0f6136ec", func := "mirtower/mirtowerlaw11.PointsFlow", spec := "pointsFlow", unfollowed := true, recurses := true, plainKeys := false, apart := false, narrowed := true }
def PointsFlowUptoSaid : Prop := pointsFlowUptoRow.holds Try.pinned (OpenSpec.upto pointsFlowSpec)

/-- 'mirtowerlaw11.PointsReach', WHERE WHAT IT READS IS OF BULK AT MOST 1048576: true; the input reads as it did. -/
def pointsReachUptoRow : OpenClaim := { program := "ytdggkophnlldoaa", sum := "debeec7acf7e413b8297d6b52d78a0a41709b29415088b727db5dbbd0f6136ec", func := "mirtower/mirtowerlaw11.PointsReach", spec := "pointsReach", unfollowed := true, recurses := true, plainKeys := false, apart := false, narrowed := true }
def PointsReachUptoSaid : Prop := pointsReachUptoRow.holds Try.pinned (OpenSpec.upto pointsReachSpec)

/-- 'mirtowerlaw11.PointsInverse', WHERE WHAT IT READS IS OF BULK AT MOST 1048576: true; the input reads as it did. -/
def pointsInverseUptoRow : OpenClaim := { program := "ytdggkophnlldoaa", sum := "debeec7acf7e413b8297d6b52d78a0a41709b29415088b727db5dbbd0f6136ec", func := "mirtower/mirtowerlaw11.PointsInverse", spec := "pointsInverse", unfollowed := true, recurses := true, plainKeys := false, apart := false, narrowed := true }
def PointsInverseUptoSaid : Prop := pointsInverseUptoRow.holds Try.pinned (OpenSpec.upto pointsInverseSpec)

/-- 'mirtowerlaw11.PointsEdges', WHERE WHAT IT READS IS OF BULK AT MOST 1048576: true; the input reads as it did. -/
def pointsEdgesUptoRow : OpenClaim := { program := "ytdggkophnlldoaa", sum := "debeec7acf7e413b8297d6b52d78a0a41709b29415088b727db5dbbd0f6136ec", func := "mirtower/mirtowerlaw11.PointsEdges", spec := "pointsEdges", unfollowed := true, recurses := true, plainKeys := false, apart := false, narrowed := true }
def PointsEdgesUptoSaid : Prop := pointsEdgesUptoRow.holds Try.pinned (OpenSpec.upto pointsEdgesSpec)

/-- 'mirtowerlaw11.PointsTransitive', WHERE WHAT IT READS IS OF BULK AT MOST 1048576: true; the input reads as it did. -/
def pointsTransitiveUptoRow : OpenClaim := { program := "ytdggkophnlldoaa", sum := "debeec7acf7e413b8297d6b52d78a0a41709b29415088b727db5dbbd0f6136ec", func := "mirtower/mirtowerlaw11.PointsTransitive", spec := "pointsTransitive", unfollowed := true, recurses := true, plainKeys := false, apart := false, narrowed := true }
def PointsTransitiveUptoSaid : Prop := pointsTransitiveUptoRow.holds Try.pinned (OpenSpec.upto pointsTransitiveSpec)

/-- 'mirtowerlaw07.RegionsChecks', WHERE WHAT IT READS IS OF BULK AT MOST 1048576: true; the input reads as it did. -/
def regionsChecksUptoRow : OpenClaim := { program := "ytdggkophnlldoaa", sum := "debeec7acf7e413b8297d6b52d78a0a41709b29415088b727db5dbbd0f6136ec", func := "mirtower/mirtowerlaw07.RegionsChecks", spec := "regionsChecks", unfollowed := true, recurses := true, plainKeys := false, apart := false, narrowed := true }
def RegionsChecksUptoSaid : Prop := regionsChecksUptoRow.holds Try.pinned (OpenSpec.upto regionsChecksSpec)

/-- 'mirtowerlaw07.RegionsOutlives', WHERE WHAT IT READS IS OF BULK AT MOST 1048576: true; the input reads as it did. -/
def regionsOutlivesUptoRow : OpenClaim := { program := "ytdggkophnlldoaa", sum := "debeec7acf7e413b8297d6b52d78a0a41709b29415088b727db5dbbd0f6136ec", func := "mirtower/mirtowerlaw07.RegionsOutlives", spec := "regionsOutlives", unfollowed := true, recurses := true, plainKeys := false, apart := false, narrowed := true }
def RegionsOutlivesUptoSaid : Prop := regionsOutlivesUptoRow.holds Try.pinned (OpenSpec.upto regionsOutlivesSpec)

/-- 'mirtowerlaw07.RegionsCloses', WHERE WHAT IT READS IS OF BULK AT MOST 1048576: true; the input reads as it did. -/
def regionsClosesUptoRow : OpenClaim := { program := "ytdggkophnlldoaa", sum := "debeec7acf7e413b8297d6b52d78a0a41709b29415088b727db5dbbd0f6136ec", func := "mirtower/mirtowerlaw07.RegionsCloses", spec := "regionsCloses", unfollowed := true, recurses := true, plainKeys := false, apart := false, narrowed := true }
def RegionsClosesUptoSaid : Prop := regionsClosesUptoRow.holds Try.pinned (OpenSpec.upto regionsClosesSpec)

/-- 'mirtowerlaw07.RegionsIsPreorder', WHERE WHAT IT READS IS OF BULK AT MOST 1048576: true; the input reads as it did. -/
def regionsIsPreorderUptoRow : OpenClaim := { program := "ytdggkophnlldoaa", sum := "debeec7acf7e413b8297d6b52d78a0a41709b29415088b727db5dbbd0f6136ec", func := "mirtower/mirtowerlaw07.RegionsIsPreorder", spec := "regionsIsPreorder", unfollowed := true, recurses := true, plainKeys := false, apart := false, narrowed := true }
def RegionsIsPreorderUptoSaid : Prop := regionsIsPreorderUptoRow.holds Try.pinned (OpenSpec.upto regionsIsPreorderSpec)

/-- 'mirtowerlaw07.RegionsSubtypes', WHERE WHAT IT READS IS OF BULK AT MOST 1048576: true; the input reads as it did. -/
def regionsSubtypesUptoRow : OpenClaim := { program := "ytdggkophnlldoaa", sum := "debeec7acf7e413b8297d6b52d78a0a41709b29415088b727db5dbbd0f6136ec", func := "mirtower/mirtowerlaw07.RegionsSubtypes", spec := "regionsSubtypes", unfollowed := true, recurses := true, plainKeys := false, apart := false, narrowed := true }
def RegionsSubtypesUptoSaid : Prop := regionsSubtypesUptoRow.holds Try.pinned (OpenSpec.upto regionsSubtypesSpec)

/-- 'mirtowerlaw07.RegionsSubtypeIsPreorder', WHERE WHAT IT READS IS OF BULK AT MOST 1048576: true; the input reads as it did. -/
def regionsSubtypeIsPreorderUptoRow : OpenClaim := { program := "ytdggkophnlldoaa", sum := "debeec7acf7e413b8297d6b52d78a0a41709b29415088b727db5dbbd0f6136ec", func := "mirtower/mirtowerlaw07.RegionsSubtypeIsPreorder", spec := "regionsSubtypeIsPreorder", unfollowed := true, recurses := true, plainKeys := false, apart := false, narrowed := true }
def RegionsSubtypeIsPreorderUptoSaid : Prop := regionsSubtypeIsPreorderUptoRow.holds Try.pinned (OpenSpec.upto regionsSubtypeIsPreorderSpec)

/-- 'mirtowerlaw07.RegionsNests', WHERE WHAT IT READS IS OF BULK AT MOST 1048576: true; the input reads as it did. -/
def regionsNestsUptoRow : OpenClaim := { program := "ytdggkophnlldoaa", sum := "debeec7acf7e413b8297d6b52d78a0a41709b29415088b727db5dbbd0f6136ec", func := "mirtower/mirtowerlaw07.RegionsNests", spec := "regionsNests", unfollowed := true, recurses := true, plainKeys := false, apart := false, narrowed := true }
def RegionsNestsUptoSaid : Prop := regionsNestsUptoRow.holds Try.pinned (OpenSpec.upto regionsNestsSpec)

/-- 'mirtowerlaw07.RegionsNil', WHERE WHAT IT READS IS OF BULK AT MOST 1048576: true; the input reads as it did. -/
def regionsNilUptoRow : OpenClaim := { program := "ytdggkophnlldoaa", sum := "debeec7acf7e413b8297d6b52d78a0a41709b29415088b727db5dbbd0f6136ec", func := "mirtower/mirtowerlaw07.RegionsNil", spec := "regionsNil", unfollowed := true, recurses := true, plainKeys := false, apart := false, narrowed := true }
def RegionsNilUptoSaid : Prop := regionsNilUptoRow.holds Try.pinned (OpenSpec.upto regionsNilSpec)

end Rows
end Go.Proofs.Ytdggkophnlldoaa
