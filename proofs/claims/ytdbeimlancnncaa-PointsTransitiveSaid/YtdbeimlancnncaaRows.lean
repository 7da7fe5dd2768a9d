/-
  No cell of these rows narrows 'for every input' (looked for: loops, veiled, ifaces, maps, wideKeys, modest, calm, conditions, laid).
  DERIVED. THE GIVEN ROWS OF THIS SEAT. 6 by the template 'for every input the law returns true; each argument reads behind the call as it read before'; 0 by the template 'total and deterministic' (their statements: YtdbeimlancnncaaTotals.lean).
  GIVEN WITH THE SEED: the statements are not yours to turn. If you find one false, say at which input.
  Laid BY PROGRAM, IN A SANDBOX (cutbox-rows.mjs): the forced cells as the released guide's own fill.sh prints them over the translation c939c6e93c428cc0… (all of the seat's roots in one cut). By AI agents, Wed Nov 11 2026. No macro, syntax, notation, axiom, sorry.
-/
import Derived.Test.YtdbeimlancnncaaChecked
import GoSem.Claim
import GoSem.ClaimJoined
import GoSem.ClaimMapViews
import Derived.JoinedTies
import Derived.KernelRfl
namespace Go.Proofs.Ytdbeimlancnncaa
/- THE CELL 'sum', in the pinned program and in every row, IS THE sha256 OF THE DUMP (.gsa) THAT YtdbeimlancnncaaProg.lean LOADS. Nothing in Lean hashes anything: it is a label: what it is worth is what the hold of that sum in a sandbox is worth. -/
noncomputable def Try.pinned : Pinned := { name := "ytdbeimlancnncaa", sum := "c939c6e93c428cc02db10148ab0b734503ab82b3c5f40eeae39ac4fc81a91030", checked := Try.checked }
namespace Rows
def none {H : Type} : Left H := { results := [], args := [] }

/-- 'mirtowerlaw11.PointsMatchReference': WHATEVER THE INPUT: true; the input reads as it did. -/
def pointsMatchReferenceSpec : ChangeSpec := { name := "pointsMatchReference", fn := fun _ => fun
  | [d1, d2, d3] => { results := [.lit (.bool true)], args := [d1, d2, d3] }
  | _ => none }
def pointsMatchReferenceRow : OpenClaim := { program := "ytdbeimlancnncaa", sum := "c939c6e93c428cc02db10148ab0b734503ab82b3c5f40eeae39ac4fc81a91030", func := "mirtower/mirtowerlaw11.PointsMatchReference", spec := "pointsMatchReference", unfollowed := true, recurses := true, apart := false }
def PointsMatchReferenceSaid : Prop := pointsMatchReferenceRow.holds Try.pinned (OpenSpec.ofChange pointsMatchReferenceSpec)

/-- ITS FALSE NEIGHBOUR: 'it returns false'. Refute it at one input. -/
def pointsMatchReferenceWrong : ChangeSpec := { name := "pointsMatchReference", fn := fun _ => fun
  | [d1, d2, d3] => { results := [.lit (.bool false)], args := [d1, d2, d3] }
  | _ => none }
def PointsMatchReferenceWrongFalsely : Prop := pointsMatchReferenceRow.holds Try.pinned (OpenSpec.ofChange pointsMatchReferenceWrong)

/-- 'mirtowerlaw11.PointsFlow': WHATEVER THE INPUT: true; the input reads as it did. -/
def pointsFlowSpec : ChangeSpec := { name := "pointsFlow", fn := fun _ => fun
  | [d1, d2] => { results := [.lit (.bool true)], args := [d1, d2] }
  | _ => none }
def pointsFlowRow : OpenClaim := { program := "ytdbeimlancnncaa", sum := "c939c6e93c428cc02db10148ab0b734503ab82b3c5f40eeae39ac4fc81a91030", func := "mirtower/mirtowerlaw11.PointsFlow", spec := "pointsFlow", unfollowed := true, recurses := true, apart := false }
def PointsFlowSaid : Prop := pointsFlowRow.holds Try.pinned (OpenSpec.ofChange pointsFlowSpec)

/-- ITS FALSE NEIGHBOUR: 'it returns false'. Refute it at one input. -/
def pointsFlowWrong : ChangeSpec := { name := "pointsFlow", fn := fun _ => fun
  | [d1, d2] => { results := [.lit (.bool false)], args := [d1, d2] }
  | _ => none }
def PointsFlowWrongFalsely : Prop := pointsFlowRow.holds Try.pinned (OpenSpec.ofChange pointsFlowWrong)

/-- 'mirtowerlaw11.PointsReach': WHATEVER THE INPUT: true; the input reads as it did. -/
def pointsReachSpec : ChangeSpec := { name := "pointsReach", fn := fun _ => fun
  | [d1, d2, d3] => { results := [.lit (.bool true)], args := [d1, d2, d3] }
  | _ => none }
def pointsReachRow : OpenClaim := { program := "ytdbeimlancnncaa", sum := "c939c6e93c428cc02db10148ab0b734503ab82b3c5f40eeae39ac4fc81a91030", func := "mirtower/mirtowerlaw11.PointsReach", spec := "pointsReach", unfollowed := true, recurses := true, apart := false }
def PointsReachSaid : Prop := pointsReachRow.holds Try.pinned (OpenSpec.ofChange pointsReachSpec)

/-- ITS FALSE NEIGHBOUR: 'it returns false'. Refute it at one input. -/
def pointsReachWrong : ChangeSpec := { name := "pointsReach", fn := fun _ => fun
  | [d1, d2, d3] => { results := [.lit (.bool false)], args := [d1, d2, d3] }
  | _ => none }
def PointsReachWrongFalsely : Prop := pointsReachRow.holds Try.pinned (OpenSpec.ofChange pointsReachWrong)

/-- 'mirtowerlaw11.PointsInverse': WHATEVER THE INPUT: true; the input reads as it did. -/
def pointsInverseSpec : ChangeSpec := { name := "pointsInverse", fn := fun _ => fun
  | [d] => { results := [.lit (.bool true)], args := [d] }
  | _ => none }
def pointsInverseRow : OpenClaim := { program := "ytdbeimlancnncaa", sum := "c939c6e93c428cc02db10148ab0b734503ab82b3c5f40eeae39ac4fc81a91030", func := "mirtower/mirtowerlaw11.PointsInverse", spec := "pointsInverse", unfollowed := true, recurses := true, apart := false }
def PointsInverseSaid : Prop := pointsInverseRow.holds Try.pinned (OpenSpec.ofChange pointsInverseSpec)

/-- ITS FALSE NEIGHBOUR: 'it returns false'. Refute it at one input. -/
def pointsInverseWrong : ChangeSpec := { name := "pointsInverse", fn := fun _ => fun
  | [d] => { results := [.lit (.bool false)], args := [d] }
  | _ => none }
def PointsInverseWrongFalsely : Prop := pointsInverseRow.holds Try.pinned (OpenSpec.ofChange pointsInverseWrong)

/-- 'mirtowerlaw11.PointsEdges': WHATEVER THE INPUT: true; the input reads as it did. -/
def pointsEdgesSpec : ChangeSpec := { name := "pointsEdges", fn := fun _ => fun
  | [d] => { results := [.lit (.bool true)], args := [d] }
  | _ => none }
def pointsEdgesRow : OpenClaim := { program := "ytdbeimlancnncaa", sum := "c939c6e93c428cc02db10148ab0b734503ab82b3c5f40eeae39ac4fc81a91030", func := "mirtower/mirtowerlaw11.PointsEdges", spec := "pointsEdges", unfollowed := true, recurses := true, apart := false }
def PointsEdgesSaid : Prop := pointsEdgesRow.holds Try.pinned (OpenSpec.ofChange pointsEdgesSpec)

/-- ITS FALSE NEIGHBOUR: 'it returns false'. Refute it at one input. -/
def pointsEdgesWrong : ChangeSpec := { name := "pointsEdges", fn := fun _ => fun
  | [d] => { results := [.lit (.bool false)], args := [d] }
  | _ => none }
def PointsEdgesWrongFalsely : Prop := pointsEdgesRow.holds Try.pinned (OpenSpec.ofChange pointsEdgesWrong)

/-- 'mirtowerlaw11.PointsTransitive': WHATEVER THE INPUT: true; the input reads as it did. -/
def pointsTransitiveSpec : ChangeSpec := { name := "pointsTransitive", fn := fun _ => fun
  | [d1, d2] => { results := [.lit (.bool true)], args := [d1, d2] }
  | _ => none }
def pointsTransitiveRow : OpenClaim := { program := "ytdbeimlancnncaa", sum := "c939c6e93c428cc02db10148ab0b734503ab82b3c5f40eeae39ac4fc81a91030", func := "mirtower/mirtowerlaw11.PointsTransitive", spec := "pointsTransitive", unfollowed := true, recurses := true, apart := false }
def PointsTransitiveSaid : Prop := pointsTransitiveRow.holds Try.pinned (OpenSpec.ofChange pointsTransitiveSpec)

/-- ITS FALSE NEIGHBOUR: 'it returns false'. Refute it at one input. -/
def pointsTransitiveWrong : ChangeSpec := { name := "pointsTransitive", fn := fun _ => fun
  | [d1, d2] => { results := [.lit (.bool false)], args := [d1, d2] }
  | _ => none }
def PointsTransitiveWrongFalsely : Prop := pointsTransitiveRow.holds Try.pinned (OpenSpec.ofChange pointsTransitiveWrong)

/- THE SECOND FORM. 'bulk': how many values and letters a reading holds, each counted each time it is reached (what is shared counts as often as it is met; a slice's spare places count too). A statement '..UptoSaid' is the law's where the arguments, and the package variables that the reading takes, are together of bulk at most 1048576: NARROWER than '..Said'. Prove '..Said' where nothing that the law and all that it calls make is longer than what came in: it says more and counts as full. Else prove '..UptoSaid'. A law counts once. -/
mutual
def uptoBulk {H : Type} : DataW H → Nat
  | .lit (.string bytes) => bytes.length + 1
  | .lit _ => 1
  | .nil => 1
  | .ptr d => uptoBulk d + 1
  | .slice elems spare => uptoBulkAll elems + uptoBulkAll spare + 1
  | .agg parts => uptoBulkAll parts + 1
  | .iface _ d => uptoBulk d + 1
  | .map entries => uptoBulkEntries entries + 1
  | .held _ => 1
def uptoBulkAll {H : Type} : List (DataW H) → Nat
  | [] => 0
  | d :: r => uptoBulk d + uptoBulkAll r
def uptoBulkEntries {H : Type} : List (Lit × DataW H) → Nat
  | [] => 0
  | x :: r => uptoBulkEntry x + uptoBulkEntries r
def uptoBulkEntry {H : Type} : Lit × DataW H → Nat
  | (.string bytes, d) => bytes.length + uptoBulk d + 1
  | (_, d) => uptoBulk d + 1
 end
def uptoSmall : (H : Type) → List (DataW H) → Bool := fun _ ds => decide (uptoBulkAll ds ≤ 1048576)
def OpenSpec.upto (s : _root_.Go.ChangeSpec) : _root_.Go.OpenSpec := { _root_.Go.OpenSpec.ofChange s with cond := some uptoSmall }

/-- 'mirtowerlaw11.PointsMatchReference', WHERE WHAT IT READS IS OF BULK AT MOST 1048576: true; the input reads as it did. -/
def pointsMatchReferenceUptoRow : OpenClaim := { program := "ytdbeimlancnncaa", sum := "c939c6e93c428cc02db10148ab0b734503ab82b3c5f40eeae39ac4fc81a91030", func := "mirtower/mirtowerlaw11.PointsMatchReference", spec := "pointsMatchReference", unfollowed := true, recurses := true, apart := false, narrowed := true }
def PointsMatchReferenceUptoSaid : Prop := pointsMatchReferenceUptoRow.holds Try.pinned (OpenSpec.upto pointsMatchReferenceSpec)

/-- 'mirtowerlaw11.PointsFlow', WHERE WHAT IT READS IS OF BULK AT MOST 1048576: true; the input reads as it did. -/
def pointsFlowUptoRow : OpenClaim := { program := "ytdbeimlancnncaa", sum := "c939c6e93c428cc02db10148ab0b734503ab82b3c5f40eeae39ac4fc81a91030", func := "mirtower/mirtowerlaw11.PointsFlow", spec := "pointsFlow", unfollowed := true, recurses := true, apart := false, narrowed := true }
def PointsFlowUptoSaid : Prop := pointsFlowUptoRow.holds Try.pinned (OpenSpec.upto pointsFlowSpec)

/-- 'mirtowerlaw11.PointsReach', WHERE WHAT IT READS IS OF BULK AT MOST 1048576: true; the input reads as it did. -/
def pointsReachUptoRow : OpenClaim := { program := "ytdbeimlancnncaa", sum := "c939c6e93c428cc02db10148ab0b734503ab82b3c5f40eeae39ac4fc81a91030", func := "mirtower/mirtowerlaw11.PointsReach", spec := "pointsReach", unfollowed := true, recurses := true, apart := false, narrowed := true }
def PointsReachUptoSaid : Prop := pointsReachUptoRow.holds Try.pinned (OpenSpec.upto pointsReachSpec)

/-- 'mirtowerlaw11.PointsInverse', WHERE WHAT IT READS IS OF BULK AT MOST 1048576: true; the input reads as it did. -/
def pointsInverseUptoRow : OpenClaim := { program := "ytdbeimlancnncaa", sum := "c939c6e93c428cc02db10148ab0b734503ab82b3c5f40eeae39ac4fc81a91030", func := "mirtower/mirtowerlaw11.PointsInverse", spec := "pointsInverse", unfollowed := true, recurses := true, apart := false, narrowed := true }
def PointsInverseUptoSaid : Prop := pointsInverseUptoRow.holds Try.pinned (OpenSpec.upto pointsInverseSpec)

/-- 'mirtowerlaw11.PointsEdges', WHERE WHAT IT READS IS OF BULK AT MOST 1048576: true; the input reads as it did. -/
def pointsEdgesUptoRow : OpenClaim := { program := "ytdbeimlancnncaa", sum := "c939c6e93c428cc02db10148ab0b734503ab82b3c5f40eeae39ac4fc81a91030", func := "mirtower/mirtowerlaw11.PointsEdges", spec := "pointsEdges", unfollowed := true, recurses := true, apart := false, narrowed := true }
def PointsEdgesUptoSaid : Prop := pointsEdgesUptoRow.holds Try.pinned (OpenSpec.upto pointsEdgesSpec)

/-- 'mirtowerlaw11.PointsTransitive', WHERE WHAT IT READS IS OF BULK AT MOST 1048576: true; the input reads as it did. -/
def pointsTransitiveUptoRow : OpenClaim := { program := "ytdbeimlancnncaa", sum := "c939c6e93c428cc02db10148ab0b734503ab82b3c5f40eeae39ac4fc81a91030", func := "mirtower/mirtowerlaw11.PointsTransitive", spec := "pointsTransitive", unfollowed := true, recurses := true, apart := false, narrowed := true }
def PointsTransitiveUptoSaid : Prop := pointsTransitiveUptoRow.holds Try.pinned (OpenSpec.upto pointsTransitiveSpec)

end Rows
end Go.Proofs.Ytdbeimlancnncaa
