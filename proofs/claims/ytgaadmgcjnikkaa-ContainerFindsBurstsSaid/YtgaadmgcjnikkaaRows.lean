/-
  No cell of these rows narrows 'for every input' (looked for: loops, veiled, ifaces, maps, wideKeys, modest, calm, conditions, laid).
  DERIVED. THE GIVEN ROWS OF THIS SEAT. 12 by the template 'for every input the law returns true; each argument reads behind the call as it read before'; 0 by the template 'total and deterministic' (their statements: YtgaadmgcjnikkaaTotals.lean).
  GIVEN WITH THE SEED: the statements are not yours to turn. If you find one false, say at which input.
  Laid BY PROGRAM, IN A SANDBOX (cutbox-rows.mjs): the forced cells as the released guide's own fill.sh prints them over the translation 29803591d7c830f6… (all of the seat's roots in one cut). By AI agents, Wed Nov 11 2026. No macro, syntax, notation, axiom, sorry.
-/
import Derived.Test.YtgaadmgcjnikkaaChecked
import GoSem.Claim
import GoSem.ClaimJoined
import GoSem.ClaimMapViews
import Derived.JoinedTies
import Derived.KernelRfl
namespace Go.Proofs.Ytgaadmgcjnikkaa
/- THE CELL 'sum', in the pinned program and in every row, IS THE sha256 OF THE DUMP (.gsa) THAT YtgaadmgcjnikkaaProg.lean LOADS. Nothing in Lean hashes anything: it is a label: what it is worth is what the hold of that sum in a sandbox is worth. -/
noncomputable def Try.pinned : Pinned := { name := "ytgaadmgcjnikkaa", sum := "29803591d7c830f6bf4c538caeaa147e4de7db27fc87712109e497120fcede37", checked := Try.checked }
namespace Rows
def none {H : Type} : Left H := { results := [], args := [] }

/-- 'mirtowerlaw03.WireCounts': WHATEVER THE INPUT: true; the input reads as it did. -/
def wireCountsSpec : ChangeSpec := { name := "wireCounts", fn := fun _ => fun
  | [d1, d2, d3] => { results := [.lit (.bool true)], args := [d1, d2, d3] }
  | _ => none }
def wireCountsRow : OpenClaim := { program := "ytgaadmgcjnikkaa", sum := "29803591d7c830f6bf4c538caeaa147e4de7db27fc87712109e497120fcede37", func := "mirtower/mirtowerlaw03.WireCounts", spec := "wireCounts", unfollowed := true, recurses := true, apart := false }
def WireCountsSaid : Prop := wireCountsRow.holds Try.pinned (OpenSpec.ofChange wireCountsSpec)

/-- ITS FALSE NEIGHBOUR: 'it returns false'. Refute it at one input. -/
def wireCountsWrong : ChangeSpec := { name := "wireCounts", fn := fun _ => fun
  | [d1, d2, d3] => { results := [.lit (.bool false)], args := [d1, d2, d3] }
  | _ => none }
def WireCountsWrongFalsely : Prop := wireCountsRow.holds Try.pinned (OpenSpec.ofChange wireCountsWrong)

/-- 'mirtowerlaw03.WireWrites': WHATEVER THE INPUT: true; the input reads as it did. -/
def wireWritesSpec : ChangeSpec := { name := "wireWrites", fn := fun _ => fun
  | [d] => { results := [.lit (.bool true)], args := [d] }
  | _ => none }
def wireWritesRow : OpenClaim := { program := "ytgaadmgcjnikkaa", sum := "29803591d7c830f6bf4c538caeaa147e4de7db27fc87712109e497120fcede37", func := "mirtower/mirtowerlaw03.WireWrites", spec := "wireWrites", unfollowed := true, recurses := true, apart := false }
def WireWritesSaid : Prop := wireWritesRow.holds Try.pinned (OpenSpec.ofChange wireWritesSpec)

/-- ITS FALSE NEIGHBOUR: 'it returns false'. Refute it at one input. -/
def wireWritesWrong : ChangeSpec := { name := "wireWrites", fn := fun _ => fun
  | [d] => { results := [.lit (.bool false)], args := [d] }
  | _ => none }
def WireWritesWrongFalsely : Prop := wireWritesRow.holds Try.pinned (OpenSpec.ofChange wireWritesWrong)

/-- 'mirtowerlaw03.WireReads': WHATEVER THE INPUT: true; the input reads as it did. -/
def wireReadsSpec : ChangeSpec := { name := "wireReads", fn := fun _ => fun
  | [d1, d2] => { results := [.lit (.bool true)], args := [d1, d2] }
  | _ => none }
def wireReadsRow : OpenClaim := { program := "ytgaadmgcjnikkaa", sum := "29803591d7c830f6bf4c538caeaa147e4de7db27fc87712109e497120fcede37", func := "mirtower/mirtowerlaw03.WireReads", spec := "wireReads", unfollowed := true, recurses := true, apart := false }
def WireReadsSaid : Prop := wireReadsRow.holds Try.pinned (OpenSpec.ofChange wireReadsSpec)

/-- ITS FALSE NEIGHBOUR: 'it returns false'. Refute it at one input. -/
def wireReadsWrong : ChangeSpec := { name := "wireReads", fn := fun _ => fun
  | [d1, d2] => { results := [.lit (.bool false)], args := [d1, d2] }
  | _ => none }
def WireReadsWrongFalsely : Prop := wireReadsRow.holds Try.pinned (OpenSpec.ofChange wireReadsWrong)

/-- 'mirtowerlaw03.WireLatches': WHATEVER THE INPUT: true; the input reads as it did. -/
def wireLatchesSpec : ChangeSpec := { name := "wireLatches", fn := fun _ => fun
  | [d1, d2, d3] => { results := [.lit (.bool true)], args := [d1, d2, d3] }
  | _ => none }
def wireLatchesRow : OpenClaim := { program := "ytgaadmgcjnikkaa", sum := "29803591d7c830f6bf4c538caeaa147e4de7db27fc87712109e497120fcede37", func := "mirtower/mirtowerlaw03.WireLatches", spec := "wireLatches", unfollowed := true, recurses := true, apart := false }
def WireLatchesSaid : Prop := wireLatchesRow.holds Try.pinned (OpenSpec.ofChange wireLatchesSpec)

/-- ITS FALSE NEIGHBOUR: 'it returns false'. Refute it at one input. -/
def wireLatchesWrong : ChangeSpec := { name := "wireLatches", fn := fun _ => fun
  | [d1, d2, d3] => { results := [.lit (.bool false)], args := [d1, d2, d3] }
  | _ => none }
def WireLatchesWrongFalsely : Prop := wireLatchesRow.holds Try.pinned (OpenSpec.ofChange wireLatchesWrong)

/-- 'mirtowerlaw03.WireRoundTrip': WHATEVER THE INPUT: true; the input reads as it did. -/
def wireRoundTripSpec : ChangeSpec := { name := "wireRoundTrip", fn := fun _ => fun
  | [d] => { results := [.lit (.bool true)], args := [d] }
  | _ => none }
def wireRoundTripRow : OpenClaim := { program := "ytgaadmgcjnikkaa", sum := "29803591d7c830f6bf4c538caeaa147e4de7db27fc87712109e497120fcede37", func := "mirtower/mirtowerlaw03.WireRoundTrip", spec := "wireRoundTrip", unfollowed := true, recurses := true, apart := false }
def WireRoundTripSaid : Prop := wireRoundTripRow.holds Try.pinned (OpenSpec.ofChange wireRoundTripSpec)

/-- ITS FALSE NEIGHBOUR: 'it returns false'. Refute it at one input. -/
def wireRoundTripWrong : ChangeSpec := { name := "wireRoundTrip", fn := fun _ => fun
  | [d] => { results := [.lit (.bool false)], args := [d] }
  | _ => none }
def WireRoundTripWrongFalsely : Prop := wireRoundTripRow.holds Try.pinned (OpenSpec.ofChange wireRoundTripWrong)

/-- 'mirtowerlaw04.ContainerRejects': WHATEVER THE INPUT: true; the input reads as it did. -/
def containerRejectsSpec : ChangeSpec := { name := "containerRejects", fn := fun _ => fun
  | [d1, d2] => { results := [.lit (.bool true)], args := [d1, d2] }
  | _ => none }
def containerRejectsRow : OpenClaim := { program := "ytgaadmgcjnikkaa", sum := "29803591d7c830f6bf4c538caeaa147e4de7db27fc87712109e497120fcede37", func := "mirtower/mirtowerlaw04.ContainerRejects", spec := "containerRejects", unfollowed := true, recurses := true, apart := false }
def ContainerRejectsSaid : Prop := containerRejectsRow.holds Try.pinned (OpenSpec.ofChange containerRejectsSpec)

/-- ITS FALSE NEIGHBOUR: 'it returns false'. Refute it at one input. -/
def containerRejectsWrong : ChangeSpec := { name := "containerRejects", fn := fun _ => fun
  | [d1, d2] => { results := [.lit (.bool false)], args := [d1, d2] }
  | _ => none }
def ContainerRejectsWrongFalsely : Prop := containerRejectsRow.holds Try.pinned (OpenSpec.ofChange containerRejectsWrong)

/-- 'mirtowerlaw04.ContainerWrites': WHATEVER THE INPUT: true; the input reads as it did. -/
def containerWritesSpec : ChangeSpec := { name := "containerWrites", fn := fun _ => fun
  | [d] => { results := [.lit (.bool true)], args := [d] }
  | _ => none }
def containerWritesRow : OpenClaim := { program := "ytgaadmgcjnikkaa", sum := "29803591d7c830f6bf4c538caeaa147e4de7db27fc87712109e497120fcede37", func := "mirtower/mirtowerlaw04.ContainerWrites", spec := "containerWrites", unfollowed := true, recurses := true, apart := false }
def ContainerWritesSaid : Prop := containerWritesRow.holds Try.pinned (OpenSpec.ofChange containerWritesSpec)

/-- ITS FALSE NEIGHBOUR: 'it returns false'. Refute it at one input. -/
def containerWritesWrong : ChangeSpec := { name := "containerWrites", fn := fun _ => fun
  | [d] => { results := [.lit (.bool false)], args := [d] }
  | _ => none }
def ContainerWritesWrongFalsely : Prop := containerWritesRow.holds Try.pinned (OpenSpec.ofChange containerWritesWrong)

/-- 'mirtowerlaw04.ContainerRoundTrip': WHATEVER THE INPUT: true; the input reads as it did. -/
def containerRoundTripSpec : ChangeSpec := { name := "containerRoundTrip", fn := fun _ => fun
  | [d] => { results := [.lit (.bool true)], args := [d] }
  | _ => none }
def containerRoundTripRow : OpenClaim := { program := "ytgaadmgcjnikkaa", sum := "29803591d7c830f6bf4c538caeaa147e4de7db27fc87712109e497120fcede37", func := "mirtower/mirtowerlaw04.ContainerRoundTrip", spec := "containerRoundTrip", unfollowed := true, recurses := true, apart := false }
def ContainerRoundTripSaid : Prop := containerRoundTripRow.holds Try.pinned (OpenSpec.ofChange containerRoundTripSpec)

/-- ITS FALSE NEIGHBOUR: 'it returns false'. Refute it at one input. -/
def containerRoundTripWrong : ChangeSpec := { name := "containerRoundTrip", fn := fun _ => fun
  | [d] => { results := [.lit (.bool false)], args := [d] }
  | _ => none }
def ContainerRoundTripWrongFalsely : Prop := containerRoundTripRow.holds Try.pinned (OpenSpec.ofChange containerRoundTripWrong)

/-- 'mirtowerlaw04.ContainerIsCanonical': WHATEVER THE INPUT: true; the input reads as it did. -/
def containerIsCanonicalSpec : ChangeSpec := { name := "containerIsCanonical", fn := fun _ => fun
  | [d] => { results := [.lit (.bool true)], args := [d] }
  | _ => none }
def containerIsCanonicalRow : OpenClaim := { program := "ytgaadmgcjnikkaa", sum := "29803591d7c830f6bf4c538caeaa147e4de7db27fc87712109e497120fcede37", func := "mirtower/mirtowerlaw04.ContainerIsCanonical", spec := "containerIsCanonical", unfollowed := true, recurses := true, apart := false }
def ContainerIsCanonicalSaid : Prop := containerIsCanonicalRow.holds Try.pinned (OpenSpec.ofChange containerIsCanonicalSpec)

/-- ITS FALSE NEIGHBOUR: 'it returns false'. Refute it at one input. -/
def containerIsCanonicalWrong : ChangeSpec := { name := "containerIsCanonical", fn := fun _ => fun
  | [d] => { results := [.lit (.bool false)], args := [d] }
  | _ => none }
def ContainerIsCanonicalWrongFalsely : Prop := containerIsCanonicalRow.holds Try.pinned (OpenSpec.ofChange containerIsCanonicalWrong)

/-- 'mirtowerlaw03.WireIsolated': WHATEVER THE INPUT: true; the input reads as it did. -/
def wireIsolatedSpec : ChangeSpec := { name := "wireIsolated", fn := fun _ => fun
  | [d] => { results := [.lit (.bool true)], args := [d] }
  | _ => none }
def wireIsolatedRow : OpenClaim := { program := "ytgaadmgcjnikkaa", sum := "29803591d7c830f6bf4c538caeaa147e4de7db27fc87712109e497120fcede37", func := "mirtower/mirtowerlaw03.WireIsolated", spec := "wireIsolated", unfollowed := true, recurses := true, apart := false }
def WireIsolatedSaid : Prop := wireIsolatedRow.holds Try.pinned (OpenSpec.ofChange wireIsolatedSpec)

/-- ITS FALSE NEIGHBOUR: 'it returns false'. Refute it at one input. -/
def wireIsolatedWrong : ChangeSpec := { name := "wireIsolated", fn := fun _ => fun
  | [d] => { results := [.lit (.bool false)], args := [d] }
  | _ => none }
def WireIsolatedWrongFalsely : Prop := wireIsolatedRow.holds Try.pinned (OpenSpec.ofChange wireIsolatedWrong)

/-- 'mirtowerlaw04.ContainerReads': WHATEVER THE INPUT: true; the input reads as it did. -/
def containerReadsSpec : ChangeSpec := { name := "containerReads", fn := fun _ => fun
  | [d] => { results := [.lit (.bool true)], args := [d] }
  | _ => none }
def containerReadsRow : OpenClaim := { program := "ytgaadmgcjnikkaa", sum := "29803591d7c830f6bf4c538caeaa147e4de7db27fc87712109e497120fcede37", func := "mirtower/mirtowerlaw04.ContainerReads", spec := "containerReads", unfollowed := true, recurses := true, apart := false }
def ContainerReadsSaid : Prop := containerReadsRow.holds Try.pinned (OpenSpec.ofChange containerReadsSpec)

/-- ITS FALSE NEIGHBOUR: 'it returns false'. Refute it at one input. -/
def containerReadsWrong : ChangeSpec := { name := "containerReads", fn := fun _ => fun
  | [d] => { results := [.lit (.bool false)], args := [d] }
  | _ => none }
def ContainerReadsWrongFalsely : Prop := containerReadsRow.holds Try.pinned (OpenSpec.ofChange containerReadsWrong)

/-- 'mirtowerlaw04.ContainerFindsBursts': WHATEVER THE INPUT: true; the input reads as it did. -/
def containerFindsBurstsSpec : ChangeSpec := { name := "containerFindsBursts", fn := fun _ => fun
  | [d1, d2, d3] => { results := [.lit (.bool true)], args := [d1, d2, d3] }
  | _ => none }
def containerFindsBurstsRow : OpenClaim := { program := "ytgaadmgcjnikkaa", sum := "29803591d7c830f6bf4c538caeaa147e4de7db27fc87712109e497120fcede37", func := "mirtower/mirtowerlaw04.ContainerFindsBursts", spec := "containerFindsBursts", unfollowed := true, recurses := true, apart := false }
def ContainerFindsBurstsSaid : Prop := containerFindsBurstsRow.holds Try.pinned (OpenSpec.ofChange containerFindsBurstsSpec)

/-- ITS FALSE NEIGHBOUR: 'it returns false'. Refute it at one input. -/
def containerFindsBurstsWrong : ChangeSpec := { name := "containerFindsBursts", fn := fun _ => fun
  | [d1, d2, d3] => { results := [.lit (.bool false)], args := [d1, d2, d3] }
  | _ => none }
def ContainerFindsBurstsWrongFalsely : Prop := containerFindsBurstsRow.holds Try.pinned (OpenSpec.ofChange containerFindsBurstsWrong)

/- THE SECOND FORM. 'bulk': how many values and letters a reading holds, each counted each time it is reached (what is shared counts as often as it is met; a slice's spare places count too). A statement '..UptoSaid' is the law's where the arguments, and the package variables that the reading takes, are together of bulk at most 1048576: NARROWER than '..Said'. Prove '..Said' where nothing that the law and all that it calls make is longer than what came in: it says more and counts as full. Else prove '..UptoSaid'. A law counts once. -/
mutual
def uptoBulk {H : Type} : DataW H → Nat
  | .lit (.string bytes) => bytes.length + 1
  | .lit _ => 1
  | .nil => 1
  | .ptr d => uptoBulk d + 1
  | .slice elems spare => uptoBulkAll elems + uptoBulkAll spare + 1
  | .agg parts => uptoBulkAll parts + 1
  | .iface _ d => uptoBulk d + 1
  | .map entries => uptoBulkEntries entries + 1
  | .held _ => 1
def uptoBulkAll {H : Type} : List (DataW H) → Nat
  | [] => 0
  | d :: r => uptoBulk d + uptoBulkAll r
def uptoBulkEntries {H : Type} : List (Lit × DataW H) → Nat
  | [] => 0
  | x :: r => uptoBulkEntry x + uptoBulkEntries r
def uptoBulkEntry {H : Type} : Lit × DataW H → Nat
  | (.string bytes, d) => bytes.length + uptoBulk d + 1
  | (_, d) => uptoBulk d + 1
 end
def uptoSmall : (H : Type) → List (DataW H) → Bool := fun _ ds => decide (uptoBulkAll ds ≤ 1048576)
def OpenSpec.upto (s : _root_.Go.ChangeSpec) : _root_.Go.OpenSpec := { _root_.Go.OpenSpec.ofChange s with cond := some uptoSmall }

/-- 'mirtowerlaw03.WireCounts', WHERE WHAT IT READS IS OF BULK AT MOST 1048576: true; the input reads as it did. -/
def wireCountsUptoRow : OpenClaim := { program := "ytgaadmgcjnikkaa", sum := "29803591d7c830f6bf4c538caeaa147e4de7db27fc87712109e497120fcede37", func := "mirtower/mirtowerlaw03.WireCounts", spec := "wireCounts", unfollowed := true, recurses := true, apart := false, narrowed := true }
def WireCountsUptoSaid : Prop := wireCountsUptoRow.holds Try.pinned (OpenSpec.upto wireCountsSpec)

/-- 'mirtowerlaw03.WireWrites', WHERE WHAT IT READS IS OF BULK AT MOST 1048576: true; the input reads as it did. -/
def wireWritesUptoRow : OpenClaim := { program := "ytgaadmgcjnikkaa", sum := "29803591d7c830f6bf4c538caeaa147e4de7db27fc87712109e497120fcede37", func := "mirtower/mirtowerlaw03.WireWrites", spec := "wireWrites", unfollowed := true, recurses := true, apart := false, narrowed := true }
def WireWritesUptoSaid : Prop := wireWritesUptoRow.holds Try.pinned (OpenSpec.upto wireWritesSpec)

/-- 'mirtowerlaw03.WireReads', WHERE WHAT IT READS IS OF BULK AT MOST 1048576: true; the input reads as it did. -/
def wireReadsUptoRow : OpenClaim := { program := "ytgaadmgcjnikkaa", sum := "29803591d7c830f6bf4c538caeaa147e4de7db27fc87712109e497120fcede37", func := "mirtower/mirtowerlaw03.WireReads", spec := "wireReads", unfollowed := true, recurses := true, apart := false, narrowed := true }
def WireReadsUptoSaid : Prop := wireReadsUptoRow.holds Try.pinned (OpenSpec.upto wireReadsSpec)

/-- 'mirtowerlaw03.WireLatches', WHERE WHAT IT READS IS OF BULK AT MOST 1048576: true; the input reads as it did. -/
def wireLatchesUptoRow : OpenClaim := { program := "ytgaadmgcjnikkaa", sum := "29803591d7c830f6bf4c538caeaa147e4de7db27fc87712109e497120fcede37", func := "mirtower/mirtowerlaw03.WireLatches", spec := "wireLatches", unfollowed := true, recurses := true, apart := false, narrowed := true }
def WireLatchesUptoSaid : Prop := wireLatchesUptoRow.holds Try.pinned (OpenSpec.upto wireLatchesSpec)

/-- 'mirtowerlaw03.WireRoundTrip', WHERE WHAT IT READS IS OF BULK AT MOST 1048576: true; the input reads as it did. -/
def wireRoundTripUptoRow : OpenClaim := { program := "ytgaadmgcjnikkaa", sum := "29803591d7c830f6bf4c538caeaa147e4de7db27fc87712109e497120fcede37", func := "mirtower/mirtowerlaw03.WireRoundTrip", spec := "wireRoundTrip", unfollowed := true, recurses := true, apart := false, narrowed := true }
def WireRoundTripUptoSaid : Prop := wireRoundTripUptoRow.holds Try.pinned (OpenSpec.upto wireRoundTripSpec)

/-- 'mirtowerlaw04.ContainerRejects', WHERE WHAT IT READS IS OF BULK AT MOST 1048576: true; the input reads as it did. -/
def containerRejectsUptoRow : OpenClaim := { program := "ytgaadmgcjnikkaa", sum := "29803591d7c830f6bf4c538caeaa147e4de7db27fc87712109e497120fcede37", func := "mirtower/mirtowerlaw04.ContainerRejects", spec := "containerRejects", unfollowed := true, recurses := true, apart := false, narrowed := true }
def ContainerRejectsUptoSaid : Prop := containerRejectsUptoRow.holds Try.pinned (OpenSpec.upto containerRejectsSpec)

/-- 'mirtowerlaw04.ContainerWrites', WHERE WHAT IT READS IS OF BULK AT MOST 1048576: true; the input reads as it did. -/
def containerWritesUptoRow : OpenClaim := { program := "ytgaadmgcjnikkaa", sum := "29803591d7c830f6bf4c538caeaa147e4de7db27fc87712109e497120fcede37", func := "mirtower/mirtowerlaw04.ContainerWrites", spec := "containerWrites", unfollowed := true, recurses := true, apart := false, narrowed := true }
def ContainerWritesUptoSaid : Prop := containerWritesUptoRow.holds Try.pinned (OpenSpec.upto containerWritesSpec)

/-- 'mirtowerlaw04.ContainerRoundTrip', WHERE WHAT IT READS IS OF BULK AT MOST 1048576: true; the input reads as it did. -/
def containerRoundTripUptoRow : OpenClaim := { program := "ytgaadmgcjnikkaa", sum := "29803591d7c830f6bf4c538caeaa147e4de7db27fc87712109e497120fcede37", func := "mirtower/mirtowerlaw04.ContainerRoundTrip", spec := "containerRoundTrip", unfollowed := true, recurses := true, apart := false, narrowed := true }
def ContainerRoundTripUptoSaid : Prop := containerRoundTripUptoRow.holds Try.pinned (OpenSpec.upto containerRoundTripSpec)

/-- 'mirtowerlaw04.ContainerIsCanonical', WHERE WHAT IT READS IS OF BULK AT MOST 1048576: true; the input reads as it did. -/
def containerIsCanonicalUptoRow : OpenClaim := { program := "ytgaadmgcjnikkaa", sum := "29803591d7c830f6bf4c538caeaa147e4de7db27fc87712109e497120fcede37", func := "mirtower/mirtowerlaw04.ContainerIsCanonical", spec := "containerIsCanonical", unfollowed := true, recurses := true, apart := false, narrowed := true }
def ContainerIsCanonicalUptoSaid : Prop := containerIsCanonicalUptoRow.holds Try.pinned (OpenSpec.upto containerIsCanonicalSpec)

/-- 'mirtowerlaw03.WireIsolated', WHERE WHAT IT READS IS OF BULK AT MOST 1048576: true; the input reads as it did. -/
def wireIsolatedUptoRow : OpenClaim := { program := "ytgaadmgcjnikkaa", sum := "29803591d7c830f6bf4c538caeaa147e4de7db27fc87712109e497120fcede37", func := "mirtower/mirtowerlaw03.WireIsolated", spec := "wireIsolated", unfollowed := true, recurses := true, apart := false, narrowed := true }
def WireIsolatedUptoSaid : Prop := wireIsolatedUptoRow.holds Try.pinned (OpenSpec.upto wireIsolatedSpec)

/-- 'mirtowerlaw04.ContainerReads', WHERE WHAT IT READS IS OF BULK AT MOST 1048576: true; the input reads as it did. -/
def containerReadsUptoRow : OpenClaim := { program := "ytgaadmgcjnikkaa", sum := "29803591d7c830f6bf4c538caeaa147e4de7db27fc87712109e497120fcede37", func := "mirtower/mirtowerlaw04.ContainerReads", spec := "containerReads", unfollowed := true, recurses := true, apart := false, narrowed := true }
def ContainerReadsUptoSaid : Prop := containerReadsUptoRow.holds Try.pinned (OpenSpec.upto containerReadsSpec)

/-- 'mirtowerlaw04.ContainerFindsBursts', WHERE WHAT IT READS IS OF BULK AT MOST 1048576: true; the input reads as it did. -/
def containerFindsBurstsUptoRow : OpenClaim := { program := "ytgaadmgcjnikkaa", sum := "29803591d7c830f6bf4c538caeaa147e4de7db27fc87712109e497120fcede37", func := "mirtower/mirtowerlaw04.ContainerFindsBursts", spec := "containerFindsBursts", unfollowed := true, recurses := true, apart := false, narrowed := true }
def ContainerFindsBurstsUptoSaid : Prop := containerFindsBurstsUptoRow.holds Try.pinned (OpenSpec.upto containerFindsBurstsSpec)

end Rows
end Go.Proofs.Ytgaadmgcjnikkaa
