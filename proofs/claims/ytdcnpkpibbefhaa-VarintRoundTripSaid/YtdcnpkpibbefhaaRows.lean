/-
  No cell of these rows narrows 'for every input' (looked for: loops, veiled, ifaces, maps, wideKeys, modest, calm, conditions, laid).
  DERIVED. THE GIVEN ROWS OF THIS SEAT. 12 by the template 'for every input the law returns true; each argument reads behind the call as it read before'; 0 by the template 'total and deterministic' (their statements: YtdcnpkpibbefhaaTotals.lean).
  GIVEN WITH THE SEED: the statements are not yours to turn. If you find one false, say at which input.
  Laid BY PROGRAM, IN A SANDBOX (cutbox-rows.mjs): the forced cells as the released guide's own fill.sh prints them over the translation 5a2f1b8b79f27634… (all of the seat's roots in one cut). By AI agents, Wed Nov 11 2026. No macro, syntax, notation, axiom, sorry.
-/
import Derived.Test.YtdcnpkpibbefhaaChecked
import GoSem.Claim
import GoSem.ClaimJoined
import GoSem.ClaimMapViews
import Derived.JoinedTies
import Derived.KernelRfl
namespace Go.Proofs.Ytdcnpkpibbefhaa
/- THE CELL 'sum', in the pinned program and in every row, IS THE sha256 OF THE DUMP (.gsa) THAT YtdcnpkpibbefhaaProg.lean LOADS. Nothing in Lean hashes anything: it is a label: what it is worth is what the hold of that sum in a sandbox is worth. -/
noncomputable def Try.pinned : Pinned := { name := "ytdcnpkpibbefhaa", sum := "5a2f1b8b79f2763439826e9d655aca84e918594f36009301c99db6819a0426ae", checked := Try.checked }
namespace Rows
def none {H : Type} : Left H := { results := [], args := [] }

/-- 'mirtowerlaw02.CrcUpdates': WHATEVER THE INPUT: true; the input reads as it did. -/
def crcUpdatesSpec : ChangeSpec := { name := "crcUpdates", fn := fun _ => fun
  | [d1, d2] => { results := [.lit (.bool true)], args := [d1, d2] }
  | _ => none }
def crcUpdatesRow : OpenClaim := { program := "ytdcnpkpibbefhaa", sum := "5a2f1b8b79f2763439826e9d655aca84e918594f36009301c99db6819a0426ae", func := "mirtower/mirtowerlaw02.CrcUpdates", spec := "crcUpdates", apart := false }
def CrcUpdatesSaid : Prop := crcUpdatesRow.holds Try.pinned (OpenSpec.ofChange crcUpdatesSpec)

/-- ITS FALSE NEIGHBOUR: 'it returns false'. Refute it at one input. -/
def crcUpdatesWrong : ChangeSpec := { name := "crcUpdates", fn := fun _ => fun
  | [d1, d2] => { results := [.lit (.bool false)], args := [d1, d2] }
  | _ => none }
def CrcUpdatesWrongFalsely : Prop := crcUpdatesRow.holds Try.pinned (OpenSpec.ofChange crcUpdatesWrong)

/-- 'mirtowerlaw02.CrcConcatenation': WHATEVER THE INPUT: true; the input reads as it did. -/
def crcConcatenationSpec : ChangeSpec := { name := "crcConcatenation", fn := fun _ => fun
  | [d1, d2] => { results := [.lit (.bool true)], args := [d1, d2] }
  | _ => none }
def crcConcatenationRow : OpenClaim := { program := "ytdcnpkpibbefhaa", sum := "5a2f1b8b79f2763439826e9d655aca84e918594f36009301c99db6819a0426ae", func := "mirtower/mirtowerlaw02.CrcConcatenation", spec := "crcConcatenation", apart := false }
def CrcConcatenationSaid : Prop := crcConcatenationRow.holds Try.pinned (OpenSpec.ofChange crcConcatenationSpec)

/-- ITS FALSE NEIGHBOUR: 'it returns false'. Refute it at one input. -/
def crcConcatenationWrong : ChangeSpec := { name := "crcConcatenation", fn := fun _ => fun
  | [d1, d2] => { results := [.lit (.bool false)], args := [d1, d2] }
  | _ => none }
def CrcConcatenationWrongFalsely : Prop := crcConcatenationRow.holds Try.pinned (OpenSpec.ofChange crcConcatenationWrong)

/-- 'mirtowerlaw02.CrcIsLinear': WHATEVER THE INPUT: true; the input reads as it did. -/
def crcIsLinearSpec : ChangeSpec := { name := "crcIsLinear", fn := fun _ => fun
  | [d1, d2, d3] => { results := [.lit (.bool true)], args := [d1, d2, d3] }
  | _ => none }
def crcIsLinearRow : OpenClaim := { program := "ytdcnpkpibbefhaa", sum := "5a2f1b8b79f2763439826e9d655aca84e918594f36009301c99db6819a0426ae", func := "mirtower/mirtowerlaw02.CrcIsLinear", spec := "crcIsLinear", apart := false }
def CrcIsLinearSaid : Prop := crcIsLinearRow.holds Try.pinned (OpenSpec.ofChange crcIsLinearSpec)

/-- ITS FALSE NEIGHBOUR: 'it returns false'. Refute it at one input. -/
def crcIsLinearWrong : ChangeSpec := { name := "crcIsLinear", fn := fun _ => fun
  | [d1, d2, d3] => { results := [.lit (.bool false)], args := [d1, d2, d3] }
  | _ => none }
def CrcIsLinearWrongFalsely : Prop := crcIsLinearRow.holds Try.pinned (OpenSpec.ofChange crcIsLinearWrong)

/-- 'mirtowerlaw02.CrcSums': WHATEVER THE INPUT: true; the input reads as it did. -/
def crcSumsSpec : ChangeSpec := { name := "crcSums", fn := fun _ => fun
  | [d] => { results := [.lit (.bool true)], args := [d] }
  | _ => none }
def crcSumsRow : OpenClaim := { program := "ytdcnpkpibbefhaa", sum := "5a2f1b8b79f2763439826e9d655aca84e918594f36009301c99db6819a0426ae", func := "mirtower/mirtowerlaw02.CrcSums", spec := "crcSums", apart := false }
def CrcSumsSaid : Prop := crcSumsRow.holds Try.pinned (OpenSpec.ofChange crcSumsSpec)

/-- ITS FALSE NEIGHBOUR: 'it returns false'. Refute it at one input. -/
def crcSumsWrong : ChangeSpec := { name := "crcSums", fn := fun _ => fun
  | [d] => { results := [.lit (.bool false)], args := [d] }
  | _ => none }
def CrcSumsWrongFalsely : Prop := crcSumsRow.holds Try.pinned (OpenSpec.ofChange crcSumsWrong)

/-- 'mirtowerlaw02.CrcFindsBursts': WHATEVER THE INPUT: true; the input reads as it did. -/
def crcFindsBurstsSpec : ChangeSpec := { name := "crcFindsBursts", fn := fun _ => fun
  | [d1, d2, d3] => { results := [.lit (.bool true)], args := [d1, d2, d3] }
  | _ => none }
def crcFindsBurstsRow : OpenClaim := { program := "ytdcnpkpibbefhaa", sum := "5a2f1b8b79f2763439826e9d655aca84e918594f36009301c99db6819a0426ae", func := "mirtower/mirtowerlaw02.CrcFindsBursts", spec := "crcFindsBursts", apart := false }
def CrcFindsBurstsSaid : Prop := crcFindsBurstsRow.holds Try.pinned (OpenSpec.ofChange crcFindsBurstsSpec)

/-- ITS FALSE NEIGHBOUR: 'it returns false'. Refute it at one input. -/
def crcFindsBurstsWrong : ChangeSpec := { name := "crcFindsBursts", fn := fun _ => fun
  | [d1, d2, d3] => { results := [.lit (.bool false)], args := [d1, d2, d3] }
  | _ => none }
def CrcFindsBurstsWrongFalsely : Prop := crcFindsBurstsRow.holds Try.pinned (OpenSpec.ofChange crcFindsBurstsWrong)

/-- 'mirtowerlaw02.CrcIsolated': WHATEVER THE INPUT: true; the input reads as it did. -/
def crcIsolatedSpec : ChangeSpec := { name := "crcIsolated", fn := fun _ => fun
  | [d] => { results := [.lit (.bool true)], args := [d] }
  | _ => none }
def crcIsolatedRow : OpenClaim := { program := "ytdcnpkpibbefhaa", sum := "5a2f1b8b79f2763439826e9d655aca84e918594f36009301c99db6819a0426ae", func := "mirtower/mirtowerlaw02.CrcIsolated", spec := "crcIsolated", apart := false }
def CrcIsolatedSaid : Prop := crcIsolatedRow.holds Try.pinned (OpenSpec.ofChange crcIsolatedSpec)

/-- ITS FALSE NEIGHBOUR: 'it returns false'. Refute it at one input. -/
def crcIsolatedWrong : ChangeSpec := { name := "crcIsolated", fn := fun _ => fun
  | [d] => { results := [.lit (.bool false)], args := [d] }
  | _ => none }
def CrcIsolatedWrongFalsely : Prop := crcIsolatedRow.holds Try.pinned (OpenSpec.ofChange crcIsolatedWrong)

/-- 'mirtowerlaw01.VarintPuts': WHATEVER THE INPUT: true; the input reads as it did. -/
def varintPutsSpec : ChangeSpec := { name := "varintPuts", fn := fun _ => fun
  | [d] => { results := [.lit (.bool true)], args := [d] }
  | _ => none }
def varintPutsRow : OpenClaim := { program := "ytdcnpkpibbefhaa", sum := "5a2f1b8b79f2763439826e9d655aca84e918594f36009301c99db6819a0426ae", func := "mirtower/mirtowerlaw01.VarintPuts", spec := "varintPuts", unfollowed := true, recurses := true, apart := false }
def VarintPutsSaid : Prop := varintPutsRow.holds Try.pinned (OpenSpec.ofChange varintPutsSpec)

/-- ITS FALSE NEIGHBOUR: 'it returns false'. Refute it at one input. -/
def varintPutsWrong : ChangeSpec := { name := "varintPuts", fn := fun _ => fun
  | [d] => { results := [.lit (.bool false)], args := [d] }
  | _ => none }
def VarintPutsWrongFalsely : Prop := varintPutsRow.holds Try.pinned (OpenSpec.ofChange varintPutsWrong)

/-- 'mirtowerlaw01.VarintGets': WHATEVER THE INPUT: true; the input reads as it did. -/
def varintGetsSpec : ChangeSpec := { name := "varintGets", fn := fun _ => fun
  | [d1, d2] => { results := [.lit (.bool true)], args := [d1, d2] }
  | _ => none }
def varintGetsRow : OpenClaim := { program := "ytdcnpkpibbefhaa", sum := "5a2f1b8b79f2763439826e9d655aca84e918594f36009301c99db6819a0426ae", func := "mirtower/mirtowerlaw01.VarintGets", spec := "varintGets", unfollowed := true, recurses := true, apart := false }
def VarintGetsSaid : Prop := varintGetsRow.holds Try.pinned (OpenSpec.ofChange varintGetsSpec)

/-- ITS FALSE NEIGHBOUR: 'it returns false'. Refute it at one input. -/
def varintGetsWrong : ChangeSpec := { name := "varintGets", fn := fun _ => fun
  | [d1, d2] => { results := [.lit (.bool false)], args := [d1, d2] }
  | _ => none }
def VarintGetsWrongFalsely : Prop := varintGetsRow.holds Try.pinned (OpenSpec.ofChange varintGetsWrong)

/-- 'mirtowerlaw01.VarintZigzag': WHATEVER THE INPUT: true; the input reads as it did. -/
def varintZigzagSpec : ChangeSpec := { name := "varintZigzag", fn := fun _ => fun
  | [d1, d2] => { results := [.lit (.bool true)], args := [d1, d2] }
  | _ => none }
def varintZigzagRow : OpenClaim := { program := "ytdcnpkpibbefhaa", sum := "5a2f1b8b79f2763439826e9d655aca84e918594f36009301c99db6819a0426ae", func := "mirtower/mirtowerlaw01.VarintZigzag", spec := "varintZigzag", unfollowed := true, recurses := true, apart := false }
def VarintZigzagSaid : Prop := varintZigzagRow.holds Try.pinned (OpenSpec.ofChange varintZigzagSpec)

/-- ITS FALSE NEIGHBOUR: 'it returns false'. Refute it at one input. -/
def varintZigzagWrong : ChangeSpec := { name := "varintZigzag", fn := fun _ => fun
  | [d1, d2] => { results := [.lit (.bool false)], args := [d1, d2] }
  | _ => none }
def VarintZigzagWrongFalsely : Prop := varintZigzagRow.holds Try.pinned (OpenSpec.ofChange varintZigzagWrong)

/-- 'mirtowerlaw01.VarintOrder': WHATEVER THE INPUT: true; the input reads as it did. -/
def varintOrderSpec : ChangeSpec := { name := "varintOrder", fn := fun _ => fun
  | [d1, d2] => { results := [.lit (.bool true)], args := [d1, d2] }
  | _ => none }
def varintOrderRow : OpenClaim := { program := "ytdcnpkpibbefhaa", sum := "5a2f1b8b79f2763439826e9d655aca84e918594f36009301c99db6819a0426ae", func := "mirtower/mirtowerlaw01.VarintOrder", spec := "varintOrder", unfollowed := true, recurses := true, apart := false }
def VarintOrderSaid : Prop := varintOrderRow.holds Try.pinned (OpenSpec.ofChange varintOrderSpec)

/-- ITS FALSE NEIGHBOUR: 'it returns false'. Refute it at one input. -/
def varintOrderWrong : ChangeSpec := { name := "varintOrder", fn := fun _ => fun
  | [d1, d2] => { results := [.lit (.bool false)], args := [d1, d2] }
  | _ => none }
def VarintOrderWrongFalsely : Prop := varintOrderRow.holds Try.pinned (OpenSpec.ofChange varintOrderWrong)

/-- 'mirtowerlaw01.VarintIsCanonical': WHATEVER THE INPUT: true; the input reads as it did. -/
def varintIsCanonicalSpec : ChangeSpec := { name := "varintIsCanonical", fn := fun _ => fun
  | [d] => { results := [.lit (.bool true)], args := [d] }
  | _ => none }
def varintIsCanonicalRow : OpenClaim := { program := "ytdcnpkpibbefhaa", sum := "5a2f1b8b79f2763439826e9d655aca84e918594f36009301c99db6819a0426ae", func := "mirtower/mirtowerlaw01.VarintIsCanonical", spec := "varintIsCanonical", unfollowed := true, recurses := true, apart := false }
def VarintIsCanonicalSaid : Prop := varintIsCanonicalRow.holds Try.pinned (OpenSpec.ofChange varintIsCanonicalSpec)

/-- ITS FALSE NEIGHBOUR: 'it returns false'. Refute it at one input. -/
def varintIsCanonicalWrong : ChangeSpec := { name := "varintIsCanonical", fn := fun _ => fun
  | [d] => { results := [.lit (.bool false)], args := [d] }
  | _ => none }
def VarintIsCanonicalWrongFalsely : Prop := varintIsCanonicalRow.holds Try.pinned (OpenSpec.ofChange varintIsCanonicalWrong)

/-- 'mirtowerlaw01.VarintRoundTrip': WHATEVER THE INPUT: true; the input reads as it did. -/
def varintRoundTripSpec : ChangeSpec := { name := "varintRoundTrip", fn := fun _ => fun
  | [d1, d2, d3] => { results := [.lit (.bool true)], args := [d1, d2, d3] }
  | _ => none }
def varintRoundTripRow : OpenClaim := { program := "ytdcnpkpibbefhaa", sum := "5a2f1b8b79f2763439826e9d655aca84e918594f36009301c99db6819a0426ae", func := "mirtower/mirtowerlaw01.VarintRoundTrip", spec := "varintRoundTrip", unfollowed := true, recurses := true, apart := false }
def VarintRoundTripSaid : Prop := varintRoundTripRow.holds Try.pinned (OpenSpec.ofChange varintRoundTripSpec)

/-- ITS FALSE NEIGHBOUR: 'it returns false'. Refute it at one input. -/
def varintRoundTripWrong : ChangeSpec := { name := "varintRoundTrip", fn := fun _ => fun
  | [d1, d2, d3] => { results := [.lit (.bool false)], args := [d1, d2, d3] }
  | _ => none }
def VarintRoundTripWrongFalsely : Prop := varintRoundTripRow.holds Try.pinned (OpenSpec.ofChange varintRoundTripWrong)

/- THE SECOND FORM. 'bulk': how many values and letters a reading holds, each counted each time it is reached (what is shared counts as often as it is met; a slice's spare places count too). A statement '..UptoSaid' is the law's where the arguments, and the package variables that the reading takes, are together of bulk at most 1048576: NARROWER than '..Said'. Prove '..Said' where nothing that the law and all that it calls make is longer than what came in: it says more and counts as full. Else prove '..UptoSaid'. A law counts once. -/
mutual
def uptoBulk {H : Type} : DataW H → Nat
  | .lit (.string bytes) => bytes.length + 1
  | .lit _ => 1
  | .nil => 1
  | .ptr d => uptoBulk d + 1
  | .slice elems spare => uptoBulkAll elems + uptoBulkAll spare + 1
  | .agg parts => uptoBulkAll parts + 1
  | .iface _ d => uptoBulk d + 1
  | .map entries => uptoBulkEntries entries + 1
  | .held _ => 1
def uptoBulkAll {H : Type} : List (DataW H) → Nat
  | [] => 0
  | d :: r => uptoBulk d + uptoBulkAll r
def uptoBulkEntries {H : Type} : List (Lit × DataW H) → Nat
  | [] => 0
  | x :: r => uptoBulkEntry x + uptoBulkEntries r
def uptoBulkEntry {H : Type} : Lit × DataW H → Nat
  | (.string bytes, d) => bytes.length + uptoBulk d + 1
  | (_, d) => uptoBulk d + 1
 end
def uptoSmall : (H : Type) → List (DataW H) → Bool := fun _ ds => decide (uptoBulkAll ds ≤ 1048576)
def OpenSpec.upto (s : _root_.Go.ChangeSpec) : _root_.Go.OpenSpec := { _root_.Go.OpenSpec.ofChange s with cond := some uptoSmall }

/-- 'mirtowerlaw02.CrcUpdates', WHERE WHAT IT READS IS OF BULK AT MOST 1048576: true; the input reads as it did. -/
def crcUpdatesUptoRow : OpenClaim := { program := "ytdcnpkpibbefhaa", sum := "5a2f1b8b79f2763439826e9d655aca84e918594f36009301c99db6819a0426ae", func := "mirtower/mirtowerlaw02.CrcUpdates", spec := "crcUpdates", apart := false, narrowed := true }
def CrcUpdatesUptoSaid : Prop := crcUpdatesUptoRow.holds Try.pinned (OpenSpec.upto crcUpdatesSpec)

/-- 'mirtowerlaw02.CrcConcatenation', WHERE WHAT IT READS IS OF BULK AT MOST 1048576: true; the input reads as it did. -/
def crcConcatenationUptoRow : OpenClaim := { program := "ytdcnpkpibbefhaa", sum := "5a2f1b8b79f2763439826e9d655aca84e918594f36009301c99db6819a0426ae", func := "mirtower/mirtowerlaw02.CrcConcatenation", spec := "crcConcatenation", apart := false, narrowed := true }
def CrcConcatenationUptoSaid : Prop := crcConcatenationUptoRow.holds Try.pinned (OpenSpec.upto crcConcatenationSpec)

/-- 'mirtowerlaw02.CrcIsLinear', WHERE WHAT IT READS IS OF BULK AT MOST 1048576: true; the input reads as it did. -/
def crcIsLinearUptoRow : OpenClaim := { program := "ytdcnpkpibbefhaa", sum := "5a2f1b8b79f2763439826e9d655aca84e918594f36009301c99db6819a0426ae", func := "mirtower/mirtowerlaw02.CrcIsLinear", spec := "crcIsLinear", apart := false, narrowed := true }
def CrcIsLinearUptoSaid : Prop := crcIsLinearUptoRow.holds Try.pinned (OpenSpec.upto crcIsLinearSpec)

/-- 'mirtowerlaw02.CrcSums', WHERE WHAT IT READS IS OF BULK AT MOST 1048576: true; the input reads as it did. -/
def crcSumsUptoRow : OpenClaim := { program := "ytdcnpkpibbefhaa", sum := "5a2f1b8b79f2763439826e9d655aca84e918594f36009301c99db6819a0426ae", func := "mirtower/mirtowerlaw02.CrcSums", spec := "crcSums", apart := false, narrowed := true }
def CrcSumsUptoSaid : Prop := crcSumsUptoRow.holds Try.pinned (OpenSpec.upto crcSumsSpec)

/-- 'mirtowerlaw02.CrcFindsBursts', WHERE WHAT IT READS IS OF BULK AT MOST 1048576: true; the input reads as it did. -/
def crcFindsBurstsUptoRow : OpenClaim := { program := "ytdcnpkpibbefhaa", sum := "5a2f1b8b79f2763439826e9d655aca84e918594f36009301c99db6819a0426ae", func := "mirtower/mirtowerlaw02.CrcFindsBursts", spec := "crcFindsBursts", apart := false, narrowed := true }
def CrcFindsBurstsUptoSaid : Prop := crcFindsBurstsUptoRow.holds Try.pinned (OpenSpec.upto crcFindsBurstsSpec)

/-- 'mirtowerlaw02.CrcIsolated', WHERE WHAT IT READS IS OF BULK AT MOST 1048576: true; the input reads as it did. -/
def crcIsolatedUptoRow : OpenClaim := { program := "ytdcnpkpibbefhaa", sum := "5a2f1b8b79f2763439826e9d655aca84e918594f36009301c99db6819a0426ae", func := "mirtower/mirtowerlaw02.CrcIsolated", spec := "crcIsolated", apart := false, narrowed := true }
def CrcIsolatedUptoSaid : Prop := crcIsolatedUptoRow.holds Try.pinned (OpenSpec.upto crcIsolatedSpec)

/-- 'mirtowerlaw01.VarintPuts', WHERE WHAT IT READS IS OF BULK AT MOST 1048576: true; the input reads as it did. -/
def varintPutsUptoRow : OpenClaim := { program := "ytdcnpkpibbefhaa", sum := "5a2f1b8b79f2763439826e9d655aca84e918594f36009301c99db6819a0426ae", func := "mirtower/mirtowerlaw01.VarintPuts", spec := "varintPuts", unfollowed := true, recurses := true, apart := false, narrowed := true }
def VarintPutsUptoSaid : Prop := varintPutsUptoRow.holds Try.pinned (OpenSpec.upto varintPutsSpec)

/-- 'mirtowerlaw01.VarintGets', WHERE WHAT IT READS IS OF BULK AT MOST 1048576: true; the input reads as it did. -/
def varintGetsUptoRow : OpenClaim := { program := "ytdcnpkpibbefhaa", sum := "5a2f1b8b79f2763439826e9d655aca84e918594f36009301c99db6819a0426ae", func := "mirtower/mirtowerlaw01.VarintGets", spec := "varintGets", unfollowed := true, recurses := true, apart := false, narrowed := true }
def VarintGetsUptoSaid : Prop := varintGetsUptoRow.holds Try.pinned (OpenSpec.upto varintGetsSpec)

/-- 'mirtowerlaw01.VarintZigzag', WHERE WHAT IT READS IS OF BULK AT MOST 1048576: true; the input reads as it did. -/
def varintZigzagUptoRow : OpenClaim := { program := "ytdcnpkpibbefhaa", sum := "5a2f1b8b79f2763439826e9d655aca84e918594f36009301c99db6819a0426ae", func := "mirtower/mirtowerlaw01.VarintZigzag", spec := "varintZigzag", unfollowed := true, recurses := true, apart := false, narrowed := true }
def VarintZigzagUptoSaid : Prop := varintZigzagUptoRow.holds Try.pinned (OpenSpec.upto varintZigzagSpec)

/-- 'mirtowerlaw01.VarintOrder', WHERE WHAT IT READS IS OF BULK AT MOST 1048576: true; the input reads as it did. -/
def varintOrderUptoRow : OpenClaim := { program := "ytdcnpkpibbefhaa", sum := "5a2f1b8b79f2763439826e9d655aca84e918594f36009301c99db6819a0426ae", func := "mirtower/mirtowerlaw01.VarintOrder", spec := "varintOrder", unfollowed := true, recurses := true, apart := false, narrowed := true }
def VarintOrderUptoSaid : Prop := varintOrderUptoRow.holds Try.pinned (OpenSpec.upto varintOrderSpec)

/-- 'mirtowerlaw01.VarintIsCanonical', WHERE WHAT IT READS IS OF BULK AT MOST 1048576: true; the input reads as it did. -/
def varintIsCanonicalUptoRow : OpenClaim := { program := "ytdcnpkpibbefhaa", sum := "5a2f1b8b79f2763439826e9d655aca84e918594f36009301c99db6819a0426ae", func := "mirtower/mirtowerlaw01.VarintIsCanonical", spec := "varintIsCanonical", unfollowed := true, recurses := true, apart := false, narrowed := true }
def VarintIsCanonicalUptoSaid : Prop := varintIsCanonicalUptoRow.holds Try.pinned (OpenSpec.upto varintIsCanonicalSpec)

/-- 'mirtowerlaw01.VarintRoundTrip', WHERE WHAT IT READS IS OF BULK AT MOST 1048576: true; the input reads as it did. -/
def varintRoundTripUptoRow : OpenClaim := { program := "ytdcnpkpibbefhaa", sum := "5a2f1b8b79f2763439826e9d655aca84e918594f36009301c99db6819a0426ae", func := "mirtower/mirtowerlaw01.VarintRoundTrip", spec := "varintRoundTrip", unfollowed := true, recurses := true, apart := false, narrowed := true }
def VarintRoundTripUptoSaid : Prop := varintRoundTripUptoRow.holds Try.pinned (OpenSpec.upto varintRoundTripSpec)

end Rows
end Go.Proofs.Ytdcnpkpibbefhaa
