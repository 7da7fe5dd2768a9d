/-
  No cell of these rows narrows 'for every input' (looked for: loops, veiled, ifaces, maps, wideKeys, modest, calm, conditions, laid).
  DERIVED. THE GIVEN ROWS OF THIS SEAT. 12 by the template 'for every input the law returns true; each argument reads behind the call as it read before'; 0 by the template 'total and deterministic' (their statements: YtbcghjcakincoaaTotals.lean).
  GIVEN WITH THE SEED: the statements are not yours to turn. If you find one false, say at which input.
  Laid BY PROGRAM, IN A SANDBOX (cutbox-rows.mjs): the forced cells as the released guide's own fill.sh prints them over the translation d73502eab2f67e04… (all of the seat's roots in one cut). By AI agents, Wed Nov 11 2026. No macro, syntax, notation, axiom, sorry.
-/
import Derived.Test.YtbcghjcakincoaaChecked
import GoSem.Claim
import GoSem.ClaimJoined
import GoSem.ClaimMapViews
import Derived.JoinedTies
import Derived.KernelRfl
namespace Go.Proofs.Ytbcghjcakincoaa
/- THE CELL 'sum', in the pinned program and in every row, IS THE sha256 OF THE DUMP (.gsa) THAT YtbcghjcakincoaaProg.lean LOADS. Nothing in Lean hashes anything: it is a label: what it is worth is what the hold of that sum in a sandbox is worth. -/
noncomputable def Try.pinned : Pinned := { name := "ytbcghjcakincoaa", sum := "d73502eab2f67e041f142d17e10cbb7caeaa74d4ff1b759caa65fa29a016453e", checked := Try.checked }
namespace Rows
def none {H : Type} : Left H := { results := [], args := [] }

/-- 'mirtowerlaw09.BodiesCompare': WHATEVER THE INPUT: true; the input reads as it did. -/
def bodiesCompareSpec : ChangeSpec := { name := "bodiesCompare", fn := fun _ => fun
  | [d1, d2] => { results := [.lit (.bool true)], args := [d1, d2] }
  | _ => none }
def bodiesCompareRow : OpenClaim := { program := "ytbcghjcakincoaa", sum := "d73502eab2f67e041f142d17e10cbb7caeaa74d4ff1b759caa65fa29a016453e", func := "mirtower/mirtowerlaw09.BodiesCompare", spec := "bodiesCompare", unfollowed := true, recurses := true, apart := false }
def BodiesCompareSaid : Prop := bodiesCompareRow.holds Try.pinned (OpenSpec.ofChange bodiesCompareSpec)

/-- ITS FALSE NEIGHBOUR: 'it returns false'. Refute it at one input. -/
def bodiesCompareWrong : ChangeSpec := { name := "bodiesCompare", fn := fun _ => fun
  | [d1, d2] => { results := [.lit (.bool false)], args := [d1, d2] }
  | _ => none }
def BodiesCompareWrongFalsely : Prop := bodiesCompareRow.holds Try.pinned (OpenSpec.ofChange bodiesCompareWrong)

/-- 'mirtowerlaw09.BodiesMeasures': WHATEVER THE INPUT: true; the input reads as it did. -/
def bodiesMeasuresSpec : ChangeSpec := { name := "bodiesMeasures", fn := fun _ => fun
  | [d] => { results := [.lit (.bool true)], args := [d] }
  | _ => none }
def bodiesMeasuresRow : OpenClaim := { program := "ytbcghjcakincoaa", sum := "d73502eab2f67e041f142d17e10cbb7caeaa74d4ff1b759caa65fa29a016453e", func := "mirtower/mirtowerlaw09.BodiesMeasures", spec := "bodiesMeasures", unfollowed := true, recurses := true, apart := false }
def BodiesMeasuresSaid : Prop := bodiesMeasuresRow.holds Try.pinned (OpenSpec.ofChange bodiesMeasuresSpec)

/-- ITS FALSE NEIGHBOUR: 'it returns false'. Refute it at one input. -/
def bodiesMeasuresWrong : ChangeSpec := { name := "bodiesMeasures", fn := fun _ => fun
  | [d] => { results := [.lit (.bool false)], args := [d] }
  | _ => none }
def BodiesMeasuresWrongFalsely : Prop := bodiesMeasuresRow.holds Try.pinned (OpenSpec.ofChange bodiesMeasuresWrong)

/-- 'mirtowerlaw09.BodiesOperands': WHATEVER THE INPUT: true; the input reads as it did. -/
def bodiesOperandsSpec : ChangeSpec := { name := "bodiesOperands", fn := fun _ => fun
  | [d] => { results := [.lit (.bool true)], args := [d] }
  | _ => none }
def bodiesOperandsRow : OpenClaim := { program := "ytbcghjcakincoaa", sum := "d73502eab2f67e041f142d17e10cbb7caeaa74d4ff1b759caa65fa29a016453e", func := "mirtower/mirtowerlaw09.BodiesOperands", spec := "bodiesOperands", unfollowed := true, recurses := true, apart := false }
def BodiesOperandsSaid : Prop := bodiesOperandsRow.holds Try.pinned (OpenSpec.ofChange bodiesOperandsSpec)

/-- ITS FALSE NEIGHBOUR: 'it returns false'. Refute it at one input. -/
def bodiesOperandsWrong : ChangeSpec := { name := "bodiesOperands", fn := fun _ => fun
  | [d] => { results := [.lit (.bool false)], args := [d] }
  | _ => none }
def BodiesOperandsWrongFalsely : Prop := bodiesOperandsRow.holds Try.pinned (OpenSpec.ofChange bodiesOperandsWrong)

/-- 'mirtowerlaw09.BodiesClone': WHATEVER THE INPUT: true; the input reads as it did. -/
def bodiesCloneSpec : ChangeSpec := { name := "bodiesClone", fn := fun _ => fun
  | [d] => { results := [.lit (.bool true)], args := [d] }
  | _ => none }
def bodiesCloneRow : OpenClaim := { program := "ytbcghjcakincoaa", sum := "d73502eab2f67e041f142d17e10cbb7caeaa74d4ff1b759caa65fa29a016453e", func := "mirtower/mirtowerlaw09.BodiesClone", spec := "bodiesClone", unfollowed := true, recurses := true, apart := false }
def BodiesCloneSaid : Prop := bodiesCloneRow.holds Try.pinned (OpenSpec.ofChange bodiesCloneSpec)

/-- ITS FALSE NEIGHBOUR: 'it returns false'. Refute it at one input. -/
def bodiesCloneWrong : ChangeSpec := { name := "bodiesClone", fn := fun _ => fun
  | [d] => { results := [.lit (.bool false)], args := [d] }
  | _ => none }
def BodiesCloneWrongFalsely : Prop := bodiesCloneRow.holds Try.pinned (OpenSpec.ofChange bodiesCloneWrong)

/-- 'mirtowerlaw09.BodiesDiffer': WHATEVER THE INPUT: true; the input reads as it did. -/
def bodiesDifferSpec : ChangeSpec := { name := "bodiesDiffer", fn := fun _ => fun
  | [d1, d2] => { results := [.lit (.bool true)], args := [d1, d2] }
  | _ => none }
def bodiesDifferRow : OpenClaim := { program := "ytbcghjcakincoaa", sum := "d73502eab2f67e041f142d17e10cbb7caeaa74d4ff1b759caa65fa29a016453e", func := "mirtower/mirtowerlaw09.BodiesDiffer", spec := "bodiesDiffer", unfollowed := true, recurses := true, apart := false }
def BodiesDifferSaid : Prop := bodiesDifferRow.holds Try.pinned (OpenSpec.ofChange bodiesDifferSpec)

/-- ITS FALSE NEIGHBOUR: 'it returns false'. Refute it at one input. -/
def bodiesDifferWrong : ChangeSpec := { name := "bodiesDiffer", fn := fun _ => fun
  | [d1, d2] => { results := [.lit (.bool false)], args := [d1, d2] }
  | _ => none }
def BodiesDifferWrongFalsely : Prop := bodiesDifferRow.holds Try.pinned (OpenSpec.ofChange bodiesDifferWrong)

/-- 'mirtowerlaw09.BodiesEqual': WHATEVER THE INPUT: true; the input reads as it did. -/
def bodiesEqualSpec : ChangeSpec := { name := "bodiesEqual", fn := fun _ => fun
  | [d1, d2] => { results := [.lit (.bool true)], args := [d1, d2] }
  | _ => none }
def bodiesEqualRow : OpenClaim := { program := "ytbcghjcakincoaa", sum := "d73502eab2f67e041f142d17e10cbb7caeaa74d4ff1b759caa65fa29a016453e", func := "mirtower/mirtowerlaw09.BodiesEqual", spec := "bodiesEqual", unfollowed := true, recurses := true, apart := false }
def BodiesEqualSaid : Prop := bodiesEqualRow.holds Try.pinned (OpenSpec.ofChange bodiesEqualSpec)

/-- ITS FALSE NEIGHBOUR: 'it returns false'. Refute it at one input. -/
def bodiesEqualWrong : ChangeSpec := { name := "bodiesEqual", fn := fun _ => fun
  | [d1, d2] => { results := [.lit (.bool false)], args := [d1, d2] }
  | _ => none }
def BodiesEqualWrongFalsely : Prop := bodiesEqualRow.holds Try.pinned (OpenSpec.ofChange bodiesEqualWrong)

/-- 'mirtowerlaw06.TypesChecks': WHATEVER THE INPUT: true; the input reads as it did. -/
def typesChecksSpec : ChangeSpec := { name := "typesChecks", fn := fun _ => fun
  | [d1, d2] => { results := [.lit (.bool true)], args := [d1, d2] }
  | _ => none }
def typesChecksRow : OpenClaim := { program := "ytbcghjcakincoaa", sum := "d73502eab2f67e041f142d17e10cbb7caeaa74d4ff1b759caa65fa29a016453e", func := "mirtower/mirtowerlaw06.TypesChecks", spec := "typesChecks", unfollowed := true, recurses := true, apart := false }
def TypesChecksSaid : Prop := typesChecksRow.holds Try.pinned (OpenSpec.ofChange typesChecksSpec)

/-- ITS FALSE NEIGHBOUR: 'it returns false'. Refute it at one input. -/
def typesChecksWrong : ChangeSpec := { name := "typesChecks", fn := fun _ => fun
  | [d1, d2] => { results := [.lit (.bool false)], args := [d1, d2] }
  | _ => none }
def TypesChecksWrongFalsely : Prop := typesChecksRow.holds Try.pinned (OpenSpec.ofChange typesChecksWrong)

/-- 'mirtowerlaw06.TypesEquals': WHATEVER THE INPUT: true; the input reads as it did. -/
def typesEqualsSpec : ChangeSpec := { name := "typesEquals", fn := fun _ => fun
  | [d1, d2, d3] => { results := [.lit (.bool true)], args := [d1, d2, d3] }
  | _ => none }
def typesEqualsRow : OpenClaim := { program := "ytbcghjcakincoaa", sum := "d73502eab2f67e041f142d17e10cbb7caeaa74d4ff1b759caa65fa29a016453e", func := "mirtower/mirtowerlaw06.TypesEquals", spec := "typesEquals", unfollowed := true, recurses := true, apart := false }
def TypesEqualsSaid : Prop := typesEqualsRow.holds Try.pinned (OpenSpec.ofChange typesEqualsSpec)

/-- ITS FALSE NEIGHBOUR: 'it returns false'. Refute it at one input. -/
def typesEqualsWrong : ChangeSpec := { name := "typesEquals", fn := fun _ => fun
  | [d1, d2, d3] => { results := [.lit (.bool false)], args := [d1, d2, d3] }
  | _ => none }
def TypesEqualsWrongFalsely : Prop := typesEqualsRow.holds Try.pinned (OpenSpec.ofChange typesEqualsWrong)

/-- 'mirtowerlaw06.TypesProperties': WHATEVER THE INPUT: true; the input reads as it did. -/
def typesPropertiesSpec : ChangeSpec := { name := "typesProperties", fn := fun _ => fun
  | [d1, d2, d3] => { results := [.lit (.bool true)], args := [d1, d2, d3] }
  | _ => none }
def typesPropertiesRow : OpenClaim := { program := "ytbcghjcakincoaa", sum := "d73502eab2f67e041f142d17e10cbb7caeaa74d4ff1b759caa65fa29a016453e", func := "mirtower/mirtowerlaw06.TypesProperties", spec := "typesProperties", unfollowed := true, recurses := true, apart := false }
def TypesPropertiesSaid : Prop := typesPropertiesRow.holds Try.pinned (OpenSpec.ofChange typesPropertiesSpec)

/-- ITS FALSE NEIGHBOUR: 'it returns false'. Refute it at one input. -/
def typesPropertiesWrong : ChangeSpec := { name := "typesProperties", fn := fun _ => fun
  | [d1, d2, d3] => { results := [.lit (.bool false)], args := [d1, d2, d3] }
  | _ => none }
def TypesPropertiesWrongFalsely : Prop := typesPropertiesRow.holds Try.pinned (OpenSpec.ofChange typesPropertiesWrong)

/-- 'mirtowerlaw06.TypesPrefixes': WHATEVER THE INPUT: true; the input reads as it did. -/
def typesPrefixesSpec : ChangeSpec := { name := "typesPrefixes", fn := fun _ => fun
  | [d1, d2, d3] => { results := [.lit (.bool true)], args := [d1, d2, d3] }
  | _ => none }
def typesPrefixesRow : OpenClaim := { program := "ytbcghjcakincoaa", sum := "d73502eab2f67e041f142d17e10cbb7caeaa74d4ff1b759caa65fa29a016453e", func := "mirtower/mirtowerlaw06.TypesPrefixes", spec := "typesPrefixes", unfollowed := true, recurses := true, apart := false }
def TypesPrefixesSaid : Prop := typesPrefixesRow.holds Try.pinned (OpenSpec.ofChange typesPrefixesSpec)

/-- ITS FALSE NEIGHBOUR: 'it returns false'. Refute it at one input. -/
def typesPrefixesWrong : ChangeSpec := { name := "typesPrefixes", fn := fun _ => fun
  | [d1, d2, d3] => { results := [.lit (.bool false)], args := [d1, d2, d3] }
  | _ => none }
def TypesPrefixesWrongFalsely : Prop := typesPrefixesRow.holds Try.pinned (OpenSpec.ofChange typesPrefixesWrong)

/-- 'mirtowerlaw06.TypesNests': WHATEVER THE INPUT: true; the input reads as it did. -/
def typesNestsSpec : ChangeSpec := { name := "typesNests", fn := fun _ => fun
  | [d1, d2] => { results := [.lit (.bool true)], args := [d1, d2] }
  | _ => none }
def typesNestsRow : OpenClaim := { program := "ytbcghjcakincoaa", sum := "d73502eab2f67e041f142d17e10cbb7caeaa74d4ff1b759caa65fa29a016453e", func := "mirtower/mirtowerlaw06.TypesNests", spec := "typesNests", unfollowed := true, recurses := true, apart := false }
def TypesNestsSaid : Prop := typesNestsRow.holds Try.pinned (OpenSpec.ofChange typesNestsSpec)

/-- ITS FALSE NEIGHBOUR: 'it returns false'. Refute it at one input. -/
def typesNestsWrong : ChangeSpec := { name := "typesNests", fn := fun _ => fun
  | [d1, d2] => { results := [.lit (.bool false)], args := [d1, d2] }
  | _ => none }
def TypesNestsWrongFalsely : Prop := typesNestsRow.holds Try.pinned (OpenSpec.ofChange typesNestsWrong)

/-- 'mirtowerlaw06.TypesMonotone': WHATEVER THE INPUT: true; the input reads as it did. -/
def typesMonotoneSpec : ChangeSpec := { name := "typesMonotone", fn := fun _ => fun
  | [d1, d2, d3] => { results := [.lit (.bool true)], args := [d1, d2, d3] }
  | _ => none }
def typesMonotoneRow : OpenClaim := { program := "ytbcghjcakincoaa", sum := "d73502eab2f67e041f142d17e10cbb7caeaa74d4ff1b759caa65fa29a016453e", func := "mirtower/mirtowerlaw06.TypesMonotone", spec := "typesMonotone", unfollowed := true, recurses := true, apart := false }
def TypesMonotoneSaid : Prop := typesMonotoneRow.holds Try.pinned (OpenSpec.ofChange typesMonotoneSpec)

/-- ITS FALSE NEIGHBOUR: 'it returns false'. Refute it at one input. -/
def typesMonotoneWrong : ChangeSpec := { name := "typesMonotone", fn := fun _ => fun
  | [d1, d2, d3] => { results := [.lit (.bool false)], args := [d1, d2, d3] }
  | _ => none }
def TypesMonotoneWrongFalsely : Prop := typesMonotoneRow.holds Try.pinned (OpenSpec.ofChange typesMonotoneWrong)

/- THE SECOND FORM. 'bulk': how many values and letters a reading holds, each counted each time it is reached (what is shared counts as often as it is met; a slice's spare places count too). A statement '..UptoSaid' is the law's where the arguments, and the package variables that the reading takes, are together of bulk at most 1048576: NARROWER than '..Said'. Prove '..Said' where nothing that the law and all that it calls make is longer than what came in: it says more and counts as full. Else prove '..UptoSaid'. A law counts once. -/
mutual
def uptoBulk {H : Type} : DataW H → Nat
  | .lit (.string bytes) => bytes.length + 1
  | .lit _ => 1
  | .nil => 1
  | .ptr d => uptoBulk d + 1
  | .slice elems spare => uptoBulkAll elems + uptoBulkAll spare + 1
  | .agg parts => uptoBulkAll parts + 1
  | .iface _ d => uptoBulk d + 1
  | .map entries => uptoBulkEntries entries + 1
  | .held _ => 1
def uptoBulkAll {H : Type} : List (DataW H) → Nat
  | [] => 0
  | d :: r => uptoBulk d + uptoBulkAll r
def uptoBulkEntries {H : Type} : List (Lit × DataW H) → Nat
  | [] => 0
  | x :: r => uptoBulkEntry x + uptoBulkEntries r
def uptoBulkEntry {H : Type} : Lit × DataW H → Nat
  | (.string bytes, d) => bytes.length + uptoBulk d + 1
  | (_, d) => uptoBulk d + 1
 end
def uptoSmall : (H : Type) → List (DataW H) → Bool := fun _ ds => decide (uptoBulkAll ds ≤ 1048576)
def OpenSpec.upto (s : _root_.Go.ChangeSpec) : _root_.Go.OpenSpec := { _root_.Go.OpenSpec.ofChange s with cond := some uptoSmall }

/-- 'mirtowerlaw09.BodiesCompare', WHERE WHAT IT READS IS OF BULK AT MOST 1048576: true; the input reads as it did. -/
def bodiesCompareUptoRow : OpenClaim := { program := "ytbcghjcakincoaa", sum := "d73502eab2f67e041f142d17e10cbb7caeaa74d4ff1b759caa65fa29a016453e", func := "mirtower/mirtowerlaw09.BodiesCompare", spec := "bodiesCompare", unfollowed := true, recurses := true, apart := false, narrowed := true }
def BodiesCompareUptoSaid : Prop := bodiesCompareUptoRow.holds Try.pinned (OpenSpec.upto bodiesCompareSpec)

/-- 'mirtowerlaw09.BodiesMeasures', WHERE WHAT IT READS IS OF BULK AT MOST 1048576: true; the input reads as it did. -/
def bodiesMeasuresUptoRow : OpenClaim := { program := "ytbcghjcakincoaa", sum := "d73502eab2f67e041f142d17e10cbb7caeaa74d4ff1b759caa65fa29a016453e", func := "mirtower/mirtowerlaw09.BodiesMeasures", spec := "bodiesMeasures", unfollowed := true, recurses := true, apart := false, narrowed := true }
def BodiesMeasuresUptoSaid : Prop := bodiesMeasuresUptoRow.holds Try.pinned (OpenSpec.upto bodiesMeasuresSpec)

/-- 'mirtowerlaw09.BodiesOperands', WHERE WHAT IT READS IS OF BULK AT MOST 1048576: true; the input reads as it did. -/
def bodiesOperandsUptoRow : OpenClaim := { program := "ytbcghjcakincoaa", sum := "d73502eab2f67e041f142d17e10cbb7caeaa74d4ff1b759caa65fa29a016453e", func := "mirtower/mirtowerlaw09.BodiesOperands", spec := "bodiesOperands", unfollowed := true, recurses := true, apart := false, narrowed := true }
def BodiesOperandsUptoSaid : Prop := bodiesOperandsUptoRow.holds Try.pinned (OpenSpec.upto bodiesOperandsSpec)

/-- 'mirtowerlaw09.BodiesClone', WHERE WHAT IT READS IS OF BULK AT MOST 1048576: true; the input reads as it did. -/
def bodiesCloneUptoRow : OpenClaim := { program := "ytbcghjcakincoaa", sum := "d73502eab2f67e041f142d17e10cbb7caeaa74d4ff1b759caa65fa29a016453e", func := "mirtower/mirtowerlaw09.BodiesClone", spec := "bodiesClone", unfollowed := true, recurses := true, apart := false, narrowed := true }
def BodiesCloneUptoSaid : Prop := bodiesCloneUptoRow.holds Try.pinned (OpenSpec.upto bodiesCloneSpec)

/-- 'mirtowerlaw09.BodiesDiffer', WHERE WHAT IT READS IS OF BULK AT MOST 1048576: true; the input reads as it did. -/
def bodiesDifferUptoRow : OpenClaim := { program := "ytbcghjcakincoaa", sum := "d73502eab2f67e041f142d17e10cbb7caeaa74d4ff1b759caa65fa29a016453e", func := "mirtower/mirtowerlaw09.BodiesDiffer", spec := "bodiesDiffer", unfollowed := true, recurses := true, apart := false, narrowed := true }
def BodiesDifferUptoSaid : Prop := bodiesDifferUptoRow.holds Try.pinned (OpenSpec.upto bodiesDifferSpec)

/-- 'mirtowerlaw09.BodiesEqual', WHERE WHAT IT READS IS OF BULK AT MOST 1048576: true; the input reads as it did. -/
def bodiesEqualUptoRow : OpenClaim := { program := "ytbcghjcakincoaa", sum := "d73502eab2f67e041f142d17e10cbb7caeaa74d4ff1b759caa65fa29a016453e", func := "mirtower/mirtowerlaw09.BodiesEqual", spec := "bodiesEqual", unfollowed := true, recurses := true, apart := false, narrowed := true }
def BodiesEqualUptoSaid : Prop := bodiesEqualUptoRow.holds Try.pinned (OpenSpec.upto bodiesEqualSpec)

/-- 'mirtowerlaw06.TypesChecks', WHERE WHAT IT READS IS OF BULK AT MOST 1048576: true; the input reads as it did. -/
def typesChecksUptoRow : OpenClaim := { program := "ytbcghjcakincoaa", sum := "d73502eab2f67e041f142d17e10cbb7caeaa74d4ff1b759caa65fa29a016453e", func := "mirtower/mirtowerlaw06.TypesChecks", spec := "typesChecks", unfollowed := true, recurses := true, apart := false, narrowed := true }
def TypesChecksUptoSaid : Prop := typesChecksUptoRow.holds Try.pinned (OpenSpec.upto typesChecksSpec)

/-- 'mirtowerlaw06.TypesEquals', WHERE WHAT IT READS IS OF BULK AT MOST 1048576: true; the input reads as it did. -/
def typesEqualsUptoRow : OpenClaim := { program := "ytbcghjcakincoaa", sum := "d73502eab2f67e041f142d17e10cbb7caeaa74d4ff1b759caa65fa29a016453e", func := "mirtower/mirtowerlaw06.TypesEquals", spec := "typesEquals", unfollowed := true, recurses := true, apart := false, narrowed := true }
def TypesEqualsUptoSaid : Prop := typesEqualsUptoRow.holds Try.pinned (OpenSpec.upto typesEqualsSpec)

/-- 'mirtowerlaw06.TypesProperties', WHERE WHAT IT READS IS OF BULK AT MOST 1048576: true; the input reads as it did. -/
def typesPropertiesUptoRow : OpenClaim := { program := "ytbcghjcakincoaa", sum := "d73502eab2f67e041f142d17e10cbb7caeaa74d4ff1b759caa65fa29a016453e", func := "mirtower/mirtowerlaw06.TypesProperties", spec := "typesProperties", unfollowed := true, recurses := true, apart := false, narrowed := true }
def TypesPropertiesUptoSaid : Prop := typesPropertiesUptoRow.holds Try.pinned (OpenSpec.upto typesPropertiesSpec)

/-- 'mirtowerlaw06.TypesPrefixes', WHERE WHAT IT READS IS OF BULK AT MOST 1048576: true; the input reads as it did. -/
def typesPrefixesUptoRow : OpenClaim := { program := "ytbcghjcakincoaa", sum := "d73502eab2f67e041f142d17e10cbb7caeaa74d4ff1b759caa65fa29a016453e", func := "mirtower/mirtowerlaw06.TypesPrefixes", spec := "typesPrefixes", unfollowed := true, recurses := true, apart := false, narrowed := true }
def TypesPrefixesUptoSaid : Prop := typesPrefixesUptoRow.holds Try.pinned (OpenSpec.upto typesPrefixesSpec)

/-- 'mirtowerlaw06.TypesNests', WHERE WHAT IT READS IS OF BULK AT MOST 1048576: true; the input reads as it did. -/
def typesNestsUptoRow : OpenClaim := { program := "ytbcghjcakincoaa", sum := "d73502eab2f67e041f142d17e10cbb7caeaa74d4ff1b759caa65fa29a016453e", func := "mirtower/mirtowerlaw06.TypesNests", spec := "typesNests", unfollowed := true, recurses := true, apart := false, narrowed := true }
def TypesNestsUptoSaid : Prop := typesNestsUptoRow.holds Try.pinned (OpenSpec.upto typesNestsSpec)

/-- 'mirtowerlaw06.TypesMonotone', WHERE WHAT IT READS IS OF BULK AT MOST 1048576: true; the input reads as it did. -/
def typesMonotoneUptoRow : OpenClaim := { program := "ytbcghjcakincoaa", sum := "d73502eab2f67e041f142d17e10cbb7caeaa74d4ff1b759caa65fa29a016453e", func := "mirtower/mirtowerlaw06.TypesMonotone", spec := "typesMonotone", unfollowed := true, recurses := true, apart := false, narrowed := true }
def TypesMonotoneUptoSaid : Prop := typesMonotoneUptoRow.holds Try.pinned (OpenSpec.upto typesMonotoneSpec)

end Rows
end Go.Proofs.Ytbcghjcakincoaa
