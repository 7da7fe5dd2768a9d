/-
  NARROWER THAN 'FOR EVERY INPUT', by the rows' own cells (each row's printed sentence says how): InternIdents: laid · InternOrders: laid · InternMatchesReference: laid · InternIsolated: laid · InternRoundTrip: laid.
  DERIVED. THE GIVEN ROWS OF THIS SEAT. 5 by the template 'for every input the law returns true; each argument reads behind the call as it read before'; 0 by the template 'total and deterministic' (their statements: YtiakpcnglihnbaaDoorTotals.lean).
  GIVEN WITH THE SEED: the statements are not yours to turn. If you find one false, say at which input.
  Laid BY PROGRAM, IN A SANDBOX (cutbox-rows.mjs): the forced cells as the released guide's own fill.sh prints them over the translation c29c9c10fb91f65f… (all of the seat's roots in one cut). By AI agents, Wed Nov 11 2026. No macro, syntax, notation, axiom, sorry.
-/
import Derived.Test.YtiakpcnglihnbaaDoorChecked
import GoSem.PinnedTables
import GoSem.Claim
import GoSem.ClaimJoined
import GoSem.ClaimMapViews
import Derived.JoinedTies
import Derived.KernelRfl
namespace Go.Proofs.YtiakpcnglihnbaaDoor
/- THE CELL 'sum', in the pinned program and in every row, IS THE sha256 OF THE DUMP (.gsa) THAT YtiakpcnglihnbaaDoorProg.lean LOADS. Nothing in Lean hashes anything: it is a label: what it is worth is what the hold of that sum in a sandbox is worth. -/
noncomputable def Tryd.pinned : Pinned := { name := "ytiakpcnglihnbaadoor", sum := "c29c9c10fb91f65fe5a215b2398383715c4eaae42cf46651b2eb0235ca341fb1", checked := Tryd.checked }
namespace Rows
def none {H : Type} : Left H := { results := [], args := [] }

/- WHAT THE LISTED PACKAGE-LEVEL VARIABLES READ AS WHEN THE CALL BEGINS. Each datum BY PROGRAM (the guide's laid-datum.mjs) off the statement by which the dump's own 'gosem.cut.vars' lays the variable. In a bare row this is a premise. The card (YtiakpcnglihnbaaDoorCards.lean) ties it to the program's text. -/
def laid_unicode_utf8_acceptRanges {H : Type} : DataW H := .agg [.agg [.lit (.int .u8 128), .lit (.int .u8 191)], .agg [.lit (.int .u8 160), .lit (.int .u8 191)], .agg [.lit (.int .u8 128), .lit (.int .u8 159)], .agg [.lit (.int .u8 144), .lit (.int .u8 191)], .agg [.lit (.int .u8 128), .lit (.int .u8 143)], .agg [.lit (.int .u8 0), .lit (.int .u8 0)], .agg [.lit (.int .u8 0), .lit (.int .u8 0)], .agg [.lit (.int .u8 0), .lit (.int .u8 0)], .agg [.lit (.int .u8 0), .lit (.int .u8 0)], .agg [.lit (.int .u8 0), .lit (.int .u8 0)], .agg [.lit (.int .u8 0), .lit (.int .u8 0)], .agg [.lit (.int .u8 0), .lit (.int .u8 0)], .agg [.lit (.int .u8 0), .lit (.int .u8 0)], .agg [.lit (.int .u8 0), .lit (.int .u8 0)], .agg [.lit (.int .u8 0), .lit (.int .u8 0)], .agg [.lit (.int .u8 0), .lit (.int .u8 0)]]
/-- One of Go's own tables, pinned by name: the form's constant. -/
def laid_unicode_utf8_first : DataW Unit := Go.Pinned.utf8First

/-- 'mirtowerlaw05.InternIdents': WHATEVER THE INPUT: true; the input reads as it did. -/
def internIdentsSpec : ChangeSpec := { name := "internIdents", fn := fun _ => fun
  | [d] => { results := [.lit (.bool true)], args := [d] }
  | _ => none }
def internIdentsRow : OpenClaim := { program := "ytiakpcnglihnbaadoor", sum := "c29c9c10fb91f65fe5a215b2398383715c4eaae42cf46651b2eb0235ca341fb1", func := "mirtower/mirtowerlaw05.InternIdents", spec := "internIdents", inPlace := ["internal/bytealg.IndexByteString", "internal/bytealg.IndexString"], recurses := true, named := ["unicode/utf8.first", "unicode/utf8.acceptRanges", "internal/bytealg.MaxLen"], apart := false, laid := [("unicode/utf8.acceptRanges", laid_unicode_utf8_acceptRanges), ("unicode/utf8.first", laid_unicode_utf8_first)] }
def InternIdentsSaid : Prop := internIdentsRow.holds Tryd.pinned (OpenSpec.ofChange internIdentsSpec)

/-- ITS FALSE NEIGHBOUR: 'it returns false'. Refute it at one input. -/
def internIdentsWrong : ChangeSpec := { name := "internIdents", fn := fun _ => fun
  | [d] => { results := [.lit (.bool false)], args := [d] }
  | _ => none }
def InternIdentsWrongFalsely : Prop := internIdentsRow.holds Tryd.pinned (OpenSpec.ofChange internIdentsWrong)

/-- 'mirtowerlaw05.InternOrders': WHATEVER THE INPUT: true; the input reads as it did. -/
def internOrdersSpec : ChangeSpec := { name := "internOrders", fn := fun _ => fun
  | [d] => { results := [.lit (.bool true)], args := [d] }
  | _ => none }
def internOrdersRow : OpenClaim := { program := "ytiakpcnglihnbaadoor", sum := "c29c9c10fb91f65fe5a215b2398383715c4eaae42cf46651b2eb0235ca341fb1", func := "mirtower/mirtowerlaw05.InternOrders", spec := "internOrders", inPlace := ["internal/bytealg.IndexByteString", "internal/bytealg.IndexString"], unfollowed := true, recurses := true, named := ["unicode/utf8.first", "unicode/utf8.acceptRanges", "internal/bytealg.MaxLen"], apart := false, laid := [("unicode/utf8.acceptRanges", laid_unicode_utf8_acceptRanges), ("unicode/utf8.first", laid_unicode_utf8_first)] }
def InternOrdersSaid : Prop := internOrdersRow.holds Tryd.pinned (OpenSpec.ofChange internOrdersSpec)

/-- ITS FALSE NEIGHBOUR: 'it returns false'. Refute it at one input. -/
def internOrdersWrong : ChangeSpec := { name := "internOrders", fn := fun _ => fun
  | [d] => { results := [.lit (.bool false)], args := [d] }
  | _ => none }
def InternOrdersWrongFalsely : Prop := internOrdersRow.holds Tryd.pinned (OpenSpec.ofChange internOrdersWrong)

/-- 'mirtowerlaw05.InternMatchesReference': WHATEVER THE INPUT: true; the input reads as it did. -/
def internMatchesReferenceSpec : ChangeSpec := { name := "internMatchesReference", fn := fun _ => fun
  | [d1, d2, d3] => { results := [.lit (.bool true)], args := [d1, d2, d3] }
  | _ => none }
def internMatchesReferenceRow : OpenClaim := { program := "ytiakpcnglihnbaadoor", sum := "c29c9c10fb91f65fe5a215b2398383715c4eaae42cf46651b2eb0235ca341fb1", func := "mirtower/mirtowerlaw05.InternMatchesReference", spec := "internMatchesReference", inPlace := ["internal/bytealg.IndexByteString", "internal/bytealg.IndexString"], unfollowed := true, recurses := true, named := ["unicode/utf8.first", "unicode/utf8.acceptRanges", "internal/bytealg.MaxLen"], apart := false, laid := [("unicode/utf8.acceptRanges", laid_unicode_utf8_acceptRanges), ("unicode/utf8.first", laid_unicode_utf8_first)] }
def InternMatchesReferenceSaid : Prop := internMatchesReferenceRow.holds Tryd.pinned (OpenSpec.ofChange internMatchesReferenceSpec)

/-- ITS FALSE NEIGHBOUR: 'it returns false'. Refute it at one input. -/
def internMatchesReferenceWrong : ChangeSpec := { name := "internMatchesReference", fn := fun _ => fun
  | [d1, d2, d3] => { results := [.lit (.bool false)], args := [d1, d2, d3] }
  | _ => none }
def InternMatchesReferenceWrongFalsely : Prop := internMatchesReferenceRow.holds Tryd.pinned (OpenSpec.ofChange internMatchesReferenceWrong)

/-- 'mirtowerlaw05.InternIsolated': WHATEVER THE INPUT: true; the input reads as it did. -/
def internIsolatedSpec : ChangeSpec := { name := "internIsolated", fn := fun _ => fun
  | [d] => { results := [.lit (.bool true)], args := [d] }
  | _ => none }
def internIsolatedRow : OpenClaim := { program := "ytiakpcnglihnbaadoor", sum := "c29c9c10fb91f65fe5a215b2398383715c4eaae42cf46651b2eb0235ca341fb1", func := "mirtower/mirtowerlaw05.InternIsolated", spec := "internIsolated", inPlace := ["internal/bytealg.IndexByteString", "internal/bytealg.IndexString"], unfollowed := true, recurses := true, named := ["unicode/utf8.first", "unicode/utf8.acceptRanges", "internal/bytealg.MaxLen"], apart := false, laid := [("unicode/utf8.acceptRanges", laid_unicode_utf8_acceptRanges), ("unicode/utf8.first", laid_unicode_utf8_first)] }
def InternIsolatedSaid : Prop := internIsolatedRow.holds Tryd.pinned (OpenSpec.ofChange internIsolatedSpec)

/-- ITS FALSE NEIGHBOUR: 'it returns false'. Refute it at one input. -/
def internIsolatedWrong : ChangeSpec := { name := "internIsolated", fn := fun _ => fun
  | [d] => { results := [.lit (.bool false)], args := [d] }
  | _ => none }
def InternIsolatedWrongFalsely : Prop := internIsolatedRow.holds Tryd.pinned (OpenSpec.ofChange internIsolatedWrong)

/-- 'mirtowerlaw05.InternRoundTrip': WHATEVER THE INPUT: true; the input reads as it did. -/
def internRoundTripSpec : ChangeSpec := { name := "internRoundTrip", fn := fun _ => fun
  | [d] => { results := [.lit (.bool true)], args := [d] }
  | _ => none }
def internRoundTripRow : OpenClaim := { program := "ytiakpcnglihnbaadoor", sum := "c29c9c10fb91f65fe5a215b2398383715c4eaae42cf46651b2eb0235ca341fb1", func := "mirtower/mirtowerlaw05.InternRoundTrip", spec := "internRoundTrip", inPlace := ["internal/bytealg.IndexByteString", "internal/bytealg.IndexString"], unfollowed := true, recurses := true, named := ["unicode/utf8.first", "unicode/utf8.acceptRanges", "internal/bytealg.MaxLen"], apart := false, laid := [("unicode/utf8.acceptRanges", laid_unicode_utf8_acceptRanges), ("unicode/utf8.first", laid_unicode_utf8_first)] }
def InternRoundTripSaid : Prop := internRoundTripRow.holds Tryd.pinned (OpenSpec.ofChange internRoundTripSpec)

/-- ITS FALSE NEIGHBOUR: 'it returns false'. Refute it at one input. -/
def internRoundTripWrong : ChangeSpec := { name := "internRoundTrip", fn := fun _ => fun
  | [d] => { results := [.lit (.bool false)], args := [d] }
  | _ => none }
def InternRoundTripWrongFalsely : Prop := internRoundTripRow.holds Tryd.pinned (OpenSpec.ofChange internRoundTripWrong)

/- THE SECOND FORM. 'bulk': how many values and letters a reading holds, each counted each time it is reached (what is shared counts as often as it is met; a slice's spare places count too). A statement '..UptoSaid' is the law's where the arguments, and the package variables that the reading takes, are together of bulk at most 1048576: NARROWER than '..Said'. Prove '..Said' where nothing that the law and all that it calls make is longer than what came in: it says more and counts as full. Else prove '..UptoSaid'. A law counts once. -/
mutual
def uptoBulk {H : Type} : DataW H → Nat
  | .lit (.string bytes) => bytes.length + 1
  | .lit _ => 1
  | .nil => 1
  | .ptr d => uptoBulk d + 1
  | .slice elems spare => uptoBulkAll elems + uptoBulkAll spare + 1
  | .agg parts => uptoBulkAll parts + 1
  | .iface _ d => uptoBulk d + 1
  | .map entries => uptoBulkEntries entries + 1
  | .held _ => 1
def uptoBulkAll {H : Type} : List (DataW H) → Nat
  | [] => 0
  | d :: r => uptoBulk d + uptoBulkAll r
def uptoBulkEntries {H : Type} : List (Lit × DataW H) → Nat
  | [] => 0
  | x :: r => uptoBulkEntry x + uptoBulkEntries r
def uptoBulkEntry {H : Type} : Lit × DataW H → Nat
  | (.string bytes, d) => bytes.length + uptoBulk d + 1
  | (_, d) => uptoBulk d + 1
 end
def uptoSmall : (H : Type) → List (DataW H) → Bool := fun _ ds => decide (uptoBulkAll ds ≤ 1048576)
def OpenSpec.upto (s : _root_.Go.ChangeSpec) : _root_.Go.OpenSpec := { _root_.Go.OpenSpec.ofChange s with cond := some uptoSmall }

/-- 'mirtowerlaw05.InternIdents', WHERE WHAT IT READS IS OF BULK AT MOST 1048576: true; the input reads as it did. -/
def internIdentsUptoRow : OpenClaim := { program := "ytiakpcnglihnbaadoor", sum := "c29c9c10fb91f65fe5a215b2398383715c4eaae42cf46651b2eb0235ca341fb1", func := "mirtower/mirtowerlaw05.InternIdents", spec := "internIdents", inPlace := ["internal/bytealg.IndexByteString", "internal/bytealg.IndexString"], recurses := true, named := ["unicode/utf8.first", "unicode/utf8.acceptRanges", "internal/bytealg.MaxLen"], apart := false, laid := [("unicode/utf8.acceptRanges", laid_unicode_utf8_acceptRanges), ("unicode/utf8.first", laid_unicode_utf8_first)], narrowed := true }
def InternIdentsUptoSaid : Prop := internIdentsUptoRow.holds Tryd.pinned (OpenSpec.upto internIdentsSpec)

/-- 'mirtowerlaw05.InternOrders', WHERE WHAT IT READS IS OF BULK AT MOST 1048576: true; the input reads as it did. -/
def internOrdersUptoRow : OpenClaim := { program := "ytiakpcnglihnbaadoor", sum := "c29c9c10fb91f65fe5a215b2398383715c4eaae42cf46651b2eb0235ca341fb1", func := "mirtower/mirtowerlaw05.InternOrders", spec := "internOrders", inPlace := ["internal/bytealg.IndexByteString", "internal/bytealg.IndexString"], unfollowed := true, recurses := true, named := ["unicode/utf8.first", "unicode/utf8.acceptRanges", "internal/bytealg.MaxLen"], apart := false, laid := [("unicode/utf8.acceptRanges", laid_unicode_utf8_acceptRanges), ("unicode/utf8.first", laid_unicode_utf8_first)], narrowed := true }
def InternOrdersUptoSaid : Prop := internOrdersUptoRow.holds Tryd.pinned (OpenSpec.upto internOrdersSpec)

/-- 'mirtowerlaw05.InternMatchesReference', WHERE WHAT IT READS IS OF BULK AT MOST 1048576: true; the input reads as it did. -/
def internMatchesReferenceUptoRow : OpenClaim := { program := "ytiakpcnglihnbaadoor", sum := "c29c9c10fb91f65fe5a215b2398383715c4eaae42cf46651b2eb0235ca341fb1", func := "mirtower/mirtowerlaw05.InternMatchesReference", spec := "internMatchesReference", inPlace := ["internal/bytealg.IndexByteString", "internal/bytealg.IndexString"], unfollowed := true, recurses := true, named := ["unicode/utf8.first", "unicode/utf8.acceptRanges", "internal/bytealg.MaxLen"], apart := false, laid := [("unicode/utf8.acceptRanges", laid_unicode_utf8_acceptRanges), ("unicode/utf8.first", laid_unicode_utf8_first)], narrowed := true }
def InternMatchesReferenceUptoSaid : Prop := internMatchesReferenceUptoRow.holds Tryd.pinned (OpenSpec.upto internMatchesReferenceSpec)

/-- 'mirtowerlaw05.InternIsolated', WHERE WHAT IT READS IS OF BULK AT MOST 1048576: true; the input reads as it did. -/
def internIsolatedUptoRow : OpenClaim := { program := "ytiakpcnglihnbaadoor", sum := "c29c9c10fb91f65fe5a215b2398383715c4eaae42cf46651b2eb0235ca341fb1", func := "mirtower/mirtowerlaw05.InternIsolated", spec := "internIsolated", inPlace := ["internal/bytealg.IndexByteString", "internal/bytealg.IndexString"], unfollowed := true, recurses := true, named := ["unicode/utf8.first", "unicode/utf8.acceptRanges", "internal/bytealg.MaxLen"], apart := false, laid := [("unicode/utf8.acceptRanges", laid_unicode_utf8_acceptRanges), ("unicode/utf8.first", laid_unicode_utf8_first)], narrowed := true }
def InternIsolatedUptoSaid : Prop := internIsolatedUptoRow.holds Tryd.pinned (OpenSpec.upto internIsolatedSpec)

/-- 'mirtowerlaw05.InternRoundTrip', WHERE WHAT IT READS IS OF BULK AT MOST 1048576: true; the input reads as it did. -/
def internRoundTripUptoRow : OpenClaim := { program := "ytiakpcnglihnbaadoor", sum := "c29c9c10fb91f65fe5a215b2398383715c4eaae42cf46651b2eb0235ca341fb1", func := "mirtower/mirtowerlaw05.InternRoundTrip", spec := "internRoundTrip", inPlace := ["internal/bytealg.IndexByteString", "internal/bytealg.IndexString"], unfollowed := true, recurses := true, named := ["unicode/utf8.first", "unicode/utf8.acceptRanges", "internal/bytealg.MaxLen"], apart := false, laid := [("unicode/utf8.acceptRanges", laid_unicode_utf8_acceptRanges), ("unicode/utf8.first", laid_unicode_utf8_first)], narrowed := true }
def InternRoundTripUptoSaid : Prop := internRoundTripUptoRow.holds Tryd.pinned (OpenSpec.upto internRoundTripSpec)

end Rows
end Go.Proofs.YtiakpcnglihnbaaDoor
