/-
  NARROWER THAN 'FOR EVERY INPUT', by the rows' own cells (each row's printed sentence says how): ValidMatchesReference: laid · ValidOperands: laid · ValidStmts: laid · ValidTerms: laid · ValidParts: laid · ValidNops: laid.
  DERIVED. THE GIVEN ROWS OF THIS SEAT. 6 by the template 'for every input the law returns true; each argument reads behind the call as it read before'; 0 by the template 'total and deterministic' (their statements: YtgfhgeelfaalmaaGreatDoorTotals.lean).
  GIVEN WITH THE SEED: the statements are not yours to turn. If you find one false, say at which input.
  Laid BY PROGRAM, IN A SANDBOX (cutbox-rows.mjs): the forced cells as the released guide's own fill.sh prints them over the translation 9d450f1583fa9fe5… (all of the seat's roots in one cut). By AI agents, Wed Nov 11 2026. No macro, syntax, notation, axiom, sorry.
-/
import Derived.Test.YtgfhgeelfaalmaaGreatDoorChecked
import GoSem.PinnedTables
import GoSem.Claim
import GoSem.ClaimJoined
import GoSem.ClaimMapViews
import Derived.JoinedTies
import Derived.KernelRfl
namespace Go.Proofs.YtgfhgeelfaalmaaGreatDoor
/- THE CELL 'sum', in the pinned program and in every row, IS THE sha256 OF THE DUMP (.gsa) THAT YtgfhgeelfaalmaaGreatDoorProg.lean LOADS. Nothing in Lean hashes anything: it is a label: what it is worth is what the hold of that sum in a sandbox is worth. -/
noncomputable def Tryz.pinned : Pinned := { name := "ytgfhgeelfaalmaagreatdoor", sum := "9d450f1583fa9fe555b20e8e1d644285640539b40ba01e69382b4930560fee81", checked := Tryz.checked }
namespace Rows
def none {H : Type} : Left H := { results := [], args := [] }

/- WHAT THE LISTED PACKAGE-LEVEL VARIABLES READ AS WHEN THE CALL BEGINS. Each datum BY PROGRAM (the guide's laid-datum.mjs) off the statement by which the dump's own 'gosem.cut.vars' lays the variable. In a bare row this is a premise. The card (YtgfhgeelfaalmaaGreatDoorCards.lean) ties it to the program's text. -/
def laid_unicode_utf8_acceptRanges {H : Type} : DataW H := .agg [.agg [.lit (.int .u8 128), .lit (.int .u8 191)], .agg [.lit (.int .u8 160), .lit (.int .u8 191)], .agg [.lit (.int .u8 128), .lit (.int .u8 159)], .agg [.lit (.int .u8 144), .lit (.int .u8 191)], .agg [.lit (.int .u8 128), .lit (.int .u8 143)], .agg [.lit (.int .u8 0), .lit (.int .u8 0)], .agg [.lit (.int .u8 0), .lit (.int .u8 0)], .agg [.lit (.int .u8 0), .lit (.int .u8 0)], .agg [.lit (.int .u8 0), .lit (.int .u8 0)], .agg [.lit (.int .u8 0), .lit (.int .u8 0)], .agg [.lit (.int .u8 0), .lit (.int .u8 0)], .agg [.lit (.int .u8 0), .lit (.int .u8 0)], .agg [.lit (.int .u8 0), .lit (.int .u8 0)], .agg [.lit (.int .u8 0), .lit (.int .u8 0)], .agg [.lit (.int .u8 0), .lit (.int .u8 0)], .agg [.lit (.int .u8 0), .lit (.int .u8 0)]]
def laid_mirtower_valid_unary {H : Type} : DataW H := .agg [.agg [.lit (.int .i64 2), .lit (.int .i64 2)], .agg [.lit (.int .i64 1), .lit (.int .i64 1)]]
def laid_mirtower_valid_binary {H : Type} : DataW H := .agg [.agg [.lit (.int .i64 2), .lit (.int .i64 2)], .agg [.lit (.int .i64 2), .lit (.int .i64 2)], .agg [.lit (.int .i64 2), .lit (.int .i64 2)], .agg [.lit (.int .i64 2), .lit (.int .i64 1)], .agg [.lit (.int .i64 2), .lit (.int .i64 1)], .agg [.lit (.int .i64 1), .lit (.int .i64 1)]]
/-- One of Go's own tables, pinned by name: the form's constant. -/
def laid_unicode_utf8_first : DataW Unit := Go.Pinned.utf8First

/-- 'mirtowerlaw10.ValidMatchesReference': WHATEVER THE INPUT: true; the input reads as it did. -/
def validMatchesReferenceSpec : ChangeSpec := { name := "validMatchesReference", fn := fun _ => fun
  | [d] => { results := [.lit (.bool true)], args := [d] }
  | _ => none }
def validMatchesReferenceRow : OpenClaim := { program := "ytgfhgeelfaalmaagreatdoor", sum := "9d450f1583fa9fe555b20e8e1d644285640539b40ba01e69382b4930560fee81", func := "mirtower/mirtowerlaw10.ValidMatchesReference", spec := "validMatchesReference", inPlace := ["internal/bytealg.IndexByteString", "internal/bytealg.IndexString"], unfollowed := true, recurses := true, named := ["unicode/utf8.first", "unicode/utf8.acceptRanges", "mirtower/valid.unary", "mirtower/valid.binary", "internal/bytealg.MaxLen"], plainKeys := false, apart := false, laid := [("unicode/utf8.acceptRanges", laid_unicode_utf8_acceptRanges), ("mirtower/valid.unary", laid_mirtower_valid_unary), ("mirtower/valid.binary", laid_mirtower_valid_binary), ("unicode/utf8.first", laid_unicode_utf8_first)] }
def ValidMatchesReferenceSaid : Prop := validMatchesReferenceRow.holds Tryz.pinned (OpenSpec.ofChange validMatchesReferenceSpec)

/-- ITS FALSE NEIGHBOUR: 'it returns false'. Refute it at one input. -/
def validMatchesReferenceWrong : ChangeSpec := { name := "validMatchesReference", fn := fun _ => fun
  | [d] => { results := [.lit (.bool false)], args := [d] }
  | _ => none }
def ValidMatchesReferenceWrongFalsely : Prop := validMatchesReferenceRow.holds Tryz.pinned (OpenSpec.ofChange validMatchesReferenceWrong)

/-- 'mirtowerlaw10.ValidOperands': WHATEVER THE INPUT: true; the input reads as it did. -/
def validOperandsSpec : ChangeSpec := { name := "validOperands", fn := fun _ => fun
  | [d1, d2] => { results := [.lit (.bool true)], args := [d1, d2] }
  | _ => none }
def validOperandsRow : OpenClaim := { program := "ytgfhgeelfaalmaagreatdoor", sum := "9d450f1583fa9fe555b20e8e1d644285640539b40ba01e69382b4930560fee81", func := "mirtower/mirtowerlaw10.ValidOperands", spec := "validOperands", inPlace := ["internal/bytealg.IndexByteString", "internal/bytealg.IndexString"], unfollowed := true, recurses := true, named := ["unicode/utf8.first", "unicode/utf8.acceptRanges", "mirtower/valid.unary", "mirtower/valid.binary", "internal/bytealg.MaxLen"], plainKeys := false, apart := false, laid := [("unicode/utf8.acceptRanges", laid_unicode_utf8_acceptRanges), ("mirtower/valid.unary", laid_mirtower_valid_unary), ("mirtower/valid.binary", laid_mirtower_valid_binary), ("unicode/utf8.first", laid_unicode_utf8_first)] }
def ValidOperandsSaid : Prop := validOperandsRow.holds Tryz.pinned (OpenSpec.ofChange validOperandsSpec)

/-- ITS FALSE NEIGHBOUR: 'it returns false'. Refute it at one input. -/
def validOperandsWrong : ChangeSpec := { name := "validOperands", fn := fun _ => fun
  | [d1, d2] => { results := [.lit (.bool false)], args := [d1, d2] }
  | _ => none }
def ValidOperandsWrongFalsely : Prop := validOperandsRow.holds Tryz.pinned (OpenSpec.ofChange validOperandsWrong)

/-- 'mirtowerlaw10.ValidStmts': WHATEVER THE INPUT: true; the input reads as it did. -/
def validStmtsSpec : ChangeSpec := { name := "validStmts", fn := fun _ => fun
  | [d1, d2] => { results := [.lit (.bool true)], args := [d1, d2] }
  | _ => none }
def validStmtsRow : OpenClaim := { program := "ytgfhgeelfaalmaagreatdoor", sum := "9d450f1583fa9fe555b20e8e1d644285640539b40ba01e69382b4930560fee81", func := "mirtower/mirtowerlaw10.ValidStmts", spec := "validStmts", inPlace := ["internal/bytealg.IndexByteString", "internal/bytealg.IndexString"], unfollowed := true, recurses := true, named := ["unicode/utf8.first", "unicode/utf8.acceptRanges", "mirtower/valid.unary", "mirtower/valid.binary", "internal/bytealg.MaxLen"], plainKeys := false, apart := false, laid := [("unicode/utf8.acceptRanges", laid_unicode_utf8_acceptRanges), ("mirtower/valid.unary", laid_mirtower_valid_unary), ("mirtower/valid.binary", laid_mirtower_valid_binary), ("unicode/utf8.first", laid_unicode_utf8_first)] }
def ValidStmtsSaid : Prop := validStmtsRow.holds Tryz.pinned (OpenSpec.ofChange validStmtsSpec)

/-- ITS FALSE NEIGHBOUR: 'it returns false'. Refute it at one input. -/
def validStmtsWrong : ChangeSpec := { name := "validStmts", fn := fun _ => fun
  | [d1, d2] => { results := [.lit (.bool false)], args := [d1, d2] }
  | _ => none }
def ValidStmtsWrongFalsely : Prop := validStmtsRow.holds Tryz.pinned (OpenSpec.ofChange validStmtsWrong)

/-- 'mirtowerlaw10.ValidTerms': WHATEVER THE INPUT: true; the input reads as it did. -/
def validTermsSpec : ChangeSpec := { name := "validTerms", fn := fun _ => fun
  | [d1, d2] => { results := [.lit (.bool true)], args := [d1, d2] }
  | _ => none }
def validTermsRow : OpenClaim := { program := "ytgfhgeelfaalmaagreatdoor", sum := "9d450f1583fa9fe555b20e8e1d644285640539b40ba01e69382b4930560fee81", func := "mirtower/mirtowerlaw10.ValidTerms", spec := "validTerms", inPlace := ["internal/bytealg.IndexByteString", "internal/bytealg.IndexString"], unfollowed := true, recurses := true, named := ["unicode/utf8.first", "unicode/utf8.acceptRanges", "mirtower/valid.unary", "mirtower/valid.binary", "internal/bytealg.MaxLen"], plainKeys := false, apart := false, laid := [("unicode/utf8.acceptRanges", laid_unicode_utf8_acceptRanges), ("mirtower/valid.unary", laid_mirtower_valid_unary), ("mirtower/valid.binary", laid_mirtower_valid_binary), ("unicode/utf8.first", laid_unicode_utf8_first)] }
def ValidTermsSaid : Prop := validTermsRow.holds Tryz.pinned (OpenSpec.ofChange validTermsSpec)

/-- ITS FALSE NEIGHBOUR: 'it returns false'. Refute it at one input. -/
def validTermsWrong : ChangeSpec := { name := "validTerms", fn := fun _ => fun
  | [d1, d2] => { results := [.lit (.bool false)], args := [d1, d2] }
  | _ => none }
def ValidTermsWrongFalsely : Prop := validTermsRow.holds Tryz.pinned (OpenSpec.ofChange validTermsWrong)

/-- 'mirtowerlaw10.ValidParts': WHATEVER THE INPUT: true; the input reads as it did. -/
def validPartsSpec : ChangeSpec := { name := "validParts", fn := fun _ => fun
  | [d] => { results := [.lit (.bool true)], args := [d] }
  | _ => none }
def validPartsRow : OpenClaim := { program := "ytgfhgeelfaalmaagreatdoor", sum := "9d450f1583fa9fe555b20e8e1d644285640539b40ba01e69382b4930560fee81", func := "mirtower/mirtowerlaw10.ValidParts", spec := "validParts", inPlace := ["internal/bytealg.IndexByteString", "internal/bytealg.IndexString"], unfollowed := true, recurses := true, named := ["unicode/utf8.first", "unicode/utf8.acceptRanges", "mirtower/valid.unary", "mirtower/valid.binary", "internal/bytealg.MaxLen"], plainKeys := false, apart := false, laid := [("unicode/utf8.acceptRanges", laid_unicode_utf8_acceptRanges), ("mirtower/valid.unary", laid_mirtower_valid_unary), ("mirtower/valid.binary", laid_mirtower_valid_binary), ("unicode/utf8.first", laid_unicode_utf8_first)] }
def ValidPartsSaid : Prop := validPartsRow.holds Tryz.pinned (OpenSpec.ofChange validPartsSpec)

/-- ITS FALSE NEIGHBOUR: 'it returns false'. Refute it at one input. -/
def validPartsWrong : ChangeSpec := { name := "validParts", fn := fun _ => fun
  | [d] => { results := [.lit (.bool false)], args := [d] }
  | _ => none }
def ValidPartsWrongFalsely : Prop := validPartsRow.holds Tryz.pinned (OpenSpec.ofChange validPartsWrong)

/-- 'mirtowerlaw10.ValidNops': WHATEVER THE INPUT: true; the input reads as it did. -/
def validNopsSpec : ChangeSpec := { name := "validNops", fn := fun _ => fun
  | [d] => { results := [.lit (.bool true)], args := [d] }
  | _ => none }
def validNopsRow : OpenClaim := { program := "ytgfhgeelfaalmaagreatdoor", sum := "9d450f1583fa9fe555b20e8e1d644285640539b40ba01e69382b4930560fee81", func := "mirtower/mirtowerlaw10.ValidNops", spec := "validNops", inPlace := ["internal/bytealg.IndexByteString", "internal/bytealg.IndexString"], unfollowed := true, recurses := true, named := ["unicode/utf8.first", "unicode/utf8.acceptRanges", "mirtower/valid.unary", "mirtower/valid.binary", "internal/bytealg.MaxLen"], plainKeys := false, apart := false, laid := [("unicode/utf8.acceptRanges", laid_unicode_utf8_acceptRanges), ("mirtower/valid.unary", laid_mirtower_valid_unary), ("mirtower/valid.binary", laid_mirtower_valid_binary), ("unicode/utf8.first", laid_unicode_utf8_first)] }
def ValidNopsSaid : Prop := validNopsRow.holds Tryz.pinned (OpenSpec.ofChange validNopsSpec)

/-- ITS FALSE NEIGHBOUR: 'it returns false'. Refute it at one input. -/
def validNopsWrong : ChangeSpec := { name := "validNops", fn := fun _ => fun
  | [d] => { results := [.lit (.bool false)], args := [d] }
  | _ => none }
def ValidNopsWrongFalsely : Prop := validNopsRow.holds Tryz.pinned (OpenSpec.ofChange validNopsWrong)

/- THE SECOND FORM. 'bulk': how many values and letters a reading holds, each counted each time it is reached (what is shared counts as often as it is met; a slice's spare places count too). A statement '..UptoSaid' is the law's where the arguments, and the package variables that the reading takes, are together of bulk at most 1048576: NARROWER than '..Said'. Prove '..Said' where nothing that the law and all that it calls make is longer than what came in: it says more and counts as full. Else prove '..UptoSaid'. A law counts once. -/
mutual
def uptoBulk {H : Type} : DataW H → Nat
  | .lit (.string bytes) => bytes.length + 1
  | .lit _ => 1
  | .nil => 1
  | .ptr d => uptoBulk d + 1
  | .slice elems spare => uptoBulkAll elems + uptoBulkAll spare + 1
  | .agg parts => uptoBulkAll parts + 1
  | .iface _ d => uptoBulk d + 1
  | .map entries => uptoBulkEntries entries + 1
  | .held _ => 1
def uptoBulkAll {H : Type} : List (DataW H) → Nat
  | [] => 0
  | d :: r => uptoBulk d + uptoBulkAll r
def uptoBulkEntries {H : Type} : List (Lit × DataW H) → Nat
  | [] => 0
  | x :: r => uptoBulkEntry x + uptoBulkEntries r
def uptoBulkEntry {H : Type} : Lit × DataW H → Nat
  | (.string bytes, d) => bytes.length + uptoBulk d + 1
  | (_, d) => uptoBulk d + 1
 end
def uptoSmall : (H : Type) → List (DataW H) → Bool := fun _ ds => decide (uptoBulkAll ds ≤ 1048576)
def OpenSpec.upto (s : _root_.Go.ChangeSpec) : _root_.Go.OpenSpec := { _root_.Go.OpenSpec.ofChange s with cond := some uptoSmall }

/-- 'mirtowerlaw10.ValidMatchesReference', WHERE WHAT IT READS IS OF BULK AT MOST 1048576: true; the input reads as it did. -/
def validMatchesReferenceUptoRow : OpenClaim := { program := "ytgfhgeelfaalmaagreatdoor", sum := "9d450f1583fa9fe555b20e8e1d644285640539b40ba01e69382b4930560fee81", func := "mirtower/mirtowerlaw10.ValidMatchesReference", spec := "validMatchesReference", inPlace := ["internal/bytealg.IndexByteString", "internal/bytealg.IndexString"], unfollowed := true, recurses := true, named := ["unicode/utf8.first", "unicode/utf8.acceptRanges", "mirtower/valid.unary", "mirtower/valid.binary", "internal/bytealg.MaxLen"], plainKeys := false, apart := false, laid := [("unicode/utf8.acceptRanges", laid_unicode_utf8_acceptRanges), ("mirtower/valid.unary", laid_mirtower_valid_unary), ("mirtower/valid.binary", laid_mirtower_valid_binary), ("unicode/utf8.first", laid_unicode_utf8_first)], narrowed := true }
def ValidMatchesReferenceUptoSaid : Prop := validMatchesReferenceUptoRow.holds Tryz.pinned (OpenSpec.upto validMatchesReferenceSpec)

/-- 'mirtowerlaw10.ValidOperands', WHERE WHAT IT READS IS OF BULK AT MOST 1048576: true; the input reads as it did. -/
def validOperandsUptoRow : OpenClaim := { program := "ytgfhgeelfaalmaagreatdoor", sum := "9d450f1583fa9fe555b20e8e1d644285640539b40ba01e69382b4930560fee81", func := "mirtower/mirtowerlaw10.ValidOperands", spec := "validOperands", inPlace := ["internal/bytealg.IndexByteString", "internal/bytealg.IndexString"], unfollowed := true, recurses := true, named := ["unicode/utf8.first", "unicode/utf8.acceptRanges", "mirtower/valid.unary", "mirtower/valid.binary", "internal/bytealg.MaxLen"], plainKeys := false, apart := false, laid := [("unicode/utf8.acceptRanges", laid_unicode_utf8_acceptRanges), ("mirtower/valid.unary", laid_mirtower_valid_unary), ("mirtower/valid.binary", laid_mirtower_valid_binary), ("unicode/utf8.first", laid_unicode_utf8_first)], narrowed := true }
def ValidOperandsUptoSaid : Prop := validOperandsUptoRow.holds Tryz.pinned (OpenSpec.upto validOperandsSpec)

/-- 'mirtowerlaw10.ValidStmts', WHERE WHAT IT READS IS OF BULK AT MOST 1048576: true; the input reads as it did. -/
def validStmtsUptoRow : OpenClaim := { program := "ytgfhgeelfaalmaagreatdoor", sum := "9d450f1583fa9fe555b20e8e1d644285640539b40ba01e69382b4930560fee81", func := "mirtower/mirtowerlaw10.ValidStmts", spec := "validStmts", inPlace := ["internal/bytealg.IndexByteString", "internal/bytealg.IndexString"], unfollowed := true, recurses := true, named := ["unicode/utf8.first", "unicode/utf8.acceptRanges", "mirtower/valid.unary", "mirtower/valid.binary", "internal/bytealg.MaxLen"], plainKeys := false, apart := false, laid := [("unicode/utf8.acceptRanges", laid_unicode_utf8_acceptRanges), ("mirtower/valid.unary", laid_mirtower_valid_unary), ("mirtower/valid.binary", laid_mirtower_valid_binary), ("unicode/utf8.first", laid_unicode_utf8_first)], narrowed := true }
def ValidStmtsUptoSaid : Prop := validStmtsUptoRow.holds Tryz.pinned (OpenSpec.upto validStmtsSpec)

/-- 'mirtowerlaw10.ValidTerms', WHERE WHAT IT READS IS OF BULK AT MOST 1048576: true; the input reads as it did. -/
def validTermsUptoRow : OpenClaim := { program := "ytgfhgeelfaalmaagreatdoor", sum := "9d450f1583fa9fe555b20e8e1d644285640539b40ba01e69382b4930560fee81", func := "mirtower/mirtowerlaw10.ValidTerms", spec := "validTerms", inPlace := ["internal/bytealg.IndexByteString", "internal/bytealg.IndexString"], unfollowed := true, recurses := true, named := ["unicode/utf8.first", "unicode/utf8.acceptRanges", "mirtower/valid.unary", "mirtower/valid.binary", "internal/bytealg.MaxLen"], plainKeys := false, apart := false, laid := [("unicode/utf8.acceptRanges", laid_unicode_utf8_acceptRanges), ("mirtower/valid.unary", laid_mirtower_valid_unary), ("mirtower/valid.binary", laid_mirtower_valid_binary), ("unicode/utf8.first", laid_unicode_utf8_first)], narrowed := true }
def ValidTermsUptoSaid : Prop := validTermsUptoRow.holds Tryz.pinned (OpenSpec.upto validTermsSpec)

/-- 'mirtowerlaw10.ValidParts', WHERE WHAT IT READS IS OF BULK AT MOST 1048576: true; the input reads as it did. -/
def validPartsUptoRow : OpenClaim := { program := "ytgfhgeelfaalmaagreatdoor", sum := "9d450f1583fa9fe555b20e8e1d644285640539b40ba01e69382b4930560fee81", func := "mirtower/mirtowerlaw10.ValidParts", spec := "validParts", inPlace := ["internal/bytealg.IndexByteString", "internal/bytealg.IndexString"], unfollowed := true, recurses := true, named := ["unicode/utf8.first", "unicode/utf8.acceptRanges", "mirtower/valid.unary", "mirtower/valid.binary", "internal/bytealg.MaxLen"], plainKeys := false, apart := false, laid := [("unicode/utf8.acceptRanges", laid_unicode_utf8_acceptRanges), ("mirtower/valid.unary", laid_mirtower_valid_unary), ("mirtower/valid.binary", laid_mirtower_valid_binary), ("unicode/utf8.first", laid_unicode_utf8_first)], narrowed := true }
def ValidPartsUptoSaid : Prop := validPartsUptoRow.holds Tryz.pinned (OpenSpec.upto validPartsSpec)

/-- 'mirtowerlaw10.ValidNops', WHERE WHAT IT READS IS OF BULK AT MOST 1048576: true; the input reads as it did. -/
def validNopsUptoRow : OpenClaim := { program := "ytgfhgeelfaalmaagreatdoor", sum := "9d450f1583fa9fe555b20e8e1d644285640539b40ba01e69382b4930560fee81", func := "mirtower/mirtowerlaw10.ValidNops", spec := "validNops", inPlace := ["internal/bytealg.IndexByteString", "internal/bytealg.IndexString"], unfollowed := true, recurses := true, named := ["unicode/utf8.first", "unicode/utf8.acceptRanges", "mirtower/valid.unary", "mirtower/valid.binary", "internal/bytealg.MaxLen"], plainKeys := false, apart := false, laid := [("unicode/utf8.acceptRanges", laid_unicode_utf8_acceptRanges), ("mirtower/valid.unary", laid_mirtower_valid_unary), ("mirtower/valid.binary", laid_mirtower_valid_binary), ("unicode/utf8.first", laid_unicode_utf8_first)], narrowed := true }
def ValidNopsUptoSaid : Prop := validNopsUptoRow.holds Tryz.pinned (OpenSpec.upto validNopsSpec)

end Rows
end Go.Proofs.YtgfhgeelfaalmaaGreatDoor
