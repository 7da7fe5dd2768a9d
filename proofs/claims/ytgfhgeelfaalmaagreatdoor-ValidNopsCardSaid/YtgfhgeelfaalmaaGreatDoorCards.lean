/-
  DERIVED. GIVEN WITH THE SEED: THE CARDS: each row of YtgfhgeelfaalmaaGreatDoorRows.lean that lists a variable, with what it lists TIED to the program's text (the seventh form; the later family's looks); each row that meets fmt, with fmt's text TOLD by the authors' own Lean function (tested against real Go, not proved from fmt's source: count such statements apart). THE CARD IS WHAT COUNTS. Prove the row's statement (the work); the ties are given (YtgfhgeelfaalmaaGreatDoorTie.lean); close each card by the builder's one call (the guide's Derived/Test/ToyasCard.lean, 'card_holds'). Laid BY PROGRAM, IN A SANDBOX (cutbox-door.mjs). By AI agents, Wed Nov 11 2026. No macro, syntax, notation, axiom, sorry.
-/
import Derived.Test.YtgfhgeelfaalmaaGreatDoorRows
import GoSem.ClaimSeven
namespace Go.Proofs.YtgfhgeelfaalmaaGreatDoor
namespace Rows

/-- THE TIED CARD OF 'mirtowerlaw10.ValidMatchesReference'. -/
def validMatchesReferenceCard : Claim7 := { stood := { row := validMatchesReferenceRow, standIns := [], harness := (true, "158257fb7eeaf3237e9f2d43353969391a251b41817f6459e72d1049c5077cf8"), looks := false }, kinds := [], alts := [], laidByText := true, laidKinds := [.data, .widerDeep, .widerDeep, .pinned], laidTests := true, laidLooks := .later }
def ValidMatchesReferenceCardSaid : Prop := Claim7.holds Tryz.pinned (.plain (OpenSpec.ofChange validMatchesReferenceSpec)) validMatchesReferenceCard

/-- THE TIED CARD OF 'mirtowerlaw10.ValidOperands'. -/
def validOperandsCard : Claim7 := { stood := { row := validOperandsRow, standIns := [], harness := (true, "158257fb7eeaf3237e9f2d43353969391a251b41817f6459e72d1049c5077cf8"), looks := false }, kinds := [], alts := [], laidByText := true, laidKinds := [.data, .widerDeep, .widerDeep, .pinned], laidTests := true, laidLooks := .later }
def ValidOperandsCardSaid : Prop := Claim7.holds Tryz.pinned (.plain (OpenSpec.ofChange validOperandsSpec)) validOperandsCard

/-- THE TIED CARD OF 'mirtowerlaw10.ValidStmts'. -/
def validStmtsCard : Claim7 := { stood := { row := validStmtsRow, standIns := [], harness := (true, "158257fb7eeaf3237e9f2d43353969391a251b41817f6459e72d1049c5077cf8"), looks := false }, kinds := [], alts := [], laidByText := true, laidKinds := [.data, .widerDeep, .widerDeep, .pinned], laidTests := true, laidLooks := .later }
def ValidStmtsCardSaid : Prop := Claim7.holds Tryz.pinned (.plain (OpenSpec.ofChange validStmtsSpec)) validStmtsCard

/-- THE TIED CARD OF 'mirtowerlaw10.ValidTerms'. -/
def validTermsCard : Claim7 := { stood := { row := validTermsRow, standIns := [], harness := (true, "158257fb7eeaf3237e9f2d43353969391a251b41817f6459e72d1049c5077cf8"), looks := false }, kinds := [], alts := [], laidByText := true, laidKinds := [.data, .widerDeep, .widerDeep, .pinned], laidTests := true, laidLooks := .later }
def ValidTermsCardSaid : Prop := Claim7.holds Tryz.pinned (.plain (OpenSpec.ofChange validTermsSpec)) validTermsCard

/-- THE TIED CARD OF 'mirtowerlaw10.ValidParts'. -/
def validPartsCard : Claim7 := { stood := { row := validPartsRow, standIns := [], harness := (true, "158257fb7eeaf3237e9f2d43353969391a251b41817f6459e72d1049c5077cf8"), looks := false }, kinds := [], alts := [], laidByText := true, laidKinds := [.data, .widerDeep, .widerDeep, .pinned], laidTests := true, laidLooks := .later }
def ValidPartsCardSaid : Prop := Claim7.holds Tryz.pinned (.plain (OpenSpec.ofChange validPartsSpec)) validPartsCard

/-- THE TIED CARD OF 'mirtowerlaw10.ValidNops'. -/
def validNopsCard : Claim7 := { stood := { row := validNopsRow, standIns := [], harness := (true, "158257fb7eeaf3237e9f2d43353969391a251b41817f6459e72d1049c5077cf8"), looks := false }, kinds := [], alts := [], laidByText := true, laidKinds := [.data, .widerDeep, .widerDeep, .pinned], laidTests := true, laidLooks := .later }
def ValidNopsCardSaid : Prop := Claim7.holds Tryz.pinned (.plain (OpenSpec.ofChange validNopsSpec)) validNopsCard

/-- THE SECOND FORM's CARD OF 'mirtowerlaw10.ValidMatchesReference'. -/
def validMatchesReferenceUptoCard : Claim7 := { stood := { row := validMatchesReferenceUptoRow, standIns := [], harness := (true, "158257fb7eeaf3237e9f2d43353969391a251b41817f6459e72d1049c5077cf8"), looks := false }, kinds := [], alts := [], laidByText := true, laidKinds := [.data, .widerDeep, .widerDeep, .pinned], laidTests := true, laidLooks := .later }
def ValidMatchesReferenceUptoCardSaid : Prop := Claim7.holds Tryz.pinned (.plain (OpenSpec.upto validMatchesReferenceSpec)) validMatchesReferenceUptoCard

/-- THE SECOND FORM's CARD OF 'mirtowerlaw10.ValidOperands'. -/
def validOperandsUptoCard : Claim7 := { stood := { row := validOperandsUptoRow, standIns := [], harness := (true, "158257fb7eeaf3237e9f2d43353969391a251b41817f6459e72d1049c5077cf8"), looks := false }, kinds := [], alts := [], laidByText := true, laidKinds := [.data, .widerDeep, .widerDeep, .pinned], laidTests := true, laidLooks := .later }
def ValidOperandsUptoCardSaid : Prop := Claim7.holds Tryz.pinned (.plain (OpenSpec.upto validOperandsSpec)) validOperandsUptoCard

/-- THE SECOND FORM's CARD OF 'mirtowerlaw10.ValidStmts'. -/
def validStmtsUptoCard : Claim7 := { stood := { row := validStmtsUptoRow, standIns := [], harness := (true, "158257fb7eeaf3237e9f2d43353969391a251b41817f6459e72d1049c5077cf8"), looks := false }, kinds := [], alts := [], laidByText := true, laidKinds := [.data, .widerDeep, .widerDeep, .pinned], laidTests := true, laidLooks := .later }
def ValidStmtsUptoCardSaid : Prop := Claim7.holds Tryz.pinned (.plain (OpenSpec.upto validStmtsSpec)) validStmtsUptoCard

/-- THE SECOND FORM's CARD OF 'mirtowerlaw10.ValidTerms'. -/
def validTermsUptoCard : Claim7 := { stood := { row := validTermsUptoRow, standIns := [], harness := (true, "158257fb7eeaf3237e9f2d43353969391a251b41817f6459e72d1049c5077cf8"), looks := false }, kinds := [], alts := [], laidByText := true, laidKinds := [.data, .widerDeep, .widerDeep, .pinned], laidTests := true, laidLooks := .later }
def ValidTermsUptoCardSaid : Prop := Claim7.holds Tryz.pinned (.plain (OpenSpec.upto validTermsSpec)) validTermsUptoCard

/-- THE SECOND FORM's CARD OF 'mirtowerlaw10.ValidParts'. -/
def validPartsUptoCard : Claim7 := { stood := { row := validPartsUptoRow, standIns := [], harness := (true, "158257fb7eeaf3237e9f2d43353969391a251b41817f6459e72d1049c5077cf8"), looks := false }, kinds := [], alts := [], laidByText := true, laidKinds := [.data, .widerDeep, .widerDeep, .pinned], laidTests := true, laidLooks := .later }
def ValidPartsUptoCardSaid : Prop := Claim7.holds Tryz.pinned (.plain (OpenSpec.upto validPartsSpec)) validPartsUptoCard

/-- THE SECOND FORM's CARD OF 'mirtowerlaw10.ValidNops'. -/
def validNopsUptoCard : Claim7 := { stood := { row := validNopsUptoRow, standIns := [], harness := (true, "158257fb7eeaf3237e9f2d43353969391a251b41817f6459e72d1049c5077cf8"), looks := false }, kinds := [], alts := [], laidByText := true, laidKinds := [.data, .widerDeep, .widerDeep, .pinned], laidTests := true, laidLooks := .later }
def ValidNopsUptoCardSaid : Prop := Claim7.holds Tryz.pinned (.plain (OpenSpec.upto validNopsSpec)) validNopsUptoCard
end Rows
end Go.Proofs.YtgfhgeelfaalmaaGreatDoor
