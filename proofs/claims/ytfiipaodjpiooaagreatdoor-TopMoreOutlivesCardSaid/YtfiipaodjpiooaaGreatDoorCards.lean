/-
  DERIVED. GIVEN WITH THE SEED: THE CARDS: each row of YtfiipaodjpiooaaGreatDoorRows.lean that lists a variable, with what it lists TIED to the program's text (the seventh form; the later family's looks); each row that meets fmt, with fmt's text TOLD by the authors' own Lean function (tested against real Go, not proved from fmt's source: count such statements apart). THE CARD IS WHAT COUNTS. Prove the row's statement (the work); the ties are given (YtfiipaodjpiooaaGreatDoorTie.lean); close each card by the builder's one call (the guide's Derived/Test/ToyasCard.lean, 'card_holds'). Laid BY PROGRAM, IN A SANDBOX (cutbox-door.mjs). By AI agents, Wed Nov 11 2026. No macro, syntax, notation, axiom, sorry.
-/
import Derived.Test.YtfiipaodjpiooaaGreatDoorRows
import GoSem.ClaimSeven
namespace Go.Proofs.YtfiipaodjpiooaaGreatDoor
namespace Rows

/-- THE TIED CARD OF 'mirtowertop.TopNops'. -/
def topNopsCard : Claim7 := { stood := { row := topNopsRow, standIns := [], harness := (true, "5e79908ab6604f75e73fa9a045bc4556d3e90d0ef643eb5ddbbbabfff80ed1cc"), looks := false }, kinds := [], alts := [], laidByText := true, laidKinds := [.data, .widerDeep, .widerDeep, .pinned], laidTests := true, laidLooks := .later }
def TopNopsCardSaid : Prop := Claim7.holds Tryz.pinned (.plain (OpenSpec.ofChange topNopsSpec)) topNopsCard

/-- THE TIED CARD OF 'mirtowertop.TopUnreachable'. -/
def topUnreachableCard : Claim7 := { stood := { row := topUnreachableRow, standIns := [], harness := (true, "5e79908ab6604f75e73fa9a045bc4556d3e90d0ef643eb5ddbbbabfff80ed1cc"), looks := false }, kinds := [], alts := [], laidByText := true, laidKinds := [.data, .widerDeep, .widerDeep, .pinned], laidTests := true, laidLooks := .later }
def TopUnreachableCardSaid : Prop := Claim7.holds Tryz.pinned (.plain (OpenSpec.ofChange topUnreachableSpec)) topUnreachableCard

/-- THE TIED CARD OF 'mirtowertop.TopNoBorrows'. -/
def topNoBorrowsCard : Claim7 := { stood := { row := topNoBorrowsRow, standIns := [], harness := (true, "5e79908ab6604f75e73fa9a045bc4556d3e90d0ef643eb5ddbbbabfff80ed1cc"), looks := false }, kinds := [], alts := [], laidByText := true, laidKinds := [.data, .widerDeep, .widerDeep, .pinned], laidTests := true, laidLooks := .later }
def TopNoBorrowsCardSaid : Prop := Claim7.holds Tryz.pinned (.plain (OpenSpec.ofChange topNoBorrowsSpec)) topNoBorrowsCard

/-- THE TIED CARD OF 'mirtowertop.TopMoreOutlives'. -/
def topMoreOutlivesCard : Claim7 := { stood := { row := topMoreOutlivesRow, standIns := [], harness := (true, "5e79908ab6604f75e73fa9a045bc4556d3e90d0ef643eb5ddbbbabfff80ed1cc"), looks := false }, kinds := [], alts := [], laidByText := true, laidKinds := [.data, .widerDeep, .widerDeep, .pinned], laidTests := true, laidLooks := .later }
def TopMoreOutlivesCardSaid : Prop := Claim7.holds Tryz.pinned (.plain (OpenSpec.ofChange topMoreOutlivesSpec)) topMoreOutlivesCard

/-- THE TIED CARD OF 'mirtowertop.TopWitnesses'. -/
def topWitnessesCard : Claim7 := { stood := { row := topWitnessesRow, standIns := [], harness := (true, "5e79908ab6604f75e73fa9a045bc4556d3e90d0ef643eb5ddbbbabfff80ed1cc"), looks := false }, kinds := [], alts := [], laidByText := true, laidKinds := [.data, .widerDeep, .widerDeep, .pinned], laidTests := true, laidLooks := .later }
def TopWitnessesCardSaid : Prop := Claim7.holds Tryz.pinned (.plain (OpenSpec.ofChange topWitnessesSpec)) topWitnessesCard

/-- THE SECOND FORM's CARD OF 'mirtowertop.TopNops'. -/
def topNopsUptoCard : Claim7 := { stood := { row := topNopsUptoRow, standIns := [], harness := (true, "5e79908ab6604f75e73fa9a045bc4556d3e90d0ef643eb5ddbbbabfff80ed1cc"), looks := false }, kinds := [], alts := [], laidByText := true, laidKinds := [.data, .widerDeep, .widerDeep, .pinned], laidTests := true, laidLooks := .later }
def TopNopsUptoCardSaid : Prop := Claim7.holds Tryz.pinned (.plain (OpenSpec.upto topNopsSpec)) topNopsUptoCard

/-- THE SECOND FORM's CARD OF 'mirtowertop.TopUnreachable'. -/
def topUnreachableUptoCard : Claim7 := { stood := { row := topUnreachableUptoRow, standIns := [], harness := (true, "5e79908ab6604f75e73fa9a045bc4556d3e90d0ef643eb5ddbbbabfff80ed1cc"), looks := false }, kinds := [], alts := [], laidByText := true, laidKinds := [.data, .widerDeep, .widerDeep, .pinned], laidTests := true, laidLooks := .later }
def TopUnreachableUptoCardSaid : Prop := Claim7.holds Tryz.pinned (.plain (OpenSpec.upto topUnreachableSpec)) topUnreachableUptoCard

/-- THE SECOND FORM's CARD OF 'mirtowertop.TopNoBorrows'. -/
def topNoBorrowsUptoCard : Claim7 := { stood := { row := topNoBorrowsUptoRow, standIns := [], harness := (true, "5e79908ab6604f75e73fa9a045bc4556d3e90d0ef643eb5ddbbbabfff80ed1cc"), looks := false }, kinds := [], alts := [], laidByText := true, laidKinds := [.data, .widerDeep, .widerDeep, .pinned], laidTests := true, laidLooks := .later }
def TopNoBorrowsUptoCardSaid : Prop := Claim7.holds Tryz.pinned (.plain (OpenSpec.upto topNoBorrowsSpec)) topNoBorrowsUptoCard

/-- THE SECOND FORM's CARD OF 'mirtowertop.TopMoreOutlives'. -/
def topMoreOutlivesUptoCard : Claim7 := { stood := { row := topMoreOutlivesUptoRow, standIns := [], harness := (true, "5e79908ab6604f75e73fa9a045bc4556d3e90d0ef643eb5ddbbbabfff80ed1cc"), looks := false }, kinds := [], alts := [], laidByText := true, laidKinds := [.data, .widerDeep, .widerDeep, .pinned], laidTests := true, laidLooks := .later }
def TopMoreOutlivesUptoCardSaid : Prop := Claim7.holds Tryz.pinned (.plain (OpenSpec.upto topMoreOutlivesSpec)) topMoreOutlivesUptoCard

/-- THE SECOND FORM's CARD OF 'mirtowertop.TopWitnesses'. -/
def topWitnessesUptoCard : Claim7 := { stood := { row := topWitnessesUptoRow, standIns := [], harness := (true, "5e79908ab6604f75e73fa9a045bc4556d3e90d0ef643eb5ddbbbabfff80ed1cc"), looks := false }, kinds := [], alts := [], laidByText := true, laidKinds := [.data, .widerDeep, .widerDeep, .pinned], laidTests := true, laidLooks := .later }
def TopWitnessesUptoCardSaid : Prop := Claim7.holds Tryz.pinned (.plain (OpenSpec.upto topWitnessesSpec)) topWitnessesUptoCard
end Rows
end Go.Proofs.YtfiipaodjpiooaaGreatDoor
