/-
  DERIVED. GIVEN WITH THE SEED: THE CARDS: each row of YtelbfbioomcmeaaGreatDoorRows.lean that lists a variable, with what it lists TIED to the program's text (the seventh form; the later family's looks); each row that meets fmt, with fmt's text TOLD by the authors' own Lean function (tested against real Go, not proved from fmt's source: count such statements apart). THE CARD IS WHAT COUNTS. Prove the row's statement (the work); the ties are given (YtelbfbioomcmeaaGreatDoorTie.lean); close each card by the builder's one call (the guide's Derived/Test/ToyasCard.lean, 'card_holds'). Laid BY PROGRAM, IN A SANDBOX (cutbox-door.mjs). By AI agents, Wed Nov 11 2026. No macro, syntax, notation, axiom, sorry.
-/
import Derived.Test.YtelbfbioomcmeaaGreatDoorRows
import GoSem.ClaimSeven
namespace Go.Proofs.YtelbfbioomcmeaaGreatDoor
namespace Rows

/-- THE TIED CARD OF 'mirtowertop.TopRenames'. -/
def topRenamesCard : Claim7 := { stood := { row := topRenamesRow, standIns := [], harness := (true, "cb2880520cc21a505ee4ca7330df1ef2ba1d39fc8f0f97b94a89256b11344cda"), looks := false }, kinds := [], alts := [], laidByText := true, laidKinds := [.data, .widerDeep, .widerDeep, .pinned], laidTests := true, laidLooks := .later }
def TopRenamesCardSaid : Prop := Claim7.holds Tryz.pinned (.plain (OpenSpec.ofChange topRenamesSpec)) topRenamesCard

/-- THE TIED CARD OF 'mirtowertop.TopRefusesInvalid'. -/
def topRefusesInvalidCard : Claim7 := { stood := { row := topRefusesInvalidRow, standIns := [], harness := (true, "cb2880520cc21a505ee4ca7330df1ef2ba1d39fc8f0f97b94a89256b11344cda"), looks := false }, kinds := [], alts := [], laidByText := true, laidKinds := [.data, .data, .data, .data, .listed, .data, .widerDeep, .widerDeep, .pinned], laidTests := true, laidLooks := .later }
def TopRefusesInvalidCardSaid : Prop := Claim7.holds Tryz.pinned (.plain (OpenSpec.ofChange topRefusesInvalidSpec)) topRefusesInvalidCard

/-- THE SECOND FORM's CARD OF 'mirtowertop.TopRenames'. -/
def topRenamesUptoCard : Claim7 := { stood := { row := topRenamesUptoRow, standIns := [], harness := (true, "cb2880520cc21a505ee4ca7330df1ef2ba1d39fc8f0f97b94a89256b11344cda"), looks := false }, kinds := [], alts := [], laidByText := true, laidKinds := [.data, .widerDeep, .widerDeep, .pinned], laidTests := true, laidLooks := .later }
def TopRenamesUptoCardSaid : Prop := Claim7.holds Tryz.pinned (.plain (OpenSpec.upto topRenamesSpec)) topRenamesUptoCard

/-- THE SECOND FORM's CARD OF 'mirtowertop.TopRefusesInvalid'. -/
def topRefusesInvalidUptoCard : Claim7 := { stood := { row := topRefusesInvalidUptoRow, standIns := [], harness := (true, "cb2880520cc21a505ee4ca7330df1ef2ba1d39fc8f0f97b94a89256b11344cda"), looks := false }, kinds := [], alts := [], laidByText := true, laidKinds := [.data, .data, .data, .data, .listed, .data, .widerDeep, .widerDeep, .pinned], laidTests := true, laidLooks := .later }
def TopRefusesInvalidUptoCardSaid : Prop := Claim7.holds Tryz.pinned (.plain (OpenSpec.upto topRefusesInvalidSpec)) topRefusesInvalidUptoCard
end Rows
end Go.Proofs.YtelbfbioomcmeaaGreatDoor
