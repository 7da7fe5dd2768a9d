/-
  DERIVED. GIVEN WITH THE SEED: THE CARDS: each row of YtffgfafbffdgaaaGreatDoorRows.lean that lists a variable, with what it lists TIED to the program's text (the seventh form; the later family's looks); each row that meets fmt, with fmt's text TOLD by the authors' own Lean function (tested against real Go, not proved from fmt's source: count such statements apart). THE CARD IS WHAT COUNTS. Prove the row's statement (the work); the ties are given (YtffgfafbffdgaaaGreatDoorTie.lean); close each card by the builder's one call (the guide's Derived/Test/ToyasCard.lean, 'card_holds'). Laid BY PROGRAM, IN A SANDBOX (cutbox-door.mjs). By AI agents, Wed Nov 11 2026. No macro, syntax, notation, axiom, sorry.
-/
import Derived.Test.YtffgfafbffdgaaaGreatDoorRows
import GoSem.ClaimSeven
namespace Go.Proofs.YtffgfafbffdgaaaGreatDoor
namespace Rows

/-- THE TIED CARD OF 'mirtowertop.TopRenames'. -/
def topRenamesCard : Claim7 := { stood := { row := topRenamesRow, standIns := [], harness := (true, "f202f05cb3d5cc9da15c8bf66aa45651d4394002680513f148b0bb28f32d4a15"), looks := false }, kinds := [], alts := [], laidByText := true, laidKinds := [.data, .widerDeep, .widerDeep, .pinned], laidTests := true, laidLooks := .later }
def TopRenamesCardSaid : Prop := Claim7.holds Tryz.pinned (.plain (OpenSpec.ofChange topRenamesSpec)) topRenamesCard

/-- THE SECOND FORM's CARD OF 'mirtowertop.TopRenames'. -/
def topRenamesUptoCard : Claim7 := { stood := { row := topRenamesUptoRow, standIns := [], harness := (true, "f202f05cb3d5cc9da15c8bf66aa45651d4394002680513f148b0bb28f32d4a15"), looks := false }, kinds := [], alts := [], laidByText := true, laidKinds := [.data, .widerDeep, .widerDeep, .pinned], laidTests := true, laidLooks := .later }
def TopRenamesUptoCardSaid : Prop := Claim7.holds Tryz.pinned (.plain (OpenSpec.upto topRenamesSpec)) topRenamesUptoCard
end Rows
end Go.Proofs.YtffgfafbffdgaaaGreatDoor
