/-
  DERIVED. GIVEN WITH THE SEED: THE CARDS: each row of YtiakpcnglihnbaaDoorRows.lean that lists a variable, with what it lists TIED to the program's text (the seventh form; the later family's looks); each row that meets fmt, with fmt's text TOLD by the authors' own Lean function (tested against real Go, not proved from fmt's source: count such statements apart). THE CARD IS WHAT COUNTS. Prove the row's statement (the work); the ties are given (YtiakpcnglihnbaaDoorTie.lean); close each card by the builder's one call (the guide's Derived/Test/ToyasCard.lean, 'card_holds'). Laid BY PROGRAM, IN A SANDBOX (cutbox-door.mjs). By AI agents, Wed Nov 11 2026. No macro, syntax, notation, axiom, sorry.
-/
import Derived.Test.YtiakpcnglihnbaaDoorRows
import GoSem.ClaimSeven
namespace Go.Proofs.YtiakpcnglihnbaaDoor
namespace Rows

/-- THE TIED CARD OF 'mirtowerlaw05.InternIdents'. -/
def internIdentsCard : Claim7 := { stood := { row := internIdentsRow, standIns := [], harness := (true, "677e1b62c80ffb46b4093cb42b0a2b2eaff3bb44d8df2df520693d301f8720a8"), looks := false }, kinds := [], alts := [], laidByText := true, laidKinds := [.data, .pinned], laidTests := true, laidLooks := .later }
def InternIdentsCardSaid : Prop := Claim7.holds Tryd.pinned (.plain (OpenSpec.ofChange internIdentsSpec)) internIdentsCard

/-- THE TIED CARD OF 'mirtowerlaw05.InternOrders'. -/
def internOrdersCard : Claim7 := { stood := { row := internOrdersRow, standIns := [], harness := (true, "677e1b62c80ffb46b4093cb42b0a2b2eaff3bb44d8df2df520693d301f8720a8"), looks := false }, kinds := [], alts := [], laidByText := true, laidKinds := [.data, .pinned], laidTests := true, laidLooks := .later }
def InternOrdersCardSaid : Prop := Claim7.holds Tryd.pinned (.plain (OpenSpec.ofChange internOrdersSpec)) internOrdersCard

/-- THE TIED CARD OF 'mirtowerlaw05.InternMatchesReference'. -/
def internMatchesReferenceCard : Claim7 := { stood := { row := internMatchesReferenceRow, standIns := [], harness := (true, "677e1b62c80ffb46b4093cb42b0a2b2eaff3bb44d8df2df520693d301f8720a8"), looks := false }, kinds := [], alts := [], laidByText := true, laidKinds := [.data, .pinned], laidTests := true, laidLooks := .later }
def InternMatchesReferenceCardSaid : Prop := Claim7.holds Tryd.pinned (.plain (OpenSpec.ofChange internMatchesReferenceSpec)) internMatchesReferenceCard

/-- THE TIED CARD OF 'mirtowerlaw05.InternIsolated'. -/
def internIsolatedCard : Claim7 := { stood := { row := internIsolatedRow, standIns := [], harness := (true, "677e1b62c80ffb46b4093cb42b0a2b2eaff3bb44d8df2df520693d301f8720a8"), looks := false }, kinds := [], alts := [], laidByText := true, laidKinds := [.data, .pinned], laidTests := true, laidLooks := .later }
def InternIsolatedCardSaid : Prop := Claim7.holds Tryd.pinned (.plain (OpenSpec.ofChange internIsolatedSpec)) internIsolatedCard

/-- THE TIED CARD OF 'mirtowerlaw05.InternRoundTrip'. -/
def internRoundTripCard : Claim7 := { stood := { row := internRoundTripRow, standIns := [], harness := (true, "677e1b62c80ffb46b4093cb42b0a2b2eaff3bb44d8df2df520693d301f8720a8"), looks := false }, kinds := [], alts := [], laidByText := true, laidKinds := [.data, .pinned], laidTests := true, laidLooks := .later }
def InternRoundTripCardSaid : Prop := Claim7.holds Tryd.pinned (.plain (OpenSpec.ofChange internRoundTripSpec)) internRoundTripCard

/-- THE SECOND FORM's CARD OF 'mirtowerlaw05.InternIdents'. -/
def internIdentsUptoCard : Claim7 := { stood := { row := internIdentsUptoRow, standIns := [], harness := (true, "677e1b62c80ffb46b4093cb42b0a2b2eaff3bb44d8df2df520693d301f8720a8"), looks := false }, kinds := [], alts := [], laidByText := true, laidKinds := [.data, .pinned], laidTests := true, laidLooks := .later }
def InternIdentsUptoCardSaid : Prop := Claim7.holds Tryd.pinned (.plain (OpenSpec.upto internIdentsSpec)) internIdentsUptoCard

/-- THE SECOND FORM's CARD OF 'mirtowerlaw05.InternOrders'. -/
def internOrdersUptoCard : Claim7 := { stood := { row := internOrdersUptoRow, standIns := [], harness := (true, "677e1b62c80ffb46b4093cb42b0a2b2eaff3bb44d8df2df520693d301f8720a8"), looks := false }, kinds := [], alts := [], laidByText := true, laidKinds := [.data, .pinned], laidTests := true, laidLooks := .later }
def InternOrdersUptoCardSaid : Prop := Claim7.holds Tryd.pinned (.plain (OpenSpec.upto internOrdersSpec)) internOrdersUptoCard

/-- THE SECOND FORM's CARD OF 'mirtowerlaw05.InternMatchesReference'. -/
def internMatchesReferenceUptoCard : Claim7 := { stood := { row := internMatchesReferenceUptoRow, standIns := [], harness := (true, "677e1b62c80ffb46b4093cb42b0a2b2eaff3bb44d8df2df520693d301f8720a8"), looks := false }, kinds := [], alts := [], laidByText := true, laidKinds := [.data, .pinned], laidTests := true, laidLooks := .later }
def InternMatchesReferenceUptoCardSaid : Prop := Claim7.holds Tryd.pinned (.plain (OpenSpec.upto internMatchesReferenceSpec)) internMatchesReferenceUptoCard

/-- THE SECOND FORM's CARD OF 'mirtowerlaw05.InternIsolated'. -/
def internIsolatedUptoCard : Claim7 := { stood := { row := internIsolatedUptoRow, standIns := [], harness := (true, "677e1b62c80ffb46b4093cb42b0a2b2eaff3bb44d8df2df520693d301f8720a8"), looks := false }, kinds := [], alts := [], laidByText := true, laidKinds := [.data, .pinned], laidTests := true, laidLooks := .later }
def InternIsolatedUptoCardSaid : Prop := Claim7.holds Tryd.pinned (.plain (OpenSpec.upto internIsolatedSpec)) internIsolatedUptoCard

/-- THE SECOND FORM's CARD OF 'mirtowerlaw05.InternRoundTrip'. -/
def internRoundTripUptoCard : Claim7 := { stood := { row := internRoundTripUptoRow, standIns := [], harness := (true, "677e1b62c80ffb46b4093cb42b0a2b2eaff3bb44d8df2df520693d301f8720a8"), looks := false }, kinds := [], alts := [], laidByText := true, laidKinds := [.data, .pinned], laidTests := true, laidLooks := .later }
def InternRoundTripUptoCardSaid : Prop := Claim7.holds Tryd.pinned (.plain (OpenSpec.upto internRoundTripSpec)) internRoundTripUptoCard
end Rows
end Go.Proofs.YtiakpcnglihnbaaDoor
