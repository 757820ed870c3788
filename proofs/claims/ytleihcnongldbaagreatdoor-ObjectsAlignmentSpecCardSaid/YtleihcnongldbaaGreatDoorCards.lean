/-
  DERIVED. GIVEN WITH THE SEED: THE CARDS: each row of YtleihcnongldbaaGreatDoorRows.lean that lists a variable, with what it lists TIED to the program's text (the seventh form; the later family's looks); each row that meets fmt, with fmt's text TOLD by the authors' own Lean function (tested against real Go, not proved from fmt's source: count such statements apart). THE CARD IS WHAT COUNTS. Prove the row's statement (the work); the ties are given (YtleihcnongldbaaGreatDoorTie.lean); close each card by the builder's one call (the guide's Derived/Test/ToyasCard.lean, 'card_holds'). Laid BY PROGRAM, IN A SANDBOX (cutbox-door.mjs). By AI agents, Wed Nov 11 2026. No macro, syntax, notation, axiom, sorry.
-/
import Derived.Test.YtleihcnongldbaaGreatDoorRows
import GoSem.ClaimSeven
namespace Go.Proofs.YtleihcnongldbaaGreatDoor
namespace Rows

/-- THE TIED CARD OF 'veilstonelaw28.ObjectsQuerySpec'. -/
def objectsQuerySpecCard : Claim7 := { stood := { row := objectsQuerySpecRow, standIns := [], harness := (true, "6fbfa86e64c2ef3b537080d27e0690663e2a0ac49f25dbb572f2e77077de1d8f"), looks := false }, kinds := [], alts := [], laidByText := true, laidKinds := [.data, .data], laidTests := true, laidLooks := .later }
def ObjectsQuerySpecCardSaid : Prop := Claim7.holds Tryz.pinned (.plain (OpenSpec.ofChange objectsQuerySpecSpec)) objectsQuerySpecCard

/-- THE TIED CARD OF 'veilstonelaw28.ObjectsAlignmentSpec'. -/
def objectsAlignmentSpecCard : Claim7 := { stood := { row := objectsAlignmentSpecRow, standIns := [], harness := (true, "6fbfa86e64c2ef3b537080d27e0690663e2a0ac49f25dbb572f2e77077de1d8f"), looks := false }, kinds := [], alts := [], laidByText := true, laidKinds := [.data, .data], laidTests := true, laidLooks := .later }
def ObjectsAlignmentSpecCardSaid : Prop := Claim7.holds Tryz.pinned (.plain (OpenSpec.ofChange objectsAlignmentSpecSpec)) objectsAlignmentSpecCard

/-- THE TIED CARD OF 'veilstonelaw28.ObjectsRoundTrips'. -/
def objectsRoundTripsCard : Claim7 := { stood := { row := objectsRoundTripsRow, standIns := [], harness := (true, "6fbfa86e64c2ef3b537080d27e0690663e2a0ac49f25dbb572f2e77077de1d8f"), looks := false }, kinds := [], alts := [], laidByText := true, laidKinds := [.data, .data], laidTests := true, laidLooks := .later }
def ObjectsRoundTripsCardSaid : Prop := Claim7.holds Tryz.pinned (.plain (OpenSpec.ofChange objectsRoundTripsSpec)) objectsRoundTripsCard

/-- THE SECOND FORM's CARD OF 'veilstonelaw28.ObjectsQuerySpec'. -/
def objectsQuerySpecUptoCard : Claim7 := { stood := { row := objectsQuerySpecUptoRow, standIns := [], harness := (true, "6fbfa86e64c2ef3b537080d27e0690663e2a0ac49f25dbb572f2e77077de1d8f"), looks := false }, kinds := [], alts := [], laidByText := true, laidKinds := [.data, .data], laidTests := true, laidLooks := .later }
def ObjectsQuerySpecUptoCardSaid : Prop := Claim7.holds Tryz.pinned (.plain (OpenSpec.upto objectsQuerySpecSpec)) objectsQuerySpecUptoCard

/-- THE SECOND FORM's CARD OF 'veilstonelaw28.ObjectsAlignmentSpec'. -/
def objectsAlignmentSpecUptoCard : Claim7 := { stood := { row := objectsAlignmentSpecUptoRow, standIns := [], harness := (true, "6fbfa86e64c2ef3b537080d27e0690663e2a0ac49f25dbb572f2e77077de1d8f"), looks := false }, kinds := [], alts := [], laidByText := true, laidKinds := [.data, .data], laidTests := true, laidLooks := .later }
def ObjectsAlignmentSpecUptoCardSaid : Prop := Claim7.holds Tryz.pinned (.plain (OpenSpec.upto objectsAlignmentSpecSpec)) objectsAlignmentSpecUptoCard

/-- THE SECOND FORM's CARD OF 'veilstonelaw28.ObjectsRoundTrips'. -/
def objectsRoundTripsUptoCard : Claim7 := { stood := { row := objectsRoundTripsUptoRow, standIns := [], harness := (true, "6fbfa86e64c2ef3b537080d27e0690663e2a0ac49f25dbb572f2e77077de1d8f"), looks := false }, kinds := [], alts := [], laidByText := true, laidKinds := [.data, .data], laidTests := true, laidLooks := .later }
def ObjectsRoundTripsUptoCardSaid : Prop := Claim7.holds Tryz.pinned (.plain (OpenSpec.upto objectsRoundTripsSpec)) objectsRoundTripsUptoCard
end Rows
end Go.Proofs.YtleihcnongldbaaGreatDoor
