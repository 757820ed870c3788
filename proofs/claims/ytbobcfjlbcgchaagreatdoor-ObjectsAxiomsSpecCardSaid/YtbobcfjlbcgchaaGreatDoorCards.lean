/-
  DERIVED. GIVEN WITH THE SEED: THE CARDS: each row of YtbobcfjlbcgchaaGreatDoorRows.lean that lists a variable, with what it lists TIED to the program's text (the seventh form; the later family's looks); each row that meets fmt, with fmt's text TOLD by the authors' own Lean function (tested against real Go, not proved from fmt's source: count such statements apart). THE CARD IS WHAT COUNTS. Prove the row's statement (the work); the ties are given (YtbobcfjlbcgchaaGreatDoorTie.lean); close each card by the builder's one call (the guide's Derived/Test/ToyasCard.lean, 'card_holds'). Laid BY PROGRAM, IN A SANDBOX (cutbox-door.mjs). By AI agents, Wed Nov 11 2026. No macro, syntax, notation, axiom, sorry.
-/
import Derived.Test.YtbobcfjlbcgchaaGreatDoorRows
import GoSem.ClaimSeven
namespace Go.Proofs.YtbobcfjlbcgchaaGreatDoor
namespace Rows

/-- THE TIED CARD OF 'veilstonelaw28.ObjectsAxiomsSpec'. -/
def objectsAxiomsSpecCard : Claim7 := { stood := { row := objectsAxiomsSpecRow, standIns := [], harness := (true, "a6364876bb5dc560b7634f0dfb672e8647d26b77dbad6064847dba9e515b1f15"), looks := false }, kinds := [], alts := [], laidByText := true, laidKinds := [.data, .data, .data], laidTests := true, laidLooks := .later }
def ObjectsAxiomsSpecCardSaid : Prop := Claim7.holds Tryz.pinned (.plain (OpenSpec.ofChange objectsAxiomsSpecSpec)) objectsAxiomsSpecCard

/-- THE TIED CARD OF 'veilstonelaw28.ObjectsIdentify'. -/
def objectsIdentifyCard : Claim7 := { stood := { row := objectsIdentifyRow, standIns := [], harness := (true, "a6364876bb5dc560b7634f0dfb672e8647d26b77dbad6064847dba9e515b1f15"), looks := false }, kinds := [], alts := [], laidByText := true, laidKinds := [.data, .data, .data], laidTests := true, laidLooks := .later }
def ObjectsIdentifyCardSaid : Prop := Claim7.holds Tryz.pinned (.plain (OpenSpec.ofChange objectsIdentifySpec)) objectsIdentifyCard

/-- THE SECOND FORM's CARD OF 'veilstonelaw28.ObjectsAxiomsSpec'. -/
def objectsAxiomsSpecUptoCard : Claim7 := { stood := { row := objectsAxiomsSpecUptoRow, standIns := [], harness := (true, "a6364876bb5dc560b7634f0dfb672e8647d26b77dbad6064847dba9e515b1f15"), looks := false }, kinds := [], alts := [], laidByText := true, laidKinds := [.data, .data, .data], laidTests := true, laidLooks := .later }
def ObjectsAxiomsSpecUptoCardSaid : Prop := Claim7.holds Tryz.pinned (.plain (OpenSpec.upto objectsAxiomsSpecSpec)) objectsAxiomsSpecUptoCard

/-- THE SECOND FORM's CARD OF 'veilstonelaw28.ObjectsIdentify'. -/
def objectsIdentifyUptoCard : Claim7 := { stood := { row := objectsIdentifyUptoRow, standIns := [], harness := (true, "a6364876bb5dc560b7634f0dfb672e8647d26b77dbad6064847dba9e515b1f15"), looks := false }, kinds := [], alts := [], laidByText := true, laidKinds := [.data, .data, .data], laidTests := true, laidLooks := .later }
def ObjectsIdentifyUptoCardSaid : Prop := Claim7.holds Tryz.pinned (.plain (OpenSpec.upto objectsIdentifySpec)) objectsIdentifyUptoCard
end Rows
end Go.Proofs.YtbobcfjlbcgchaaGreatDoor
