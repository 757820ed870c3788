/-
  DERIVED. GIVEN WITH THE SEED: THE CARDS: each row of YtcomlapnibckmaaGreatDoorRows.lean that lists a variable, with what it lists TIED to the program's text (the seventh form; the later family's looks); each row that meets fmt, with fmt's text TOLD by the authors' own Lean function (tested against real Go, not proved from fmt's source: count such statements apart). THE CARD IS WHAT COUNTS. Prove the row's statement (the work); the ties are given (YtcomlapnibckmaaGreatDoorTie.lean); close each card by the builder's one call (the guide's Derived/Test/ToyasCard.lean, 'card_holds'). Laid BY PROGRAM, IN A SANDBOX (cutbox-door.mjs). By AI agents, Wed Nov 11 2026. No macro, syntax, notation, axiom, sorry.
-/
import Derived.Test.YtcomlapnibckmaaGreatDoorRows
import GoSem.ClaimSeven
namespace Go.Proofs.YtcomlapnibckmaaGreatDoor
namespace Rows

/-- THE TIED CARD OF 'veilstonelaw28.ObjectsQuerySpec'. -/
def objectsQuerySpecCard : Claim7 := { stood := { row := objectsQuerySpecRow, standIns := [], harness := (true, "2668efe21ebd873a8eba6c47f906f8c957a91e54e0ef5dac25b42382f5ec5db2"), looks := false }, kinds := [], alts := [], laidByText := true, laidKinds := [.data, .data], laidTests := true, laidLooks := .later }
def ObjectsQuerySpecCardSaid : Prop := Claim7.holds Tryz.pinned (.plain (OpenSpec.ofChange objectsQuerySpecSpec)) objectsQuerySpecCard

/-- THE TIED CARD OF 'veilstonelaw28.ObjectsCommitSpec'. -/
def objectsCommitSpecCard : Claim7 := { stood := { row := objectsCommitSpecRow, standIns := [], harness := (true, "2668efe21ebd873a8eba6c47f906f8c957a91e54e0ef5dac25b42382f5ec5db2"), looks := false }, kinds := [], alts := [], laidByText := true, laidKinds := [.data, .data], laidTests := true, laidLooks := .later }
def ObjectsCommitSpecCardSaid : Prop := Claim7.holds Tryz.pinned (.plain (OpenSpec.ofChange objectsCommitSpecSpec)) objectsCommitSpecCard

/-- THE TIED CARD OF 'veilstonelaw28.ObjectsAlignmentSpec'. -/
def objectsAlignmentSpecCard : Claim7 := { stood := { row := objectsAlignmentSpecRow, standIns := [], harness := (true, "2668efe21ebd873a8eba6c47f906f8c957a91e54e0ef5dac25b42382f5ec5db2"), looks := false }, kinds := [], alts := [], laidByText := true, laidKinds := [.data, .data], laidTests := true, laidLooks := .later }
def ObjectsAlignmentSpecCardSaid : Prop := Claim7.holds Tryz.pinned (.plain (OpenSpec.ofChange objectsAlignmentSpecSpec)) objectsAlignmentSpecCard

/-- THE TIED CARD OF 'veilstonelaw28.ObjectsRoundTrips'. -/
def objectsRoundTripsCard : Claim7 := { stood := { row := objectsRoundTripsRow, standIns := [], harness := (true, "2668efe21ebd873a8eba6c47f906f8c957a91e54e0ef5dac25b42382f5ec5db2"), looks := false }, kinds := [], alts := [], laidByText := true, laidKinds := [.data, .data], laidTests := true, laidLooks := .later }
def ObjectsRoundTripsCardSaid : Prop := Claim7.holds Tryz.pinned (.plain (OpenSpec.ofChange objectsRoundTripsSpec)) objectsRoundTripsCard

/-- THE TIED CARD OF 'veilstonelaw28.ObjectsCanonical'. -/
def objectsCanonicalCard : Claim7 := { stood := { row := objectsCanonicalRow, standIns := [], harness := (true, "2668efe21ebd873a8eba6c47f906f8c957a91e54e0ef5dac25b42382f5ec5db2"), looks := false }, kinds := [], alts := [], laidByText := true, laidKinds := [.data, .data], laidTests := true, laidLooks := .later }
def ObjectsCanonicalCardSaid : Prop := Claim7.holds Tryz.pinned (.plain (OpenSpec.ofChange objectsCanonicalSpec)) objectsCanonicalCard

/-- THE TIED CARD OF 'veilstonelaw28.ObjectsAxiomsSpec'. -/
def objectsAxiomsSpecCard : Claim7 := { stood := { row := objectsAxiomsSpecRow, standIns := [], harness := (true, "2668efe21ebd873a8eba6c47f906f8c957a91e54e0ef5dac25b42382f5ec5db2"), looks := false }, kinds := [], alts := [], laidByText := true, laidKinds := [.data, .data, .data], laidTests := true, laidLooks := .later }
def ObjectsAxiomsSpecCardSaid : Prop := Claim7.holds Tryz.pinned (.plain (OpenSpec.ofChange objectsAxiomsSpecSpec)) objectsAxiomsSpecCard

/-- THE TIED CARD OF 'veilstonelaw28.ObjectsIdentify'. -/
def objectsIdentifyCard : Claim7 := { stood := { row := objectsIdentifyRow, standIns := [], harness := (true, "2668efe21ebd873a8eba6c47f906f8c957a91e54e0ef5dac25b42382f5ec5db2"), looks := false }, kinds := [], alts := [], laidByText := true, laidKinds := [.data, .data, .data], laidTests := true, laidLooks := .later }
def ObjectsIdentifyCardSaid : Prop := Claim7.holds Tryz.pinned (.plain (OpenSpec.ofChange objectsIdentifySpec)) objectsIdentifyCard

/-- THE SECOND FORM's CARD OF 'veilstonelaw28.ObjectsQuerySpec'. -/
def objectsQuerySpecUptoCard : Claim7 := { stood := { row := objectsQuerySpecUptoRow, standIns := [], harness := (true, "2668efe21ebd873a8eba6c47f906f8c957a91e54e0ef5dac25b42382f5ec5db2"), looks := false }, kinds := [], alts := [], laidByText := true, laidKinds := [.data, .data], laidTests := true, laidLooks := .later }
def ObjectsQuerySpecUptoCardSaid : Prop := Claim7.holds Tryz.pinned (.plain (OpenSpec.upto objectsQuerySpecSpec)) objectsQuerySpecUptoCard

/-- THE SECOND FORM's CARD OF 'veilstonelaw28.ObjectsCommitSpec'. -/
def objectsCommitSpecUptoCard : Claim7 := { stood := { row := objectsCommitSpecUptoRow, standIns := [], harness := (true, "2668efe21ebd873a8eba6c47f906f8c957a91e54e0ef5dac25b42382f5ec5db2"), looks := false }, kinds := [], alts := [], laidByText := true, laidKinds := [.data, .data], laidTests := true, laidLooks := .later }
def ObjectsCommitSpecUptoCardSaid : Prop := Claim7.holds Tryz.pinned (.plain (OpenSpec.upto objectsCommitSpecSpec)) objectsCommitSpecUptoCard

/-- THE SECOND FORM's CARD OF 'veilstonelaw28.ObjectsAlignmentSpec'. -/
def objectsAlignmentSpecUptoCard : Claim7 := { stood := { row := objectsAlignmentSpecUptoRow, standIns := [], harness := (true, "2668efe21ebd873a8eba6c47f906f8c957a91e54e0ef5dac25b42382f5ec5db2"), looks := false }, kinds := [], alts := [], laidByText := true, laidKinds := [.data, .data], laidTests := true, laidLooks := .later }
def ObjectsAlignmentSpecUptoCardSaid : Prop := Claim7.holds Tryz.pinned (.plain (OpenSpec.upto objectsAlignmentSpecSpec)) objectsAlignmentSpecUptoCard

/-- THE SECOND FORM's CARD OF 'veilstonelaw28.ObjectsRoundTrips'. -/
def objectsRoundTripsUptoCard : Claim7 := { stood := { row := objectsRoundTripsUptoRow, standIns := [], harness := (true, "2668efe21ebd873a8eba6c47f906f8c957a91e54e0ef5dac25b42382f5ec5db2"), looks := false }, kinds := [], alts := [], laidByText := true, laidKinds := [.data, .data], laidTests := true, laidLooks := .later }
def ObjectsRoundTripsUptoCardSaid : Prop := Claim7.holds Tryz.pinned (.plain (OpenSpec.upto objectsRoundTripsSpec)) objectsRoundTripsUptoCard

/-- THE SECOND FORM's CARD OF 'veilstonelaw28.ObjectsCanonical'. -/
def objectsCanonicalUptoCard : Claim7 := { stood := { row := objectsCanonicalUptoRow, standIns := [], harness := (true, "2668efe21ebd873a8eba6c47f906f8c957a91e54e0ef5dac25b42382f5ec5db2"), looks := false }, kinds := [], alts := [], laidByText := true, laidKinds := [.data, .data], laidTests := true, laidLooks := .later }
def ObjectsCanonicalUptoCardSaid : Prop := Claim7.holds Tryz.pinned (.plain (OpenSpec.upto objectsCanonicalSpec)) objectsCanonicalUptoCard

/-- THE SECOND FORM's CARD OF 'veilstonelaw28.ObjectsAxiomsSpec'. -/
def objectsAxiomsSpecUptoCard : Claim7 := { stood := { row := objectsAxiomsSpecUptoRow, standIns := [], harness := (true, "2668efe21ebd873a8eba6c47f906f8c957a91e54e0ef5dac25b42382f5ec5db2"), looks := false }, kinds := [], alts := [], laidByText := true, laidKinds := [.data, .data, .data], laidTests := true, laidLooks := .later }
def ObjectsAxiomsSpecUptoCardSaid : Prop := Claim7.holds Tryz.pinned (.plain (OpenSpec.upto objectsAxiomsSpecSpec)) objectsAxiomsSpecUptoCard

/-- THE SECOND FORM's CARD OF 'veilstonelaw28.ObjectsIdentify'. -/
def objectsIdentifyUptoCard : Claim7 := { stood := { row := objectsIdentifyUptoRow, standIns := [], harness := (true, "2668efe21ebd873a8eba6c47f906f8c957a91e54e0ef5dac25b42382f5ec5db2"), looks := false }, kinds := [], alts := [], laidByText := true, laidKinds := [.data, .data, .data], laidTests := true, laidLooks := .later }
def ObjectsIdentifyUptoCardSaid : Prop := Claim7.holds Tryz.pinned (.plain (OpenSpec.upto objectsIdentifySpec)) objectsIdentifyUptoCard
end Rows
end Go.Proofs.YtcomlapnibckmaaGreatDoor
