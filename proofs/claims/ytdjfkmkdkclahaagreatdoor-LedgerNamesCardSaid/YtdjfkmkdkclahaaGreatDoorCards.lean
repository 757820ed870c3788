/-
  DERIVED. GIVEN WITH THE SEED: THE CARDS: each row of YtdjfkmkdkclahaaGreatDoorRows.lean that lists a variable, with what it lists TIED to the program's text (the seventh form; the later family's looks); each row that meets fmt, with fmt's text TOLD by the authors' own Lean function (tested against real Go, not proved from fmt's source: count such statements apart). THE CARD IS WHAT COUNTS. Prove the row's statement (the work); the ties are given (YtdjfkmkdkclahaaGreatDoorTie.lean); close each card by the builder's one call (the guide's Derived/Test/ToyasCard.lean, 'card_holds'). Laid BY PROGRAM, IN A SANDBOX (cutbox-door.mjs). By AI agents, Wed Nov 11 2026. No macro, syntax, notation, axiom, sorry.
-/
import Derived.Test.YtdjfkmkdkclahaaGreatDoorRows
import GoSem.ClaimSeven
namespace Go.Proofs.YtdjfkmkdkclahaaGreatDoor
namespace Rows

/-- THE TIED CARD OF 'veilstonelaw38.LedgerCheckSpec'. -/
def ledgerCheckSpecCard : Claim7 := { stood := { row := ledgerCheckSpecRow, standIns := [], harness := (true, "31d9d1ab998f585711b33df6a7b44aa3e07876cb3d679fc4da0c86cc0ca0dc2b"), looks := true }, kinds := [], alts := [], laidByText := true, laidKinds := [.data, .data, .data, .data, .data], laidTests := true, laidLooks := .later }
def LedgerCheckSpecCardSaid : Prop := Claim7.holds Tryz.pinned (.plain (OpenSpec.ofChange ledgerCheckSpecSpec)) ledgerCheckSpecCard

/-- THE TIED CARD OF 'veilstonelaw38.LedgerAddSpec'. -/
def ledgerAddSpecCard : Claim7 := { stood := { row := ledgerAddSpecRow, standIns := [], harness := (true, "31d9d1ab998f585711b33df6a7b44aa3e07876cb3d679fc4da0c86cc0ca0dc2b"), looks := true }, kinds := [], alts := [], laidByText := true, laidKinds := [.data, .data, .data, .data, .data], laidTests := true, laidLooks := .later }
def LedgerAddSpecCardSaid : Prop := Claim7.holds Tryz.pinned (.plain (OpenSpec.ofChange ledgerAddSpecSpec)) ledgerAddSpecCard

/-- THE TIED CARD OF 'veilstonelaw38.LedgerBytesSpec'. -/
def ledgerBytesSpecCard : Claim7 := { stood := { row := ledgerBytesSpecRow, standIns := [], harness := (true, "31d9d1ab998f585711b33df6a7b44aa3e07876cb3d679fc4da0c86cc0ca0dc2b"), looks := true }, kinds := [], alts := [], laidByText := true, laidKinds := [.data, .data, .data, .data, .data], laidTests := true, laidLooks := .later }
def LedgerBytesSpecCardSaid : Prop := Claim7.holds Tryz.pinned (.plain (OpenSpec.ofChange ledgerBytesSpecSpec)) ledgerBytesSpecCard

/-- THE TIED CARD OF 'veilstonelaw38.LedgerGrows'. -/
def ledgerGrowsCard : Claim7 := { stood := { row := ledgerGrowsRow, standIns := [], harness := (true, "31d9d1ab998f585711b33df6a7b44aa3e07876cb3d679fc4da0c86cc0ca0dc2b"), looks := true }, kinds := [], alts := [], laidByText := true, laidKinds := [.data, .data, .data, .data, .data], laidTests := true, laidLooks := .later }
def LedgerGrowsCardSaid : Prop := Claim7.holds Tryz.pinned (.plain (OpenSpec.ofChange ledgerGrowsSpec)) ledgerGrowsCard

/-- THE TIED CARD OF 'veilstonelaw38.LedgerNames'. -/
def ledgerNamesCard : Claim7 := { stood := { row := ledgerNamesRow, standIns := [], harness := (true, "31d9d1ab998f585711b33df6a7b44aa3e07876cb3d679fc4da0c86cc0ca0dc2b"), looks := true }, kinds := [], alts := [], laidByText := true, laidKinds := [.data, .data, .data, .data, .data], laidTests := true, laidLooks := .later }
def LedgerNamesCardSaid : Prop := Claim7.holds Tryz.pinned (.plain (OpenSpec.ofChange ledgerNamesSpec)) ledgerNamesCard

/-- THE TIED CARD OF 'veilstonelaw38.LedgerRoundTrip'. -/
def ledgerRoundTripCard : Claim7 := { stood := { row := ledgerRoundTripRow, standIns := [], harness := (true, "31d9d1ab998f585711b33df6a7b44aa3e07876cb3d679fc4da0c86cc0ca0dc2b"), looks := true }, kinds := [], alts := [], laidByText := true, laidKinds := [.data, .data, .data, .data, .data], laidTests := true, laidLooks := .later }
def LedgerRoundTripCardSaid : Prop := Claim7.holds Tryz.pinned (.plain (OpenSpec.ofChange ledgerRoundTripSpec)) ledgerRoundTripCard

/-- THE TIED CARD OF 'veilstonelaw38.LedgerOrder'. -/
def ledgerOrderCard : Claim7 := { stood := { row := ledgerOrderRow, standIns := [], harness := (true, "31d9d1ab998f585711b33df6a7b44aa3e07876cb3d679fc4da0c86cc0ca0dc2b"), looks := true }, kinds := [], alts := [], laidByText := true, laidKinds := [.data, .data, .data, .data, .data], laidTests := true, laidLooks := .later }
def LedgerOrderCardSaid : Prop := Claim7.holds Tryz.pinned (.plain (OpenSpec.ofChange ledgerOrderSpec)) ledgerOrderCard

/-- THE SECOND FORM's CARD OF 'veilstonelaw38.LedgerCheckSpec'. -/
def ledgerCheckSpecUptoCard : Claim7 := { stood := { row := ledgerCheckSpecUptoRow, standIns := [], harness := (true, "31d9d1ab998f585711b33df6a7b44aa3e07876cb3d679fc4da0c86cc0ca0dc2b"), looks := true }, kinds := [], alts := [], laidByText := true, laidKinds := [.data, .data, .data, .data, .data], laidTests := true, laidLooks := .later }
def LedgerCheckSpecUptoCardSaid : Prop := Claim7.holds Tryz.pinned (.plain (OpenSpec.upto ledgerCheckSpecSpec)) ledgerCheckSpecUptoCard

/-- THE SECOND FORM's CARD OF 'veilstonelaw38.LedgerAddSpec'. -/
def ledgerAddSpecUptoCard : Claim7 := { stood := { row := ledgerAddSpecUptoRow, standIns := [], harness := (true, "31d9d1ab998f585711b33df6a7b44aa3e07876cb3d679fc4da0c86cc0ca0dc2b"), looks := true }, kinds := [], alts := [], laidByText := true, laidKinds := [.data, .data, .data, .data, .data], laidTests := true, laidLooks := .later }
def LedgerAddSpecUptoCardSaid : Prop := Claim7.holds Tryz.pinned (.plain (OpenSpec.upto ledgerAddSpecSpec)) ledgerAddSpecUptoCard

/-- THE SECOND FORM's CARD OF 'veilstonelaw38.LedgerBytesSpec'. -/
def ledgerBytesSpecUptoCard : Claim7 := { stood := { row := ledgerBytesSpecUptoRow, standIns := [], harness := (true, "31d9d1ab998f585711b33df6a7b44aa3e07876cb3d679fc4da0c86cc0ca0dc2b"), looks := true }, kinds := [], alts := [], laidByText := true, laidKinds := [.data, .data, .data, .data, .data], laidTests := true, laidLooks := .later }
def LedgerBytesSpecUptoCardSaid : Prop := Claim7.holds Tryz.pinned (.plain (OpenSpec.upto ledgerBytesSpecSpec)) ledgerBytesSpecUptoCard

/-- THE SECOND FORM's CARD OF 'veilstonelaw38.LedgerGrows'. -/
def ledgerGrowsUptoCard : Claim7 := { stood := { row := ledgerGrowsUptoRow, standIns := [], harness := (true, "31d9d1ab998f585711b33df6a7b44aa3e07876cb3d679fc4da0c86cc0ca0dc2b"), looks := true }, kinds := [], alts := [], laidByText := true, laidKinds := [.data, .data, .data, .data, .data], laidTests := true, laidLooks := .later }
def LedgerGrowsUptoCardSaid : Prop := Claim7.holds Tryz.pinned (.plain (OpenSpec.upto ledgerGrowsSpec)) ledgerGrowsUptoCard

/-- THE SECOND FORM's CARD OF 'veilstonelaw38.LedgerNames'. -/
def ledgerNamesUptoCard : Claim7 := { stood := { row := ledgerNamesUptoRow, standIns := [], harness := (true, "31d9d1ab998f585711b33df6a7b44aa3e07876cb3d679fc4da0c86cc0ca0dc2b"), looks := true }, kinds := [], alts := [], laidByText := true, laidKinds := [.data, .data, .data, .data, .data], laidTests := true, laidLooks := .later }
def LedgerNamesUptoCardSaid : Prop := Claim7.holds Tryz.pinned (.plain (OpenSpec.upto ledgerNamesSpec)) ledgerNamesUptoCard

/-- THE SECOND FORM's CARD OF 'veilstonelaw38.LedgerRoundTrip'. -/
def ledgerRoundTripUptoCard : Claim7 := { stood := { row := ledgerRoundTripUptoRow, standIns := [], harness := (true, "31d9d1ab998f585711b33df6a7b44aa3e07876cb3d679fc4da0c86cc0ca0dc2b"), looks := true }, kinds := [], alts := [], laidByText := true, laidKinds := [.data, .data, .data, .data, .data], laidTests := true, laidLooks := .later }
def LedgerRoundTripUptoCardSaid : Prop := Claim7.holds Tryz.pinned (.plain (OpenSpec.upto ledgerRoundTripSpec)) ledgerRoundTripUptoCard

/-- THE SECOND FORM's CARD OF 'veilstonelaw38.LedgerOrder'. -/
def ledgerOrderUptoCard : Claim7 := { stood := { row := ledgerOrderUptoRow, standIns := [], harness := (true, "31d9d1ab998f585711b33df6a7b44aa3e07876cb3d679fc4da0c86cc0ca0dc2b"), looks := true }, kinds := [], alts := [], laidByText := true, laidKinds := [.data, .data, .data, .data, .data], laidTests := true, laidLooks := .later }
def LedgerOrderUptoCardSaid : Prop := Claim7.holds Tryz.pinned (.plain (OpenSpec.upto ledgerOrderSpec)) ledgerOrderUptoCard
end Rows
end Go.Proofs.YtdjfkmkdkclahaaGreatDoor
