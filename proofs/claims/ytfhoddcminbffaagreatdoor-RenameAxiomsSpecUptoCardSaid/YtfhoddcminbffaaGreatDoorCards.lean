/-
  DERIVED. GIVEN WITH THE SEED: THE CARDS: each row of YtfhoddcminbffaaGreatDoorRows.lean that lists a variable, with what it lists TIED to the program's text (the seventh form; the later family's looks); each row that meets fmt, with fmt's text TOLD by the authors' own Lean function (tested against real Go, not proved from fmt's source: count such statements apart). THE CARD IS WHAT COUNTS. Prove the row's statement (the work); the ties are given (YtfhoddcminbffaaGreatDoorTie.lean); close each card by the builder's one call (the guide's Derived/Test/ToyasCard.lean, 'card_holds'). Laid BY PROGRAM, IN A SANDBOX (cutbox-door.mjs). By AI agents, Wed Nov 11 2026. No macro, syntax, notation, axiom, sorry.
-/
import Derived.Test.YtfhoddcminbffaaGreatDoorRows
import GoSem.ClaimSeven
namespace Go.Proofs.YtfhoddcminbffaaGreatDoor
namespace Rows

/-- THE TIED CARD OF 'veilstonelaw33.RenameAxiomsSpec'. -/
def renameAxiomsSpecCard : Claim7 := { stood := { row := renameAxiomsSpecRow, standIns := [], harness := (true, "951fd097bab50bb4c0e1a5377a4206ab81a388c94cae41ec0d1ffa177a6fc68f"), looks := false }, kinds := [], alts := [], laidByText := true, laidKinds := [.data, .data], laidTests := true, laidLooks := .later }
def RenameAxiomsSpecCardSaid : Prop := Claim7.holds Tryz.pinned (.plain (OpenSpec.ofChange renameAxiomsSpecSpec)) renameAxiomsSpecCard

/-- THE TIED CARD OF 'veilstonelaw07.BaseNewSpec'. -/
def baseNewSpecCard : Claim7 := { stood := { row := baseNewSpecRow, standIns := [], harness := (true, "951fd097bab50bb4c0e1a5377a4206ab81a388c94cae41ec0d1ffa177a6fc68f"), looks := false }, kinds := [], alts := [], laidByText := true, laidKinds := [.data, .data], laidTests := true, laidLooks := .later }
def BaseNewSpecCardSaid : Prop := Claim7.holds Tryz.pinned (.plain (OpenSpec.ofChange baseNewSpecSpec)) baseNewSpecCard

/-- THE TIED CARD OF 'veilstonelaw07.BasePartsSpec'. -/
def basePartsSpecCard : Claim7 := { stood := { row := basePartsSpecRow, standIns := [], harness := (true, "951fd097bab50bb4c0e1a5377a4206ab81a388c94cae41ec0d1ffa177a6fc68f"), looks := false }, kinds := [], alts := [], laidByText := true, laidKinds := [.data, .data], laidTests := true, laidLooks := .later }
def BasePartsSpecCardSaid : Prop := Claim7.holds Tryz.pinned (.plain (OpenSpec.ofChange basePartsSpecSpec)) basePartsSpecCard

/-- THE TIED CARD OF 'veilstonelaw07.BaseSetsSpec'. -/
def baseSetsSpecCard : Claim7 := { stood := { row := baseSetsSpecRow, standIns := [], harness := (true, "951fd097bab50bb4c0e1a5377a4206ab81a388c94cae41ec0d1ffa177a6fc68f"), looks := false }, kinds := [], alts := [], laidByText := true, laidKinds := [.data, .data], laidTests := true, laidLooks := .later }
def BaseSetsSpecCardSaid : Prop := Claim7.holds Tryz.pinned (.plain (OpenSpec.ofChange baseSetsSpecSpec)) baseSetsSpecCard

/-- THE SECOND FORM's CARD OF 'veilstonelaw33.RenameAxiomsSpec'. -/
def renameAxiomsSpecUptoCard : Claim7 := { stood := { row := renameAxiomsSpecUptoRow, standIns := [], harness := (true, "951fd097bab50bb4c0e1a5377a4206ab81a388c94cae41ec0d1ffa177a6fc68f"), looks := false }, kinds := [], alts := [], laidByText := true, laidKinds := [.data, .data], laidTests := true, laidLooks := .later }
def RenameAxiomsSpecUptoCardSaid : Prop := Claim7.holds Tryz.pinned (.plain (OpenSpec.upto renameAxiomsSpecSpec)) renameAxiomsSpecUptoCard

/-- THE SECOND FORM's CARD OF 'veilstonelaw07.BaseNewSpec'. -/
def baseNewSpecUptoCard : Claim7 := { stood := { row := baseNewSpecUptoRow, standIns := [], harness := (true, "951fd097bab50bb4c0e1a5377a4206ab81a388c94cae41ec0d1ffa177a6fc68f"), looks := false }, kinds := [], alts := [], laidByText := true, laidKinds := [.data, .data], laidTests := true, laidLooks := .later }
def BaseNewSpecUptoCardSaid : Prop := Claim7.holds Tryz.pinned (.plain (OpenSpec.upto baseNewSpecSpec)) baseNewSpecUptoCard

/-- THE SECOND FORM's CARD OF 'veilstonelaw07.BasePartsSpec'. -/
def basePartsSpecUptoCard : Claim7 := { stood := { row := basePartsSpecUptoRow, standIns := [], harness := (true, "951fd097bab50bb4c0e1a5377a4206ab81a388c94cae41ec0d1ffa177a6fc68f"), looks := false }, kinds := [], alts := [], laidByText := true, laidKinds := [.data, .data], laidTests := true, laidLooks := .later }
def BasePartsSpecUptoCardSaid : Prop := Claim7.holds Tryz.pinned (.plain (OpenSpec.upto basePartsSpecSpec)) basePartsSpecUptoCard

/-- THE SECOND FORM's CARD OF 'veilstonelaw07.BaseSetsSpec'. -/
def baseSetsSpecUptoCard : Claim7 := { stood := { row := baseSetsSpecUptoRow, standIns := [], harness := (true, "951fd097bab50bb4c0e1a5377a4206ab81a388c94cae41ec0d1ffa177a6fc68f"), looks := false }, kinds := [], alts := [], laidByText := true, laidKinds := [.data, .data], laidTests := true, laidLooks := .later }
def BaseSetsSpecUptoCardSaid : Prop := Claim7.holds Tryz.pinned (.plain (OpenSpec.upto baseSetsSpecSpec)) baseSetsSpecUptoCard
end Rows
end Go.Proofs.YtfhoddcminbffaaGreatDoor
