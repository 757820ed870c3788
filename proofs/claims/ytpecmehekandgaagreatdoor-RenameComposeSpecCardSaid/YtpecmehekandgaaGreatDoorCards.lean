/-
  DERIVED. GIVEN WITH THE SEED: THE CARDS: each row of YtpecmehekandgaaGreatDoorRows.lean that lists a variable, with what it lists TIED to the program's text (the seventh form; the later family's looks); each row that meets fmt, with fmt's text TOLD by the authors' own Lean function (tested against real Go, not proved from fmt's source: count such statements apart). THE CARD IS WHAT COUNTS. Prove the row's statement (the work); the ties are given (YtpecmehekandgaaGreatDoorTie.lean); close each card by the builder's one call (the guide's Derived/Test/ToyasCard.lean, 'card_holds'). Laid BY PROGRAM, IN A SANDBOX (cutbox-door.mjs). By AI agents, Wed Nov 11 2026. No macro, syntax, notation, axiom, sorry.
-/
import Derived.Test.YtpecmehekandgaaGreatDoorRows
import GoSem.ClaimSeven
namespace Go.Proofs.YtpecmehekandgaaGreatDoor
namespace Rows

/-- THE TIED CARD OF 'veilstonelaw33.RenameNothing'. -/
def renameNothingCard : Claim7 := { stood := { row := renameNothingRow, standIns := [], harness := (true, "191a2a3fa40899289dcd45a1805f4beb8e4665bcbd255c0a4fb41bf569982bc9"), looks := false }, kinds := [], alts := [], laidByText := true, laidKinds := [.data, .data], laidTests := true, laidLooks := .later }
def RenameNothingCardSaid : Prop := Claim7.holds Tryz.pinned (.plain (OpenSpec.ofChange renameNothingSpec)) renameNothingCard

/-- THE TIED CARD OF 'veilstonelaw33.RenameAxiomsSpec'. -/
def renameAxiomsSpecCard : Claim7 := { stood := { row := renameAxiomsSpecRow, standIns := [], harness := (true, "191a2a3fa40899289dcd45a1805f4beb8e4665bcbd255c0a4fb41bf569982bc9"), looks := false }, kinds := [], alts := [], laidByText := true, laidKinds := [.data, .data], laidTests := true, laidLooks := .later }
def RenameAxiomsSpecCardSaid : Prop := Claim7.holds Tryz.pinned (.plain (OpenSpec.ofChange renameAxiomsSpecSpec)) renameAxiomsSpecCard

/-- THE TIED CARD OF 'veilstonelaw33.RenameTwice'. -/
def renameTwiceCard : Claim7 := { stood := { row := renameTwiceRow, standIns := [], harness := (true, "191a2a3fa40899289dcd45a1805f4beb8e4665bcbd255c0a4fb41bf569982bc9"), looks := false }, kinds := [], alts := [], laidByText := true, laidKinds := [.data, .data], laidTests := true, laidLooks := .later }
def RenameTwiceCardSaid : Prop := Claim7.holds Tryz.pinned (.plain (OpenSpec.ofChange renameTwiceSpec)) renameTwiceCard

/-- THE TIED CARD OF 'veilstonelaw33.RenameComposeSpec'. -/
def renameComposeSpecCard : Claim7 := { stood := { row := renameComposeSpecRow, standIns := [], harness := (true, "191a2a3fa40899289dcd45a1805f4beb8e4665bcbd255c0a4fb41bf569982bc9"), looks := false }, kinds := [], alts := [], laidByText := true, laidKinds := [.data, .data], laidTests := true, laidLooks := .later }
def RenameComposeSpecCardSaid : Prop := Claim7.holds Tryz.pinned (.plain (OpenSpec.ofChange renameComposeSpecSpec)) renameComposeSpecCard

/-- THE TIED CARD OF 'veilstonelaw33.RenameApart'. -/
def renameApartCard : Claim7 := { stood := { row := renameApartRow, standIns := [], harness := (true, "191a2a3fa40899289dcd45a1805f4beb8e4665bcbd255c0a4fb41bf569982bc9"), looks := false }, kinds := [], alts := [], laidByText := true, laidKinds := [.data, .data], laidTests := true, laidLooks := .later }
def RenameApartCardSaid : Prop := Claim7.holds Tryz.pinned (.plain (OpenSpec.ofChange renameApartSpec)) renameApartCard

/-- THE TIED CARD OF 'veilstonelaw33.RenameBack'. -/
def renameBackCard : Claim7 := { stood := { row := renameBackRow, standIns := [], harness := (true, "191a2a3fa40899289dcd45a1805f4beb8e4665bcbd255c0a4fb41bf569982bc9"), looks := false }, kinds := [], alts := [], laidByText := true, laidKinds := [.data, .data], laidTests := true, laidLooks := .later }
def RenameBackCardSaid : Prop := Claim7.holds Tryz.pinned (.plain (OpenSpec.ofChange renameBackSpec)) renameBackCard

/-- THE SECOND FORM's CARD OF 'veilstonelaw33.RenameNothing'. -/
def renameNothingUptoCard : Claim7 := { stood := { row := renameNothingUptoRow, standIns := [], harness := (true, "191a2a3fa40899289dcd45a1805f4beb8e4665bcbd255c0a4fb41bf569982bc9"), looks := false }, kinds := [], alts := [], laidByText := true, laidKinds := [.data, .data], laidTests := true, laidLooks := .later }
def RenameNothingUptoCardSaid : Prop := Claim7.holds Tryz.pinned (.plain (OpenSpec.upto renameNothingSpec)) renameNothingUptoCard

/-- THE SECOND FORM's CARD OF 'veilstonelaw33.RenameAxiomsSpec'. -/
def renameAxiomsSpecUptoCard : Claim7 := { stood := { row := renameAxiomsSpecUptoRow, standIns := [], harness := (true, "191a2a3fa40899289dcd45a1805f4beb8e4665bcbd255c0a4fb41bf569982bc9"), looks := false }, kinds := [], alts := [], laidByText := true, laidKinds := [.data, .data], laidTests := true, laidLooks := .later }
def RenameAxiomsSpecUptoCardSaid : Prop := Claim7.holds Tryz.pinned (.plain (OpenSpec.upto renameAxiomsSpecSpec)) renameAxiomsSpecUptoCard

/-- THE SECOND FORM's CARD OF 'veilstonelaw33.RenameTwice'. -/
def renameTwiceUptoCard : Claim7 := { stood := { row := renameTwiceUptoRow, standIns := [], harness := (true, "191a2a3fa40899289dcd45a1805f4beb8e4665bcbd255c0a4fb41bf569982bc9"), looks := false }, kinds := [], alts := [], laidByText := true, laidKinds := [.data, .data], laidTests := true, laidLooks := .later }
def RenameTwiceUptoCardSaid : Prop := Claim7.holds Tryz.pinned (.plain (OpenSpec.upto renameTwiceSpec)) renameTwiceUptoCard

/-- THE SECOND FORM's CARD OF 'veilstonelaw33.RenameComposeSpec'. -/
def renameComposeSpecUptoCard : Claim7 := { stood := { row := renameComposeSpecUptoRow, standIns := [], harness := (true, "191a2a3fa40899289dcd45a1805f4beb8e4665bcbd255c0a4fb41bf569982bc9"), looks := false }, kinds := [], alts := [], laidByText := true, laidKinds := [.data, .data], laidTests := true, laidLooks := .later }
def RenameComposeSpecUptoCardSaid : Prop := Claim7.holds Tryz.pinned (.plain (OpenSpec.upto renameComposeSpecSpec)) renameComposeSpecUptoCard

/-- THE SECOND FORM's CARD OF 'veilstonelaw33.RenameApart'. -/
def renameApartUptoCard : Claim7 := { stood := { row := renameApartUptoRow, standIns := [], harness := (true, "191a2a3fa40899289dcd45a1805f4beb8e4665bcbd255c0a4fb41bf569982bc9"), looks := false }, kinds := [], alts := [], laidByText := true, laidKinds := [.data, .data], laidTests := true, laidLooks := .later }
def RenameApartUptoCardSaid : Prop := Claim7.holds Tryz.pinned (.plain (OpenSpec.upto renameApartSpec)) renameApartUptoCard

/-- THE SECOND FORM's CARD OF 'veilstonelaw33.RenameBack'. -/
def renameBackUptoCard : Claim7 := { stood := { row := renameBackUptoRow, standIns := [], harness := (true, "191a2a3fa40899289dcd45a1805f4beb8e4665bcbd255c0a4fb41bf569982bc9"), looks := false }, kinds := [], alts := [], laidByText := true, laidKinds := [.data, .data], laidTests := true, laidLooks := .later }
def RenameBackUptoCardSaid : Prop := Claim7.holds Tryz.pinned (.plain (OpenSpec.upto renameBackSpec)) renameBackUptoCard
end Rows
end Go.Proofs.YtpecmehekandgaaGreatDoor
