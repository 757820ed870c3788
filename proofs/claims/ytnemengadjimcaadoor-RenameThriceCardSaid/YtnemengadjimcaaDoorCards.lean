/-
  DERIVED. GIVEN WITH THE SEED: THE CARDS: each row of YtnemengadjimcaaDoorRows.lean that lists a variable, with what it lists TIED to the program's text (the seventh form; the later family's looks); each row that meets fmt, with fmt's text TOLD by the authors' own Lean function (tested against real Go, not proved from fmt's source: count such statements apart). THE CARD IS WHAT COUNTS. Prove the row's statement (the work); the ties are given (YtnemengadjimcaaDoorTie.lean); close each card by the builder's one call (the guide's Derived/Test/ToyasCard.lean, 'card_holds'). Laid BY PROGRAM, IN A SANDBOX (cutbox-door.mjs). By AI agents, Wed Nov 11 2026. No macro, syntax, notation, axiom, sorry.
-/
import Derived.Test.YtnemengadjimcaaDoorRows
import GoSem.ClaimSeven
namespace Go.Proofs.YtnemengadjimcaaDoor
namespace Rows

/-- THE TIED CARD OF 'veilstonelaw33.RenameThrice'. -/
def renameThriceCard : Claim7 := { stood := { row := renameThriceRow, standIns := [], harness := (true, "e022e93af7256709f596f235ddc3e4305c3fdff8db8dfa8b38a84617aa1be63d"), looks := false }, kinds := [], alts := [], laidByText := true, laidKinds := [.data, .data], laidTests := true, laidLooks := .later }
def RenameThriceCardSaid : Prop := Claim7.holds Tryd.pinned (.plain (OpenSpec.ofChange renameThriceSpec)) renameThriceCard

/-- THE SECOND FORM's CARD OF 'veilstonelaw33.RenameThrice'. -/
def renameThriceUptoCard : Claim7 := { stood := { row := renameThriceUptoRow, standIns := [], harness := (true, "e022e93af7256709f596f235ddc3e4305c3fdff8db8dfa8b38a84617aa1be63d"), looks := false }, kinds := [], alts := [], laidByText := true, laidKinds := [.data, .data], laidTests := true, laidLooks := .later }
def RenameThriceUptoCardSaid : Prop := Claim7.holds Tryd.pinned (.plain (OpenSpec.upto renameThriceSpec)) renameThriceUptoCard
end Rows
end Go.Proofs.YtnemengadjimcaaDoor
