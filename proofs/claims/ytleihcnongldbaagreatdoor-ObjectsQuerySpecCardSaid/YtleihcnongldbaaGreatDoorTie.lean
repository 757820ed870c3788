/-
  DERIVED. GIVEN WITH THE SEED: THE PROGRAM's TIES (one call each: nine closed facts by the kernel) AND EACH ROW's TIE, after the 31st guide's Derived/Test/Toyas{Tie, Card}.lean. No idea stands in it: it is a product of the set-up. Laid BY PROGRAM, IN A SANDBOX (cutbox-door.mjs). By AI agents, Wed Nov 11 2026. No macro, syntax, notation, axiom, sorry.
-/
import Derived.Test.YtleihcnongldbaaGreatDoorRows
import Derived.LaidByTextLater
import Derived.SevenTiedAt
import Derived.LaidSub
import Derived.LaidOnce
namespace Go.Proofs.YtleihcnongldbaaGreatDoor
open Go
set_option maxRecDepth 100000
theorem seatTie1 : Tryz.prog.laidByTextLater [("veilstone/terms.needs", Rows.laid_veilstone_terms_needs), ("veilstone/terms.uses", Rows.laid_veilstone_terms_uses)] [.data, .data] true :=
  Program.laidByTextLater_by_one 35 8 71 (by kernel_rfl) (by kernel_rfl) (by kernel_rfl) (by kernel_rfl) (by kernel_rfl) (by kernel_rfl) (fun _ _ => by kernel_rfl)
theorem noOwnUnsafe : Tryz.pinned.checked.prog.headLifts.contains "ownunsafe" = false := by kernel_rfl
theorem tie : Tryz.prog.laidByTextLater [("veilstone/terms.needs", Rows.laid_veilstone_terms_needs), ("veilstone/terms.uses", Rows.laid_veilstone_terms_uses)] [.data, .data] true :=
  Program.laidByTextLater.sub seatTie1 ["veilstone/terms.needs", "veilstone/terms.uses"] (by kernel_rfl) (by kernel_rfl)
theorem objectsQuerySpec_row_tie : Rows.objectsQuerySpecRow.laidByTextAt .later Tryz.pinned [.data, .data] true :=
  OpenClaim.laidByTextAt_later rfl rfl tie noOwnUnsafe
theorem objectsAlignmentSpec_row_tie : Rows.objectsAlignmentSpecRow.laidByTextAt .later Tryz.pinned [.data, .data] true :=
  OpenClaim.laidByTextAt_later rfl rfl tie noOwnUnsafe
theorem objectsRoundTrips_row_tie : Rows.objectsRoundTripsRow.laidByTextAt .later Tryz.pinned [.data, .data] true :=
  OpenClaim.laidByTextAt_later rfl rfl tie noOwnUnsafe
theorem objectsQuerySpecUpto_row_tie : Rows.objectsQuerySpecUptoRow.laidByTextAt .later Tryz.pinned [.data, .data] true :=
  OpenClaim.laidByTextAt_later rfl rfl tie noOwnUnsafe
theorem objectsAlignmentSpecUpto_row_tie : Rows.objectsAlignmentSpecUptoRow.laidByTextAt .later Tryz.pinned [.data, .data] true :=
  OpenClaim.laidByTextAt_later rfl rfl tie noOwnUnsafe
theorem objectsRoundTripsUpto_row_tie : Rows.objectsRoundTripsUptoRow.laidByTextAt .later Tryz.pinned [.data, .data] true :=
  OpenClaim.laidByTextAt_later rfl rfl tie noOwnUnsafe
end Go.Proofs.YtleihcnongldbaaGreatDoor
