/-
  Parts of rows that may be written: cut out, measured, cleared, and taken for the whole. Terms: slices.CompactFunc over trees.
  Conditions: none.
-/
import Derived.Test.YtcomlapnibckmaaGreatDoorMSne
import Derived.Test.YtcomlapnibckmaaGreatDoorMBp
import Derived.Test.YtcomlapnibckmaaGreatDoorMSw
set_option linter.unnecessarySimpa false
set_option linter.unusedSectionVars false
set_option linter.unusedSimpArgs false
set_option linter.unusedVariables false
namespace Go.Proofs.YtcomlapnibckmaaGreatDoor
open Go.RowKit
section
variable {P:Program}
end
end Go.Proofs.YtcomlapnibckmaaGreatDoor
namespace Go.Proofs.YtcomlapnibckmaaGreatDoor
open Go.Proofs
set_option maxRecDepth 10000
attribute [local irreducible] aL aG Tri aD YVC cP bB
end Go.Proofs.YtcomlapnibckmaaGreatDoor
