/-
  The reference of objects: axioms in bytes, and what encoding them answers.
  Conditions: none.
-/
import Derived.Test.YtcomlapnibckmaaGreatDoorVG4
import Derived.Test.YtcomlapnibckmaaGreatDoorVDe
import Derived.Test.YtcomlapnibckmaaGreatDoorVOf
set_option linter.unnecessarySimpa false
set_option linter.unusedSectionVars false
set_option linter.unusedSimpArgs false
set_option linter.unusedVariables false
namespace Go.Proofs.YtcomlapnibckmaaGreatDoor
open Go.Proofs Go.RowKit
set_option maxRecDepth 10000
attribute [local irreducible] aN aH Tri aF YVC cM bB aEp
end Go.Proofs.YtcomlapnibckmaaGreatDoor
