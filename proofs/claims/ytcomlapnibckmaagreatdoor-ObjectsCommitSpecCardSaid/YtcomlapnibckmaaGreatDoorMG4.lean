/-
  Names: the walks through the reference's functions that tell which strings are names.
  Conditions: none.
-/
import Derived.Test.YtcomlapnibckmaaGreatDoorMSw
import Derived.Test.YtcomlapnibckmaaGreatDoorMGr
set_option linter.unnecessarySimpa false
set_option linter.unusedSectionVars false
set_option linter.unusedSimpArgs false
set_option linter.unusedVariables false
namespace Go.Proofs.YtcomlapnibckmaaGreatDoor
open Go.Proofs
set_option maxRecDepth 10000
attribute [local irreducible] aL aG Tri aD
end Go.Proofs.YtcomlapnibckmaaGreatDoor
