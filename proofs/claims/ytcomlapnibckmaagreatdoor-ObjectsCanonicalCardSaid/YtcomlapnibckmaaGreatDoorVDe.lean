/-
  Terms: the reference's CheckAxiom.
  Conditions: none.
-/
import Derived.Test.YtcomlapnibckmaaGreatDoorVBu
set_option linter.unnecessarySimpa false
set_option linter.unusedSectionVars false
set_option linter.unusedSimpArgs false
set_option linter.unusedVariables false
namespace Go.Proofs.YtcomlapnibckmaaGreatDoor
open Go.Proofs
set_option maxRecDepth 10000
attribute [local irreducible] aN aH Tri aF YVC cM bB
end Go.Proofs.YtcomlapnibckmaaGreatDoor
