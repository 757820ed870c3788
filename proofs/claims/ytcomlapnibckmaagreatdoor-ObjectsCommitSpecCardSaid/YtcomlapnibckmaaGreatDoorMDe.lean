/-
  Terms: the reference's CheckAxiom.
  Conditions: none.
-/
import Derived.Test.YtcomlapnibckmaaGreatDoorMBu
set_option linter.unnecessarySimpa false
set_option linter.unusedSectionVars false
set_option linter.unusedSimpArgs false
set_option linter.unusedVariables false
namespace Go.Proofs.YtcomlapnibckmaaGreatDoor
open Go.Proofs
set_option maxRecDepth 10000
attribute [local irreducible] aL aG Tri aD YVC cP bB
end Go.Proofs.YtcomlapnibckmaaGreatDoor
