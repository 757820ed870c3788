/-
  Terms: the reference's CheckAxiom.
  Conditions: none.
-/
import Derived.Test.YtleihcnongldbaaGreatDoorVBu
set_option linter.unnecessarySimpa false
set_option linter.unusedSectionVars false
set_option linter.unusedSimpArgs false
set_option linter.unusedVariables false
namespace Go.Proofs.YtleihcnongldbaaGreatDoor
open Go.Proofs
set_option maxRecDepth 10000
attribute [local irreducible] aO aH Tri aG YVC cL bB
end Go.Proofs.YtleihcnongldbaaGreatDoor
