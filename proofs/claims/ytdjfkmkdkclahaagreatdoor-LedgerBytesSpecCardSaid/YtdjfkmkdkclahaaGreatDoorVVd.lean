/-
  The reference of objects: its reader reads axioms.
  Conditions: none.
-/
import Derived.Test.YtdjfkmkdkclahaaGreatDoorVVca
set_option linter.unnecessarySimpa false
set_option linter.unusedSectionVars false
set_option linter.unusedSimpArgs false
set_option linter.unusedVariables false
namespace Go.Proofs.YtdjfkmkdkclahaaGreatDoor
open Go.Proofs Go.RowKit
set_option maxRecDepth 10000
attribute [local irreducible] aL aH Tri aI YVC bP aS
end Go.Proofs.YtdjfkmkdkclahaaGreatDoor
