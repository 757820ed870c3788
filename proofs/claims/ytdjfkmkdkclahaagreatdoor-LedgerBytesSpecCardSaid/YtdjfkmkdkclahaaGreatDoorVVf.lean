/-
  The reference of objects: ReadAlignment.
  Conditions: none.
-/
import Derived.Test.YtdjfkmkdkclahaaGreatDoorVVe
import Derived.Test.YtdjfkmkdkclahaaGreatDoorVVd
import Derived.Test.YtdjfkmkdkclahaaGreatDoorVPn
set_option linter.unnecessarySimpa false
set_option linter.unusedSectionVars false
set_option linter.unusedSimpArgs false
set_option linter.unusedVariables false
namespace Go.Proofs.YtdjfkmkdkclahaaGreatDoor
open Go.Proofs Go.RowKit
set_option maxRecDepth 10000
attribute [local irreducible] aL aH Tri aI YVC bP aS aA3
end Go.Proofs.YtdjfkmkdkclahaaGreatDoor
