/-
  Names: the walks through the reference's functions that tell which strings are names.
  Conditions: none.
-/
import Derived.Test.YtnemengadjimcaaGreatDoorMG2
import Derived.Test.YtnemengadjimcaaGreatDoorMGr
set_option linter.unnecessarySimpa false
set_option linter.unusedSectionVars false
set_option linter.unusedSimpArgs false
set_option linter.unusedVariables false
namespace Go.Proofs.YtnemengadjimcaaGreatDoor
open Go.Proofs
set_option maxRecDepth 10000
attribute [local irreducible] SemVC CallVC Tri Stuck
end Go.Proofs.YtnemengadjimcaaGreatDoor
