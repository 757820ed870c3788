/-
  Terms: the order of axioms is total; few concepts are small.
  Conditions: none.
-/
import Derived.Test.YtpecmehekandgaaGreatDoorMAm
import Derived.Test.YtpecmehekandgaaGreatDoorMTca
set_option linter.unusedSectionVars false
set_option linter.unusedSimpArgs false
set_option linter.unusedVariables false
namespace Go.Proofs.YtpecmehekandgaaGreatDoor
open Go.Proofs
end Go.Proofs.YtpecmehekandgaaGreatDoor
