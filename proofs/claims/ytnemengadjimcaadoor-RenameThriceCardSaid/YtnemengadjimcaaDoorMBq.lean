/-
  Terms: the order of axioms is total; few concepts are small.
  Conditions: none.
-/
import Derived.Test.YtnemengadjimcaaDoorMAm
import Derived.Test.YtnemengadjimcaaDoorMTca
set_option linter.unusedSectionVars false
set_option linter.unusedSimpArgs false
set_option linter.unusedVariables false
namespace Go.Proofs.YtnemengadjimcaaDoor
open Go.Proofs
end Go.Proofs.YtnemengadjimcaaDoor
