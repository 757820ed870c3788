/-
  Terms: order, repetition and grouping of parts do not change the canonical form (plainly). Terms: the reference's order, Strings, Size and Compare. The walk through the reference's keyword. Names: the walks through the reference's functions that tell which strings are names. Terms: the reference's Depth, shape, named, walk, CheckConcept. Rename: other names in concepts, plainly; tidying and renaming.
  Conditions: none.
-/
import Derived.Test.YtnemengadjimcaaDoorMBt
import Derived.Test.YtnemengadjimcaaDoorMSyb
import Derived.Test.YtnemengadjimcaaDoorMG2
import Derived.Test.YtnemengadjimcaaDoorMSyd
set_option linter.unnecessarySimpa false
set_option linter.unusedSectionVars false
set_option linter.unusedSimpArgs false
set_option linter.unusedVariables false
namespace Go.Proofs.YtnemengadjimcaaDoor
open Go.Proofs
end Go.Proofs.YtnemengadjimcaaDoor
namespace Go.Proofs.YtnemengadjimcaaDoor
open Go.Proofs
set_option maxRecDepth 10000
attribute [local irreducible] SemVC CallVC Tri Stuck YVC GenP GenVC
end Go.Proofs.YtnemengadjimcaaDoor
namespace Go.Proofs.YtnemengadjimcaaDoor
open Go.Proofs
set_option maxRecDepth 10000
attribute [local irreducible] SemVC CallVC Tri Stuck
end Go.Proofs.YtnemengadjimcaaDoor
namespace Go.Proofs.YtnemengadjimcaaDoor
open Go.Proofs
set_option maxRecDepth 10000
attribute [local irreducible] SemVC CallVC Tri Stuck
end Go.Proofs.YtnemengadjimcaaDoor
namespace Go.Proofs.YtnemengadjimcaaDoor
open Go.Proofs
set_option maxRecDepth 10000
attribute [local irreducible] SemVC CallVC Tri Stuck YVC GenP GenVC
end Go.Proofs.YtnemengadjimcaaDoor
namespace Go.Proofs.YtnemengadjimcaaDoor
open Go.Proofs
end Go.Proofs.YtnemengadjimcaaDoor
