/-
  Terms: the reference's Depth, shape, named, walk, CheckConcept. Rename: other names in concepts, plainly; tidying and renaming.
  Conditions: none.
-/
import Derived.Test.YtpecmehekandgaaGreatDoorMGr
import Derived.Test.YtpecmehekandgaaGreatDoorMG4
import Derived.Test.YtpecmehekandgaaGreatDoorMSyd
set_option linter.unnecessarySimpa false
set_option linter.unusedSectionVars false
set_option linter.unusedSimpArgs false
set_option linter.unusedVariables false
namespace Go.Proofs.YtpecmehekandgaaGreatDoor
open Go.Proofs
set_option maxRecDepth 10000
attribute [local irreducible] SemVC CallVC Tri Stuck YVC GenP GenVC
end Go.Proofs.YtpecmehekandgaaGreatDoor
namespace Go.Proofs.YtpecmehekandgaaGreatDoor
open Go.Proofs
end Go.Proofs.YtpecmehekandgaaGreatDoor
