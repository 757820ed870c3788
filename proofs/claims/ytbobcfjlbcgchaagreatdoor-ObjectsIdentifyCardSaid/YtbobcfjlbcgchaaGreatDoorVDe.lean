/-
  Terms: the reference's CheckAxiom.
  Conditions: none.
-/
import Derived.Test.YtbobcfjlbcgchaaGreatDoorVDd
import Derived.Test.YtbobcfjlbcgchaaGreatDoorVOf
set_option linter.unnecessarySimpa false
set_option linter.unusedSectionVars false
set_option linter.unusedSimpArgs false
set_option linter.unusedVariables false
namespace Go.Proofs.YtbobcfjlbcgchaaGreatDoor
open Go.Proofs
set_option maxRecDepth 10000
attribute [local irreducible] aJ aF Tri aG YVC bS aQ
end Go.Proofs.YtbobcfjlbcgchaaGreatDoor
