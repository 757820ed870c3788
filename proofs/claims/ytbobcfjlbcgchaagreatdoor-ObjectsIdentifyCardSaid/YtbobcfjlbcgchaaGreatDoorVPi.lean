/-
  Layer 7, reference: Check. The reference of objects: numbers, texts and lists in bytes. The reference of objects: lists, concepts and axioms in bytes. The reference of objects: axioms in bytes, and what encoding them answers.
  Conditions: none.
-/
import Derived.Test.YtbobcfjlbcgchaaGreatDoorVJp
import Derived.Test.YtbobcfjlbcgchaaGreatDoorVJr
import Derived.Test.YtbobcfjlbcgchaaGreatDoorVSyx
import Derived.Test.YtbobcfjlbcgchaaGreatDoorVBp
import Derived.Test.YtbobcfjlbcgchaaGreatDoorVSyc
import Derived.Test.YtbobcfjlbcgchaaGreatDoorVQf
import Derived.Test.YtbobcfjlbcgchaaGreatDoorVDe
import Derived.Test.YtbobcfjlbcgchaaGreatDoorVOf
set_option linter.unnecessarySimpa false
set_option linter.unusedSectionVars false
set_option linter.unusedSimpArgs false
set_option linter.unusedVariables false
namespace Go.Proofs.YtbobcfjlbcgchaaGreatDoor
open Go.Proofs
set_option maxRecDepth 10000
attribute [local irreducible] aJ aF Tri aG YVC bS aQ
end Go.Proofs.YtbobcfjlbcgchaaGreatDoor
namespace Go.Proofs.YtbobcfjlbcgchaaGreatDoor
open Go.Proofs Go.RowKit
set_option maxRecDepth 10000
attribute [local irreducible] aJ aF Tri aG YVC bS aQ aAd
end Go.Proofs.YtbobcfjlbcgchaaGreatDoor
namespace Go.Proofs.YtbobcfjlbcgchaaGreatDoor
open Go.Proofs Go.RowKit
set_option maxRecDepth 10000
attribute [local irreducible] aJ aF Tri aG YVC bS aQ aAd
end Go.Proofs.YtbobcfjlbcgchaaGreatDoor
namespace Go.Proofs.YtbobcfjlbcgchaaGreatDoor
open Go.Proofs Go.RowKit
set_option maxRecDepth 10000
attribute [local irreducible] aJ aF Tri aG YVC bS aQ aAd
end Go.Proofs.YtbobcfjlbcgchaaGreatDoor
