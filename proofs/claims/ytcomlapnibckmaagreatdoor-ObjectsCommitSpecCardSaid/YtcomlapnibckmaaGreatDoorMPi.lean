/-
  The reference of objects: axioms in bytes, and what encoding them answers.
  Conditions: none.
-/
import Derived.Test.YtcomlapnibckmaaGreatDoorMGr
import Derived.Test.YtcomlapnibckmaaGreatDoorMDe
import Derived.Test.YtcomlapnibckmaaGreatDoorMOf
set_option linter.unnecessarySimpa false
set_option linter.unusedSectionVars false
set_option linter.unusedSimpArgs false
set_option linter.unusedVariables false
namespace Go.Proofs.YtcomlapnibckmaaGreatDoor
open Go.Proofs Go.RowKit
set_option maxRecDepth 10000
attribute [local irreducible] aL aG Tri aD YVC cP bB vU
end Go.Proofs.YtcomlapnibckmaaGreatDoor
