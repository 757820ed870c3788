/-
  The keys of a set of strings, collected and sorted: maps.Keys, slices.AppendSeq, slices.Collect, slices.Sorted.
  Conditions: none.
-/
import Derived.Test.YtcomlapnibckmaaGreatDoorMAo
import Derived.Test.YtcomlapnibckmaaGreatDoorMA1
import Derived.Test.YtcomlapnibckmaaGreatDoorMSw
import Derived.Sort.KeysCollected
set_option linter.unnecessarySimpa false
set_option linter.unusedSectionVars false
set_option linter.unusedSimpArgs false
set_option linter.unusedVariables false
namespace Go.Proofs.YtcomlapnibckmaaGreatDoor
open Go.Proofs
set_option maxRecDepth 10000
attribute [local irreducible] aL aG Tri aD YVC cP bB
end Go.Proofs.YtcomlapnibckmaaGreatDoor
