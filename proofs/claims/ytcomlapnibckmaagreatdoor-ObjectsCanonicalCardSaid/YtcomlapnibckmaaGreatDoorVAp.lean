/-
  The keys of a set of strings, collected and sorted: maps.Keys, slices.AppendSeq, slices.Collect, slices.Sorted.
  Conditions: none.
-/
import Derived.Test.YtcomlapnibckmaaGreatDoorVAo
import Derived.Test.YtcomlapnibckmaaGreatDoorVA1
import Derived.Test.YtcomlapnibckmaaGreatDoorVSw
import Derived.Sort.KeysCollected
set_option linter.unnecessarySimpa false
set_option linter.unusedSectionVars false
set_option linter.unusedSimpArgs false
set_option linter.unusedVariables false
namespace Go.Proofs.YtcomlapnibckmaaGreatDoor
open Go.Proofs
set_option maxRecDepth 10000
attribute [local irreducible] aN aH Tri aF YVC cM bB
def aAp (ks:List (List UInt8)):List (List UInt8):=ks.mergeSort λx y=>decide (x<=y)
end Go.Proofs.YtcomlapnibckmaaGreatDoor
