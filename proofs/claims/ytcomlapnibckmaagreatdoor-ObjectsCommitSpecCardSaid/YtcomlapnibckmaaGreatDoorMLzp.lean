/-
  The library's functions as they lie in this program: its numbers of functions and types.
  Conditions: none.
-/
import Derived.Shelf.SlGeneric
import Derived.Shelf.SlSortCmp.NoneTotal
import Derived.Ground.SlsfProg
import Derived.Shelf.Sort.Plain
import Derived.Ground.NamesProg
import Derived.Test.YtcomlapnibckmaaGreatDoorProg
set_option linter.unnecessarySimpa false
set_option linter.unusedSectionVars false
set_option linter.unusedSimpArgs false
set_option linter.unusedVariables false
namespace Go.Proofs
open Go.Shelf
end Go.Proofs
