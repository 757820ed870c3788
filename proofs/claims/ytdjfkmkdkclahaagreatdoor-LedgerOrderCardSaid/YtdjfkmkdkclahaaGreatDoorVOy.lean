/-
  Objects: Axioms, Commit and Alignment, as the program writes them.
  Conditions: none.
-/
import Derived.Test.YtdjfkmkdkclahaaGreatDoorVBp
import Derived.Test.YtdjfkmkdkclahaaGreatDoorVSyp
set_option linter.unnecessarySimpa false
set_option linter.unusedSectionVars false
set_option linter.unusedSimpArgs false
set_option linter.unusedVariables false
namespace Go.Proofs.YtdjfkmkdkclahaaGreatDoor
open Go.Proofs Go.RowKit
set_option maxRecDepth 10000
attribute [local irreducible] aL aH Tri aI YVC bP aS
theorem pairN (b c:SV):bW (.tup [.d .nil,c]) (.tup [.d (.sl 1 ([].map aP)),c]):=bW.pair bW.nil
end Go.Proofs.YtdjfkmkdkclahaaGreatDoor
