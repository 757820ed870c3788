/-
  Objects: Axioms, Commit and Alignment, as the program writes them.
  Conditions: none.
-/
import Derived.Test.YtdjfkmkdkclahaaGreatDoorWBp
import Derived.Test.YtdjfkmkdkclahaaGreatDoorWSyp
set_option linter.unnecessarySimpa false
set_option linter.unusedSectionVars false
set_option linter.unusedSimpArgs false
set_option linter.unusedVariables false
namespace Go.Proofs.YtdjfkmkdkclahaaGreatDoor
open Go.Proofs Go.RowKit
set_option maxRecDepth 10000
attribute [local irreducible] aH aF Tri aD YVC bO aP
theorem pairN (b c:SV):cE (.tup [.d .nil,c]) (.tup [.d (.sl 1 ([].map bB)),c]):=cE.pair cE.nil
end Go.Proofs.YtdjfkmkdkclahaaGreatDoor
