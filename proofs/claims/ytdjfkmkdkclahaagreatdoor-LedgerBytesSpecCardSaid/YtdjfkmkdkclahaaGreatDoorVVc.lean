/-
  The reference of objects: its reader reads concepts and axioms.
  Conditions: none.
-/
import Derived.Test.YtdjfkmkdkclahaaGreatDoorVVe
import Derived.Test.YtdjfkmkdkclahaaGreatDoorVXs
import Derived.Test.YtdjfkmkdkclahaaGreatDoorVSyv
set_option linter.unnecessarySimpa false
set_option linter.unusedSectionVars false
set_option linter.unusedSimpArgs false
set_option linter.unusedVariables false
namespace Go.Proofs.YtdjfkmkdkclahaaGreatDoor
open Go.Proofs Go.RowKit
set_option maxRecDepth 10000
attribute [local irreducible] aL aH Tri aI YVC bP aS
theorem aXr:RfT 90 [.d (.int .i64 1)] (gI 1) (λn=> .d (.int .u64 n)):=aVs 1 (by decide)
theorem aSc {n:Nat}(h:n < 256):IntKind.i64.wrap ((n:Nat):Int)=((n:Nat):Int):=IntWalk.i64_in _ (by omega)
theorem aUg (s:RS):(gI 1 s).1 < 256:=aC9 1 s
end Go.Proofs.YtdjfkmkdkclahaaGreatDoor
