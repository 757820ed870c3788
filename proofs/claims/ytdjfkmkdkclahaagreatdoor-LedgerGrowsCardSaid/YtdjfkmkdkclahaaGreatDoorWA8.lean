/-
  Terms: CheckConcept, Size, Depth. Terms: Size, Depth, isBare, isEmpty. Terms: isBare, isEmpty. Terms: the shape and the names of an axiom.
  Conditions: none.
-/
import Derived.Test.YtdjfkmkdkclahaaGreatDoorWA4
set_option linter.unusedSectionVars false
set_option linter.unusedSimpArgs false
set_option linter.unusedVariables false
namespace Go.Proofs.YtdjfkmkdkclahaaGreatDoor
open Go.Proofs
set_option maxRecDepth 10000
attribute [local irreducible] aJ aG Tri aF YVC cA aU
end Go.Proofs.YtdjfkmkdkclahaaGreatDoor
namespace Go.Proofs.YtdjfkmkdkclahaaGreatDoor
open Go.Proofs
set_option maxRecDepth 10000
attribute [local irreducible] aJ aG Tri aF YVC cA aU
mutual
def yH:Cn->Nat
 | .mk _ _ _ _ ps=>aIm ps
def aIm:List Cn->Nat
 | []=>0
 |c::r=>max (yH c+1) (aIm r)
end
mutual
def aFk:Cn->Bool
 | .mk k _ _ _ ps=>if k=4 then true else if k=5 then aM8 ps else false
def aM8:List Cn->Bool
 | []=>false
 |c::r=>if aFk c=true then true else aM8 r
end
end Go.Proofs.YtdjfkmkdkclahaaGreatDoor
namespace Go.Proofs.YtdjfkmkdkclahaaGreatDoor
open Go.Proofs
set_option maxRecDepth 10000
attribute [local irreducible] aJ aG Tri aF YVC cA aU
end Go.Proofs.YtdjfkmkdkclahaaGreatDoor
namespace Go.Proofs.YtdjfkmkdkclahaaGreatDoor
open Go.Proofs
set_option maxRecDepth 10000
attribute [local irreducible] aJ aG Tri aF YVC cA aU
end Go.Proofs.YtdjfkmkdkclahaaGreatDoor
