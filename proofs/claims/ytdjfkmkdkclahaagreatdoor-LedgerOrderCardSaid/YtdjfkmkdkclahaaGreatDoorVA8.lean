/-
  Terms: the limits of a concept: fits. Terms: the fields of a concept: checkFields. Terms: the concepts within a concept, one after another: visit and walk. Terms: CheckConcept, Size, Depth. Terms: Size, Depth, isBare, isEmpty. Terms: isBare, isEmpty. Terms: the shape and the names of an axiom.
  Conditions: none.
-/
import Derived.Test.YtdjfkmkdkclahaaGreatDoorVA1
import Derived.Test.YtdjfkmkdkclahaaGreatDoorVSna
set_option linter.unusedSectionVars false
set_option linter.unusedSimpArgs false
set_option linter.unusedVariables false
namespace Go.Proofs.YtdjfkmkdkclahaaGreatDoor
open Go.Proofs
set_option maxRecDepth 10000
attribute [local irreducible] aL aH Tri aI YVC bP aS
end Go.Proofs.YtdjfkmkdkclahaaGreatDoor
namespace Go.Proofs.YtdjfkmkdkclahaaGreatDoor
open Go.Proofs
set_option maxRecDepth 10000
attribute [local irreducible] aL aH Tri aI YVC bP aS
structure Need where
 name:Int
 least:Int
 most:Int
 nums:Bool
def aWd:List Need:=[⟨0,0,0,false⟩,⟨0,0,0,false⟩,⟨0,0,0,false⟩,⟨1,0,0,false⟩,⟨2,0,0,false⟩,⟨0,2,8,false⟩,⟨1,1,1,false⟩,⟨1,0,0,true⟩]
structure Use where
 left:Bool
 right:Bool
 role:Bool
 a:Bool
 b:Bool
 least:Int
 most:Int
def aYv : List Use := [⟨false, false, false, false, false, 0, 0⟩, ⟨true, true, false, false, false, 0, 0⟩, ⟨true, true, false, false, false, 0, 0⟩, ⟨true, true, false, false, false, 0, 0⟩, ⟨false, true, true, false, false, 0, 0⟩,
 ⟨false,false,true,false,false,1,1⟩,⟨false,false,true,false,false,2,4⟩,⟨false,false,true,false,false,0,0⟩,⟨false,true,false,true,false,0,0⟩,⟨false,false,true,true,true,0,0⟩]
def aUj (k:Int):Need:=aWd.getD k.toNat ⟨0,0,0,false⟩
def aUk (n:Need) (s:List UInt8):Int:=if n.name=0\/fW s=true\/(n.name=2/\aDh s=true)then 0 else 20
def aSq (n:Need) (c:Cn):Int:=
 if (c.parts.length:Int) < n.least\/n.most < c.parts.length\/(n.name=0/\c.name≠[])then 21
 else if n.nums=true then (if c.lo < -1099511627776\/c.hi < c.lo\/1099511627776 < c.hi then 21 else aUk n c.name)
 else (if c.lo≠0\/c.hi≠0 then 21 else aUk n c.name)
def aSr (c:Cn):Int:=if c.kind < 1\/7 < c.kind then 21 else aSq (aUj c.kind) c
theorem gB {a b:Int}(h:a=b):SV.d (.int .i64 a)=SV.d (.int .i64 b):=by rw [h]
end Go.Proofs.YtdjfkmkdkclahaaGreatDoor
namespace Go.Proofs.YtdjfkmkdkclahaaGreatDoor
open Go.Proofs
set_option maxRecDepth 10000
attribute [local irreducible] aL aH Tri aI YVC bP aS
mutual
def aSd:Cn->List Cn
 | .mk k n lo hi ps=> .mk k n lo hi ps::aQl ps
def aQl:List Cn->List Cn
 | []=>[]
 |c::r=>aSd c++aQl r
end
end Go.Proofs.YtdjfkmkdkclahaaGreatDoor
namespace Go.Proofs.YtdjfkmkdkclahaaGreatDoor
open Go.Proofs
set_option maxRecDepth 10000
attribute [local irreducible] aL aH Tri aI YVC bP aS
end Go.Proofs.YtdjfkmkdkclahaaGreatDoor
namespace Go.Proofs.YtdjfkmkdkclahaaGreatDoor
open Go.Proofs
set_option maxRecDepth 10000
attribute [local irreducible] aL aH Tri aI YVC bP aS
mutual
def aFe:Cn->Nat
 | .mk _ _ _ _ ps=>aQw ps
def aQw:List Cn->Nat
 | []=>0
 |c::r=>max (aFe c+1) (aQw r)
end
mutual
def aN6:Cn->Bool
 | .mk k _ _ _ ps=>if k=4 then true else if k=5 then aV3 ps else false
def aV3:List Cn->Bool
 | []=>false
 |c::r=>if aN6 c=true then true else aV3 r
end
end Go.Proofs.YtdjfkmkdkclahaaGreatDoor
namespace Go.Proofs.YtdjfkmkdkclahaaGreatDoor
open Go.Proofs
set_option maxRecDepth 10000
attribute [local irreducible] aL aH Tri aI YVC bP aS
end Go.Proofs.YtdjfkmkdkclahaaGreatDoor
namespace Go.Proofs.YtdjfkmkdkclahaaGreatDoor
open Go.Proofs
set_option maxRecDepth 10000
attribute [local irreducible] aL aH Tri aI YVC bP aS
end Go.Proofs.YtdjfkmkdkclahaaGreatDoor
