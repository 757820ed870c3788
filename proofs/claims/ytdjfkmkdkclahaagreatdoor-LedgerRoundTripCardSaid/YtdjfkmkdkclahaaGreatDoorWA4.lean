/-
  Terms: the limits of a concept: fits. Terms: the fields of a concept: checkFields. Terms: the concepts within a concept, one after another: visit and walk.
  Conditions: none.
-/
import Derived.Test.YtdjfkmkdkclahaaGreatDoorWA1
import Derived.Test.YtdjfkmkdkclahaaGreatDoorWSna
set_option linter.unusedSectionVars false
set_option linter.unusedSimpArgs false
set_option linter.unusedVariables false
namespace Go.Proofs.YtdjfkmkdkclahaaGreatDoor
open Go.Proofs
set_option maxRecDepth 10000
attribute [local irreducible] aJ aG Tri aF YVC cA aU
end Go.Proofs.YtdjfkmkdkclahaaGreatDoor
namespace Go.Proofs.YtdjfkmkdkclahaaGreatDoor
open Go.Proofs
set_option maxRecDepth 10000
attribute [local irreducible] aJ aG Tri aF YVC cA aU
structure Need where
 name:Int
 least:Int
 most:Int
 nums:Bool
def aNg:List Need:=[⟨0,0,0,false⟩,⟨0,0,0,false⟩,⟨0,0,0,false⟩,⟨1,0,0,false⟩,⟨2,0,0,false⟩,⟨0,2,8,false⟩,⟨1,1,1,false⟩,⟨1,0,0,true⟩]
structure Use where
 left:Bool
 right:Bool
 role:Bool
 a:Bool
 b:Bool
 least:Int
 most:Int
def aPp : List Use := [⟨false, false, false, false, false, 0, 0⟩, ⟨true, true, false, false, false, 0, 0⟩, ⟨true, true, false, false, false, 0, 0⟩, ⟨true, true, false, false, false, 0, 0⟩, ⟨false, true, true, false, false, 0, 0⟩,
 ⟨false,false,true,false,false,1,1⟩,⟨false,false,true,false,false,2,4⟩,⟨false,false,true,false,false,0,0⟩,⟨false,true,false,true,false,0,0⟩,⟨false,false,true,true,true,0,0⟩]
def aLp (k:Int):Need:=aNg.getD k.toNat ⟨0,0,0,false⟩
def aLq (n:Need) (s:List UInt8):Int:=if n.name=0\/pN s=true\/(n.name=2/\aGn s=true)then 0 else 20
def aK2 (n:Need) (c:Cn):Int:=
 if (c.parts.length:Int) < n.least\/n.most < c.parts.length\/(n.name=0/\c.name≠[])then 21
 else if n.nums=true then (if c.lo < -1099511627776\/c.hi < c.lo\/1099511627776 < c.hi then 21 else aLq n c.name)
 else (if c.lo≠0\/c.hi≠0 then 21 else aLq n c.name)
def aK3 (c:Cn):Int:=if c.kind < 1\/7 < c.kind then 21 else aK2 (aLp c.kind) c
theorem iJ {a b:Int}(h:a=b):SV.d (.int .i64 a)=SV.d (.int .i64 b):=by rw [h]
end Go.Proofs.YtdjfkmkdkclahaaGreatDoor
namespace Go.Proofs.YtdjfkmkdkclahaaGreatDoor
open Go.Proofs
set_option maxRecDepth 10000
attribute [local irreducible] aJ aG Tri aF YVC cA aU
mutual
def aJs:Cn->List Cn
 | .mk k n lo hi ps=> .mk k n lo hi ps::aIa ps
def aIa:List Cn->List Cn
 | []=>[]
 |c::r=>aJs c++aIa r
end
end Go.Proofs.YtdjfkmkdkclahaaGreatDoor
