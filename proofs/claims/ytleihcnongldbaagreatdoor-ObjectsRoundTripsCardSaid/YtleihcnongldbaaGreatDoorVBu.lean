/-
  Terms: tidying keeps a concept valid and adds no names. Terms: what a valid concept and a valid axiom are; tidying keeps axioms valid. Terms: the reference's bare, Empty, fields, CheckAxiom. Terms: tidying keeps an axiom valid and adds no names; the names of valid axioms are names.
  Conditions: none.
-/
import Derived.Test.YtleihcnongldbaaGreatDoorVBr
import Derived.Test.YtleihcnongldbaaGreatDoorVBp
set_option linter.unnecessarySimpa false
set_option linter.unusedSectionVars false
set_option linter.unusedSimpArgs false
set_option linter.unusedVariables false
namespace Go.Proofs.YtleihcnongldbaaGreatDoor
open Go.Proofs
def Okn (c:Cn):Prop:= ∀x∈eN c,cX x=0
def aGf (t c:Cn):Prop:= ∀k s,k≠1->k≠5->aPr k t s->aPr k c s
structure Keep (c t:Cn):Prop where
 ok:Okn t
 dep:zQ t<=zQ c
 nam:aGf t c
 bare:oZ t=true->oZ c=true
structure Part (c m:Cn):Prop where
 ok:Okn m
 dep:zQ m+1<=zQ c
 nam:aGf m c
 bare:oZ m=true->oZ c=true
theorem Part.keep {c m:Cn}(h:Part c m):Keep c m:=⟨h.ok,by have:=h.dep;omega,h.nam,h.bare⟩
end Go.Proofs.YtleihcnongldbaaGreatDoor
namespace Go.Proofs.YtleihcnongldbaaGreatDoor
open Go.Proofs
end Go.Proofs.YtleihcnongldbaaGreatDoor
namespace Go.Proofs.YtleihcnongldbaaGreatDoor
open Go.Proofs
set_option maxRecDepth 10000
attribute [local irreducible] aO aH Tri aG YVC cL bB
end Go.Proofs.YtleihcnongldbaaGreatDoor
namespace Go.Proofs.YtleihcnongldbaaGreatDoor
open Go.Proofs
end Go.Proofs.YtleihcnongldbaaGreatDoor
