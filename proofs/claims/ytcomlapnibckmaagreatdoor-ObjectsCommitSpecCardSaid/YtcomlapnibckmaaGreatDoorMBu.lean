/-
  Terms: tidying keeps a concept valid and adds no names. Terms: what a valid concept and a valid axiom are; tidying keeps axioms valid. Terms: the reference's bare, Empty, fields, CheckAxiom. Terms: tidying keeps an axiom valid and adds no names; the names of valid axioms are names.
  Conditions: none.
-/
import Derived.Test.YtcomlapnibckmaaGreatDoorMBr
import Derived.Test.YtcomlapnibckmaaGreatDoorMAo
import Derived.Test.YtcomlapnibckmaaGreatDoorMBp
set_option linter.unnecessarySimpa false
set_option linter.unusedSectionVars false
set_option linter.unusedSimpArgs false
set_option linter.unusedVariables false
namespace Go.Proofs.YtcomlapnibckmaaGreatDoor
open Go.Proofs
def Okn (c:Cn):Prop:= ∀x∈dM c,cO x=0
def aB1 (t c:Cn):Prop:= ∀k s,k≠1->k≠5->aIb k t s->aIb k c s
structure Keep (c t:Cn):Prop where
 ok:Okn t
 dep:sU t<=sU c
 nam:aB1 t c
 bare:lA t=true->lA c=true
structure Part (c m:Cn):Prop where
 ok:Okn m
 dep:sU m+1<=sU c
 nam:aB1 m c
 bare:lA m=true->lA c=true
theorem Part.keep {c m:Cn}(h:Part c m):Keep c m:=⟨h.ok,by have:=h.dep;omega,h.nam,h.bare⟩
end Go.Proofs.YtcomlapnibckmaaGreatDoor
namespace Go.Proofs.YtcomlapnibckmaaGreatDoor
open Go.Proofs
end Go.Proofs.YtcomlapnibckmaaGreatDoor
namespace Go.Proofs.YtcomlapnibckmaaGreatDoor
open Go.Proofs
set_option maxRecDepth 10000
attribute [local irreducible] aL aG Tri aD YVC cP bB
end Go.Proofs.YtcomlapnibckmaaGreatDoor
namespace Go.Proofs.YtcomlapnibckmaaGreatDoor
open Go.Proofs
end Go.Proofs.YtcomlapnibckmaaGreatDoor
