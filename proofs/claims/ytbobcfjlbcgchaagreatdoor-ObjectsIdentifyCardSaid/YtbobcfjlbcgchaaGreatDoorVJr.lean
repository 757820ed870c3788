/-
  Layer 6, reference: longer. Layer 6, reference: the rounds of the search, plainly. Layer 6, reference: Check.
  Conditions: none.
-/
import Derived.Test.YtbobcfjlbcgchaaGreatDoorVJp
import Derived.Test.YtbobcfjlbcgchaaGreatDoorVDe
set_option linter.unnecessarySimpa false
set_option linter.unusedSectionVars false
set_option linter.unusedSimpArgs false
set_option linter.unusedVariables false
namespace Go.Proofs.YtbobcfjlbcgchaaGreatDoor
open Go.Proofs
set_option maxRecDepth 10000
attribute [local irreducible] aJ aF Tri aG YVC bS aQ
end Go.Proofs.YtbobcfjlbcgchaaGreatDoor
namespace Go.Proofs.YtbobcfjlbcgchaaGreatDoor
open Go.Proofs
def aOh (T:List Stp) (k:Nat) (seen:Pth->Prop):Option (List Str)->Prop
 |none=> ∀p,seen p->aTr T p=false
 |some L=>L.length=k+1/\nR (ET T)
end Go.Proofs.YtbobcfjlbcgchaaGreatDoor
namespace Go.Proofs.YtbobcfjlbcgchaaGreatDoor
open Go.Proofs
set_option maxRecDepth 10000
attribute [local irreducible] aJ aF Tri aG YVC bS aQ
theorem aOh.mono {T:List Stp}{k:Nat}{s s':Pth->Prop}{o:Option (List Str)}(h:aOh T k s o) (hs: ∀p,s' p->s p):aOh T k s' o:=by
 cases o with
 |none=>exact λp hp=>h p (hs p hp)
 |some L=>exact h
end Go.Proofs.YtbobcfjlbcgchaaGreatDoor
