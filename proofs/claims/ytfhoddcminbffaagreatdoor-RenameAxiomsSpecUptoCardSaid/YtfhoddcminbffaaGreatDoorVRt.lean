/-
  Rename: other names in concepts, plainly; tidying and renaming.
  Conditions: none.
-/
import Derived.Test.YtfhoddcminbffaaGreatDoorVSyd
import Derived.Test.YtfhoddcminbffaaGreatDoorVGr
import Derived.Test.YtfhoddcminbffaaGreatDoorVDc
set_option linter.unnecessarySimpa false
set_option linter.unusedSectionVars false
set_option linter.unusedSimpArgs false
set_option linter.unusedVariables false
namespace Go.Proofs.YtfhoddcminbffaaGreatDoor
open Go.Proofs
theorem wZ (g:Int->List UInt8->List UInt8): ∀c:Cn,aQ (cI g c)=aQ c:=by
 refine Cn.ind ?_
 intro c ih
 rw [bY,bY,aC7]
 congr 1
 revert ih
 generalize c.parts=l
 induction l with
 |nil=>intro _;rfl
 |cons x r ihr=>
  intro ih
  rw [List.map_cons,bH,bH,ih x (by simp),ihr λq hq=>ih q (by simp [hq])]
end Go.Proofs.YtfhoddcminbffaaGreatDoor
