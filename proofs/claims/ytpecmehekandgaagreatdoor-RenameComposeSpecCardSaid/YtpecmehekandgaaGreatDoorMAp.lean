/-
  The keys of a set of strings, collected and sorted: maps.Keys, slices.AppendSeq, slices.Collect, slices.Sorted.
  Conditions: none.
-/
import Derived.Test.YtpecmehekandgaaGreatDoorMAo
import Derived.Test.YtpecmehekandgaaGreatDoorMA1
import Derived.Test.YtpecmehekandgaaGreatDoorMSna
import Derived.Sort.KeysCollected
set_option linter.unnecessarySimpa false
set_option linter.unusedSectionVars false
set_option linter.unusedSimpArgs false
set_option linter.unusedVariables false
namespace Go.Proofs.YtpecmehekandgaaGreatDoor
open Go.Proofs
set_option maxRecDepth 10000
attribute [local irreducible] SemVC CallVC Tri Stuck YVC GenP GenVC
theorem idsF_nil : idsF [] = [] := rfl
theorem idsF_cons (k : Nat) (s : SV) (r : Fr) : idsF ((k, s) :: r) = s.ids ++ idsF r := rfl
theorem idsH_nil : idsH [] = [] := rfl
theorem idsH_cons (k : Nat) (o : HObj) (r : Hp) : idsH ((k, o) :: r) = (k :: o.ids) ++ idsH r := rfl
theorem ids_ofV (v : Value) : (ofV v).ids = [] := by
  unfold ofV
  split <;> (try split) <;> rfl
end Go.Proofs.YtpecmehekandgaaGreatDoor
