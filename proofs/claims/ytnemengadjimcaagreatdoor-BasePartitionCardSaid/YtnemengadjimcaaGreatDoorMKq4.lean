/-
  BasePartition: for every input the call returns true, and what was handed in reads as it did.
  Conditions: the package-level variables hold what the program's text lays.
-/
import Derived.Test.YtnemengadjimcaaGreatDoorCards
import Derived.Test.YtnemengadjimcaaGreatDoorTie
import Derived.Test.YtnemengadjimcaaGreatDoorMTcq
import Derived.Test.YtnemengadjimcaaGreatDoorMQzc
import Derived.ProofKit
import Derived.LaidMore
import Derived.OpenShut
import Derived.Stop.Joined
import Derived.SevenTiedAt
set_option linter.unnecessarySimpa false
set_option linter.unusedSectionVars false
set_option linter.unusedSimpArgs false
set_option linter.unusedVariables false
namespace Go.Proofs.YtnemengadjimcaaGreatDoor
open Go.ChangeShapes Go.WideShapes Go.ChangeAt Go.RowKit
theorem basePartition_own : ownKnob Tryz.prog.godebug = none := by kernel_rfl
theorem basePartition_params : Tryz.f10.params = #[38, 38] := by kernel_rfl
theorem basePartition_results : Tryz.f10.resultTypes = #[4] := by kernel_rfl
theorem basePartition_door (os : Os) (args : Array Value) : laidMetH Tryz.prog laidL ((World.doorLaid Tryz.prog 400 os).forCall (fun _ _ => 0) ⟨#[], args, []⟩).memory :=
 laidMetH_of_parts3 (fuel := 8) (laidMet_of_run' 8 (by kernel_rfl) (by kernel_rfl)) (by kernel_rfl) (by kernel_rfl)
def basePartition_zero : Array Value := #[.agg #[.slice none 0 0], .agg #[.slice none 0 0]]
set_option maxRecDepth 100000 in
theorem basePartition_lifted (os : Os) (started : os.Started) (H : Type) (enc : TypeId × Value → H) :
  ReturnsInHanded {} Tryz.checked os 10 .any (fun w args => (Rows.basePartitionSpec.pre enc Tryz.prog Tryz.f10 [] false w args ∧ laidMetH Tryz.prog laidL w) ∧ sizedMet enc Tryz.prog Tryz.f10 (OpenSpec.ofChange Rows.basePartitionSpec) false w args)
   (Rows.basePartitionSpec.post enc Tryz.prog Tryz.f10 false true false false) := by
 refine returnsInHanded_of_change_and (C := Tryz.checked) (X := fun w _ => laidMetH Tryz.prog laidL w) (fun _ _ _ hh h => h.of_heap hh) basePartition_own started (by kernel_rfl) Tryz.func10
  (ChangeSpec.witness_shaped (enc := enc) (C := Tryz.checked) (os := os) (X := fun w _ => laidMetH Tryz.prog laidL w) false (World.doorLaid Tryz.prog 400 os) basePartition_zero 8 rfl (World.shaped_of_RefB (by kernel_rfl) (by kernel_rfl)) (by kernel_rfl) (by kernel_rfl) (by kernel_rfl) (basePartition_door os _)) ?_
 intro W base args ds gs before hval hW _ hz hL _
 refine law_contract (P := Tryz.prog) (hp := NG) clQ laid basePartition_results u4 ?_ ?_ rfl ?_ ?_ W base args ds gs before hval hW hz (ng_of_laid hL)
 ·intro t ht
  rw [basePartition_params] at ht
  simp at ht
  subst ht
  exact of_decide_eq_true (by kernel_rfl)
 ·intro t ht
  rw [basePartition_params] at ht
  simp at ht
  subst ht
  exact ⟨by kernel_rfl, of_decide_eq_true (by kernel_rfl)⟩
 ·intro ds hl
  rw [basePartition_params] at hl
  match ds, hl with
  | [d0, d1], _ => rfl
 ·intro xs ha
  rw [basePartition_params] at ha
  cases ha with
  | cons h0 ha0 =>
   cases ha0 with
   | cons h1 ha1 =>
    cases ha1 with
    | nil =>
     obtain ⟨x0, e0, s0⟩ := arg_base h0
     obtain ⟨x1, e1, s1⟩ := arg_base h1
     rw [e0, e1]
     exact partition_spec x0 x1 s0 s1
theorem basePartition_over : Rows.BasePartitionSaid :=
 OpenClaim.holds_of_wide 10 Tryz.f10 rfl rfl rfl rfl rfl rfl rfl ⟨rfl, rfl, rfl, rfl, rfl⟩ rfl rfl rfl rfl rfl (by kernel_rfl) Tryz.func10 (by kernel_rfl)
  (of_decide_eq_true (by kernel_rfl)) (by unfold Func.isWrapper; first | (rw [if_pos (by decide +kernel)]; kernel_rfl) | (rw [if_neg (by decide +kernel)]; exact ⟨rfl, rfl⟩))
  (fun os started H enc _ => basePartition_lifted os started H enc)
theorem basePartition_holds : Rows.BasePartitionCardSaid :=
 Claim7.holds_tied_plain_at .later [] [.data, .data] true (true, "15d6b3d3392d7e78e8aa1b065d271c2947c2ee0efa3c59e510c4aef5ad328973") false
  basePartition_over (fun _ h => by cases h) (by kernel_rfl) (fun _ h => by cases h) basePartition_row_tie rfl ⟨rfl, rfl⟩ (by kernel_rfl) rfl
  (fun f fn hf hfn => by
   obtain rfl : f = 10 := Option.some.inj ((show Tryz.prog.funcNamed "veilstone/veilstonelaw07.BasePartition" = some 10 by kernel_rfl).symm.trans hf) |>.symm
   obtain rfl : fn = Tryz.f10 := (Option.some.inj (Tryz.func10.symm.trans hfn)).symm
   exact ⟨by kernel_rfl, fun j t ht => by
    rw [basePartition_params] at ht
    have hm : t ∈ [(38 : Nat), 38] := by simpa using Array.mem_of_getElem? ht
    have hall : ([(38 : Nat), 38].all fun u => !Tryz.prog.wantsStandIn u) = true := by kernel_rfl
    exact (show Tryz.prog.wantsStandIn t = false by simpa using List.all_eq_true.1 hall t hm)⟩)
  (by kernel_rfl)
end Go.Proofs.YtnemengadjimcaaGreatDoor
