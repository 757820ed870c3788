/-
  BaseKeeps: for every input the call returns true, and what was handed in reads as it did.
  Conditions: the package-level variables hold what the program's text lays.
-/
import Derived.Test.YtnemengadjimcaaGreatDoorCards
import Derived.Test.YtnemengadjimcaaGreatDoorTie
import Derived.Test.YtnemengadjimcaaGreatDoorMTcq
import Derived.Test.YtnemengadjimcaaGreatDoorMQy
import Derived.ProofKit
import Derived.LaidMore
import Derived.OpenShut
import Derived.Stop.Joined
import Derived.SevenTiedAt
set_option linter.unnecessarySimpa false
set_option linter.unusedSectionVars false
set_option linter.unusedSimpArgs false
set_option linter.unusedVariables false
namespace Go.Proofs.YtnemengadjimcaaGreatDoor
open Go.ChangeShapes Go.WideShapes Go.ChangeAt Go.RowKit
theorem baseKeeps_own : ownKnob Tryz.prog.godebug = none := by kernel_rfl
theorem baseKeeps_params : Tryz.f8.params = #[38, 61] := by kernel_rfl
theorem baseKeeps_results : Tryz.f8.resultTypes = #[4] := by kernel_rfl
theorem baseKeeps_door (os : Os) (args : Array Value) : laidMetH Tryz.prog laidL ((World.doorLaid Tryz.prog 400 os).forCall (fun _ _ => 0) ⟨#[], args, []⟩).memory :=
 laidMetH_of_parts3 (fuel := 8) (laidMet_of_run' 8 (by kernel_rfl) (by kernel_rfl)) (by kernel_rfl) (by kernel_rfl)
def baseKeeps_zero : Array Value := #[.agg #[.slice none 0 0], .int .u16 0]
set_option maxRecDepth 100000 in
theorem baseKeeps_lifted (os : Os) (started : os.Started) (H : Type) (enc : TypeId × Value → H) :
  ReturnsInHanded {} Tryz.checked os 8 .any (fun w args => (Rows.baseKeepsSpec.pre enc Tryz.prog Tryz.f8 [] false w args ∧ laidMetH Tryz.prog laidL w) ∧ sizedMet enc Tryz.prog Tryz.f8 (OpenSpec.ofChange Rows.baseKeepsSpec) false w args)
   (Rows.baseKeepsSpec.post enc Tryz.prog Tryz.f8 false true false false) := by
 refine returnsInHanded_of_change_and (C := Tryz.checked) (X := fun w _ => laidMetH Tryz.prog laidL w) (fun _ _ _ hh h => h.of_heap hh) baseKeeps_own started (by kernel_rfl) Tryz.func8
  (ChangeSpec.witness_shaped (enc := enc) (C := Tryz.checked) (os := os) (X := fun w _ => laidMetH Tryz.prog laidL w) false (World.doorLaid Tryz.prog 400 os) baseKeeps_zero 8 rfl (World.shaped_of_RefB (by kernel_rfl) (by kernel_rfl)) (by kernel_rfl) (by kernel_rfl) (by kernel_rfl) (baseKeeps_door os _)) ?_
 intro W base args ds gs before hval hW _ hz hL _
 refine law_contract (P := Tryz.prog) (hp := NG) clQ laid baseKeeps_results u4 ?_ ?_ rfl ?_ ?_ W base args ds gs before hval hW hz (ng_of_laid hL)
 ·intro t ht
  rw [baseKeeps_params] at ht
  simp at ht
  rcases ht with rfl | rfl
  all_goals exact of_decide_eq_true (by kernel_rfl)
 ·intro t ht
  rw [baseKeeps_params] at ht
  simp at ht
  rcases ht with rfl | rfl
  all_goals exact ⟨by kernel_rfl, of_decide_eq_true (by kernel_rfl)⟩
 ·intro ds hl
  rw [baseKeeps_params] at hl
  match ds, hl with
  | [d0, d1], _ => rfl
 ·intro xs ha
  rw [baseKeeps_params] at ha
  cases ha with
  | cons h0 ha0 =>
   cases ha0 with
   | cons h1 ha1 =>
    cases ha1 with
    | nil =>
     obtain ⟨x0, e0, s0⟩ := arg_base h0
     obtain ⟨z1, e1, p1, q1⟩ := arg_u16 h1
     rw [e0, e1]
     exact keeps_spec x0 z1 s0 p1 q1
theorem baseKeeps_over : Rows.BaseKeepsSaid :=
 OpenClaim.holds_of_wide 8 Tryz.f8 rfl rfl rfl rfl rfl rfl rfl ⟨rfl, rfl, rfl, rfl, rfl⟩ rfl rfl rfl rfl rfl (by kernel_rfl) Tryz.func8 (by kernel_rfl)
  (of_decide_eq_true (by kernel_rfl)) (by unfold Func.isWrapper; first | (rw [if_pos (by decide +kernel)]; kernel_rfl) | (rw [if_neg (by decide +kernel)]; exact ⟨rfl, rfl⟩))
  (fun os started H enc _ => baseKeeps_lifted os started H enc)
theorem baseKeeps_holds : Rows.BaseKeepsCardSaid :=
 Claim7.holds_tied_plain_at .later [] [.data, .data] true (true, "15d6b3d3392d7e78e8aa1b065d271c2947c2ee0efa3c59e510c4aef5ad328973") false
  baseKeeps_over (fun _ h => by cases h) (by kernel_rfl) (fun _ h => by cases h) baseKeeps_row_tie rfl ⟨rfl, rfl⟩ (by kernel_rfl) rfl
  (fun f fn hf hfn => by
   obtain rfl : f = 8 := Option.some.inj ((show Tryz.prog.funcNamed "veilstone/veilstonelaw07.BaseKeeps" = some 8 by kernel_rfl).symm.trans hf) |>.symm
   obtain rfl : fn = Tryz.f8 := (Option.some.inj (Tryz.func8.symm.trans hfn)).symm
   exact ⟨by kernel_rfl, fun j t ht => by
    rw [baseKeeps_params] at ht
    have hm : t ∈ [(38 : Nat), 61] := by simpa using Array.mem_of_getElem? ht
    have hall : ([(38 : Nat), 61].all fun u => !Tryz.prog.wantsStandIn u) = true := by kernel_rfl
    exact (show Tryz.prog.wantsStandIn t = false by simpa using List.all_eq_true.1 hall t hm)⟩)
  (by kernel_rfl)
end Go.Proofs.YtnemengadjimcaaGreatDoor
