/-
  BaseOrder: for every input the call returns true, and what was handed in reads as it did.
  Conditions: the package-level variables hold what the program's text lays.
-/
import Derived.Test.YtnemengadjimcaaGreatDoorCards
import Derived.Test.YtnemengadjimcaaGreatDoorTie
import Derived.Test.YtnemengadjimcaaGreatDoorMTcq
import Derived.Test.YtnemengadjimcaaGreatDoorMQx
import Derived.ProofKit
import Derived.LaidMore
import Derived.OpenShut
import Derived.Stop.Joined
import Derived.SevenTiedAt
set_option linter.unnecessarySimpa false
set_option linter.unusedSectionVars false
set_option linter.unusedSimpArgs false
set_option linter.unusedVariables false
namespace Go.Proofs.YtnemengadjimcaaGreatDoor
open Go.ChangeShapes Go.WideShapes Go.ChangeAt Go.RowKit
theorem baseOrder_own : ownKnob Tryz.prog.godebug = none := by kernel_rfl
theorem baseOrder_params : Tryz.f6.params = #[23, 55] := by kernel_rfl
theorem baseOrder_results : Tryz.f6.resultTypes = #[4] := by kernel_rfl
theorem baseOrder_door (os : Os) (args : Array Value) : laidMetH Tryz.prog laidL ((World.doorLaid Tryz.prog 400 os).forCall (fun _ _ => 0) ⟨#[], args, []⟩).memory :=
  laidMetH_of_parts3 (fuel := 8) (laidMet_of_run' 8 (by kernel_rfl) (by kernel_rfl)) (by kernel_rfl) (by kernel_rfl)
def baseOrder_zero : Array Value := #[.slice none 0 0, .agg #[.int .i64 0, .int .i64 0]]
set_option maxRecDepth 100000 in
theorem baseOrder_lifted (os : Os) (started : os.Started) (H : Type) (enc : TypeId × Value → H) :
    ReturnsInHanded {} Tryz.checked os 6 .any (fun w args => (Rows.baseOrderSpec.pre enc Tryz.prog Tryz.f6 [] false w args ∧ laidMetH Tryz.prog laidL w) ∧ sizedMet enc Tryz.prog Tryz.f6 (OpenSpec.ofChange Rows.baseOrderSpec) false w args)
      (Rows.baseOrderSpec.post enc Tryz.prog Tryz.f6 false true false false) := by
  refine returnsInHanded_of_change_and (C := Tryz.checked) (X := fun w _ => laidMetH Tryz.prog laidL w) (fun _ _ _ hh h => h.of_heap hh) baseOrder_own started (by kernel_rfl) Tryz.func6
    (ChangeSpec.witness_shaped (enc := enc) (C := Tryz.checked) (os := os) (X := fun w _ => laidMetH Tryz.prog laidL w) false (World.doorLaid Tryz.prog 400 os) baseOrder_zero 8 rfl (World.shaped_of_RefB (by kernel_rfl) (by kernel_rfl)) (by kernel_rfl) (by kernel_rfl) (by kernel_rfl) (baseOrder_door os _)) ?_
  intro W base args ds gs before hval hW _ hz hL _
  refine law_contract (P := Tryz.prog) (hp := NG) clQ laid baseOrder_results u4 ?_ ?_ rfl ?_ ?_ W base args ds gs before hval hW hz (ng_of_laid hL)
  · intro t ht
    rw [baseOrder_params] at ht
    simp at ht
    rcases ht with rfl | rfl
    all_goals exact of_decide_eq_true (by kernel_rfl)
  · intro t ht
    rw [baseOrder_params] at ht
    simp at ht
    rcases ht with rfl | rfl
    all_goals exact ⟨by kernel_rfl, of_decide_eq_true (by kernel_rfl)⟩
  · intro ds hl
    rw [baseOrder_params] at hl
    match ds, hl with
    | [d0, d1], _ => rfl
  · intro xs ha
    rw [baseOrder_params] at ha
    cases ha with
    | cons h0 ha0 =>
      cases ha0 with
      | cons h1 ha1 =>
        cases ha1 with
        | nil =>
          obtain ⟨x0, e0, _, s0⟩ := arg_axs h0
          obtain ⟨x1, y1, e1⟩ := arg_int2 h1
          rw [e0, e1]
          exact order_spec' x0 x1 y1 s0
theorem baseOrder_over : Rows.BaseOrderSaid :=
  OpenClaim.holds_of_wide 6 Tryz.f6 rfl rfl rfl rfl rfl rfl rfl ⟨rfl, rfl, rfl, rfl, rfl⟩ rfl rfl rfl rfl rfl (by kernel_rfl) Tryz.func6 (by kernel_rfl)
    (of_decide_eq_true (by kernel_rfl)) (by unfold Func.isWrapper; first | (rw [if_pos (by decide +kernel)]; kernel_rfl) | (rw [if_neg (by decide +kernel)]; exact ⟨rfl, rfl⟩))
    (fun os started H enc _ => baseOrder_lifted os started H enc)
theorem baseOrder_holds : Rows.BaseOrderCardSaid :=
  Claim7.holds_tied_plain_at .later [] [.data, .data] true (true, "15d6b3d3392d7e78e8aa1b065d271c2947c2ee0efa3c59e510c4aef5ad328973") false
    baseOrder_over (fun _ h => by cases h) (by kernel_rfl) (fun _ h => by cases h) baseOrder_row_tie rfl ⟨rfl, rfl⟩ (by kernel_rfl) rfl
    (fun f fn hf hfn => by
      obtain rfl : f = 6 := Option.some.inj ((show Tryz.prog.funcNamed "veilstone/veilstonelaw07.BaseOrder" = some 6 by kernel_rfl).symm.trans hf) |>.symm
      obtain rfl : fn = Tryz.f6 := (Option.some.inj (Tryz.func6.symm.trans hfn)).symm
      exact ⟨by kernel_rfl, fun j t ht => by
        rw [baseOrder_params] at ht
        have hm : t ∈ [(23 : Nat), 55] := by simpa using Array.mem_of_getElem? ht
        have hall : ([(23 : Nat), 55].all fun u => !Tryz.prog.wantsStandIn u) = true := by kernel_rfl
        exact (show Tryz.prog.wantsStandIn t = false by simpa using List.all_eq_true.1 hall t hm)⟩)
    (by kernel_rfl)
end Go.Proofs.YtnemengadjimcaaGreatDoor
