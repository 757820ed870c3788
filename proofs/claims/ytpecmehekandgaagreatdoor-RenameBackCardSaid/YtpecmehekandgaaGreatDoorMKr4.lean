/-
  RenameBack: for every input the call returns true, and what was handed in reads as it did.
  Conditions: the package-level variables hold what the program's text lays.
-/
import Derived.Test.YtpecmehekandgaaGreatDoorCards
import Derived.Test.YtpecmehekandgaaGreatDoorTie
import Derived.Test.YtpecmehekandgaaGreatDoorMTcr
import Derived.Test.YtpecmehekandgaaGreatDoorMRn4
import Derived.ProofKit
import Derived.LaidMore
import Derived.OpenShut
import Derived.Stop.Joined
import Derived.SevenTiedAt
set_option linter.unnecessarySimpa false
set_option linter.unusedSectionVars false
set_option linter.unusedSimpArgs false
set_option linter.unusedVariables false
namespace Go.Proofs.YtpecmehekandgaaGreatDoor
open Go.ChangeShapes Go.WideShapes Go.ChangeAt Go.RowKit
theorem renameBack_own : ownKnob Tryz.prog.godebug = none := by kernel_rfl
theorem renameBack_params : Tryz.f8.params = #[22, 23] := by kernel_rfl
theorem renameBack_results : Tryz.f8.resultTypes = #[4] := by kernel_rfl
theorem renameBack_door (os : Os) (args : Array Value) : laidMetH Tryz.prog laidL ((World.doorLaid Tryz.prog 400 os).forCall (fun _ _ => 0) ⟨#[], args, []⟩).memory :=
  laidMetH_of_parts3 (fuel := 8) (laidMet_of_run' 8 (by kernel_rfl) (by kernel_rfl)) (by kernel_rfl) (by kernel_rfl)
def renameBack_zero : Array Value := #[.slice none 0 0, .slice none 0 0]
set_option maxRecDepth 100000 in
theorem renameBack_lifted (os : Os) (started : os.Started) (H : Type) (enc : TypeId × Value → H) :
    ReturnsInHanded {} Tryz.checked os 8 .any (fun w args => (Rows.renameBackSpec.pre enc Tryz.prog Tryz.f8 [] false w args ∧ laidMetH Tryz.prog laidL w) ∧ sizedMet enc Tryz.prog Tryz.f8 (OpenSpec.ofChange Rows.renameBackSpec) false w args)
      (Rows.renameBackSpec.post enc Tryz.prog Tryz.f8 false true false false) := by
  refine returnsInHanded_of_change_and (C := Tryz.checked) (X := fun w _ => laidMetH Tryz.prog laidL w) (fun _ _ _ hh h => h.of_heap hh) renameBack_own started (by kernel_rfl) Tryz.func8
    (ChangeSpec.witness_shaped (enc := enc) (C := Tryz.checked) (os := os) (X := fun w _ => laidMetH Tryz.prog laidL w) false (World.doorLaid Tryz.prog 400 os) renameBack_zero 8 rfl (World.shaped_of_RefB (by kernel_rfl) (by kernel_rfl)) (by kernel_rfl) (by kernel_rfl) (by kernel_rfl) (renameBack_door os _)) ?_
  intro W base args ds gs before hval hW _ hz hL _
  refine law_contract (P := Tryz.prog) (hp := NG) clR laid renameBack_results u4 ?_ ?_ rfl ?_ ?_ W base args ds gs before hval hW hz (ng_of_laid hL)
  · intro t ht
    rw [renameBack_params] at ht
    simp at ht
    rcases ht with rfl | rfl
    all_goals exact of_decide_eq_true (by kernel_rfl)
  · intro t ht
    rw [renameBack_params] at ht
    simp at ht
    rcases ht with rfl | rfl
    all_goals exact ⟨by kernel_rfl, of_decide_eq_true (by kernel_rfl)⟩
  · intro ds hl
    rw [renameBack_params] at hl
    match ds, hl with
    | [d0, d1], _ => rfl
  · intro xs ha
    rw [renameBack_params] at ha
    cases ha with
    | cons h0 ha0 =>
      cases ha0 with
      | cons h1 ha1 =>
        cases ha1 with
        | nil =>
          obtain ⟨x0, e0, _⟩ := arg_rens h0
          obtain ⟨x1, e1, _, s1⟩ := arg_axs h1
          rw [e0, e1]
          exact back_spec x0 x1
theorem renameBack_over : Rows.RenameBackSaid :=
  OpenClaim.holds_of_wide 8 Tryz.f8 rfl rfl rfl rfl rfl rfl rfl ⟨rfl, rfl, rfl, rfl, rfl⟩ rfl rfl rfl rfl rfl (by kernel_rfl) Tryz.func8 (by kernel_rfl)
    (of_decide_eq_true (by kernel_rfl)) (by unfold Func.isWrapper; first | (rw [if_pos (by decide +kernel)]; kernel_rfl) | (rw [if_neg (by decide +kernel)]; exact ⟨rfl, rfl⟩))
    (fun os started H enc _ => renameBack_lifted os started H enc)
theorem renameBack_holds : Rows.RenameBackCardSaid :=
  Claim7.holds_tied_plain_at .later [] [.data, .data] true (true, "191a2a3fa40899289dcd45a1805f4beb8e4665bcbd255c0a4fb41bf569982bc9") false
    renameBack_over (fun _ h => by cases h) (by kernel_rfl) (fun _ h => by cases h) renameBack_row_tie rfl ⟨rfl, rfl⟩ (by kernel_rfl) rfl
    (fun f fn hf hfn => by
      obtain rfl : f = 8 := Option.some.inj ((show Tryz.prog.funcNamed "veilstone/veilstonelaw33.RenameBack" = some 8 by kernel_rfl).symm.trans hf) |>.symm
      obtain rfl : fn = Tryz.f8 := (Option.some.inj (Tryz.func8.symm.trans hfn)).symm
      exact ⟨by kernel_rfl, fun j t ht => by
        rw [renameBack_params] at ht
        have hm : t ∈ [(22 : Nat), 23] := by simpa using Array.mem_of_getElem? ht
        have hall : ([(22 : Nat), 23].all fun u => !Tryz.prog.wantsStandIn u) = true := by kernel_rfl
        exact (show Tryz.prog.wantsStandIn t = false by simpa using List.all_eq_true.1 hall t hm)⟩)
    (by kernel_rfl)
end Go.Proofs.YtpecmehekandgaaGreatDoor
