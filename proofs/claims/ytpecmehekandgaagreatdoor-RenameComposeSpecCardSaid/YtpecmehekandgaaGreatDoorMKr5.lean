/-
  RenameComposeSpec: for every input the call returns true, and what was handed in reads as it did.
  Conditions: the package-level variables hold what the program's text lays.
-/
import Derived.Test.YtpecmehekandgaaGreatDoorCards
import Derived.Test.YtpecmehekandgaaGreatDoorTie
import Derived.Test.YtpecmehekandgaaGreatDoorMTcr
import Derived.Test.YtpecmehekandgaaGreatDoorMRn5
import Derived.ProofKit
import Derived.LaidMore
import Derived.OpenShut
import Derived.Stop.Joined
import Derived.SevenTiedAt
set_option linter.unnecessarySimpa false
set_option linter.unusedSectionVars false
set_option linter.unusedSimpArgs false
set_option linter.unusedVariables false
namespace Go.Proofs.YtpecmehekandgaaGreatDoor
open Go.ChangeShapes Go.WideShapes Go.ChangeAt Go.RowKit
theorem renameComposeSpec_own : ownKnob Tryz.prog.godebug = none := by kernel_rfl
theorem renameComposeSpec_params : Tryz.f6.params = #[22, 22] := by kernel_rfl
theorem renameComposeSpec_results : Tryz.f6.resultTypes = #[4] := by kernel_rfl
theorem renameComposeSpec_door (os : Os) (args : Array Value) : laidMetH Tryz.prog laidL ((World.doorLaid Tryz.prog 400 os).forCall (fun _ _ => 0) ⟨#[], args, []⟩).memory :=
  laidMetH_of_parts3 (fuel := 8) (laidMet_of_run' 8 (by kernel_rfl) (by kernel_rfl)) (by kernel_rfl) (by kernel_rfl)
def renameComposeSpec_zero : Array Value := #[.slice none 0 0, .slice none 0 0]
set_option maxRecDepth 100000 in
theorem renameComposeSpec_lifted (os : Os) (started : os.Started) (H : Type) (enc : TypeId × Value → H) :
    ReturnsInHanded {} Tryz.checked os 6 .any (fun w args => (Rows.renameComposeSpecSpec.pre enc Tryz.prog Tryz.f6 [] false w args ∧ laidMetH Tryz.prog laidL w) ∧ sizedMet enc Tryz.prog Tryz.f6 (OpenSpec.ofChange Rows.renameComposeSpecSpec) false w args)
      (Rows.renameComposeSpecSpec.post enc Tryz.prog Tryz.f6 false true false false) := by
  refine returnsInHanded_of_change_and (C := Tryz.checked) (X := fun w _ => laidMetH Tryz.prog laidL w) (fun _ _ _ hh h => h.of_heap hh) renameComposeSpec_own started (by kernel_rfl) Tryz.func6
    (ChangeSpec.witness_shaped (enc := enc) (C := Tryz.checked) (os := os) (X := fun w _ => laidMetH Tryz.prog laidL w) false (World.doorLaid Tryz.prog 400 os) renameComposeSpec_zero 8 rfl (World.shaped_of_RefB (by kernel_rfl) (by kernel_rfl)) (by kernel_rfl) (by kernel_rfl) (by kernel_rfl) (renameComposeSpec_door os _)) ?_
  intro W base args ds gs before hval hW _ hz hL _
  refine law_contract (P := Tryz.prog) (hp := NG) clR laid renameComposeSpec_results u4 ?_ ?_ rfl ?_ ?_ W base args ds gs before hval hW hz (ng_of_laid hL)
  · intro t ht
    rw [renameComposeSpec_params] at ht
    simp at ht
    subst ht
    exact of_decide_eq_true (by kernel_rfl)
  · intro t ht
    rw [renameComposeSpec_params] at ht
    simp at ht
    subst ht
    exact ⟨by kernel_rfl, of_decide_eq_true (by kernel_rfl)⟩
  · intro ds hl
    rw [renameComposeSpec_params] at hl
    match ds, hl with
    | [d0, d1], _ => rfl
  · intro xs ha
    rw [renameComposeSpec_params] at ha
    cases ha with
    | cons h0 ha0 =>
      cases ha0 with
      | cons h1 ha1 =>
        cases ha1 with
        | nil =>
          obtain ⟨x0, e0, _⟩ := arg_rens h0
          obtain ⟨x1, e1, _⟩ := arg_rens h1
          rw [e0, e1]
          exact composeSpec_spec x0 x1
theorem renameComposeSpec_over : Rows.RenameComposeSpecSaid :=
  OpenClaim.holds_of_wide 6 Tryz.f6 rfl rfl rfl rfl rfl rfl rfl ⟨rfl, rfl, rfl, rfl, rfl⟩ rfl rfl rfl rfl rfl (by kernel_rfl) Tryz.func6 (by kernel_rfl)
    (of_decide_eq_true (by kernel_rfl)) (by unfold Func.isWrapper; first | (rw [if_pos (by decide +kernel)]; kernel_rfl) | (rw [if_neg (by decide +kernel)]; exact ⟨rfl, rfl⟩))
    (fun os started H enc _ => renameComposeSpec_lifted os started H enc)
theorem renameComposeSpec_holds : Rows.RenameComposeSpecCardSaid :=
  Claim7.holds_tied_plain_at .later [] [.data, .data] true (true, "191a2a3fa40899289dcd45a1805f4beb8e4665bcbd255c0a4fb41bf569982bc9") false
    renameComposeSpec_over (fun _ h => by cases h) (by kernel_rfl) (fun _ h => by cases h) renameComposeSpec_row_tie rfl ⟨rfl, rfl⟩ (by kernel_rfl) rfl
    (fun f fn hf hfn => by
      obtain rfl : f = 6 := Option.some.inj ((show Tryz.prog.funcNamed "veilstone/veilstonelaw33.RenameComposeSpec" = some 6 by kernel_rfl).symm.trans hf) |>.symm
      obtain rfl : fn = Tryz.f6 := (Option.some.inj (Tryz.func6.symm.trans hfn)).symm
      exact ⟨by kernel_rfl, fun j t ht => by
        rw [renameComposeSpec_params] at ht
        have hm : t ∈ [(22 : Nat), 22] := by simpa using Array.mem_of_getElem? ht
        have hall : ([(22 : Nat), 22].all fun u => !Tryz.prog.wantsStandIn u) = true := by kernel_rfl
        exact (show Tryz.prog.wantsStandIn t = false by simpa using List.all_eq_true.1 hall t hm)⟩)
    (by kernel_rfl)
end Go.Proofs.YtpecmehekandgaaGreatDoor
