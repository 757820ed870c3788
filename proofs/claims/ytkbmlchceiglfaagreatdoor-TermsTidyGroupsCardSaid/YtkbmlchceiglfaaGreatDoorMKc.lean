/-
  TermsTidyGroups: for every input the call returns true, and what was handed in reads as it did.
  Conditions: the package-level variables hold what the program's text lays.
-/
import Derived.Test.YtkbmlchceiglfaaGreatDoorCards
import Derived.Test.YtkbmlchceiglfaaGreatDoorTie
import Derived.Test.YtkbmlchceiglfaaGreatDoorMBp
import Derived.Test.YtkbmlchceiglfaaGreatDoorMBb
import Derived.ProofKit
import Derived.LaidMore
import Derived.OpenShut
import Derived.Stop.Joined
import Derived.SevenTiedAt
namespace Go.Proofs.YtkbmlchceiglfaaGreatDoor
set_option linter.unnecessarySimpa false
set_option linter.unusedSectionVars false
set_option linter.unusedSimpArgs false
set_option linter.unusedVariables false
open Go.ChangeShapes Go.WideShapes Go.ChangeAt Go.RowKit

theorem termsTidyGroups_own : ownKnob Tryz.prog.godebug = none := by kernel_rfl
theorem termsTidyGroups_params : Tryz.f4.params = #[22, 41, 3] := by kernel_rfl
theorem termsTidyGroups_results : Tryz.f4.resultTypes = #[4] := by kernel_rfl

theorem termsTidyGroups_door (os : Os) (args : Array Value) : laidMetH Tryz.prog laidL ((World.doorLaid Tryz.prog 400 os).forCall (fun _ _ => 0) ⟨#[], args, []⟩).memory :=
  laidMetH_of_parts3 (fuel := 8) (laidMet_of_run' 8 (by kernel_rfl) (by kernel_rfl)) (by kernel_rfl) (by kernel_rfl)

def termsTidyGroups_zero : Array Value := #[.slice none 0 0, .int .u64 0, .int .i64 0]

set_option maxRecDepth 100000 in
theorem termsTidyGroups_lifted (os : Os) (started : os.Started) (H : Type) (enc : TypeId × Value → H) :
    ReturnsInHanded {} Tryz.checked os 4 .any (fun w args => (Rows.termsTidyGroupsSpec.pre enc Tryz.prog Tryz.f4 [] false w args ∧ laidMetH Tryz.prog laidL w) ∧ sizedMet enc Tryz.prog Tryz.f4 (OpenSpec.ofChange Rows.termsTidyGroupsSpec) false w args)
      (Rows.termsTidyGroupsSpec.post enc Tryz.prog Tryz.f4 false true false false) := by
  refine returnsInHanded_of_change_and (C := Tryz.checked) (X := fun w _ => laidMetH Tryz.prog laidL w) (fun _ _ _ hh h => h.of_heap hh) termsTidyGroups_own started (by kernel_rfl) Tryz.func4
    (ChangeSpec.witness_shaped (enc := enc) (C := Tryz.checked) (os := os) (X := fun w _ => laidMetH Tryz.prog laidL w) false (World.doorLaid Tryz.prog 400 os) termsTidyGroups_zero 8 rfl (World.shaped_of_RefB (by kernel_rfl) (by kernel_rfl)) (by kernel_rfl) (by kernel_rfl) (by kernel_rfl) (termsTidyGroups_door os _)) ?_
  intro W base args ds gs before hval hW _ hz hL _
  refine law_contract (P := Tryz.prog) (hp := NG) clU laid termsTidyGroups_results u4 ?_ ?_ rfl ?_ ?_ W base args ds gs before hval hW hz (ng_of_laid hL)
  · intro t ht
    rw [termsTidyGroups_params] at ht
    simp at ht
    rcases ht with rfl | rfl | rfl
    all_goals exact of_decide_eq_true (by kernel_rfl)
  · intro t ht
    rw [termsTidyGroups_params] at ht
    simp at ht
    rcases ht with rfl | rfl | rfl
    all_goals exact ⟨by kernel_rfl, of_decide_eq_true (by kernel_rfl)⟩
  · intro ds hl
    rw [termsTidyGroups_params] at hl
    match ds, hl with
    | [d0, d1, d2], _ => rfl
  · intro xs ha
    rw [termsTidyGroups_params] at ha
    cases ha with
    | cons h0 ha0 =>
      cases ha0 with
      | cons h1 ha1 =>
        cases ha1 with
        | cons h2 ha2 =>
          cases ha2 with
          | nil =>
            obtain ⟨x0, e0⟩ := arg_cons h0
            obtain ⟨x1, e1, s1⟩ := arg_uint h1
            obtain ⟨x2, e2, _⟩ := arg_int h2
            rw [e0, e1, e2]
            exact tidyGroups_spec x0 x1 x2 s1

theorem termsTidyGroups_over : Rows.TermsTidyGroupsSaid :=
  OpenClaim.holds_of_wide 4 Tryz.f4 rfl rfl rfl rfl rfl rfl rfl ⟨rfl, rfl, rfl, rfl, rfl⟩ rfl rfl rfl rfl rfl (by kernel_rfl) Tryz.func4 (by kernel_rfl)
    (of_decide_eq_true (by kernel_rfl)) (by unfold Func.isWrapper; first | (rw [if_pos (by decide +kernel)]; kernel_rfl) | (rw [if_neg (by decide +kernel)]; exact ⟨rfl, rfl⟩))
    (fun os started H enc _ => termsTidyGroups_lifted os started H enc)

theorem termsTidyGroups_holds : Rows.TermsTidyGroupsCardSaid :=
  Claim7.holds_tied_plain_at .later [] [.data, .data] true (true, "56164474eba9f9b333c9e5fd75923e4dfd88a5efc677e8031662b69be54cc5c9") false
    termsTidyGroups_over (fun _ h => by cases h) (by kernel_rfl) (fun _ h => by cases h) termsTidyGroups_row_tie rfl ⟨rfl, rfl⟩ (by kernel_rfl) rfl
    (fun f fn hf hfn => by
      obtain rfl : f = 4 := Option.some.inj ((show Tryz.prog.funcNamed "veilstone/veilstonelaw02.TermsTidyGroups" = some 4 by kernel_rfl).symm.trans hf) |>.symm
      obtain rfl : fn = Tryz.f4 := (Option.some.inj (Tryz.func4.symm.trans hfn)).symm
      exact ⟨by kernel_rfl, fun j t ht => by
        rw [termsTidyGroups_params] at ht
        have hm : t ∈ [(22 : Nat), 41, 3] := by simpa using Array.mem_of_getElem? ht
        have hall : ([(22 : Nat), 41, 3].all fun u => !Tryz.prog.wantsStandIn u) = true := by kernel_rfl
        exact (show Tryz.prog.wantsStandIn t = false by simpa using List.all_eq_true.1 hall t hm)⟩)
    (by kernel_rfl)
end Go.Proofs.YtkbmlchceiglfaaGreatDoor
