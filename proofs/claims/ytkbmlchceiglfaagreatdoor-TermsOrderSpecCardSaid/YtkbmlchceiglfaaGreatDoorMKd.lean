/-
  TermsOrderSpec: for every input the call returns true, and what was handed in reads as it did.
  Conditions: the package-level variables hold what the program's text lays.
-/
import Derived.Test.YtkbmlchceiglfaaGreatDoorCards
import Derived.Test.YtkbmlchceiglfaaGreatDoorTie
import Derived.Test.YtkbmlchceiglfaaGreatDoorMBp
import Derived.Test.YtkbmlchceiglfaaGreatDoorMDk
import Derived.ProofKit
import Derived.LaidMore
import Derived.OpenShut
import Derived.Stop.Joined
import Derived.SevenTiedAt
namespace Go.Proofs.YtkbmlchceiglfaaGreatDoor
set_option linter.unnecessarySimpa false
set_option linter.unusedSectionVars false
set_option linter.unusedSimpArgs false
set_option linter.unusedVariables false
open Go.ChangeShapes Go.WideShapes Go.ChangeAt Go.RowKit

theorem termsOrderSpec_own : ownKnob Tryz.prog.godebug = none := by kernel_rfl
theorem termsOrderSpec_params : Tryz.f3.params = #[24, 24, 25] := by kernel_rfl
theorem termsOrderSpec_results : Tryz.f3.resultTypes = #[4] := by kernel_rfl

theorem termsOrderSpec_door (os : Os) (args : Array Value) : laidMetH Tryz.prog laidL ((World.doorLaid Tryz.prog 400 os).forCall (fun _ _ => 0) ⟨#[], args, []⟩).memory :=
  laidMetH_of_parts3 (fuel := 8) (laidMet_of_run' 8 (by kernel_rfl) (by kernel_rfl)) (by kernel_rfl) (by kernel_rfl)

def termsOrderSpec_zero : Array Value := #[.agg #[.int .i64 0, .string ⟨#[]⟩, .int .i64 0, .int .i64 0, .slice none 0 0], .agg #[.int .i64 0, .string ⟨#[]⟩, .int .i64 0, .int .i64 0, .slice none 0 0], .slice none 0 0]

set_option maxRecDepth 100000 in
theorem termsOrderSpec_lifted (os : Os) (started : os.Started) (H : Type) (enc : TypeId × Value → H) :
    ReturnsInHanded {} Tryz.checked os 3 .any (fun w args => (Rows.termsOrderSpecSpec.pre enc Tryz.prog Tryz.f3 [] false w args ∧ laidMetH Tryz.prog laidL w) ∧ sizedMet enc Tryz.prog Tryz.f3 (OpenSpec.ofChange Rows.termsOrderSpecSpec) false w args)
      (Rows.termsOrderSpecSpec.post enc Tryz.prog Tryz.f3 false true false false) := by
  refine returnsInHanded_of_change_and (C := Tryz.checked) (X := fun w _ => laidMetH Tryz.prog laidL w) (fun _ _ _ hh h => h.of_heap hh) termsOrderSpec_own started (by kernel_rfl) Tryz.func3
    (ChangeSpec.witness_shaped (enc := enc) (C := Tryz.checked) (os := os) (X := fun w _ => laidMetH Tryz.prog laidL w) false (World.doorLaid Tryz.prog 400 os) termsOrderSpec_zero 8 rfl (World.shaped_of_RefB (by kernel_rfl) (by kernel_rfl)) (by kernel_rfl) (by kernel_rfl) (by kernel_rfl) (termsOrderSpec_door os _)) ?_
  intro W base args ds gs before hval hW _ hz hL _
  refine law_contract (P := Tryz.prog) (hp := NG) cl laid termsOrderSpec_results u4 ?_ ?_ rfl ?_ ?_ W base args ds gs before hval hW hz (ng_of_laid hL)
  · intro t ht
    rw [termsOrderSpec_params] at ht
    simp at ht
    rcases ht with rfl | rfl
    all_goals exact of_decide_eq_true (by kernel_rfl)
  · intro t ht
    rw [termsOrderSpec_params] at ht
    simp at ht
    rcases ht with rfl | rfl
    all_goals exact ⟨by kernel_rfl, of_decide_eq_true (by kernel_rfl)⟩
  · intro ds hl
    rw [termsOrderSpec_params] at hl
    match ds, hl with
    | [d0, d1, d2], _ => rfl
  · intro xs ha
    rw [termsOrderSpec_params] at ha
    cases ha with
    | cons h0 ha0 =>
      cases ha0 with
      | cons h1 ha1 =>
        cases ha1 with
        | cons h2 ha2 =>
          cases ha2 with
          | nil =>
            obtain ⟨x0, e0⟩ := arg_con h0
            obtain ⟨x1, e1⟩ := arg_con h1
            obtain ⟨x2, e2, _, s2⟩ := arg_axs h2
            rw [e0, e1, e2]
            exact orderSpec_spec x0 x1 x2 s2

theorem termsOrderSpec_over : Rows.TermsOrderSpecSaid :=
  OpenClaim.holds_of_wide 3 Tryz.f3 rfl rfl rfl rfl rfl rfl rfl ⟨rfl, rfl, rfl, rfl, rfl⟩ rfl rfl rfl rfl rfl (by kernel_rfl) Tryz.func3 (by kernel_rfl)
    (of_decide_eq_true (by kernel_rfl)) (by unfold Func.isWrapper; first | (rw [if_pos (by decide +kernel)]; kernel_rfl) | (rw [if_neg (by decide +kernel)]; exact ⟨rfl, rfl⟩))
    (fun os started H enc _ => termsOrderSpec_lifted os started H enc)

theorem termsOrderSpec_holds : Rows.TermsOrderSpecCardSaid :=
  Claim7.holds_tied_plain_at .later [] [.data, .data] true (true, "56164474eba9f9b333c9e5fd75923e4dfd88a5efc677e8031662b69be54cc5c9") false
    termsOrderSpec_over (fun _ h => by cases h) (by kernel_rfl) (fun _ h => by cases h) termsOrderSpec_row_tie rfl ⟨rfl, rfl⟩ (by kernel_rfl) rfl
    (fun f fn hf hfn => by
      obtain rfl : f = 3 := Option.some.inj ((show Tryz.prog.funcNamed "veilstone/veilstonelaw02.TermsOrderSpec" = some 3 by kernel_rfl).symm.trans hf) |>.symm
      obtain rfl : fn = Tryz.f3 := (Option.some.inj (Tryz.func3.symm.trans hfn)).symm
      exact ⟨by kernel_rfl, fun j t ht => by
        rw [termsOrderSpec_params] at ht
        have hm : t ∈ [(24 : Nat), 24, 25] := by simpa using Array.mem_of_getElem? ht
        have hall : ([(24 : Nat), 24, 25].all fun u => !Tryz.prog.wantsStandIn u) = true := by kernel_rfl
        exact (show Tryz.prog.wantsStandIn t = false by simpa using List.all_eq_true.1 hall t hm)⟩)
    (by kernel_rfl)
end Go.Proofs.YtkbmlchceiglfaaGreatDoor
