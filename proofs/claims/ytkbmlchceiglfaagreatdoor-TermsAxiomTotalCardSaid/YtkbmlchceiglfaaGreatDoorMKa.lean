/-
  TermsAxiomTotal: for every three axioms the call returns true, and what was handed in reads as it did.
  Conditions: the package-level variables hold what the program's text lays.
-/
import Derived.Test.YtkbmlchceiglfaaGreatDoorCards
import Derived.Test.YtkbmlchceiglfaaGreatDoorTie
import Derived.Test.YtkbmlchceiglfaaGreatDoorMBp
import Derived.Test.YtkbmlchceiglfaaGreatDoorMAt
import Derived.ProofKit
import Derived.LaidMore
import Derived.OpenShut
import Derived.Stop.Joined
import Derived.SevenTiedAt
namespace Go.Proofs.YtkbmlchceiglfaaGreatDoor
set_option linter.unnecessarySimpa false
set_option linter.unusedSectionVars false
set_option linter.unusedSimpArgs false
set_option linter.unusedVariables false
open Go.ChangeShapes Go.WideShapes Go.ChangeAt Go.RowKit

theorem termsAxiomTotal_own : ownKnob Tryz.prog.godebug = none := by kernel_rfl
theorem termsAxiomTotal_params : Tryz.f5.params = #[32, 32, 32] := by kernel_rfl
theorem termsAxiomTotal_results : Tryz.f5.resultTypes = #[4] := by kernel_rfl

theorem door_met (os : Os) (args : Array Value) : laidMetH Tryz.prog laidL ((World.doorLaid Tryz.prog 400 os).forCall (fun _ _ => 0) ⟨#[], args, []⟩).memory :=
  laidMetH_of_parts3 (fuel := 8) (laidMet_of_run' 8 (by kernel_rfl) (by kernel_rfl)) (by kernel_rfl) (by kernel_rfl)

def zeroAx : Value := .agg #[.int .i64 0, .bool false, .int .i64 0, .string ⟨#[]⟩, .int .i64 0, .int .i64 0, .slice none 0 0, .int .i64 0, .string ⟨#[]⟩, .int .i64 0, .int .i64 0, .slice none 0 0, .slice none 0 0, .string ⟨#[]⟩, .string ⟨#[]⟩, .string ⟨#[]⟩]

set_option maxRecDepth 100000 in
theorem termsAxiomTotal_lifted (os : Os) (started : os.Started) (H : Type) (enc : TypeId × Value → H) :
    ReturnsInHanded {} Tryz.checked os 5 .any (fun w args => (Rows.termsAxiomTotalSpec.pre enc Tryz.prog Tryz.f5 [] false w args ∧ laidMetH Tryz.prog laidL w) ∧ sizedMet enc Tryz.prog Tryz.f5 (OpenSpec.ofChange Rows.termsAxiomTotalSpec) false w args)
      (Rows.termsAxiomTotalSpec.post enc Tryz.prog Tryz.f5 false true false false) := by
  refine returnsInHanded_of_change_and (C := Tryz.checked) (X := fun w _ => laidMetH Tryz.prog laidL w) (fun _ _ _ hh h => h.of_heap hh) termsAxiomTotal_own started (by kernel_rfl) Tryz.func5
    (ChangeSpec.witness_shaped (enc := enc) (C := Tryz.checked) (os := os) (X := fun w _ => laidMetH Tryz.prog laidL w) false (World.doorLaid Tryz.prog 400 os) #[zeroAx, zeroAx, zeroAx] 8 rfl (World.shaped_of_RefB (by kernel_rfl) (by kernel_rfl)) (by kernel_rfl) (by kernel_rfl) (by kernel_rfl) (door_met os _)) ?_
  intro W base args ds gs before hval hW _ hz hL _
  refine law_contract (P := Tryz.prog) (hp := NG) cl laid termsAxiomTotal_results u4 ?_ ?_ rfl ?_ ?_ W base args ds gs before hval hW hz (ng_of_laid hL)
  · intro t ht
    rw [termsAxiomTotal_params] at ht
    simp at ht
    subst ht
    exact of_decide_eq_true (by kernel_rfl)
  · intro t ht
    rw [termsAxiomTotal_params] at ht
    simp at ht
    subst ht
    exact ⟨by kernel_rfl, of_decide_eq_true (by kernel_rfl)⟩
  · intro ds hl
    rw [termsAxiomTotal_params] at hl
    match ds, hl with
    | [d0, d1, d2], _ => rfl
  · intro xs ha
    rw [termsAxiomTotal_params] at ha
    cases ha with
    | cons h0 ha0 =>
      cases ha0 with
      | cons h1 ha1 =>
        cases ha1 with
        | cons h2 ha2 =>
          cases ha2 with
          | nil =>
            obtain ⟨x0, e0, s0⟩ := arg_ax h0
            obtain ⟨x1, e1, s1⟩ := arg_ax h1
            obtain ⟨x2, e2, s2⟩ := arg_ax h2
            rw [e0, e1, e2]
            exact axiomTotal_spec x0 x1 x2 s0 s1 s2

theorem termsAxiomTotal_over : Rows.TermsAxiomTotalSaid :=
  OpenClaim.holds_of_wide 5 Tryz.f5 rfl rfl rfl rfl rfl rfl rfl ⟨rfl, rfl, rfl, rfl, rfl⟩ rfl rfl rfl rfl rfl (by kernel_rfl) Tryz.func5 (by kernel_rfl)
    (of_decide_eq_true (by kernel_rfl)) (by unfold Func.isWrapper; first | (rw [if_pos (by decide +kernel)]; kernel_rfl) | (rw [if_neg (by decide +kernel)]; exact ⟨rfl, rfl⟩))
    (fun os started H enc _ => termsAxiomTotal_lifted os started H enc)

theorem termsAxiomTotal_holds : Rows.TermsAxiomTotalCardSaid :=
  Claim7.holds_tied_plain_at .later [] [.data, .data] true (true, "56164474eba9f9b333c9e5fd75923e4dfd88a5efc677e8031662b69be54cc5c9") false
    termsAxiomTotal_over (fun _ h => by cases h) (by kernel_rfl) (fun _ h => by cases h) termsAxiomTotal_row_tie rfl ⟨rfl, rfl⟩ (by kernel_rfl) rfl
    (fun f fn hf hfn => by
      obtain rfl : f = 5 := Option.some.inj ((show Tryz.prog.funcNamed "veilstone/veilstonelaw02.TermsAxiomTotal" = some 5 by kernel_rfl).symm.trans hf) |>.symm
      obtain rfl : fn = Tryz.f5 := (Option.some.inj (Tryz.func5.symm.trans hfn)).symm
      exact ⟨by kernel_rfl, fun j t ht => by
        rw [termsAxiomTotal_params] at ht
        have hm : t ∈ [(32 : Nat), 32, 32] := by simpa using Array.mem_of_getElem? ht
        have hall : ([(32 : Nat), 32, 32].all fun u => !Tryz.prog.wantsStandIn u) = true := by kernel_rfl
        exact (show Tryz.prog.wantsStandIn t = false by simpa using List.all_eq_true.1 hall t hm)⟩)
    (by kernel_rfl)
end Go.Proofs.YtkbmlchceiglfaaGreatDoor
