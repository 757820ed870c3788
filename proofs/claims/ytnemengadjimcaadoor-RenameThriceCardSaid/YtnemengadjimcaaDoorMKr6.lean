/-
  RenameThrice: for every input the call returns true, and what was handed in reads as it did.
  Conditions: the package-level variables hold what the program's text lays.
-/
import Derived.Test.YtnemengadjimcaaDoorCards
import Derived.Test.YtnemengadjimcaaDoorTie
import Derived.Test.YtnemengadjimcaaDoorMTcr
import Derived.Test.YtnemengadjimcaaDoorMRn6
import Derived.ProofKit
import Derived.LaidMore
import Derived.OpenShut
import Derived.Stop.Joined
import Derived.SevenTiedAt
set_option linter.unnecessarySimpa false
set_option linter.unusedSectionVars false
set_option linter.unusedSimpArgs false
set_option linter.unusedVariables false
namespace Go.Proofs.YtnemengadjimcaaDoor
open Go.ChangeShapes Go.WideShapes Go.ChangeAt Go.RowKit
theorem renameThrice_own : ownKnob Tryd.prog.godebug = none := by kernel_rfl
theorem renameThrice_params : Tryd.f3.params = #[22, 22, 22] := by kernel_rfl
theorem renameThrice_results : Tryd.f3.resultTypes = #[4] := by kernel_rfl
theorem renameThrice_door (os : Os) (args : Array Value) : laidMetH Tryd.prog laidL ((World.doorLaid Tryd.prog 400 os).forCall (fun _ _ => 0) ⟨#[], args, []⟩).memory :=
  laidMetH_of_parts3 (fuel := 8) (laidMet_of_run' 8 (by kernel_rfl) (by kernel_rfl)) (by kernel_rfl) (by kernel_rfl)
def renameThrice_zero : Array Value := #[.slice none 0 0, .slice none 0 0, .slice none 0 0]
set_option maxRecDepth 100000 in
theorem renameThrice_lifted (os : Os) (started : os.Started) (H : Type) (enc : TypeId × Value → H) :
    ReturnsInHanded {} Tryd.checked os 3 .any (fun w args => (Rows.renameThriceSpec.pre enc Tryd.prog Tryd.f3 [] false w args ∧ laidMetH Tryd.prog laidL w) ∧ sizedMet enc Tryd.prog Tryd.f3 (OpenSpec.ofChange Rows.renameThriceSpec) false w args)
      (Rows.renameThriceSpec.post enc Tryd.prog Tryd.f3 false true false false) := by
  refine returnsInHanded_of_change_and (C := Tryd.checked) (X := fun w _ => laidMetH Tryd.prog laidL w) (fun _ _ _ hh h => h.of_heap hh) renameThrice_own started (by kernel_rfl) Tryd.func3
    (ChangeSpec.witness_shaped (enc := enc) (C := Tryd.checked) (os := os) (X := fun w _ => laidMetH Tryd.prog laidL w) false (World.doorLaid Tryd.prog 400 os) renameThrice_zero 8 rfl (World.shaped_of_RefB (by kernel_rfl) (by kernel_rfl)) (by kernel_rfl) (by kernel_rfl) (by kernel_rfl) (renameThrice_door os _)) ?_
  intro W base args ds gs before hval hW _ hz hL _
  refine law_contract (P := Tryd.prog) (hp := NG) clR laid renameThrice_results u4 ?_ ?_ rfl ?_ ?_ W base args ds gs before hval hW hz (ng_of_laid hL)
  · intro t ht
    rw [renameThrice_params] at ht
    simp at ht
    subst ht
    exact of_decide_eq_true (by kernel_rfl)
  · intro t ht
    rw [renameThrice_params] at ht
    simp at ht
    subst ht
    exact ⟨by kernel_rfl, of_decide_eq_true (by kernel_rfl)⟩
  · intro ds hl
    rw [renameThrice_params] at hl
    match ds, hl with
    | [d0, d1, d2], _ => rfl
  · intro xs ha
    rw [renameThrice_params] at ha
    cases ha with
    | cons h0 ha0 =>
      cases ha0 with
      | cons h1 ha1 =>
        cases ha1 with
        | cons h2 ha2 =>
          cases ha2 with
          | nil =>
            obtain ⟨x0, e0, _⟩ := arg_rens h0
            obtain ⟨x1, e1, _⟩ := arg_rens h1
            obtain ⟨x2, e2, _⟩ := arg_rens h2
            rw [e0, e1, e2]
            exact thrice_spec x0 x1 x2
theorem renameThrice_over : Rows.RenameThriceSaid :=
  OpenClaim.holds_of_wide 3 Tryd.f3 rfl rfl rfl rfl rfl rfl rfl ⟨rfl, rfl, rfl, rfl, rfl⟩ rfl rfl rfl rfl rfl (by kernel_rfl) Tryd.func3 (by kernel_rfl)
    (of_decide_eq_true (by kernel_rfl)) (by unfold Func.isWrapper; first | (rw [if_pos (by decide +kernel)]; kernel_rfl) | (rw [if_neg (by decide +kernel)]; exact ⟨rfl, rfl⟩))
    (fun os started H enc _ => renameThrice_lifted os started H enc)
theorem renameThrice_holds : Rows.RenameThriceCardSaid :=
  Claim7.holds_tied_plain_at .later [] [.data, .data] true (true, "e022e93af7256709f596f235ddc3e4305c3fdff8db8dfa8b38a84617aa1be63d") false
    renameThrice_over (fun _ h => by cases h) (by kernel_rfl) (fun _ h => by cases h) renameThrice_row_tie rfl ⟨rfl, rfl⟩ (by kernel_rfl) rfl
    (fun f fn hf hfn => by
      obtain rfl : f = 3 := Option.some.inj ((show Tryd.prog.funcNamed "veilstone/veilstonelaw33.RenameThrice" = some 3 by kernel_rfl).symm.trans hf) |>.symm
      obtain rfl : fn = Tryd.f3 := (Option.some.inj (Tryd.func3.symm.trans hfn)).symm
      exact ⟨by kernel_rfl, fun j t ht => by
        rw [renameThrice_params] at ht
        have hm : t ∈ [(22 : Nat), 22, 22] := by simpa using Array.mem_of_getElem? ht
        have hall : ([(22 : Nat), 22, 22].all fun u => !Tryd.prog.wantsStandIn u) = true := by kernel_rfl
        exact (show Tryd.prog.wantsStandIn t = false by simpa using List.all_eq_true.1 hall t hm)⟩)
    (by kernel_rfl)
end Go.Proofs.YtnemengadjimcaaDoor
