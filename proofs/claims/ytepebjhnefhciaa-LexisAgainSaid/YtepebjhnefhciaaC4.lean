/-
  LexisAgain: for every source the call returns true, and the source reads as it did.
  Conditions: none.
-/
import Derived.Test.YtepebjhnefhciaaRows
import Derived.Test.YtepebjhnefhciaaCa
import Derived.Test.YtepebjhnefhciaaWm
import Derived.OpenShut
namespace Go.Proofs.Ytepebjhnefhciaa
open Go.ChangeShapes Go.WideShapes Go.ChangeAt Go.RowKit

theorem lexisAgain_own : ownKnob Try.prog.godebug = none := by kernel_rfl
theorem lexisAgain_params : Try.f6.params = #[22] := by kernel_rfl
theorem lexisAgain_results : Try.f6.resultTypes = #[4] := by kernel_rfl

set_option maxRecDepth 100000 in
theorem lexisAgain_lifted (os : Os) (started : os.Started) (H : Type) (enc : TypeId × Value → H) :
    ReturnsInHanded {} Try.checked os 6 .any (Rows.lexisAgainSpec.pre6 enc Try.prog Try.f6 Rows.lexisAgainRow.domain false) (Rows.lexisAgainSpec.post enc Try.prog Try.f6 false true false false) := by
  refine returnsInHanded_of_change (C := Try.checked) lexisAgain_own started (by kernel_rfl) Try.func6
    (ChangeSpec.witness6 (enc := enc) (C := Try.checked) false ⟨#[], #[.slice none 0 0], []⟩ 8 (by kernel_rfl) (by kernel_rfl) (by kernel_rfl) (by kernel_rfl)) ?_
  intro W base args ds gs before hval hW _ _
  refine law_contract (P := Try.prog) cl laid lexisAgain_results u4 ?_ ?_ rfl ?_ ?_ W base args ds gs before hval hW
  · intro t ht
    rw [lexisAgain_params] at ht
    simp at ht
    subst ht
    exact .inl rfl
  · intro t ht
    rw [lexisAgain_params] at ht
    simp at ht
    subst ht
    exact ⟨by kernel_rfl, of_decide_eq_true (by kernel_rfl)⟩
  · intro ds hl
    rw [lexisAgain_params] at hl
    match ds, hl with
    | [d0], _ => rfl
  · intro xs ha
    rw [lexisAgain_params] at ha
    cases ha with
    | cons h0 ha0 =>
      cases ha0 with
      | nil =>
        obtain ⟨x0, e0⟩ := arg_bytes h0
        rw [e0]
        exact lexisAgain_spec x0

theorem lexisAgain_over : Rows.lexisAgainRow.holds Try.pinned (OpenSpec.ofChange Rows.lexisAgainSpec) :=
  OpenClaim.holds_of_wide 6 Try.f6 rfl rfl rfl rfl rfl rfl rfl ⟨rfl, rfl, rfl, rfl, rfl⟩ rfl rfl rfl rfl rfl (by kernel_rfl) Try.func6 (by kernel_rfl)
    (of_decide_eq_true (by kernel_rfl)) (by unfold Func.isWrapper; first | (rw [if_pos (by decide +kernel)]; kernel_rfl) | (rw [if_neg (by decide +kernel)]; exact ⟨rfl, rfl⟩))
    (fun os started H enc _ => lexisAgain_lifted os started H enc)

theorem lexisAgain_holds : Rows.LexisAgainSaid := lexisAgain_over
end Go.Proofs.Ytepebjhnefhciaa
