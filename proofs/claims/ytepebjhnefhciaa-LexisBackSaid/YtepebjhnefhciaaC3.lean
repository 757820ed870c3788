/-
  LexisBack: for all tokens the call returns true, and the tokens read as they did.
  Conditions: none.
-/
import Derived.Test.YtepebjhnefhciaaRows
import Derived.Test.YtepebjhnefhciaaCa
import Derived.Test.YtepebjhnefhciaaWl
import Derived.OpenShut
namespace Go.Proofs.Ytepebjhnefhciaa
open Go.ChangeShapes Go.WideShapes Go.ChangeAt Go.RowKit

theorem lexisBack_own : ownKnob Try.prog.godebug = none := by kernel_rfl
theorem lexisBack_params : Try.f5.params = #[24] := by kernel_rfl
theorem lexisBack_results : Try.f5.resultTypes = #[4] := by kernel_rfl

set_option maxRecDepth 100000 in
theorem lexisBack_lifted (os : Os) (started : os.Started) (H : Type) (enc : TypeId × Value → H) :
    ReturnsInHanded {} Try.checked os 5 .any (Rows.lexisBackSpec.pre6 enc Try.prog Try.f5 Rows.lexisBackRow.domain false) (Rows.lexisBackSpec.post enc Try.prog Try.f5 false true false false) := by
  refine returnsInHanded_of_change (C := Try.checked) lexisBack_own started (by kernel_rfl) Try.func5
    (ChangeSpec.witness6 (enc := enc) (C := Try.checked) false ⟨#[], #[.slice none 0 0], []⟩ 8 (by kernel_rfl) (by kernel_rfl) (by kernel_rfl) (by kernel_rfl)) ?_
  intro W base args ds gs before hval hW _ _
  refine law_contract (P := Try.prog) cl laid lexisBack_results u4 ?_ ?_ rfl ?_ ?_ W base args ds gs before hval hW
  · intro t ht
    rw [lexisBack_params] at ht
    simp at ht
    subst ht
    exact .inr (.inr (.inr (.inr (.inl rfl))))
  · intro t ht
    rw [lexisBack_params] at ht
    simp at ht
    subst ht
    exact ⟨by kernel_rfl, of_decide_eq_true (by kernel_rfl)⟩
  · intro ds hl
    rw [lexisBack_params] at hl
    match ds, hl with
    | [d0], _ => rfl
  · intro xs ha
    rw [lexisBack_params] at ha
    cases ha with
    | cons h0 ha0 =>
      cases ha0 with
      | nil =>
        obtain ⟨x0, e0⟩ := arg_toks h0
        rw [e0]
        exact lexisBack_spec x0

theorem lexisBack_over : Rows.lexisBackRow.holds Try.pinned (OpenSpec.ofChange Rows.lexisBackSpec) :=
  OpenClaim.holds_of_wide 5 Try.f5 rfl rfl rfl rfl rfl rfl rfl ⟨rfl, rfl, rfl, rfl, rfl⟩ rfl rfl rfl rfl rfl (by kernel_rfl) Try.func5 (by kernel_rfl)
    (of_decide_eq_true (by kernel_rfl)) (by unfold Func.isWrapper; first | (rw [if_pos (by decide +kernel)]; kernel_rfl) | (rw [if_neg (by decide +kernel)]; exact ⟨rfl, rfl⟩))
    (fun os started H enc _ => lexisBack_lifted os started H enc)

theorem lexisBack_holds : Rows.LexisBackSaid := lexisBack_over
end Go.Proofs.Ytepebjhnefhciaa
