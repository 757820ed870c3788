/-
  LexisRemarks: for all sources and comments the call returns true, and they read as they did.
  Conditions: none.
-/
import Derived.Test.YtepebjhnefhciaaRows
import Derived.Test.YtepebjhnefhciaaCa
import Derived.Test.YtepebjhnefhciaaWk
import Derived.OpenShut
namespace Go.Proofs.Ytepebjhnefhciaa
open Go.ChangeShapes Go.WideShapes Go.ChangeAt Go.RowKit

theorem lexisRemarks_own : ownKnob Try.prog.godebug = none := by kernel_rfl
theorem lexisRemarks_params : Try.f8.params = #[22, 22, 22] := by kernel_rfl
theorem lexisRemarks_results : Try.f8.resultTypes = #[4] := by kernel_rfl

set_option maxRecDepth 100000 in
theorem lexisRemarks_lifted (os : Os) (started : os.Started) (H : Type) (enc : TypeId × Value → H) :
    ReturnsInHanded {} Try.checked os 8 .any (Rows.lexisRemarksSpec.pre6 enc Try.prog Try.f8 Rows.lexisRemarksRow.domain false) (Rows.lexisRemarksSpec.post enc Try.prog Try.f8 false true false false) := by
  refine returnsInHanded_of_change (C := Try.checked) lexisRemarks_own started (by kernel_rfl) Try.func8
    (ChangeSpec.witness6 (enc := enc) (C := Try.checked) false ⟨#[], #[.slice none 0 0, .slice none 0 0, .slice none 0 0], []⟩ 8 (by kernel_rfl) (by kernel_rfl) (by kernel_rfl) (by kernel_rfl)) ?_
  intro W base args ds gs before hval hW _ _
  refine law_contract (P := Try.prog) cl laid lexisRemarks_results u4 ?_ ?_ rfl ?_ ?_ W base args ds gs before hval hW
  · intro t ht
    rw [lexisRemarks_params] at ht
    simp at ht
    subst ht
    exact .inl rfl
  · intro t ht
    rw [lexisRemarks_params] at ht
    simp at ht
    subst ht
    exact ⟨by kernel_rfl, of_decide_eq_true (by kernel_rfl)⟩
  · intro ds hl
    rw [lexisRemarks_params] at hl
    match ds, hl with
    | [d0, d1, d2], _ => rfl
  · intro xs ha
    rw [lexisRemarks_params] at ha
    cases ha with
    | cons h0 ha0 =>
      cases ha0 with
      | cons h1 ha1 =>
        cases ha1 with
        | cons h2 ha2 =>
          cases ha2 with
          | nil =>
            obtain ⟨x0, e0⟩ := arg_bytes h0
            obtain ⟨x1, e1⟩ := arg_bytes h1
            obtain ⟨x2, e2⟩ := arg_bytes h2
            rw [e0, e1, e2]
            exact lexisRemarks_spec x0 x1 x2

theorem lexisRemarks_over : Rows.lexisRemarksRow.holds Try.pinned (OpenSpec.ofChange Rows.lexisRemarksSpec) :=
  OpenClaim.holds_of_wide 8 Try.f8 rfl rfl rfl rfl rfl rfl rfl ⟨rfl, rfl, rfl, rfl, rfl⟩ rfl rfl rfl rfl rfl (by kernel_rfl) Try.func8 (by kernel_rfl)
    (of_decide_eq_true (by kernel_rfl)) (by unfold Func.isWrapper; first | (rw [if_pos (by decide +kernel)]; kernel_rfl) | (rw [if_neg (by decide +kernel)]; exact ⟨rfl, rfl⟩))
    (fun os started H enc _ => lexisRemarks_lifted os started H enc)

theorem lexisRemarks_holds : Rows.LexisRemarksSaid := lexisRemarks_over
end Go.Proofs.Ytepebjhnefhciaa
