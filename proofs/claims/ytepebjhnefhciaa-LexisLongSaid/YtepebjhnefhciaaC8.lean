/-
  LexisLong: for every piece and number the call returns true, and the piece reads as it did.
  Conditions: none.
-/
import Derived.Test.YtepebjhnefhciaaRows
import Derived.Test.YtepebjhnefhciaaCa
import Derived.Test.YtepebjhnefhciaaWj
import Derived.OpenShut
namespace Go.Proofs.Ytepebjhnefhciaa
open Go.ChangeShapes Go.WideShapes Go.ChangeAt Go.RowKit

theorem lexisLong_own : ownKnob Try.prog.godebug = none := by kernel_rfl
theorem lexisLong_params : Try.f10.params = #[22, 3] := by kernel_rfl
theorem lexisLong_results : Try.f10.resultTypes = #[4] := by kernel_rfl

set_option maxRecDepth 100000 in
theorem lexisLong_lifted (os : Os) (started : os.Started) (H : Type) (enc : TypeId × Value → H) :
    ReturnsInHanded {} Try.checked os 10 .any (Rows.lexisLongSpec.pre6 enc Try.prog Try.f10 Rows.lexisLongRow.domain false) (Rows.lexisLongSpec.post enc Try.prog Try.f10 false true false false) := by
  refine returnsInHanded_of_change (C := Try.checked) lexisLong_own started (by kernel_rfl) Try.func10
    (ChangeSpec.witness6 (enc := enc) (C := Try.checked) false ⟨#[], #[.slice none 0 0, .int .i64 0], []⟩ 8 (by kernel_rfl) (by kernel_rfl) (by kernel_rfl) (by kernel_rfl)) ?_
  intro W base args ds gs before hval hW _ _
  refine law_contract (P := Try.prog) cl laid lexisLong_results u4 ?_ ?_ rfl ?_ ?_ W base args ds gs before hval hW
  · intro t ht
    rw [lexisLong_params] at ht
    simp at ht
    rcases ht with rfl | rfl
    · exact .inl rfl
    · exact .inr (.inr (.inl rfl))
  · intro t ht
    rw [lexisLong_params] at ht
    simp at ht
    rcases ht with rfl | rfl
    · exact ⟨by kernel_rfl, of_decide_eq_true (by kernel_rfl)⟩
    · exact ⟨by kernel_rfl, of_decide_eq_true (by kernel_rfl)⟩
  · intro ds hl
    rw [lexisLong_params] at hl
    match ds, hl with
    | [d0, d1], _ => rfl
  · intro xs ha
    rw [lexisLong_params] at ha
    cases ha with
    | cons h0 ha0 =>
      cases ha0 with
      | cons h1 ha1 =>
        cases ha1 with
        | nil =>
          obtain ⟨x0, e0⟩ := arg_bytes h0
          obtain ⟨x1, e1, b1⟩ := arg_int h1
          rw [e0, e1]
          exact lexisLong_spec x0 x1

theorem lexisLong_over : Rows.lexisLongRow.holds Try.pinned (OpenSpec.ofChange Rows.lexisLongSpec) :=
  OpenClaim.holds_of_wide 10 Try.f10 rfl rfl rfl rfl rfl rfl rfl ⟨rfl, rfl, rfl, rfl, rfl⟩ rfl rfl rfl rfl rfl (by kernel_rfl) Try.func10 (by kernel_rfl)
    (of_decide_eq_true (by kernel_rfl)) (by unfold Func.isWrapper; first | (rw [if_pos (by decide +kernel)]; kernel_rfl) | (rw [if_neg (by decide +kernel)]; exact ⟨rfl, rfl⟩))
    (fun os started H enc _ => lexisLong_lifted os started H enc)

theorem lexisLong_holds : Rows.LexisLongSaid := lexisLong_over
end Go.Proofs.Ytepebjhnefhciaa
