/-
  HistoryCommon: for every history and two numbers the call returns true, and what was handed in reads as it did.
  Conditions: none.
-/
import Derived.Test.YtljlhoekpjkgoaaRows
import Derived.Test.YtljlhoekpjkgoaaHca
import Derived.Test.YtljlhoekpjkgoaaHo
import Derived.OpenShut
namespace Go.Proofs.Ytljlhoekpjkgoaa
open Go.ChangeShapes Go.WideShapes Go.ChangeAt Go.RowKit

theorem historyCommon_own : ownKnob Try.prog.godebug = none := by kernel_rfl
theorem historyCommon_params : Try.f8.params = #[25, 3, 3] := by kernel_rfl
theorem historyCommon_results : Try.f8.resultTypes = #[4] := by kernel_rfl

set_option maxRecDepth 100000 in
theorem historyCommon_lifted (os : Os) (started : os.Started) (H : Type) (enc : TypeId × Value → H) :
    ReturnsInHanded {} Try.checked os 8 .any (Rows.historyCommonSpec.pre6 enc Try.prog Try.f8 Rows.historyCommonRow.domain false) (Rows.historyCommonSpec.post enc Try.prog Try.f8 false true false false) := by
  refine returnsInHanded_of_change (C := Try.checked) historyCommon_own started (by kernel_rfl) Try.func8
    (ChangeSpec.witness6 (enc := enc) (C := Try.checked) false ⟨#[], #[.agg #[.slice none 0 0, .slice none 0 0, .slice none 0 0], .int .i64 0, .int .i64 0], []⟩ 8 (by kernel_rfl) (by kernel_rfl) (by kernel_rfl) (by kernel_rfl)) ?_
  intro W base args ds gs before hval hW _ _
  refine law_contract (P := Try.prog) cl laid historyCommon_results u4 ?_ ?_ rfl ?_ ?_ W base args ds gs before hval hW
  · intro t ht
    rw [historyCommon_params] at ht
    simp at ht
    rcases ht with rfl | rfl
    · exact of_decide_eq_true (by kernel_rfl)
    · exact of_decide_eq_true (by kernel_rfl)
  · intro t ht
    rw [historyCommon_params] at ht
    simp at ht
    rcases ht with rfl | rfl
    · exact ⟨by kernel_rfl, of_decide_eq_true (by kernel_rfl)⟩
    · exact ⟨by kernel_rfl, of_decide_eq_true (by kernel_rfl)⟩
  · intro ds hl
    rw [historyCommon_params] at hl
    match ds, hl with
    | [d0, d1, d2], _ => rfl
  · intro xs ha
    rw [historyCommon_params] at ha
    cases ha with
    | cons h0 ha0 =>
      cases ha0 with
      | cons h1 ha1 =>
        cases ha1 with
        | cons h2 ha2 =>
          cases ha2 with
          | nil =>
            obtain ⟨x0, e0⟩ := arg_hist h0
            obtain ⟨x1, e1, b1⟩ := arg_int h1
            obtain ⟨x2, e2, b2⟩ := arg_int h2
            rw [e0, e1, e2]
            exact commonLaw_spec x0 x1 x2

theorem historyCommon_over : Rows.historyCommonRow.holds Try.pinned (OpenSpec.ofChange Rows.historyCommonSpec) :=
  OpenClaim.holds_of_wide 8 Try.f8 rfl rfl rfl rfl rfl rfl rfl ⟨rfl, rfl, rfl, rfl, rfl⟩ rfl rfl rfl rfl rfl (by kernel_rfl) Try.func8 (by kernel_rfl)
    (of_decide_eq_true (by kernel_rfl)) (by unfold Func.isWrapper; first | (rw [if_pos (by decide +kernel)]; kernel_rfl) | (rw [if_neg (by decide +kernel)]; exact ⟨rfl, rfl⟩))
    (fun os started H enc _ => historyCommon_lifted os started H enc)

theorem historyCommon_holds : Rows.HistoryCommonSaid := historyCommon_over
end Go.Proofs.Ytljlhoekpjkgoaa
