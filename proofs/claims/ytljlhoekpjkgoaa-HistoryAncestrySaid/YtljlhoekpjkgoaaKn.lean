/-
  HistoryAncestry: for every history and number the call returns true, and what was handed in reads as it did.
  Conditions: none.
-/
import Derived.Test.YtljlhoekpjkgoaaRows
import Derived.Test.YtljlhoekpjkgoaaHca
import Derived.Test.YtljlhoekpjkgoaaHn
import Derived.OpenShut
namespace Go.Proofs.Ytljlhoekpjkgoaa
open Go.ChangeShapes Go.WideShapes Go.ChangeAt Go.RowKit

theorem historyAncestry_own : ownKnob Try.prog.godebug = none := by kernel_rfl
theorem historyAncestry_params : Try.f7.params = #[25, 3] := by kernel_rfl
theorem historyAncestry_results : Try.f7.resultTypes = #[4] := by kernel_rfl

set_option maxRecDepth 100000 in
theorem historyAncestry_lifted (os : Os) (started : os.Started) (H : Type) (enc : TypeId × Value → H) :
    ReturnsInHanded {} Try.checked os 7 .any (Rows.historyAncestrySpec.pre6 enc Try.prog Try.f7 Rows.historyAncestryRow.domain false) (Rows.historyAncestrySpec.post enc Try.prog Try.f7 false true false false) := by
  refine returnsInHanded_of_change (C := Try.checked) historyAncestry_own started (by kernel_rfl) Try.func7
    (ChangeSpec.witness6 (enc := enc) (C := Try.checked) false ⟨#[], #[.agg #[.slice none 0 0, .slice none 0 0, .slice none 0 0], .int .i64 0], []⟩ 8 (by kernel_rfl) (by kernel_rfl) (by kernel_rfl) (by kernel_rfl)) ?_
  intro W base args ds gs before hval hW _ _
  refine law_contract (P := Try.prog) cl laid historyAncestry_results u4 ?_ ?_ rfl ?_ ?_ W base args ds gs before hval hW
  · intro t ht
    rw [historyAncestry_params] at ht
    simp at ht
    rcases ht with rfl | rfl
    · exact of_decide_eq_true (by kernel_rfl)
    · exact of_decide_eq_true (by kernel_rfl)
  · intro t ht
    rw [historyAncestry_params] at ht
    simp at ht
    rcases ht with rfl | rfl
    · exact ⟨by kernel_rfl, of_decide_eq_true (by kernel_rfl)⟩
    · exact ⟨by kernel_rfl, of_decide_eq_true (by kernel_rfl)⟩
  · intro ds hl
    rw [historyAncestry_params] at hl
    match ds, hl with
    | [d0, d1], _ => rfl
  · intro xs ha
    rw [historyAncestry_params] at ha
    cases ha with
    | cons h0 ha0 =>
      cases ha0 with
      | cons h1 ha1 =>
        cases ha1 with
        | nil =>
          obtain ⟨x0, e0⟩ := arg_hist h0
          obtain ⟨x1, e1, b1⟩ := arg_int h1
          rw [e0, e1]
          exact ancestry_spec x0 x1

theorem historyAncestry_over : Rows.historyAncestryRow.holds Try.pinned (OpenSpec.ofChange Rows.historyAncestrySpec) :=
  OpenClaim.holds_of_wide 7 Try.f7 rfl rfl rfl rfl rfl rfl rfl ⟨rfl, rfl, rfl, rfl, rfl⟩ rfl rfl rfl rfl rfl (by kernel_rfl) Try.func7 (by kernel_rfl)
    (of_decide_eq_true (by kernel_rfl)) (by unfold Func.isWrapper; first | (rw [if_pos (by decide +kernel)]; kernel_rfl) | (rw [if_neg (by decide +kernel)]; exact ⟨rfl, rfl⟩))
    (fun os started H enc _ => historyAncestry_lifted os started H enc)

theorem historyAncestry_holds : Rows.HistoryAncestrySaid := historyAncestry_over
end Go.Proofs.Ytljlhoekpjkgoaa
