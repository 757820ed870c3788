/-
  HistoryAncestorSpec: for every history and two numbers the call returns true, and what was handed in reads as it did.
  Conditions: none.
-/
import Derived.Test.YtljlhoekpjkgoaaRows
import Derived.Test.YtljlhoekpjkgoaaHca
import Derived.Test.YtljlhoekpjkgoaaHv
import Derived.OpenShut
namespace Go.Proofs.Ytljlhoekpjkgoaa
open Go.ChangeShapes Go.WideShapes Go.ChangeAt Go.RowKit

theorem historyAncestorSpec_own : ownKnob Try.prog.godebug = none := by kernel_rfl
theorem historyAncestorSpec_params : Try.f5.params = #[25, 3, 3] := by kernel_rfl
theorem historyAncestorSpec_results : Try.f5.resultTypes = #[4] := by kernel_rfl

set_option maxRecDepth 100000 in
theorem historyAncestorSpec_lifted (os : Os) (started : os.Started) (H : Type) (enc : TypeId × Value → H) :
    ReturnsInHanded {} Try.checked os 5 .any (Rows.historyAncestorSpecSpec.pre6 enc Try.prog Try.f5 Rows.historyAncestorSpecRow.domain false) (Rows.historyAncestorSpecSpec.post enc Try.prog Try.f5 false true false false) := by
  refine returnsInHanded_of_change (C := Try.checked) historyAncestorSpec_own started (by kernel_rfl) Try.func5
    (ChangeSpec.witness6 (enc := enc) (C := Try.checked) false ⟨#[], #[.agg #[.slice none 0 0, .slice none 0 0, .slice none 0 0], .int .i64 0, .int .i64 0], []⟩ 8 (by kernel_rfl) (by kernel_rfl) (by kernel_rfl) (by kernel_rfl)) ?_
  intro W base args ds gs before hval hW _ _
  refine law_contract (P := Try.prog) cl laid historyAncestorSpec_results u4 ?_ ?_ rfl ?_ ?_ W base args ds gs before hval hW
  · intro t ht
    rw [historyAncestorSpec_params] at ht
    simp at ht
    rcases ht with rfl | rfl
    · exact of_decide_eq_true (by kernel_rfl)
    · exact of_decide_eq_true (by kernel_rfl)
  · intro t ht
    rw [historyAncestorSpec_params] at ht
    simp at ht
    rcases ht with rfl | rfl
    · exact ⟨by kernel_rfl, of_decide_eq_true (by kernel_rfl)⟩
    · exact ⟨by kernel_rfl, of_decide_eq_true (by kernel_rfl)⟩
  · intro ds hl
    rw [historyAncestorSpec_params] at hl
    match ds, hl with
    | [d0, d1, d2], _ => rfl
  · intro xs ha
    rw [historyAncestorSpec_params] at ha
    cases ha with
    | cons h0 ha0 =>
      cases ha0 with
      | cons h1 ha1 =>
        cases ha1 with
        | cons h2 ha2 =>
          cases ha2 with
          | nil =>
            obtain ⟨x0, e0⟩ := arg_hist h0
            obtain ⟨x1, e1, b1⟩ := arg_int h1
            obtain ⟨x2, e2, b2⟩ := arg_int h2
            rw [e0, e1, e2]
            exact ancestorSpec_spec x0 x1 x2

theorem historyAncestorSpec_over : Rows.historyAncestorSpecRow.holds Try.pinned (OpenSpec.ofChange Rows.historyAncestorSpecSpec) :=
  OpenClaim.holds_of_wide 5 Try.f5 rfl rfl rfl rfl rfl rfl rfl ⟨rfl, rfl, rfl, rfl, rfl⟩ rfl rfl rfl rfl rfl (by kernel_rfl) Try.func5 (by kernel_rfl)
    (of_decide_eq_true (by kernel_rfl)) (by unfold Func.isWrapper; first | (rw [if_pos (by decide +kernel)]; kernel_rfl) | (rw [if_neg (by decide +kernel)]; exact ⟨rfl, rfl⟩))
    (fun os started H enc _ => historyAncestorSpec_lifted os started H enc)

theorem historyAncestorSpec_holds : Rows.HistoryAncestorSpecSaid := historyAncestorSpec_over
end Go.Proofs.Ytljlhoekpjkgoaa
