/-
  HistoryPaths: for every history, label and two suffixes the call returns true, and what was handed in reads as it did.
  Conditions: none.
-/
import Derived.Test.YtljlhoekpjkgoaaRows
import Derived.Test.YtljlhoekpjkgoaaHca
import Derived.Test.YtljlhoekpjkgoaaHq
import Derived.OpenShut
namespace Go.Proofs.Ytljlhoekpjkgoaa
open Go.ChangeShapes Go.WideShapes Go.ChangeAt Go.RowKit

theorem historyPaths_own : ownKnob Try.prog.godebug = none := by kernel_rfl
theorem historyPaths_params : Try.f3.params = #[25, 9, 4, 4] := by kernel_rfl
theorem historyPaths_results : Try.f3.resultTypes = #[4] := by kernel_rfl

set_option maxRecDepth 100000 in
theorem historyPaths_lifted (os : Os) (started : os.Started) (H : Type) (enc : TypeId × Value → H) :
    ReturnsInHanded {} Try.checked os 3 .any (Rows.historyPathsSpec.pre6 enc Try.prog Try.f3 Rows.historyPathsRow.domain false) (Rows.historyPathsSpec.post enc Try.prog Try.f3 false true false false) := by
  refine returnsInHanded_of_change (C := Try.checked) historyPaths_own started (by kernel_rfl) Try.func3
    (ChangeSpec.witness6 (enc := enc) (C := Try.checked) false ⟨#[], #[.agg #[.slice none 0 0, .slice none 0 0, .slice none 0 0], .string ⟨#[]⟩, .bool false, .bool false], []⟩ 8 (by kernel_rfl) (by kernel_rfl) (by kernel_rfl) (by kernel_rfl)) ?_
  intro W base args ds gs before hval hW _ _
  refine law_contract (P := Try.prog) cl laid historyPaths_results u4 ?_ ?_ rfl ?_ ?_ W base args ds gs before hval hW
  · intro t ht
    rw [historyPaths_params] at ht
    simp at ht
    rcases ht with rfl | rfl | rfl
    · exact of_decide_eq_true (by kernel_rfl)
    · exact of_decide_eq_true (by kernel_rfl)
    · exact of_decide_eq_true (by kernel_rfl)
  · intro t ht
    rw [historyPaths_params] at ht
    simp at ht
    rcases ht with rfl | rfl | rfl
    · exact ⟨by kernel_rfl, of_decide_eq_true (by kernel_rfl)⟩
    · exact ⟨by kernel_rfl, of_decide_eq_true (by kernel_rfl)⟩
    · exact ⟨by kernel_rfl, of_decide_eq_true (by kernel_rfl)⟩
  · intro ds hl
    rw [historyPaths_params] at hl
    match ds, hl with
    | [d0, d1, d2, d3], _ => rfl
  · intro xs ha
    rw [historyPaths_params] at ha
    cases ha with
    | cons h0 ha0 =>
      cases ha0 with
      | cons h1 ha1 =>
        cases ha1 with
        | cons h2 ha2 =>
          cases ha2 with
          | cons h3 ha3 =>
            cases ha3 with
            | nil =>
              obtain ⟨x0, e0⟩ := arg_hist h0
              obtain ⟨x1, e1⟩ := arg_str h1
              obtain ⟨x2, e2⟩ := arg_bool h2
              obtain ⟨x3, e3⟩ := arg_bool h3
              rw [e0, e1, e2, e3]
              exact paths_spec x0 x1 x2 x3

theorem historyPaths_over : Rows.historyPathsRow.holds Try.pinned (OpenSpec.ofChange Rows.historyPathsSpec) :=
  OpenClaim.holds_of_wide 3 Try.f3 rfl rfl rfl rfl rfl rfl rfl ⟨rfl, rfl, rfl, rfl, rfl⟩ rfl rfl rfl rfl rfl (by kernel_rfl) Try.func3 (by kernel_rfl)
    (of_decide_eq_true (by kernel_rfl)) (by unfold Func.isWrapper; first | (rw [if_pos (by decide +kernel)]; kernel_rfl) | (rw [if_neg (by decide +kernel)]; exact ⟨rfl, rfl⟩))
    (fun os started H enc _ => historyPaths_lifted os started H enc)

theorem historyPaths_holds : Rows.HistoryPathsSaid := historyPaths_over
end Go.Proofs.Ytljlhoekpjkgoaa
