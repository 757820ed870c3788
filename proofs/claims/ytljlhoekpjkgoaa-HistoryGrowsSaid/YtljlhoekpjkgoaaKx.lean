/-
  HistoryGrows: for every history, list of parents, message, name and number the call returns true, and what was handed in reads as it did.
  Conditions: none.
-/
import Derived.Test.YtljlhoekpjkgoaaRows
import Derived.Test.YtljlhoekpjkgoaaHca
import Derived.Test.YtljlhoekpjkgoaaHy
import Derived.OpenShut
namespace Go.Proofs.Ytljlhoekpjkgoaa
open Go.ChangeShapes Go.WideShapes Go.ChangeAt Go.RowKit

theorem historyGrows_own : ownKnob Try.prog.godebug = none := by kernel_rfl
theorem historyGrows_params : Try.f6.params = #[25, 31, 9, 9, 3] := by kernel_rfl
theorem historyGrows_results : Try.f6.resultTypes = #[4] := by kernel_rfl

set_option maxRecDepth 100000 in
theorem historyGrows_lifted (os : Os) (started : os.Started) (H : Type) (enc : TypeId × Value → H) :
    ReturnsInHanded {} Try.checked os 6 .any (Rows.historyGrowsSpec.pre6 enc Try.prog Try.f6 Rows.historyGrowsRow.domain false) (Rows.historyGrowsSpec.post enc Try.prog Try.f6 false true false false) := by
  refine returnsInHanded_of_change (C := Try.checked) historyGrows_own started (by kernel_rfl) Try.func6
    (ChangeSpec.witness6 (enc := enc) (C := Try.checked) false ⟨#[], #[.agg #[.slice none 0 0, .slice none 0 0, .slice none 0 0], .slice none 0 0, .string ⟨#[]⟩, .string ⟨#[]⟩, .int .i64 0], []⟩ 8 (by kernel_rfl) (by kernel_rfl) (by kernel_rfl) (by kernel_rfl)) ?_
  intro W base args ds gs before hval hW _ _
  refine law_contract (P := Try.prog) cl laid historyGrows_results u4 ?_ ?_ rfl ?_ ?_ W base args ds gs before hval hW
  · intro t ht
    rw [historyGrows_params] at ht
    simp at ht
    rcases ht with rfl | rfl | rfl | rfl
    · exact of_decide_eq_true (by kernel_rfl)
    · exact of_decide_eq_true (by kernel_rfl)
    · exact of_decide_eq_true (by kernel_rfl)
    · exact of_decide_eq_true (by kernel_rfl)
  · intro t ht
    rw [historyGrows_params] at ht
    simp at ht
    rcases ht with rfl | rfl | rfl | rfl
    · exact ⟨by kernel_rfl, of_decide_eq_true (by kernel_rfl)⟩
    · exact ⟨by kernel_rfl, of_decide_eq_true (by kernel_rfl)⟩
    · exact ⟨by kernel_rfl, of_decide_eq_true (by kernel_rfl)⟩
    · exact ⟨by kernel_rfl, of_decide_eq_true (by kernel_rfl)⟩
  · intro ds hl
    rw [historyGrows_params] at hl
    match ds, hl with
    | [d0, d1, d2, d3, d4], _ => rfl
  · intro xs ha
    rw [historyGrows_params] at ha
    cases ha with
    | cons h0 ha0 =>
      cases ha0 with
      | cons h1 ha1 =>
        cases ha1 with
        | cons h2 ha2 =>
          cases ha2 with
          | cons h3 ha3 =>
            cases ha3 with
            | cons h4 ha4 =>
              cases ha4 with
              | nil =>
                obtain ⟨x0, e0⟩ := arg_hist h0
                obtain ⟨x1, e1⟩ := arg_ints h1
                obtain ⟨x2, e2⟩ := arg_str h2
                obtain ⟨x3, e3⟩ := arg_str h3
                obtain ⟨x4, e4, b4⟩ := arg_int h4
                rw [e0, e1, e2, e3, e4]
                exact growsLaw_spec x0 x1 x2 x3 x4

theorem historyGrows_over : Rows.historyGrowsRow.holds Try.pinned (OpenSpec.ofChange Rows.historyGrowsSpec) :=
  OpenClaim.holds_of_wide 6 Try.f6 rfl rfl rfl rfl rfl rfl rfl ⟨rfl, rfl, rfl, rfl, rfl⟩ rfl rfl rfl rfl rfl (by kernel_rfl) Try.func6 (by kernel_rfl)
    (of_decide_eq_true (by kernel_rfl)) (by unfold Func.isWrapper; first | (rw [if_pos (by decide +kernel)]; kernel_rfl) | (rw [if_neg (by decide +kernel)]; exact ⟨rfl, rfl⟩))
    (fun os started H enc _ => historyGrows_lifted os started H enc)

theorem historyGrows_holds : Rows.HistoryGrowsSaid := historyGrows_over
end Go.Proofs.Ytljlhoekpjkgoaa
