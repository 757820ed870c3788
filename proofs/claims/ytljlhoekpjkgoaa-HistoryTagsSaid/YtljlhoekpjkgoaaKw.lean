/-
  HistoryTags: for every history, name and two numbers the call returns true, and what was handed in reads as it did.
  Conditions: none.
-/
import Derived.Test.YtljlhoekpjkgoaaRows
import Derived.Test.YtljlhoekpjkgoaaHca
import Derived.Test.YtljlhoekpjkgoaaHl
import Derived.OpenShut
namespace Go.Proofs.Ytljlhoekpjkgoaa
open Go.ChangeShapes Go.WideShapes Go.ChangeAt Go.RowKit

theorem historyTags_own : ownKnob Try.prog.godebug = none := by kernel_rfl
theorem historyTags_params : Try.f4.params = #[25, 9, 3, 3] := by kernel_rfl
theorem historyTags_results : Try.f4.resultTypes = #[4] := by kernel_rfl

set_option maxRecDepth 100000 in
theorem historyTags_lifted (os : Os) (started : os.Started) (H : Type) (enc : TypeId × Value → H) :
    ReturnsInHanded {} Try.checked os 4 .any (Rows.historyTagsSpec.pre6 enc Try.prog Try.f4 Rows.historyTagsRow.domain false) (Rows.historyTagsSpec.post enc Try.prog Try.f4 false true false false) := by
  refine returnsInHanded_of_change (C := Try.checked) historyTags_own started (by kernel_rfl) Try.func4
    (ChangeSpec.witness6 (enc := enc) (C := Try.checked) false ⟨#[], #[.agg #[.slice none 0 0, .slice none 0 0, .slice none 0 0], .string ⟨#[]⟩, .int .i64 0, .int .i64 0], []⟩ 8 (by kernel_rfl) (by kernel_rfl) (by kernel_rfl) (by kernel_rfl)) ?_
  intro W base args ds gs before hval hW _ _
  refine law_contract (P := Try.prog) cl laid historyTags_results u4 ?_ ?_ rfl ?_ ?_ W base args ds gs before hval hW
  · intro t ht
    rw [historyTags_params] at ht
    simp at ht
    rcases ht with rfl | rfl | rfl
    · exact of_decide_eq_true (by kernel_rfl)
    · exact of_decide_eq_true (by kernel_rfl)
    · exact of_decide_eq_true (by kernel_rfl)
  · intro t ht
    rw [historyTags_params] at ht
    simp at ht
    rcases ht with rfl | rfl | rfl
    · exact ⟨by kernel_rfl, of_decide_eq_true (by kernel_rfl)⟩
    · exact ⟨by kernel_rfl, of_decide_eq_true (by kernel_rfl)⟩
    · exact ⟨by kernel_rfl, of_decide_eq_true (by kernel_rfl)⟩
  · intro ds hl
    rw [historyTags_params] at hl
    match ds, hl with
    | [d0, d1, d2, d3], _ => rfl
  · intro xs ha
    rw [historyTags_params] at ha
    cases ha with
    | cons h0 ha0 =>
      cases ha0 with
      | cons h1 ha1 =>
        cases ha1 with
        | cons h2 ha2 =>
          cases ha2 with
          | cons h3 ha3 =>
            cases ha3 with
            | nil =>
              obtain ⟨x0, e0⟩ := arg_hist h0
              obtain ⟨x1, e1⟩ := arg_str h1
              obtain ⟨x2, e2, b2⟩ := arg_int h2
              obtain ⟨x3, e3, b3⟩ := arg_int h3
              rw [e0, e1, e2, e3]
              exact tagsLaw_spec x0 x1 x2 x3

theorem historyTags_over : Rows.historyTagsRow.holds Try.pinned (OpenSpec.ofChange Rows.historyTagsSpec) :=
  OpenClaim.holds_of_wide 4 Try.f4 rfl rfl rfl rfl rfl rfl rfl ⟨rfl, rfl, rfl, rfl, rfl⟩ rfl rfl rfl rfl rfl (by kernel_rfl) Try.func4 (by kernel_rfl)
    (of_decide_eq_true (by kernel_rfl)) (by unfold Func.isWrapper; first | (rw [if_pos (by decide +kernel)]; kernel_rfl) | (rw [if_neg (by decide +kernel)]; exact ⟨rfl, rfl⟩))
    (fun os started H enc _ => historyTags_lifted os started H enc)

theorem historyTags_holds : Rows.HistoryTagsSaid := historyTags_over
end Go.Proofs.Ytljlhoekpjkgoaa
