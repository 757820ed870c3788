/-
  LexisPlaces: for every source the call returns true, and the source reads as it did.
  Conditions: none.
-/
import Derived.Test.YtepebjhnefhciaaRows
import Derived.Test.YtepebjhnefhciaaCa
import Derived.Test.YtepebjhnefhciaaWn
import Derived.OpenShut
namespace Go.Proofs.Ytepebjhnefhciaa
open Go.ChangeShapes Go.WideShapes Go.ChangeAt Go.RowKit

theorem lexisPlaces_own : ownKnob Try.prog.godebug = none := by kernel_rfl
theorem lexisPlaces_params : Try.f7.params = #[22] := by kernel_rfl
theorem lexisPlaces_results : Try.f7.resultTypes = #[4] := by kernel_rfl

set_option maxRecDepth 100000 in
theorem lexisPlaces_lifted (os : Os) (started : os.Started) (H : Type) (enc : TypeId × Value → H) :
    ReturnsInHanded {} Try.checked os 7 .any (Rows.lexisPlacesSpec.pre6 enc Try.prog Try.f7 Rows.lexisPlacesRow.domain false) (Rows.lexisPlacesSpec.post enc Try.prog Try.f7 false true false false) := by
  refine returnsInHanded_of_change (C := Try.checked) lexisPlaces_own started (by kernel_rfl) Try.func7
    (ChangeSpec.witness6 (enc := enc) (C := Try.checked) false ⟨#[], #[.slice none 0 0], []⟩ 8 (by kernel_rfl) (by kernel_rfl) (by kernel_rfl) (by kernel_rfl)) ?_
  intro W base args ds gs before hval hW _ _
  refine law_contract (P := Try.prog) cl laid lexisPlaces_results u4 ?_ ?_ rfl ?_ ?_ W base args ds gs before hval hW
  · intro t ht
    rw [lexisPlaces_params] at ht
    simp at ht
    subst ht
    exact .inl rfl
  · intro t ht
    rw [lexisPlaces_params] at ht
    simp at ht
    subst ht
    exact ⟨by kernel_rfl, of_decide_eq_true (by kernel_rfl)⟩
  · intro ds hl
    rw [lexisPlaces_params] at hl
    match ds, hl with
    | [d0], _ => rfl
  · intro xs ha
    rw [lexisPlaces_params] at ha
    cases ha with
    | cons h0 ha0 =>
      cases ha0 with
      | nil =>
        obtain ⟨x0, e0⟩ := arg_bytes h0
        rw [e0]
        exact lexisPlaces_spec x0

theorem lexisPlaces_over : Rows.lexisPlacesRow.holds Try.pinned (OpenSpec.ofChange Rows.lexisPlacesSpec) :=
  OpenClaim.holds_of_wide 7 Try.f7 rfl rfl rfl rfl rfl rfl rfl ⟨rfl, rfl, rfl, rfl, rfl⟩ rfl rfl rfl rfl rfl (by kernel_rfl) Try.func7 (by kernel_rfl)
    (of_decide_eq_true (by kernel_rfl)) (by unfold Func.isWrapper; first | (rw [if_pos (by decide +kernel)]; kernel_rfl) | (rw [if_neg (by decide +kernel)]; exact ⟨rfl, rfl⟩))
    (fun os started H enc _ => lexisPlaces_lifted os started H enc)

theorem lexisPlaces_holds : Rows.LexisPlacesSaid := lexisPlaces_over
end Go.Proofs.Ytepebjhnefhciaa
