/-
  Contracts at arguments of which more is known.
  Conditions: none.
-/
import Derived.Test.YtljlhoekpjkgoaaSs
namespace Go.Proofs.Ytljlhoekpjkgoaa
open Go.RowKit

section
variable {P : Program}

def WkL : List SV → List SV → Prop
  | [], [] => True
  | a :: l, b :: m => Wk a b ∧ WkL l m
  | _, _ => False

theorem WkL_ok {w : World} {ρ : Env} : ∀ {as bs : List SV} {vs : Array Value}, WkL as bs → ArgsRep w ρ as vs → ArgsRep w ρ bs vs := by
  have key : ∀ (as bs : List SV), WkL as bs → as.length = bs.length ∧ ∀ (j : Nat) (b : SV), bs[j]? = some b → ∃ a, as[j]? = some a ∧ Wk a b := by
    intro as
    induction as with
    | nil =>
      intro bs h
      cases bs with
      | nil => exact ⟨rfl, by simp⟩
      | cons => exact h.elim
    | cons a l ih =>
      intro bs h
      cases bs with
      | nil => exact h.elim
      | cons b m =>
        obtain ⟨h1, h2⟩ := h
        obtain ⟨i1, i2⟩ := ih m h2
        refine ⟨by simp [i1], fun j x hx => ?_⟩
        cases j with
        | zero => simp at hx; subst hx; exact ⟨a, by simp, h1⟩
        | succ j => simp at hx; obtain ⟨y, y1, y2⟩ := i2 j x hx; exact ⟨y, by simpa using y1, y2⟩
  intro as bs vs h hr
  obtain ⟨k1, k2⟩ := key as bs h
  refine ⟨hr.1.trans k1, fun j b v hb hv => ?_⟩
  obtain ⟨a, a1, a2⟩ := k2 j b hb
  exact Wk_ok a2 (hr.2 j a v a1 hv)

theorem Tri.weak {f : FuncId} {as bs : List SV} {hp : Hp} {post : SV → Prop} (h : Tri P f bs hp post) (hw : WkL as bs) : Tri P f as hp post :=
  fun w ρ vs a b c => h w ρ vs a (WkL_ok hw b) c

end
end Go.Proofs.Ytljlhoekpjkgoaa
