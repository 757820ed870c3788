/-
  How the symbolic walk is reckoned by rewriting: what is looked into, and what is left closed.
  Conditions: none.
-/
import Derived.Test.YtljlhoekpjkgoaaSn
namespace Go.Proofs.Ytljlhoekpjkgoaa

def getT : List (Nat × TI) → Nat → Option TI
  | [], _ => none
  | (k, T) :: r, t => if k = t then some T else getT r t

def AllT (P : Program) : List (Nat × TI) → Prop
  | [] => True
  | (t, T) :: r => tiOf P t = some T ∧ AllT P r

theorem tyOK_of {P : Program} : ∀ {l : List (Nat × TI)}, AllT P l → TyOK P (getT l) := by
  intro l
  induction l with
  | nil => intro _ t T h; simp [getT] at h
  | cons p r ih =>
    obtain ⟨k, U⟩ := p
    intro h t T hg
    simp only [getT] at hg
    by_cases e : k = t
    · subst e; simp at hg; subst hg; exact h.1
    · simp [e] at hg; exact ih h.2 t T hg

def kp : List Nat → Nat → Bool
  | [], _ => false
  | k :: r, t => if k = t then true else kp r t

theorem Wk_refl (s : SV) : Wk s s := by rw [Wk_self]; trivial

theorem byte_lt (c : UInt8) : (c.toNat : Int).toNat < 256 := by have := c.toNat_lt; omega

/-- An element of a list that is written row by row. -/
theorem row_at {α : Type} {f : α → List D} {l : List α} {i : Nat} (h : i < l.length) : (l.map f)[i]? = some (f l[i]) := by
  rw [List.getElem?_map, List.getElem?_eq_getElem h]; rfl

end Go.Proofs.Ytljlhoekpjkgoaa
