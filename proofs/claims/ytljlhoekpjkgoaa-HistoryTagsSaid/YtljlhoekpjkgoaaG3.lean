/-
  The order of strings, in plain Lean.
  Conditions: none.
-/
import Derived.Test.YtljlhoekpjkgoaaG2
namespace Go.Proofs.Ytljlhoekpjkgoaa

def cmpB (a b : List UInt8) : Int := Lib.compareBytes a b

theorem cmpB_range : ∀ (a b : List UInt8), cmpB a b = -1 ∨ cmpB a b = 0 ∨ cmpB a b = 1
  | [], [] => by simp [cmpB, Lib.compareBytes]
  | [], _ :: _ => by simp [cmpB, Lib.compareBytes]
  | _ :: _, [] => by simp [cmpB, Lib.compareBytes]
  | x :: a, y :: b => by
    have := cmpB_range a b
    unfold cmpB at this ⊢
    simp only [Lib.compareBytes]
    split
    · exact .inl rfl
    · split
      · exact .inr (.inr rfl)
      · exact this

theorem cmpB_zero : ∀ (a b : List UInt8), cmpB a b = 0 ↔ a = b
  | [], [] => by simp [cmpB, Lib.compareBytes]
  | [], _ :: _ => by simp [cmpB, Lib.compareBytes]
  | _ :: _, [] => by simp [cmpB, Lib.compareBytes]
  | x :: a, y :: b => by
    have ih := cmpB_zero a b
    unfold cmpB at ih ⊢
    simp only [Lib.compareBytes, List.cons.injEq]
    split
    · rename_i h
      constructor
      · intro h; omega
      · rintro ⟨rfl, _⟩; exact absurd h (UInt8.lt_irrefl x)
    · split
      · rename_i h
        constructor
        · intro h; omega
        · rintro ⟨rfl, _⟩; exact absurd h (UInt8.lt_irrefl x)
      · rename_i h1 h2
        rw [ih]
        have : x = y := UInt8.le_antisymm (UInt8.not_lt.1 h2) (UInt8.not_lt.1 h1)
        simp [this]

theorem cmpB_swap : ∀ (a b : List UInt8), cmpB b a = - cmpB a b
  | [], [] => by simp [cmpB, Lib.compareBytes]
  | [], _ :: _ => by simp [cmpB, Lib.compareBytes]
  | _ :: _, [] => by simp [cmpB, Lib.compareBytes]
  | x :: a, y :: b => by
    have ih := cmpB_swap a b
    unfold cmpB at ih ⊢
    simp only [Lib.compareBytes]
    by_cases h1 : x < y
    · have h2 : ¬ y < x := fun h => UInt8.lt_irrefl x (UInt8.lt_trans h1 h)
      simp [h1, h2]
    · by_cases h2 : y < x
      · simp [h1, h2]
      · simp [h1, h2, ih]

theorem cmpB_trans : ∀ (a b c : List UInt8), cmpB a b < 0 → cmpB b c < 0 → cmpB a c < 0
  | [], [], c, h, _ => by simp [cmpB, Lib.compareBytes] at h
  | [], _ :: _, [], _, h => by simp [cmpB, Lib.compareBytes] at h
  | [], _ :: _, _ :: _, _, _ => by simp [cmpB, Lib.compareBytes]
  | _ :: _, [], c, h, _ => by simp [cmpB, Lib.compareBytes] at h
  | _ :: _, _ :: _, [], _, h => by simp [cmpB, Lib.compareBytes] at h
  | x :: a, y :: b, z :: c, h1, h2 => by
    have ih := cmpB_trans a b c
    unfold cmpB at ih h1 h2 ⊢
    simp only [Lib.compareBytes] at h1 h2 ⊢
    by_cases hxy : x < y
    · by_cases hyz : y < z
      · simp [UInt8.lt_trans hxy hyz]
      · by_cases hzy : z < y
        · simp [hyz, hzy] at h2
        · have : y = z := UInt8.le_antisymm (UInt8.not_lt.1 hzy) (UInt8.not_lt.1 hyz)
          subst this; simp [hxy]
    · by_cases hyx : y < x
      · simp [hxy, hyx] at h1
      · have : x = y := UInt8.le_antisymm (UInt8.not_lt.1 hyx) (UInt8.not_lt.1 hxy)
        subst this
        simp only [hxy, if_false] at h1
        by_cases hyz : x < z
        · simp [hyz]
        · by_cases hzy : z < x
          · simp [hyz, hzy] at h2
          · simp only [hyz, hzy, if_false] at h2 ⊢
            exact ih h1 h2

theorem bytesLess_eq : ∀ (a b : List UInt8), Op.bytesLess a b = decide (cmpB a b < 0)
  | [], [] => by simp [cmpB, Lib.compareBytes, Op.bytesLess]
  | [], _ :: _ => by simp [cmpB, Lib.compareBytes, Op.bytesLess]
  | _ :: _, [] => by simp [cmpB, Lib.compareBytes, Op.bytesLess]
  | x :: a, y :: b => by
    have ih := bytesLess_eq a b
    unfold cmpB at ih ⊢
    simp only [Lib.compareBytes, Op.bytesLess]
    by_cases h1 : x < y
    · simp [h1]
    · by_cases h2 : y < x
      · have : ¬ x = y := fun e => UInt8.lt_irrefl x (by rw [← e] at h2; exact h2)
        simp [h1, h2, this]
      · have : x = y := UInt8.le_antisymm (UInt8.not_lt.1 h2) (UInt8.not_lt.1 h1)
        subst this
        simp [ih]
end Go.Proofs.Ytljlhoekpjkgoaa
