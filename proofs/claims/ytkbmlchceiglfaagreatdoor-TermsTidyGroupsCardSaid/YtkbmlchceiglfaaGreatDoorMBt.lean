/-
  Terms: what a valid concept and a valid axiom are; tidying keeps axioms valid.
  Conditions: none.
-/
import Derived.Test.YtkbmlchceiglfaaGreatDoorMBs
namespace Go.Proofs.YtkbmlchceiglfaaGreatDoor
set_option linter.unnecessarySimpa false
set_option linter.unusedSectionVars false
set_option linter.unusedSimpArgs false
set_option linter.unusedVariables false
open Go.Proofs

theorem firstE_iff : ∀ (l : List Cn), firstE l = 0 ↔ ∀ x ∈ l, fieldsE x = 0 := fun l =>
  ⟨fun h => firstE_zero h, fun h => by have := firstE_skip l [] h; rw [List.append_nil] at this; rw [this]; rfl⟩

mutual
theorem fitsF_iff : ∀ (c : Cn) (d n : Int), ((fitsF c d n).1 = true ↔ d + depthF c ≤ 8 ∧ n + sizeF c ≤ 64)
  | .mk k s lo hi ps, d, n => by
    have e : sizeF (.mk k s lo hi ps) = sumN ps + 1 := sizeF_sum _
    rw [fitsF, depthF, e]
    split
    · rename_i h
      simp only [Bool.false_eq_true, false_iff]
      omega
    · rename_i h
      rw [fitsL_iff ps d (n + 1) (by omega) (by omega)]
      omega
theorem fitsL_iff : ∀ (l : List Cn) (d n : Int), d ≤ 8 → n ≤ 64 → ((fitsL l d n).1 = true ↔ d + depthL l ≤ 8 ∧ n + sumN l ≤ 64)
  | [], d, n, hd, hn => by
    rw [fitsL, depthL, sumN_nil]
    simp only [true_iff]
    omega
  | c :: r, d, n, hd, hn => by
    have h1 := fitsF_iff c (d + 1) n
    have h2 := fitsF_size c (d + 1) n
    rw [fitsL, depthL, sumN_cons]
    split
    · rename_i hb
      rw [hb] at h1
      have h1 := h1.1 rfl
      rw [h2 hb, fitsL_iff r d _ hd (by omega)]
      omega
    · rename_i hb
      have h1 : ¬ (d + 1 + depthF c ≤ 8 ∧ n + sizeF c ≤ 64) := fun h => hb (h1.2 h)
      simp only [Bool.false_eq_true, false_iff]
      omega
end

theorem conceptE_iff (c : Cn) : conceptE c = 0 ↔ depthF c ≤ 8 ∧ sizeF c ≤ 64 ∧ Okn c := by
  have h := fitsF_iff c 0 0
  unfold conceptE
  split
  · rename_i hf
    rw [hf] at h
    constructor
    · intro h; exact absurd h (by decide)
    · rintro ⟨h1, h2, _⟩
      exact absurd (h.2 ⟨by omega, by omega⟩) (by decide)
  · rename_i hf
    have hf : (fitsF c 0 0).1 = true := by simpa using hf
    have h1 := h.1 hf
    rw [firstE_iff]
    exact ⟨fun h => ⟨by omega, by omega, h⟩, fun h => h.2.2⟩

theorem concept_tidy {c : Cn} (h : conceptE c = 0) (h0 : (tidyC c).2 = 0) : conceptE (tidyC c).1 = 0 ∧ NamesIn (tidyC c).1 c ∧ (bareF (tidyC c).1 = true → bareF c = true) := by
  obtain ⟨h1, h2, h3⟩ := (conceptE_iff c).1 h
  have hk := tidy_keep c h3 h0
  have hs := tidyC_size c
  exact ⟨(conceptE_iff _).2 ⟨by have := hk.dep; omega, by omega, hk.ok⟩, hk.nam, hk.bare⟩

/-! ### names -/

theorem name_of {c : Cn} {k : Int} {s : List UInt8} (h : Okn c) (hk : k = 3 ∨ k = 4 ∨ k = 6 ∨ k = 7) (hs : hasK k c s) : nameF s = true := by
  obtain ⟨n, hn, e1, rfl⟩ := hs
  have hf := h n hn
  have hE : nameE (needAt k) n.name = 0 := by
    rw [fieldsE_at e1 (by omega)] at hf
    by_cases h7 : k = 7
    · subst h7
      unfold fieldsN at hf
      split at hf
      · exact absurd hf (by decide)
      · rw [if_pos (show (needAt 7).nums = true from rfl)] at hf
        split at hf
        · exact absurd hf (by decide)
        · exact hf
    · have hn : (needAt k).nums = false := by rcases hk with rfl | rfl | rfl | rfl <;> first | rfl | exact absurd rfl h7
      exact ((fieldsN_zero hn).1 hf).2.2
  unfold nameE at hE
  split at hE
  · rename_i h1
    unfold nameF
    rcases h1 with h1 | h1 | ⟨_, h1⟩
    · rcases hk with rfl | rfl | rfl | rfl <;> exact absurd h1 (by decide)
    · rw [h1]; rfl
    · rw [h1, Bool.or_true]
  · exact absurd hE (by decide)

theorem empty_eq {c : Cn} (h : emptyF c = true) : c = c0 := by
  obtain ⟨k, n, lo, hi, ps⟩ := c
  have h : (decide (k = 0) && (decide (n = []) && (decide (lo = 0) && (decide (hi = 0) && decide (ps = []))))) = true := h
  simp only [Bool.and_eq_true, decide_eq_true_eq] at h
  obtain ⟨rfl, rfl, rfl, rfl, rfl⟩ := h
  rfl

theorem hasK_c0 {k : Int} {s : List UInt8} (hk : k ≠ 0) : ¬ hasK k c0 s := by
  rw [hasK_iff]
  rintro (⟨e, _⟩ | ⟨p, hp, _⟩)
  · exact hk e.symm
  · simp [c0, Cn.parts] at hp
end Go.Proofs.YtkbmlchceiglfaaGreatDoor
