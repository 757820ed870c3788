/-
  The token with which a text begins, as the reference finds it: plain facts.
  Conditions: none.
-/
import Derived.Test.YtepebjhnefhciaaL2
namespace Go.Proofs.Ytepebjhnefhciaa

theorem scan_sign2 {l : List UInt8} (h : signF (l.take 2) = true) (hl : 2 ≤ l.length) : scanF l = (3, 2) := by
  match l, hl with
  | c :: y :: t, _ =>
    have e : signF ((c :: y :: t).take 2) = decide ([c, y] = [45, 62]) := rfl
    rw [e, decide_eq_true_eq] at h
    simp only [List.cons.injEq, and_true] at h
    obtain ⟨rfl, rfl⟩ := h
    have h3 : ¬ cls (45 : UInt8).toNat = 3 := by decide
    have h5 : cls (45 : UInt8).toNat = 5 := by decide
    have hy : (62 : UInt8).toNat = 62 := by decide
    simp only [scanF]
    rw [if_neg h3, if_pos h5, if_pos hy]

theorem scan_sign1 {c : UInt8} {r : List UInt8} (h : signF [c] = true) : scanF (c :: r) = (3, 1) := by
  have h6 : cls c.toNat = 6 := by simpa [signF] using h
  unfold scanF
  simp [h6]

theorem scan_none {c : UInt8} {r : List UInt8} (h3 : ¬ cls c.toNat = 3) (h4 : ¬ cls c.toNat = 4) (hm : ∀ y t, c.toNat = 45 → r = y :: t → ¬ cls y.toNat = 4)
    (hs2 : 2 ≤ (c :: r).length → signF ((c :: r).take 2) = false) (hs1 : signF [c] = false) : scanF (c :: r) = (0, 1) := by
  have h6 : ¬ cls c.toNat = 6 := by simpa [signF] using hs1
  unfold scanF
  simp only [h3, h4, h6, if_false]
  by_cases h5 : cls c.toNat = 5
  · rw [if_pos h5]
    have hc := (cls5 _).1 h5
    cases r with
    | nil => rfl
    | cons y t =>
      simp only
      have hy : ¬ y.toNat = 62 := by
        intro hy
        have := hs2 (by simp)
        have e : signF ((c :: y :: t).take 2) = decide ([c, y] = [45, 62]) := rfl
        rw [e, show c = 45 from UInt8.toNat_inj.1 hc, show y = 62 from UInt8.toNat_inj.1 hy] at this
        simp at this
      rw [if_neg hy, if_pos (hm y t hc rfl)]
  · rw [if_neg h5]

theorem scan_minus {c : UInt8} {r : List UInt8} (hc : c.toNat = 45) (h : ∃ y t, r = y :: t ∧ cls y.toNat = 4) : scanF (c :: r) = if integerF ((c :: r).take (1 + runN r)) then (2, 1 + runN r) else (0, 1 + runN r) := by
  obtain ⟨y, t, rfl, hy⟩ := h
  have h3 : ¬ cls c.toNat = 3 := by rw [hc]; decide
  have h5 : cls c.toNat = 5 := by rw [hc]; decide
  have h62 : ¬ y.toNat = 62 := by have := (cls4 _).1 hy; omega
  simp only [scanF]
  rw [if_neg h3, if_pos h5, if_neg h62, if_neg (fun h => h hy)]

theorem scan_digit {c : UInt8} {r : List UInt8} (hc : cls c.toNat = 4) : scanF (c :: r) = if integerF ((c :: r).take (runN (c :: r))) then (2, runN (c :: r)) else (0, runN (c :: r)) := by
  have h3 : ¬ cls c.toNat = 3 := by omega
  have h5 : ¬ cls c.toNat = 5 := by omega
  simp only [scanF]
  rw [if_neg h3, if_neg h5, if_pos hc]

/-- The token that stands at a place, as the reference gives it. -/
structure GT where
  kind : Int
  text : List UInt8
  at_ : Int
  deriving DecidableEq

def tokG (l : List UInt8) (at_ : Nat) : GT := ⟨(scanF l).1, if (scanF l).1 = 0 then [] else l.take (scanF l).2, at_⟩
theorem tokG_of {l : List UInt8} {k n : Nat} (h : scanF l = (k, n)) (hk : k ≠ 0) (at_ : Nat) : tokG l at_ = ⟨k, l.take n, at_⟩ := by simp [tokG, h, hk]
theorem tokG_no {l : List UInt8} {n : Nat} (h : scanF l = (0, n)) (at_ : Nat) : tokG l at_ = ⟨0, [], at_⟩ := by simp [tokG, h]
end Go.Proofs.Ytepebjhnefhciaa
