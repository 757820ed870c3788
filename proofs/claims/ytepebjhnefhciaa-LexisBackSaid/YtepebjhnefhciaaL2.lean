/-
  The words of the reference's lexis, in plain Lean.
  Conditions: none.
-/
import Derived.Test.YtepebjhnefhciaaL1
namespace Go.Proofs.Ytepebjhnefhciaa

def letB (c : UInt8) : Bool := decide (97 ≤ c.toNat ∧ c.toNat ≤ 122) || decide (65 ≤ c.toNat ∧ c.toNat ≤ 90)

theorem cls3 (n : Nat) : cls n = 3 ↔ (97 ≤ n ∧ n ≤ 122) ∨ (65 ≤ n ∧ n ≤ 90) ∨ n = 95 := by
  unfold cls; repeat' split
  all_goals omega
theorem cls4 (n : Nat) : cls n = 4 ↔ 48 ≤ n ∧ n ≤ 57 := by
  unfold cls; repeat' split
  all_goals omega
theorem cls5 (n : Nat) : cls n = 5 ↔ n = 45 := by
  unfold cls; repeat' split
  all_goals omega
theorem cls1 (n : Nat) : cls n = 1 ↔ n = 32 ∨ n = 9 ∨ n = 10 ∨ n = 13 := by
  unfold cls; repeat' split
  all_goals omega
theorem cls6 (n : Nat) : cls n = 6 ↔ n = 40 ∨ n = 41 ∨ n = 91 ∨ n = 93 ∨ n = 123 ∨ n = 125 ∨ n = 44 ∨ n = 46 ∨ n = 60 ∨ n = 61 ∨ n = 124 ∨ n = 63 := by
  unfold cls; repeat' split
  all_goals omega
theorem cls2 (n : Nat) : cls n = 2 ↔ n = 35 := by
  unfold cls; repeat' split
  all_goals omega

theorem letB_iff (c : UInt8) : letB c = true ↔ cls c.toNat = 3 ∧ c.toNat ≠ 95 := by
  simp only [letB, Bool.or_eq_true, decide_eq_true_eq, cls3]; omega

def simpleF (l : List UInt8) : Nat := match l with | [] => 0 | c :: r => if cls c.toNat = 3 then runN (c :: r) else 0

theorem simpleF_le (l : List UInt8) : simpleF l ≤ l.length := by
  unfold simpleF; split
  · simp
  · split
    · exact runN_le _
    · simp

/-- The length of the word with which a text begins. -/
def wordF (l : List UInt8) : Nat :=
  match l.drop (simpleF l) with
  | x :: y :: t => if 0 < simpleF l ∧ x.toNat = 58 ∧ letB y = true then simpleF l + (1 + simpleF (y :: t)) else simpleF l
  | _ => simpleF l

theorem wordF_scan {c : UInt8} {r : List UInt8} (h : cls c.toNat = 3) : scanF (c :: r) = (1, wordF (c :: r)) := by
  have hs : simpleF (c :: r) = runN (c :: r) := by simp [simpleF, h]
  have hp := runN_pos (c := c) (r := r) (.inl h)
  unfold scanF wordF
  simp only [h, if_true, hs]
  generalize (c :: r).drop (runN (c :: r)) = d
  match d with
  | [] => rfl
  | [_] => rfl
  | x :: y :: t =>
    simp only
    by_cases hc : x.toNat = 58 ∧ y.toNat ≠ 95 ∧ cls y.toNat = 3
    · rw [if_pos hc, if_pos ⟨hp, hc.1, (letB_iff y).2 ⟨hc.2.2, hc.2.1⟩⟩]
      simp [simpleF, hc.2.2]
    · rw [if_neg hc, if_neg (fun h => hc ⟨h.2.1, ((letB_iff y).1 h.2.2).2, ((letB_iff y).1 h.2.2).1⟩)]

theorem wordF_zero {l : List UInt8} (h : ∀ c r, l = c :: r → ¬ cls c.toNat = 3) : wordF l = 0 := by
  have hs : simpleF l = 0 := by
    unfold simpleF; split
    · rfl
    · rw [if_neg (h _ _ rfl)]
  unfold wordF
  rw [hs]
  split <;> simp

theorem wordF_pos {c : UInt8} {r : List UInt8} (h : cls c.toNat = 3) : 0 < wordF (c :: r) := by
  have := scanF_pos (c :: r)
  rw [wordF_scan h] at this
  exact this

theorem wordF_le (l : List UInt8) : wordF l ≤ l.length := by
  cases l with
  | nil => simp [wordF, simpleF]
  | cons c r =>
    by_cases h : cls c.toNat = 3
    · have := scanF_le (c :: r) (by simp)
      rw [wordF_scan h] at this
      exact this
    · rw [wordF_zero (by rintro _ _ ⟨⟩; exact h)]; simp

def signF (l : List UInt8) : Bool := match l with | [c] => decide (cls c.toNat = 6) | l => decide (l = [45, 62])

theorem digC_cls (c : UInt8) : digC c = true ↔ cls c.toNat = 4 := by
  simp only [digC, Bool.and_eq_true, decide_eq_true_eq, cls4]; omega

theorem runN_all {l : List UInt8} (h : l.all digC = true) : runN l = l.length := by
  induction l with
  | nil => rfl
  | cons c r ih =>
    simp only [List.all_cons, Bool.and_eq_true] at h
    have hc : wordC c = true := by simp [wordC, (digC_cls c).1 h.1]
    unfold runN at ih ⊢
    rw [List.takeWhile_cons_of_pos hc, List.length_cons, ih h.2, List.length_cons]

theorem scan_not1 {c : UInt8} {r : List UInt8} (h : ¬ cls c.toNat = 3) : (scanF (c :: r)).1 ≠ 1 := by
  unfold scanF
  simp only [h, if_false]
  repeat' split
  all_goals simp

/-- A word, by the reference. -/
theorem word_iff (l : List UInt8) : (decide (0 < l.length) && decide (wordF l = l.length)) = true ↔ l ≠ [] ∧ scanF l = (1, l.length) := by
  cases l with
  | nil => simp
  | cons c r =>
    by_cases h : cls c.toNat = 3
    · rw [wordF_scan h]; simp
    · rw [wordF_zero (by rintro _ _ ⟨⟩; exact h)]
      have := scan_not1 (r := r) h
      simp
      intro h2
      rw [h2] at this
      exact this rfl

theorem integerF_of {l : List UInt8} (h : scanF l = (2, l.length)) (hl : l ≠ []) : integerF l = true := by
  obtain ⟨c, r, rfl⟩ := List.exists_cons_of_ne_nil hl
  unfold scanF at h
  simp only at h
  by_cases h3 : cls c.toNat = 3
  · rw [if_pos h3] at h
    split at h
    · split at h <;> simp at h
    · simp at h
  · rw [if_neg h3] at h
    by_cases h5 : cls c.toNat = 5
    · rw [if_pos h5] at h
      split at h
      · simp at h
      · rename_i y t
        split at h
        · simp at h
        · split at h
          · simp at h
          · split at h
            · rename_i hi
              simp only [Prod.mk.injEq, true_and] at h
              rw [h, List.take_length] at hi
              exact hi
            · simp at h
    · rw [if_neg h5] at h
      split at h
      · split at h
        · rename_i hi
          simp only [Prod.mk.injEq, true_and] at h
          rw [h, List.take_length] at hi
          exact hi
        · simp at h
      · split at h <;> simp at h

theorem integerF_scan {l : List UInt8} (h : integerF l = true) : l ≠ [] ∧ scanF l = (2, l.length) := by
  have hi := h
  unfold integerF at h
  simp only [Bool.or_eq_true, beq_iff_eq] at h
  rcases h with h | h
  · subst h; exact ⟨by simp, by decide⟩
  · cases l with
    | nil => simp [cutMinus, intBody] at h
    | cons c r =>
      refine ⟨by simp, ?_⟩
      simp only [cutMinus] at h
      by_cases hc : c.toNat = 45
      · rw [if_pos hc] at h
        cases r with
        | nil => simp [intBody] at h
        | cons y t =>
          simp only [intBody, Bool.and_eq_true] at h
          have hr := runN_all h.2
          have hy : cls y.toNat = 4 := (digC_cls y).1 (List.all_eq_true.1 h.2 y (List.mem_cons_self ..))
          have hy2 := (cls4 _).1 hy
          have e1 : ¬ cls c.toNat = 3 := by rw [hc]; decide
          have e2 : cls c.toNat = 5 := by rw [hc]; decide
          have e3 : ¬ y.toNat = 62 := by omega
          unfold scanF
          simp only [e1, e2, e3, hy, if_true, if_false, ne_eq, not_true_eq_false, hr]
          rw [show (c :: y :: t).take (1 + (y :: t).length) = c :: y :: t from List.take_of_length_le (by simp; omega), if_pos hi]
          simp; omega
      · rw [if_neg hc] at h
        simp only [intBody, Bool.and_eq_true] at h
        have hr := runN_all h.2
        have hy : cls c.toNat = 4 := (digC_cls c).1 (List.all_eq_true.1 h.2 c (List.mem_cons_self ..))
        unfold scanF
        simp only [hy, hr, List.take_length, hi, if_true]
        simp

theorem integer_iff (l : List UInt8) : integerF l = true ↔ l ≠ [] ∧ scanF l = (2, l.length) :=
  ⟨integerF_scan, fun h => integerF_of h.2 h.1⟩

theorem sign_iff (l : List UInt8) : signF l = true ↔ l ≠ [] ∧ scanF l = (3, l.length) := by
  match l with
  | [] => simp [signF]
  | [c] =>
    simp only [signF, decide_eq_true_eq, ne_eq, List.cons_ne_nil, not_false_eq_true, true_and, List.length_cons, List.length_nil]
    constructor
    · intro h; simp [scanF, h]
    · intro h
      by_cases h6 : cls c.toNat = 6
      · exact h6
      · exfalso
        unfold scanF at h
        simp only [h6, if_false] at h
        repeat' split at h
        all_goals simp at h
  | c :: y :: t =>
    have e : signF (c :: y :: t) = decide (c :: y :: t = [45, 62]) := rfl
    rw [e, decide_eq_true_eq]
    constructor
    · intro h; rw [h]; exact ⟨by simp, by decide⟩
    · rintro ⟨_, h⟩
      unfold scanF at h
      simp only at h
      by_cases h3 : cls c.toNat = 3
      · rw [if_pos h3] at h
        split at h
        · split at h <;> simp at h
        · simp at h
      · rw [if_neg h3] at h
        by_cases h5 : cls c.toNat = 5
        · rw [if_pos h5] at h
          split at h
          · rename_i hy
            simp at h
            subst h
            have hc := (cls5 _).1 h5
            rw [show c = 45 from UInt8.toNat_inj.1 hc, show y = 62 from UInt8.toNat_inj.1 hy]
          · repeat' split at h
            all_goals simp at h
        · rw [if_neg h5] at h
          repeat' split at h
          all_goals simp at h
end Go.Proofs.Ytepebjhnefhciaa
