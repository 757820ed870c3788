/-
  Laws of scanning, in plain Lean: what follows a token does not matter; tokens of texts that are put together.
  Conditions: none.
-/
import Derived.Test.YtepebjhnefhciaaL3
namespace Go.Proofs.Ytepebjhnefhciaa

theorem tw_sep {p : UInt8 → Bool} {s : UInt8} (hs : p s = false) : ∀ (l z : List UInt8), (l ++ s :: z).takeWhile p = l.takeWhile p
  | [], z => by simp [hs]
  | c :: r, z => by
    by_cases h : p c = true
    · rw [List.cons_append, List.takeWhile_cons_of_pos h, List.takeWhile_cons_of_pos h, tw_sep hs r z]
    · rw [List.cons_append, List.takeWhile_cons_of_neg h, List.takeWhile_cons_of_neg h]

theorem sep_facts {s : UInt8} (hs : cls s.toNat = 1) : wordC s = false ∧ s.toNat ≠ 58 ∧ s.toNat ≠ 62 ∧ ¬ cls s.toNat = 3 ∧ ¬ cls s.toNat = 4 := by
  refine ⟨by simp [wordC, hs], ?_, ?_, by omega, by omega⟩
  · intro h; rw [h] at hs; exact absurd hs (by decide)
  · intro h; rw [h] at hs; exact absurd hs (by decide)

theorem runN_sep {s : UInt8} (hs : cls s.toNat = 1) (l z : List UInt8) : runN (l ++ s :: z) = runN l := by
  rw [runN, tw_sep (sep_facts hs).1, runN]

/-- What stands behind a blank does not matter. -/
theorem scan_sep {s : UInt8} (hs : cls s.toNat = 1) {l : List UInt8} (hl : l ≠ []) (z : List UInt8) : scanF (l ++ s :: z) = scanF l := by
  obtain ⟨c, r, rfl⟩ := List.exists_cons_of_ne_nil hl
  obtain ⟨hw, h58, h62, hc3, hc4⟩ := sep_facts hs
  have hr : runN (c :: (r ++ s :: z)) = runN (c :: r) := runN_sep hs (c :: r) z
  have hr2 : runN (r ++ s :: z) = runN r := runN_sep hs r z
  have hle := runN_le (c :: r)
  have hle2 := runN_le r
  rw [List.cons_append]
  simp only [scanF]
  by_cases h3 : cls c.toNat = 3
  · rw [if_pos h3, if_pos h3, hr]
    have hd : (c :: (r ++ s :: z)).drop (runN (c :: r)) = (c :: r).drop (runN (c :: r)) ++ s :: z := by
      rw [← List.cons_append, List.drop_append_of_le_length hle]
    rw [hd]
    generalize (c :: r).drop (runN (c :: r)) = d
    match d with
    | [] =>
      cases z with
      | nil => rfl
      | cons a t =>
        simp only [List.nil_append]
        rw [if_neg (fun h => h58 h.1)]
    | [x] =>
      simp only [List.cons_append, List.nil_append]
      rw [if_neg (fun h => hc3 h.2.2)]
    | x :: y :: t =>
      simp only [List.cons_append]
      have := runN_sep hs (y :: t) z
      rw [List.cons_append] at this
      rw [this]
  · rw [if_neg h3, if_neg h3]
    by_cases h5 : cls c.toNat = 5
    · rw [if_pos h5, if_pos h5]
      cases r with
      | nil =>
        simp only [List.nil_append]
        rw [if_neg h62, if_pos hc4]
      | cons y t =>
        simp only [List.cons_append] at hr2 ⊢
        rw [hr2]
        have ht : List.take (1 + runN (y :: t)) (c :: y :: (t ++ s :: z)) = List.take (1 + runN (y :: t)) (c :: y :: t) := by
          rw [← List.cons_append, ← List.cons_append, List.take_append_of_le_length (by simp at hle2 ⊢; omega)]
        rw [ht]
    · rw [if_neg h5, if_neg h5]
      have ht : List.take (runN (c :: r)) (c :: (r ++ s :: z)) = List.take (runN (c :: r)) (c :: r) := by
        rw [← List.cons_append, List.take_append_of_le_length hle]
      rw [hr, ht]

/-- The tokens alone. -/
def LT (l : List UInt8) (at_ : Nat) : List Tok := (LX l at_ 0).1

/-- A way through a text: every text is empty, or begins with a blank, a comment, invalid bytes or a token. -/
theorem lex_ind {P : List UInt8 → Nat → Int → Prop} (h0 : ∀ at_ last, P [] at_ last)
    (hb : ∀ c r at_ last, cls c.toNat = 1 → P r (at_ + 1) last → P (c :: r) at_ last)
    (hc : ∀ c r at_ last, c.toNat = 35 → P ((c :: r).dropWhile noNL) (at_ + ((c :: r).takeWhile noNL).length) last → P (c :: r) at_ last)
    (hx : ∀ c r n at_ last, ¬ cls c.toNat = 1 → ¬ c.toNat = 35 → scanF (c :: r) = (0, n) → 1 ≤ n → n ≤ (c :: r).length → P ((c :: r).drop n) (at_ + n) ((at_ + n : Nat) : Int) → P (c :: r) at_ last)
    (ht : ∀ c r k n at_ last, ¬ cls c.toNat = 1 → ¬ c.toNat = 35 → scanF (c :: r) = (k, n) → k ≠ 0 → 1 ≤ n → n ≤ (c :: r).length → P ((c :: r).drop n) (at_ + n) last → P (c :: r) at_ last) :
    ∀ l at_ last, P l at_ last := by
  have key : ∀ (m : Nat) (l : List UInt8) (at_ : Nat) (last : Int), l.length ≤ m → P l at_ last := by
    intro m
    induction m with
    | zero =>
      intro l at_ last h
      have : l = [] := List.eq_nil_of_length_eq_zero (by omega)
      subst this; exact h0 _ _
    | succ m ih =>
      intro l at_ last h
      cases l with
      | nil => exact h0 _ _
      | cons c r =>
        simp only [List.length_cons] at h
        by_cases h1 : cls c.toNat = 1
        · exact hb c r at_ last h1 (ih _ _ _ (by omega))
        · by_cases h2 : c.toNat = 35
          · refine hc c r at_ last h2 (ih _ _ _ ?_)
            have hcn : noNL c = true := by simp [noNL, h2]
            rw [List.dropWhile_cons_of_pos hcn]
            have := (List.dropWhile_suffix noNL (l := r)).length_le
            omega
          · obtain ⟨k, n, hS⟩ : ∃ k n, scanF (c :: r) = (k, n) := ⟨_, _, rfl⟩
            have hp := scanF_pos (c :: r)
            have hle := scanF_le (c :: r) (by simp)
            rw [hS] at hp hle
            simp only at hp hle
            have hlen : ((c :: r).drop n).length ≤ m := by rw [List.length_drop, List.length_cons]; omega
            by_cases hk : k = 0
            · subst hk
              exact hx c r n at_ last h1 h2 hS hp hle (ih _ _ _ hlen)
            · exact ht c r k n at_ last h1 h2 hS hk hp hle (ih _ _ _ hlen)
  intro l at_ last
  exact key l.length l at_ last (Nat.le_refl _)

theorem LT_last : ∀ l at_ last, (LX l at_ last).1 = LT l at_ := by
  refine lex_ind (P := fun l at_ last => (LX l at_ last).1 = LT l at_) ?_ ?_ ?_ ?_ ?_
  · intro at_ last; rfl
  · intro c r at_ last h ih; rw [LX_blank h, ih, LT, LT, LX_blank h]
  · intro c r at_ last h ih; rw [LX_hash h, ih, LT, LT, LX_hash h]
  · intro c r n at_ last h1 h2 hS _ _ ih; rw [LX_bad h1 h2 hS, LT, LX_bad h1 h2 hS]
  · intro c r k n at_ last h1 h2 hS hk _ _ ih
    rw [LX_tok h1 h2 hS hk, LT, LX_tok h1 h2 hS hk]
    simp only [ih]
    rfl

theorem LT_nil (at_ : Nat) : LT [] at_ = [] := rfl
theorem LT_blank {c : UInt8} {r : List UInt8} (h : cls c.toNat = 1) (at_ : Nat) : LT (c :: r) at_ = LT r (at_ + 1) := by rw [LT, LX_blank h, LT_last]
theorem LT_hash {c : UInt8} {r : List UInt8} (h : c.toNat = 35) (at_ : Nat) : LT (c :: r) at_ = LT ((c :: r).dropWhile noNL) (at_ + ((c :: r).takeWhile noNL).length) := by rw [LT, LX_hash h, LT_last]
theorem LT_bad {c : UInt8} {r : List UInt8} (h1 : ¬ cls c.toNat = 1) (h2 : ¬ c.toNat = 35) {n : Nat} (h3 : scanF (c :: r) = (0, n)) (at_ : Nat) : LT (c :: r) at_ = LT ((c :: r).drop n) (at_ + n) := by rw [LT, LX_bad h1 h2 h3, LT_last]
theorem LT_tok {c : UInt8} {r : List UInt8} (h1 : ¬ cls c.toNat = 1) (h2 : ¬ c.toNat = 35) {k n : Nat} (h3 : scanF (c :: r) = (k, n)) (hk : k ≠ 0) (at_ : Nat) :
    LT (c :: r) at_ = ⟨k, (c :: r).take n, at_⟩ :: LT ((c :: r).drop n) (at_ + n) := by rw [LT, LX_tok h1 h2 h3 hk, LT_last]

/-- A byte 10 parts a text. -/
theorem LT_nl (z : List UInt8) : ∀ l at_ (last : Int), LT (l ++ 10 :: z) at_ = LT l at_ ++ LT (10 :: z) (at_ + l.length) := by
  have h10 : cls (10 : UInt8).toNat = 1 := by decide
  refine lex_ind (P := fun l at_ _ => LT (l ++ 10 :: z) at_ = LT l at_ ++ LT (10 :: z) (at_ + l.length)) ?_ ?_ ?_ ?_ ?_
  · intro at_ _; simp [LT_nil]
  · intro c r at_ _ h ih
    rw [List.cons_append, LT_blank h, LT_blank h, ih, List.length_cons, show at_ + 1 + r.length = at_ + (r.length + 1) from by omega]
  · intro c r at_ _ h ih
    rw [List.cons_append, LT_hash h, LT_hash h, ← List.cons_append, tw_sep (by decide)]
    have e : (c :: r ++ 10 :: z).dropWhile noNL = (c :: r).dropWhile noNL ++ 10 :: z := by
      have q1 := List.takeWhile_append_dropWhile (p := noNL) (l := c :: r ++ 10 :: z)
      rw [tw_sep (by decide)] at q1
      have q2 := List.takeWhile_append_dropWhile (p := noNL) (l := c :: r)
      have q3 : (c :: r).takeWhile noNL ++ (c :: r ++ 10 :: z).dropWhile noNL = (c :: r).takeWhile noNL ++ ((c :: r).dropWhile noNL ++ 10 :: z) := by
        rw [q1, ← List.append_assoc, q2]
      exact List.append_cancel_left q3
    rw [e, ih]
    have q2 := congrArg List.length (List.takeWhile_append_dropWhile (p := noNL) (l := c :: r))
    rw [List.length_append] at q2
    rw [show at_ + ((c :: r).takeWhile noNL).length + ((c :: r).dropWhile noNL).length = at_ + (c :: r).length from by omega]
  · intro c r n at_ _ h1 h2 hS hp hle ih
    have hS' : scanF (c :: (r ++ 10 :: z)) = (0, n) := by rw [← List.cons_append, scan_sep h10 (by simp), hS]
    rw [List.cons_append, LT_bad h1 h2 hS', LT_bad h1 h2 hS, ← List.cons_append, List.drop_append_of_le_length hle, ih, List.length_drop, show at_ + n + ((c :: r).length - n) = at_ + (c :: r).length from by omega]
  · intro c r k n at_ _ h1 h2 hS hk hp hle ih
    have hS' : scanF (c :: (r ++ 10 :: z)) = (k, n) := by rw [← List.cons_append, scan_sep h10 (by simp), hS]
    rw [List.cons_append, LT_tok h1 h2 hS' hk, LT_tok h1 h2 hS hk, ← List.cons_append, List.drop_append_of_le_length hle, ih, List.length_drop, show at_ + n + ((c :: r).length - n) = at_ + (c :: r).length from by omega, List.take_append_of_le_length hle]
    rfl
end Go.Proofs.Ytepebjhnefhciaa
