/-
  Laws of scanning, in plain Lean: joined tokens are scanned back; a token's text scans to itself; comments part texts.
  Conditions: none.
-/
import Derived.Test.YtepebjhnefhciaaL4
namespace Go.Proofs.Ytepebjhnefhciaa

theorem scan_start {c : UInt8} {r : List UInt8} {k n : Nat} (h : scanF (c :: r) = (k, n)) (hk : k ≠ 0) : ¬ cls c.toNat = 1 ∧ ¬ c.toNat = 35 := by
  constructor
  · intro h1
    have : scanF (c :: r) = (0, 1) := by simp [scanF, h1]
    rw [this] at h; injection h with h2 h3; exact hk h2.symm
  · intro h1
    have h2 : cls c.toNat = 2 := by rw [h1]; decide
    have : scanF (c :: r) = (0, 1) := by simp [scanF, h2]
    rw [this] at h; injection h with h2 h3; exact hk h2.symm

/-- The tokens of joined texts. -/
def joinToks : List (Nat × List UInt8) → Nat → List Tok
  | [], _ => []
  | (k, x) :: r, at_ => ⟨k, x, at_⟩ :: joinToks r (at_ + x.length + 1)

def joinX (l : List (Nat × List UInt8)) : List UInt8 := (l.flatMap fun t => 32 :: t.2).drop 1

theorem joinX_cons (t : Nat × List UInt8) (r : List (Nat × List UInt8)) : joinX (t :: r) = t.2 ++ r.flatMap fun t => 32 :: t.2 := by simp [joinX]

theorem LX_join : ∀ (l : List (Nat × List UInt8)), (∀ t ∈ l, t.2 ≠ [] ∧ t.1 ≠ 0 ∧ scanF t.2 = (t.1, t.2.length)) → ∀ (at_ : Nat) (last : Int), LX (joinX l) at_ last = (joinToks l at_, [])
  | [], _, at_, last => rfl
  | (k, x) :: r, h, at_, last => by
    obtain ⟨hx, hk, hs⟩ := h (k, x) (List.mem_cons_self ..)
    simp only at hx hk hs
    have ih := LX_join r (fun t ht => h t (List.mem_cons_of_mem _ ht)) (at_ + x.length + 1) last
    obtain ⟨c, y, rfl⟩ := List.exists_cons_of_ne_nil hx
    obtain ⟨h1, h2⟩ := scan_start hs hk
    rw [joinX_cons]
    simp only
    have h32 : cls (32 : UInt8).toNat = 1 := by decide
    cases r with
    | nil =>
      simp only [List.flatMap_nil, List.append_nil]
      rw [LX_tok h1 h2 hs hk, List.take_length, List.drop_length, LX_nil]
      rfl
    | cons t r' =>
      have e : ((t :: r').flatMap fun t => 32 :: t.2) = 32 :: joinX (t :: r') := by simp [joinX]
      rw [e]
      have hs' : scanF (c :: (y ++ 32 :: joinX (t :: r'))) = (k, (c :: y).length) := by rw [← List.cons_append, scan_sep h32 (by simp), hs]
      rw [List.cons_append, LX_tok h1 h2 hs' hk, ← List.cons_append, List.take_left, List.drop_left, LX_blank h32, ih]
      rfl

theorem joinToks_len : ∀ (l : List (Nat × List UInt8)) (at_ : Nat), (joinToks l at_).length = l.length
  | [], _ => rfl
  | (k, x) :: r, at_ => by simp [joinToks, joinToks_len r]

theorem joinToks_map : ∀ (l : List (Nat × List UInt8)) (at_ : Nat), (joinToks l at_).map (fun t => (t.kind, t.text)) = l
  | [], _ => rfl
  | (k, x) :: r, at_ => by simp [joinToks, joinToks_map r]

/-- Tokens stand one behind the other. -/
theorem LT_bounds : ∀ l at_ (last : Int), (∀ t ∈ LT l at_, at_ ≤ t.at_ ∧ t.at_ + t.text.length ≤ at_ + l.length ∧ t.text ≠ []) := by
  refine lex_ind (P := fun l at_ _ => ∀ t ∈ LT l at_, at_ ≤ t.at_ ∧ t.at_ + t.text.length ≤ at_ + l.length ∧ t.text ≠ []) ?_ ?_ ?_ ?_ ?_
  · intro at_ _ t ht; rw [LT_nil] at ht; cases ht
  · intro c r at_ _ h ih t ht
    rw [LT_blank h] at ht
    have := ih t ht
    simp only [List.length_cons]
    exact ⟨by omega, by omega, this.2.2⟩
  · intro c r at_ _ h ih t ht
    rw [LT_hash h] at ht
    have := ih t ht
    have q := congrArg List.length (List.takeWhile_append_dropWhile (p := noNL) (l := c :: r))
    rw [List.length_append] at q
    exact ⟨by omega, by omega, this.2.2⟩
  · intro c r n at_ _ h1 h2 hS hp hle ih t ht
    rw [LT_bad h1 h2 hS] at ht
    have := ih t ht
    rw [List.length_drop] at this
    exact ⟨by omega, by omega, this.2.2⟩
  · intro c r k n at_ _ h1 h2 hS hk hp hle ih t ht
    rw [LT_tok h1 h2 hS hk, List.mem_cons] at ht
    rcases ht with rfl | ht
    · simp only [List.length_take]
      refine ⟨Nat.le_refl _, by omega, fun h => ?_⟩
      have := congrArg List.length h
      rw [List.length_take] at this
      simp only [List.length_nil] at this
      omega
    · have := ih t ht
      rw [List.length_drop] at this
      exact ⟨by omega, by omega, this.2.2⟩

/-- A text that stands elsewhere. -/
def shiftT (d : Nat) (t : Tok) : Tok := ⟨t.kind, t.text, t.at_ + d⟩

theorem LT_shift (d : Nat) : ∀ l at_ (last : Int), LT l (at_ + d) = (LT l at_).map (shiftT d) := by
  refine lex_ind (P := fun l at_ _ => LT l (at_ + d) = (LT l at_).map (shiftT d)) ?_ ?_ ?_ ?_ ?_
  · intro at_ _; rfl
  · intro c r at_ _ h ih
    rw [LT_blank h, LT_blank h, ← ih, show at_ + d + 1 = at_ + 1 + d from by omega]
  · intro c r at_ _ h ih
    rw [LT_hash h, LT_hash h, ← ih, show at_ + d + ((c :: r).takeWhile noNL).length = at_ + ((c :: r).takeWhile noNL).length + d from by omega]
  · intro c r n at_ _ h1 h2 hS _ _ ih
    rw [LT_bad h1 h2 hS, LT_bad h1 h2 hS, ← ih, show at_ + d + n = at_ + n + d from by omega]
  · intro c r k n at_ _ h1 h2 hS hk _ _ ih
    rw [LT_tok h1 h2 hS hk, LT_tok h1 h2 hS hk, List.map_cons, ← ih, show at_ + d + n = at_ + n + d from by omega]
    rfl

/-- A comment between two texts. -/
theorem LT_remark (a remark b : List UInt8) (h : ∀ c ∈ remark, noNL c = true) : LT (a ++ 10 :: 35 :: (remark ++ 10 :: b)) 0 = LT a 0 ++ (LT b 0).map (shiftT (a.length + remark.length + 3)) := by
  have h10 : cls (10 : UInt8).toNat = 1 := by decide
  have h35 : (35 : UInt8).toNat = 35 := by decide
  rw [LT_nl _ a 0 0, LT_blank h10, LT_hash h35]
  have hn : ∀ l : List UInt8, (∀ c ∈ l, noNL c = true) → (l ++ 10 :: b).takeWhile noNL = l ∧ (l ++ 10 :: b).dropWhile noNL = 10 :: b := by
    intro l
    induction l with
    | nil => intro _; exact ⟨by simp [noNL], by simp [noNL]⟩
    | cons c r ih =>
      intro hl
      have hc := hl c (List.mem_cons_self ..)
      obtain ⟨i1, i2⟩ := ih (fun x hx => hl x (List.mem_cons_of_mem _ hx))
      rw [List.cons_append, List.takeWhile_cons_of_pos hc, List.dropWhile_cons_of_pos hc, i1, i2]
      exact ⟨rfl, rfl⟩
  obtain ⟨e1, e2⟩ := hn (35 :: remark) (fun c hc => by
    rcases List.mem_cons.1 hc with rfl | hc
    · decide
    · exact h c hc)
  rw [List.cons_append] at e1 e2
  rw [e1, e2, LT_blank h10, ← LT_shift _ b 0 0]
  congr 2
  simp only [List.length_cons]
  omega
end Go.Proofs.Ytepebjhnefhciaa
