/-
  The words of the language, in plain Lean: what the lexis computes.
  Conditions: none.
-/
import Derived.Test.YtepebjhnefhciaaTz
namespace Go.Proofs.Ytepebjhnefhciaa

/-- The class of a byte. -/
def cls (n : Nat) : Int :=
  if n = 32 ∨ n = 9 ∨ n = 10 ∨ n = 13 then 1
  else if n = 35 then 2
  else if (97 ≤ n ∧ n ≤ 122) ∨ (65 ≤ n ∧ n ≤ 90) ∨ n = 95 then 3
  else if 48 ≤ n ∧ n ≤ 57 then 4
  else if n = 45 then 5
  else if n = 40 ∨ n = 41 ∨ n = 91 ∨ n = 93 ∨ n = 123 ∨ n = 125 ∨ n = 44 ∨ n = 46 ∨ n = 60 ∨ n = 61 ∨ n = 124 ∨ n = 63 then 6
  else 0

def wordC (c : UInt8) : Bool := cls c.toNat = 3 || cls c.toNat = 4
def noNL (c : UInt8) : Bool := !(c.toNat == 10)
def runN (l : List UInt8) : Nat := (l.takeWhile wordC).length
def digC (c : UInt8) : Bool := decide (48 ≤ (c.toNat : Int)) && decide ((c.toNat : Int) ≤ 57)

def cutMinus (l : List UInt8) : List UInt8 := match l with | [] => [] | c :: r => if c.toNat = 45 then r else c :: r

def intBody (m : List UInt8) : Bool := match m with | [] => false | c :: r => decide (r.length < 18) && !(c.toNat == 48) && (c :: r).all digC

def integerF (l : List UInt8) : Bool := (l == [48]) || intBody (cutMinus l)

/-- The kind and the length of the token with which a text begins. -/
def scanF (l : List UInt8) : Nat × Nat :=
  match l with
  | [] => (0, 1)
  | c :: r =>
    if cls c.toNat = 3 then
      match (c :: r).drop (runN (c :: r)) with
      | x :: y :: t => if x.toNat = 58 ∧ y.toNat ≠ 95 ∧ cls y.toNat = 3 then (1, runN (c :: r) + (1 + runN (y :: t))) else (1, runN (c :: r))
      | _ => (1, runN (c :: r))
    else if cls c.toNat = 5 then
      match r with
      | [] => (0, 1)
      | y :: t => if y.toNat = 62 then (3, 2) else if cls y.toNat ≠ 4 then (0, 1) else
        if integerF ((c :: r).take (1 + runN r)) then (2, 1 + runN r) else (0, 1 + runN r)
    else if cls c.toNat = 4 then
      if integerF ((c :: r).take (runN (c :: r))) then (2, runN (c :: r)) else (0, runN (c :: r))
    else if cls c.toNat = 6 then (3, 1)
    else (0, 1)

structure Tok where
  kind : Nat
  text : List UInt8
  at_ : Nat
  deriving DecidableEq, Repr

/-- The tokens of a text that stands at an offset, and the offsets of the bytes that begin none. -/
def lexF : Nat → List UInt8 → Nat → Int → List Tok × List Nat
  | 0, _, _, _ => ([], [])
  | _ + 1, [], _, _ => ([], [])
  | f + 1, c :: r, at_, last =>
    if cls c.toNat = 1 then lexF f r (at_ + 1) last
    else if c.toNat = 35 then lexF f ((c :: r).dropWhile noNL) (at_ + ((c :: r).takeWhile noNL).length) last
    else
      let kn := scanF (c :: r)
      if kn.1 = 0 then
        let p := lexF f ((c :: r).drop kn.2) (at_ + kn.2) ((at_ + kn.2 : Nat) : Int)
        (p.1, if (at_ : Int) ≠ last then at_ :: p.2 else p.2)
      else
        let p := lexF f ((c :: r).drop kn.2) (at_ + kn.2) last
        (⟨kn.1, (c :: r).take kn.2, at_⟩ :: p.1, p.2)

theorem runN_pos {c : UInt8} {r : List UInt8} (h : cls c.toNat = 3 ∨ cls c.toNat = 4) : 1 ≤ runN (c :: r) := by
  have : wordC c = true := by simp [wordC]; exact h
  rw [runN, List.takeWhile_cons_of_pos this]; simp

theorem runN_le (l : List UInt8) : runN l ≤ l.length := (List.takeWhile_prefix wordC (l := l)).length_le

theorem scanF_pos (l : List UInt8) : 1 ≤ (scanF l).2 := by
  unfold scanF
  split
  · simp
  · rename_i c r
    split
    · have := runN_pos (c := c) (r := r) (.inl (by assumption))
      split
      · split
        · simp only; omega
        · exact this
      · exact this
    · split
      · split
        · simp
        · split
          · simp
          · split
            · simp
            · split <;> simp only <;> omega
      · split
        · have := runN_pos (c := c) (r := r) (.inr (by assumption))
          split <;> exact this
        · split <;> simp

theorem scanF_le (l : List UInt8) (h : l ≠ []) : (scanF l).2 ≤ l.length := by
  unfold scanF
  split
  · exact absurd rfl h
  · rename_i c r
    have hr := runN_le (c :: r)
    split
    · split
      · rename_i x y t hd
        have hl : ((c :: r).drop (runN (c :: r))).length = t.length + 2 := by rw [hd]; simp
        rw [List.length_drop] at hl
        have := runN_le (y :: t)
        simp only [List.length_cons] at hr hl this
        split
        · simp only [List.length_cons]; omega
        · simp only [List.length_cons]; omega
      · exact hr
    · split
      · split
        · simp
        · rename_i y t
          have := runN_le (y :: t)
          simp only [List.length_cons] at this
          split
          · simp
          · split
            · simp
            · split <;> simp only [List.length_cons] <;> omega
      · split
        · split <;> exact hr
        · split <;> simp

/-- The fuel is no matter. -/
theorem lexF_fuel : ∀ (f g : Nat) (l : List UInt8) (at_ : Nat) (last : Int), l.length ≤ f → l.length ≤ g → lexF f l at_ last = lexF g l at_ last := by
  intro f
  induction f with
  | zero =>
    intro g l at_ last h1 _
    have : l = [] := by cases l with | nil => rfl | cons => simp at h1
    subst this
    cases g <;> simp [lexF]
  | succ f ih =>
    intro g l at_ last h1 h2
    cases l with
    | nil => cases g <;> simp [lexF]
    | cons c r =>
      cases g with
      | zero => simp at h2
      | succ g =>
        simp only [List.length_cons] at h1 h2
        simp only [lexF]
        have hs := scanF_pos (c :: r)
        split
        · exact ih g r _ _ (by omega) (by omega)
        · split
          · rename_i h35
            have : ((c :: r).dropWhile noNL).length ≤ r.length := by
              have hc : noNL c = true := by simp [noNL, h35]
              rw [List.dropWhile_cons_of_pos hc]
              exact (List.dropWhile_suffix _).length_le
            exact ih g _ _ _ (by omega) (by omega)
          · have : ((c :: r).drop (scanF (c :: r)).2).length ≤ r.length := by
              rw [List.length_drop, List.length_cons]; omega
            rw [ih g ((c :: r).drop (scanF (c :: r)).2) _ _ (by omega) (by omega), ih g ((c :: r).drop (scanF (c :: r)).2) _ last (by omega) (by omega)]

def LX (l : List UInt8) (at_ : Nat) (last : Int) : List Tok × List Nat := lexF l.length l at_ last

theorem LX_nil (at_ : Nat) (last : Int) : LX [] at_ last = ([], []) := rfl

theorem LX_blank {c : UInt8} {r : List UInt8} (h : cls c.toNat = 1) (at_ : Nat) (last : Int) : LX (c :: r) at_ last = LX r (at_ + 1) last := by
  simp only [LX, List.length_cons, lexF, h, if_true]

theorem LX_hash {c : UInt8} {r : List UInt8} (h : c.toNat = 35) (at_ : Nat) (last : Int) :
    LX (c :: r) at_ last = LX ((c :: r).dropWhile noNL) (at_ + ((c :: r).takeWhile noNL).length) last := by
  have h1 : ¬ cls c.toNat = 1 := by rw [h]; decide
  have hl : ((c :: r).dropWhile noNL).length ≤ r.length := by
    have hc : noNL c = true := by simp [noNL, h]
    rw [List.dropWhile_cons_of_pos hc]
    exact (List.dropWhile_suffix _).length_le
  rw [LX, List.length_cons, lexF, if_neg h1, if_pos h]
  exact lexF_fuel _ _ _ _ _ hl (Nat.le_refl _)

theorem LX_bad {c : UInt8} {r : List UInt8} (h1 : ¬ cls c.toNat = 1) (h2 : ¬ c.toNat = 35) {n : Nat} (h3 : scanF (c :: r) = (0, n)) (at_ : Nat) (last : Int) :
    LX (c :: r) at_ last = ((LX ((c :: r).drop n) (at_ + n) ((at_ + n : Nat) : Int)).1, if (at_ : Int) ≠ last then at_ :: (LX ((c :: r).drop n) (at_ + n) ((at_ + n : Nat) : Int)).2 else (LX ((c :: r).drop n) (at_ + n) ((at_ + n : Nat) : Int)).2) := by
  have hn : 1 ≤ n := by have := scanF_pos (c :: r); rw [h3] at this; exact this
  have hl : ((c :: r).drop n).length ≤ r.length := by rw [List.length_drop, List.length_cons]; omega
  have e : ∀ last, lexF r.length ((c :: r).drop n) (at_ + n) last = LX ((c :: r).drop n) (at_ + n) last := fun last => lexF_fuel _ _ _ _ _ hl (Nat.le_refl _)
  rw [LX, List.length_cons, lexF, if_neg h1, if_neg h2]
  simp only [h3, if_true, e]

theorem LX_tok {c : UInt8} {r : List UInt8} (h1 : ¬ cls c.toNat = 1) (h2 : ¬ c.toNat = 35) {k n : Nat} (h3 : scanF (c :: r) = (k, n)) (hk : k ≠ 0) (at_ : Nat) (last : Int) :
    LX (c :: r) at_ last = (⟨k, (c :: r).take n, at_⟩ :: (LX ((c :: r).drop n) (at_ + n) last).1, (LX ((c :: r).drop n) (at_ + n) last).2) := by
  have hn : 1 ≤ n := by have := scanF_pos (c :: r); rw [h3] at this; exact this
  have hl : ((c :: r).drop n).length ≤ r.length := by rw [List.length_drop, List.length_cons]; omega
  have e : ∀ last, lexF r.length ((c :: r).drop n) (at_ + n) last = LX ((c :: r).drop n) (at_ + n) last := fun last => lexF_fuel _ _ _ _ _ hl (Nat.le_refl _)
  rw [LX, List.length_cons, lexF, if_neg h1, if_neg h2]
  simp only [h3, hk, if_false, e]

end Go.Proofs.Ytepebjhnefhciaa
