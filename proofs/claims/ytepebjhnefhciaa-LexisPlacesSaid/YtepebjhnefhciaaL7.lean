/-
  Laws of scanning, in plain Lean: where tokens and problems stand; joined tokens.
  Conditions: none.
-/
import Derived.Test.YtepebjhnefhciaaL6
namespace Go.Proofs.Ytepebjhnefhciaa

structure Places (l : List UInt8) (at_ : Nat) (T : List Tok) (B : List Nat) : Prop where
  ord : T.Pairwise fun a b => a.at_ + a.text.length ≤ b.at_
  inc : B.Pairwise (· < ·)
  bd : ∀ b ∈ B, at_ ≤ b ∧ b < at_ + l.length
  out : ∀ b ∈ B, ∀ t ∈ T, b < t.at_ ∨ t.at_ + t.text.length ≤ b
  txt : ∀ t ∈ T, t.text = (l.drop (t.at_ - at_)).take t.text.length

theorem LX_eta (l : List UInt8) (at_ : Nat) (last : Int) : (LX l at_ last).1 = LT l at_ := LT_last l at_ last

theorem Places.later {l m : List UInt8} {at_ n : Nat} {T : List Tok} {B : List Nat} (hm : m = l.drop n) (hn : n ≤ l.length) (hT : T = LT m (at_ + n)) (h : Places m (at_ + n) T B) : Places l at_ T B := by
  subst hm
  refine ⟨h.ord, h.inc, fun b hb => ?_, h.out, fun t ht => ?_⟩
  · have := h.bd b hb
    rw [List.length_drop] at this
    omega
  · have h1 := h.txt t ht
    rw [hT] at ht
    have h2 := LT_bounds _ _ 0 t ht
    rw [List.drop_drop, show n + (t.at_ - (at_ + n)) = t.at_ - at_ from by omega] at h1
    exact h1

theorem LX_places : ∀ l at_ last, Places l at_ (LX l at_ last).1 (LX l at_ last).2 := by
  refine lex_ind (P := fun l at_ last => Places l at_ (LX l at_ last).1 (LX l at_ last).2) ?_ ?_ ?_ ?_ ?_
  · intro at_ last; rw [LX_nil]; exact ⟨.nil, .nil, by simp, by simp, by simp⟩
  · intro c r at_ last h ih
    rw [LX_blank h]
    exact ih.later (n := 1) rfl (by simp) (LX_eta _ _ _)
  · intro c r at_ last h ih
    rw [LX_hash h]
    have q := congrArg List.length (List.takeWhile_append_dropWhile (p := noNL) (l := c :: r))
    rw [List.length_append] at q
    refine ih.later ?_ (by omega) (LX_eta _ _ _)
    have e := List.takeWhile_append_dropWhile (p := noNL) (l := c :: r)
    conv => rhs; arg 2; rw [← e]
    rw [List.drop_left]
  · intro c r n at_ last h1 h2 hS hp hle ih
    have k := ih.later rfl hle (LX_eta _ _ _)
    have hgt : ∀ b ∈ (LX ((c :: r).drop n) (at_ + n) ((at_ + n : Nat) : Int)).2, at_ < b := fun b hb => by have := ih.bd b hb; omega
    rw [LX_bad h1 h2 hS]
    simp only
    split
    · refine ⟨k.ord, List.pairwise_cons.2 ⟨hgt, k.inc⟩, ?_, ?_, k.txt⟩
      · intro b hb
        rcases List.mem_cons.1 hb with rfl | hb
        · simp only [List.length_cons] at hle ⊢; omega
        · exact k.bd b hb
      · intro b hb t ht
        rcases List.mem_cons.1 hb with rfl | hb
        · rw [LX_eta] at ht
          have := LT_bounds _ _ 0 t ht
          left; omega
        · exact k.out b hb t ht
    · exact k
  · intro c r j n at_ last h1 h2 hS hk hp hle ih
    have k := ih.later rfl hle (LX_eta _ _ _)
    have hge : ∀ t ∈ (LX ((c :: r).drop n) (at_ + n) last).1, at_ + n ≤ t.at_ := fun t ht => by
      rw [LX_eta] at ht
      exact (LT_bounds _ _ 0 t ht).1
    have hlen : ((c :: r).take n).length = n := by rw [List.length_take]; omega
    rw [LX_tok h1 h2 hS hk]
    refine ⟨List.pairwise_cons.2 ⟨fun t ht => ?_, k.ord⟩, k.inc, k.bd, ?_, ?_⟩
    · simp only [hlen]; exact hge t ht
    · intro b hb t ht
      rcases List.mem_cons.1 ht with rfl | ht
      · simp only [hlen]
        have := ih.bd b hb
        right; omega
      · exact k.out b hb t ht
    · intro t ht
      rcases List.mem_cons.1 ht with rfl | ht
      · simp only [hlen, Nat.sub_self, List.drop_zero]
      · exact k.txt t ht

theorem LT_sum : ∀ l at_ (last : Int), ((LT l at_).flatMap fun t => 32 :: t.text).length ≤ 2 * l.length := by
  refine lex_ind (P := fun l at_ _ => ((LT l at_).flatMap fun t => 32 :: t.text).length ≤ 2 * l.length) ?_ ?_ ?_ ?_ ?_
  · intro at_ _; rw [LT_nil]; simp
  · intro c r at_ _ h ih; rw [LT_blank h, List.length_cons]; omega
  · intro c r at_ _ h ih
    rw [LT_hash h]
    have q := congrArg List.length (List.takeWhile_append_dropWhile (p := noNL) (l := c :: r))
    rw [List.length_append] at q
    omega
  · intro c r n at_ _ h1 h2 hS hp hle ih
    rw [LT_bad h1 h2 hS]
    rw [List.length_drop] at ih
    omega
  · intro c r k n at_ _ h1 h2 hS hk hp hle ih
    rw [LT_tok h1 h2 hS hk, List.flatMap_cons, List.length_append, List.length_cons, List.length_take]
    rw [List.length_drop] at ih
    omega

theorem LT_scan : ∀ l at_ (last : Int), ∀ t ∈ LT l at_, t.text ≠ [] ∧ t.kind ≠ 0 ∧ scanF t.text = (t.kind, t.text.length) := by
  refine lex_ind (P := fun l at_ _ => ∀ t ∈ LT l at_, t.text ≠ [] ∧ t.kind ≠ 0 ∧ scanF t.text = (t.kind, t.text.length)) ?_ ?_ ?_ ?_ ?_
  · intro at_ _ t ht; rw [LT_nil] at ht; cases ht
  · intro c r at_ _ h ih; rw [LT_blank h]; exact ih
  · intro c r at_ _ h ih; rw [LT_hash h]; exact ih
  · intro c r n at_ _ h1 h2 hS hp hle ih; rw [LT_bad h1 h2 hS]; exact ih
  · intro c r k n at_ _ h1 h2 hS hk hp hle ih t ht
    rw [LT_tok h1 h2 hS hk, List.mem_cons] at ht
    rcases ht with rfl | ht
    · have hlen : ((c :: r).take n).length = n := by rw [List.length_take]; omega
      refine ⟨fun h => ?_, hk, ?_⟩
      · have := congrArg List.length h
        rw [hlen] at this
        simp at this
        omega
      · simp only [hlen]; exact scan_take hS hk
    · exact ih t ht
end Go.Proofs.Ytepebjhnefhciaa
