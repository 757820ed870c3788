/-
  Terms: the order of axioms is total; few concepts are small.
  Conditions: none.
-/
import Derived.Test.YtkbmlchceiglfaaGreatDoorMBp
namespace Go.Proofs.YtkbmlchceiglfaaGreatDoor
set_option linter.unusedSectionVars false
set_option linter.unusedSimpArgs false
set_option linter.unusedVariables false
open Go.Proofs

mutual
theorem countC_size : ∀ (c : Cn) (d m : Int), countC c d m ≤ m → (sizeF c : Int) ≤ countC c d m
  | .mk k n lo hi ps, d, m => by
    have e : sizeF (.mk k n lo hi ps) = sumN ps + 1 := sizeF_sum _
    rw [countC]
    split
    · omega
    · intro h
      have h1 := countL_size ps (d - 1) m (1 + (n.length : Int) / 40) h
      have h2 : 0 ≤ (n.length : Int) / 40 := by omega
      rw [e]; omega
theorem countL_size : ∀ (l : List Cn) (d m t : Int), countL l d m t ≤ m → t + (sumN l : Nat) ≤ countL l d m t
  | [], d, m, t => by rw [countL]; intro _; simp [sumN, nodesL]
  | c :: r, d, m, t => by
    rw [countL]
    split
    · intro h
      have h1 := countL_size r d m _ h
      have h2 := countC_size c d (m - t) (by omega)
      rw [sumN_cons]; omega
    · omega
end

theorem fewF_size {c : Cn} (h : fewF c = true) : sizeF c ≤ 150 := by
  have h1 : countC c 40 150 ≤ 150 := of_decide_eq_true h
  have := countC_size c 40 150 h1
  omega

theorem lenSum_nn : ∀ l, 0 ≤ lenSum l
  | [] => by simp [lenSum]
  | s :: r => by have := lenSum_nn r; simp only [lenSum]; omega

theorem fewAx_bnd {x : Ax} (h : fewAx x = true) : sizeF x.left ≤ 150 ∧ sizeF x.right ≤ 150 ∧ x.roles.length ≤ 60 := by
  unfold fewAx at h
  simp only [Bool.and_eq_true, decide_eq_true_eq] at h
  obtain ⟨⟨h1, h2⟩, h3⟩ := h
  have := lenSum_nn (x.roles.take 100)
  unfold sumAx at h1
  exact ⟨fewF_size h2, fewF_size h3, by omega⟩

mutual
theorem sameC_iff : ∀ (a b : Cn), sameC a b = true ↔ a = b
  | .mk k n lo hi ps, b => by
    obtain ⟨k', n', lo', hi', ps'⟩ := b
    rw [sameC]
    have := sameCL_iff ps ps'
    show (decide (k = k') && decide (n = n') && decide (lo = lo') && decide (hi = hi') && sameCL ps ps') = true ↔ _
    simp only [Bool.and_eq_true, decide_eq_true_eq, this, Cn.mk.injEq, and_assoc]
theorem sameCL_iff : ∀ (l m : List Cn), sameCL l m = true ↔ l = m
  | [], [] => by simp [sameCL]
  | [], _ :: _ => by simp [sameCL]
  | _ :: _, [] => by simp [sameCL]
  | a :: l, b :: m => by
    rw [sameCL]
    have h1 := sameC_iff a b
    have h2 := sameCL_iff l m
    simp only [Bool.and_eq_true, h1, h2, List.cons.injEq]
end

theorem cmpSL_rng : ∀ l m, cmpSL l m = -1 ∨ cmpSL l m = 0 ∨ cmpSL l m = 1
  | [], [] => by simp [cmpSL]
  | [], _ :: _ => by simp [cmpSL]
  | _ :: _, [] => by simp [cmpSL]
  | a :: l, b :: m => by
    rw [cmpSL]
    have := LCk.str.rng a b
    have := cmpSL_rng l m
    split <;> omega

theorem cmpSL_anti : ∀ l m, cmpSL m l = - cmpSL l m
  | [], [] => by simp [cmpSL]
  | [], _ :: _ => by simp [cmpSL]
  | _ :: _, [] => by simp [cmpSL]
  | a :: l, b :: m => by
    rw [cmpSL, cmpSL]
    have := LCk.str.anti a b
    have := cmpSL_anti l m
    split <;> split <;> omega

theorem cmpSL_t3 : ∀ l m n, Cmp3 cmpSL l m n
  | [], [], [] => by simp [Cmp3, cmpSL]
  | [], [], _ :: _ => by simp [Cmp3, cmpSL]
  | [], _ :: _, [] => by simp [Cmp3, cmpSL]
  | [], _ :: _, _ :: _ => by simp [Cmp3, cmpSL]
  | _ :: _, [], [] => by simp [Cmp3, cmpSL]
  | _ :: _, [], _ :: _ => by simp [Cmp3, cmpSL]
  | _ :: _, _ :: _, [] => by simp [Cmp3, cmpSL]
  | a :: l, b :: m, d :: n => by
    have a1 := LCk.str.t3 a b d
    have b1 := cmpSL_t3 l m n
    have r1 := LCk.str.rng a b
    have r2 := LCk.str.rng b d
    have r3 := LCk.str.rng a d
    have a2 := LCk.str.t3 b d a
    have a3 := LCk.str.t3 d a b
    have n1 := LCk.str.anti a b
    have n2 := LCk.str.anti b d
    have n3 := LCk.str.anti a d
    unfold Cmp3 at *
    rw [cmpSL, cmpSL, cmpSL]
    refine ⟨?_, ?_, ?_⟩ <;> (split <;> split <;> split <;> omega)

theorem cmpSL_lc : LCk cmpSL := ⟨cmpSL_rng, cmpSL_anti, cmpSL_t3⟩

theorem cmpSL_zero : ∀ {l m : List (List UInt8)}, cmpSL l m = 0 ↔ l = m
  | [], [] => by simp [cmpSL]
  | [], _ :: _ => by simp [cmpSL]
  | _ :: _, [] => by simp [cmpSL]
  | a :: l, b :: m => by
    rw [cmpSL]
    have h1 := @cmpB_zero a b
    have h2 := @cmpSL_zero l m
    rw [List.cons.injEq]
    split
    · rename_i h
      exact ⟨fun e => absurd e h, fun e => absurd (h1.2 e.1) h⟩
    · rename_i h
      have h : cmpB a b = 0 := by omega
      exact ⟨fun e => ⟨h1.1 h, h2.1 e⟩, fun e => h2.2 e.2⟩

theorem axHead_lc : LCk axHead := LCk.lex (LCk.int.of weightF) (LCk.lex (LCk.int.of Ax.kind) LCk.zero)
theorem axTail_lc : LCk axTail := LCk.lex (cmpSL_lc.of Ax.roles) (LCk.lex (LCk.str.of Ax.role) (LCk.lex (LCk.str.of Ax.a) (LCk.lex (LCk.str.of Ax.b) LCk.zero)))
theorem cmpAx_lex (x y : Ax) : cmpAx x y = lex (axHead x y) (lex (cmpC x.left y.left) (lex (cmpC x.right y.right) (axTail x y))) := rfl
theorem cmpAx_lc : LCk cmpAx := LCk.lex axHead_lc (LCk.lex (cmpC_lc.of Ax.left) (LCk.lex (cmpC_lc.of Ax.right) axTail_lc))

theorem cmpAx_zero {x y : Ax} : cmpAx x y = 0 ↔ x = { y with isopen := x.isopen } := by
  rw [cmpAx_lex, lex_zero, lex_zero, lex_zero, cmpC_zero, cmpC_zero]
  constructor
  · rintro ⟨h1, h2, h3, h4⟩
    unfold axHead at h1
    unfold axTail at h4
    rw [orF_cons, lex_zero, orF_cons, lex_zero, cmpI_zero, cmpI_zero] at h1
    rw [orF_cons, lex_zero, orF_cons, lex_zero, orF_cons, lex_zero, orF_cons, lex_zero, cmpSL_zero, cmpB_zero, cmpB_zero, cmpB_zero] at h4
    obtain ⟨k, o, l, r, rs, ro, a, b⟩ := x
    obtain ⟨k', o', l', r', rs', ro', a', b'⟩ := y
    simp_all
  · intro e
    have h1 : axHead x y = axHead x x := by rw [e]; rfl
    have h2 : axTail x y = axTail x x := by rw [e]; rfl
    have h3 := axHead_lc.anti x x
    have h4 := axTail_lc.anti x x
    refine ⟨by omega, by rw [e], by rw [e], by omega⟩

theorem cmpAx_open (x y : Ax) (o : Bool) : cmpAx x { y with isopen := o } = cmpAx x y := rfl

theorem sameAx_iff {x y : Ax} : sameAx x y = true ↔ x = y := by
  unfold sameAx
  obtain ⟨k, o, l, r, rs, ro, a, b⟩ := x
  obtain ⟨k', o', l', r', rs', ro', a', b'⟩ := y
  simp only [Bool.and_eq_true, decide_eq_true_eq, sameC_iff, beq_iff_eq, Ax.mk.injEq]
  constructor
  · rintro ⟨⟨⟨⟨⟨⟨⟨h1, h2⟩, h3⟩, h4⟩, h5⟩, h6⟩, h7⟩, h8⟩
    exact ⟨h2, h1, h3, h4, h5, h6, h7, h8⟩
  · rintro ⟨h2, h1, h3, h4, h5, h6, h7, h8⟩
    exact ⟨⟨⟨⟨⟨⟨⟨h1, h2⟩, h3⟩, h4⟩, h5⟩, h6⟩, h7⟩, h8⟩

/-- What the law asks. -/
theorem axioms_total (a b c : Ax) : cmpAx a b = - cmpAx b a ∧ -1 ≤ cmpAx a b ∧ cmpAx a b ≤ 1 ∧ decide (cmpAx a b = 0) = sameAx a { b with isopen := a.isopen } ∧
    (0 < cmpAx a b ∨ 0 < cmpAx b c ∨ (cmpAx a c ≤ 0 ∧ (cmpAx a c = 0 ↔ (cmpAx a b = 0 ∧ cmpAx b c = 0)))) := by
  have r1 := cmpAx_lc.rng a b
  have r2 := cmpAx_lc.rng b c
  have r3 := cmpAx_lc.rng a c
  have n1 := cmpAx_lc.anti a b
  have t1 := cmpAx_lc.t3 a b c
  refine ⟨by omega, by omega, by omega, ?_, ?_⟩
  · rw [Bool.eq_iff_iff, sameAx_iff, decide_eq_true_eq]; exact cmpAx_zero
  · unfold Cmp3 at t1; omega
end Go.Proofs.YtkbmlchceiglfaaGreatDoor
