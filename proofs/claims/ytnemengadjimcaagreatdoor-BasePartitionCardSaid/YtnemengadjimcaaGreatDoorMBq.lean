/-
  Terms: the order of axioms is total; few concepts are small.
  Conditions: none.
-/
import Derived.Test.YtnemengadjimcaaGreatDoorMBp
import Derived.Test.YtnemengadjimcaaGreatDoorMTcq
set_option linter.unusedSectionVars false
set_option linter.unusedSimpArgs false
set_option linter.unusedVariables false
namespace Go.Proofs.YtnemengadjimcaaGreatDoor
open Go.Proofs
theorem cmpSL_rng : ∀ l m, cmpSL l m = -1 ∨ cmpSL l m = 0 ∨ cmpSL l m = 1
 | [], [] => by simp [cmpSL]
 | [], _ :: _ => by simp [cmpSL]
 | _ :: _, [] => by simp [cmpSL]
 | a :: l, b :: m => by
  rw [cmpSL]
  have := LCk.str.rng a b
  have := cmpSL_rng l m
  split <;> omega
theorem cmpSL_anti : ∀ l m, cmpSL m l = - cmpSL l m
 | [], [] => by simp [cmpSL]
 | [], _ :: _ => by simp [cmpSL]
 | _ :: _, [] => by simp [cmpSL]
 | a :: l, b :: m => by
  rw [cmpSL, cmpSL]
  have := LCk.str.anti a b
  have := cmpSL_anti l m
  split <;> split <;> omega
theorem cmpSL_t3 : ∀ l m n, Cmp3 cmpSL l m n
 | [], [], [] => by simp [Cmp3, cmpSL]
 | [], [], _ :: _ => by simp [Cmp3, cmpSL]
 | [], _ :: _, [] => by simp [Cmp3, cmpSL]
 | [], _ :: _, _ :: _ => by simp [Cmp3, cmpSL]
 | _ :: _, [], [] => by simp [Cmp3, cmpSL]
 | _ :: _, [], _ :: _ => by simp [Cmp3, cmpSL]
 | _ :: _, _ :: _, [] => by simp [Cmp3, cmpSL]
 | a :: l, b :: m, d :: n => by
  have a1 := LCk.str.t3 a b d
  have b1 := cmpSL_t3 l m n
  have r1 := LCk.str.rng a b
  have r2 := LCk.str.rng b d
  have r3 := LCk.str.rng a d
  have a2 := LCk.str.t3 b d a
  have a3 := LCk.str.t3 d a b
  have n1 := LCk.str.anti a b
  have n2 := LCk.str.anti b d
  have n3 := LCk.str.anti a d
  unfold Cmp3 at *
  rw [cmpSL, cmpSL, cmpSL]
  refine ⟨?_, ?_, ?_⟩ <;> (split <;> split <;> split <;> omega)
theorem cmpSL_lc : LCk cmpSL := ⟨cmpSL_rng, cmpSL_anti, cmpSL_t3⟩
theorem cmpSL_zero : ∀ {l m : List (List UInt8)}, cmpSL l m = 0 ↔ l = m
 | [], [] => by simp [cmpSL]
 | [], _ :: _ => by simp [cmpSL]
 | _ :: _, [] => by simp [cmpSL]
 | a :: l, b :: m => by
  rw [cmpSL]
  have h1 := @cmpB_zero a b
  have h2 := @cmpSL_zero l m
  rw [List.cons.injEq]
  split
  ·rename_i h
   exact ⟨fun e => absurd e h, fun e => absurd (h1.2 e.1) h⟩
  ·rename_i h
   have h : cmpB a b = 0 := by omega
   exact ⟨fun e => ⟨h1.1 h, h2.1 e⟩, fun e => h2.2 e.2⟩
theorem axHead_lc : LCk axHead := LCk.lex (LCk.int.of weightF) (LCk.lex (LCk.int.of Ax.kind) LCk.zero)
theorem axTail_lc : LCk axTail := LCk.lex (cmpSL_lc.of Ax.roles) (LCk.lex (LCk.str.of Ax.role) (LCk.lex (LCk.str.of Ax.a) (LCk.lex (LCk.str.of Ax.b) LCk.zero)))
theorem cmpAx_lex (x y : Ax) : cmpAx x y = lex (axHead x y) (lex (cmpC x.left y.left) (lex (cmpC x.right y.right) (axTail x y))) := rfl
theorem cmpAx_lc : LCk cmpAx := LCk.lex axHead_lc (LCk.lex (cmpC_lc.of Ax.left) (LCk.lex (cmpC_lc.of Ax.right) axTail_lc))
theorem cmpAx_zero {x y : Ax} : cmpAx x y = 0 ↔ x = { y with isopen := x.isopen } := by
 rw [cmpAx_lex, lex_zero, lex_zero, lex_zero, cmpC_zero, cmpC_zero]
 constructor
 ·rintro ⟨h1, h2, h3, h4⟩
  unfold axHead at h1
  unfold axTail at h4
  rw [orF_cons, lex_zero, orF_cons, lex_zero, cmpI_zero, cmpI_zero] at h1
  rw [orF_cons, lex_zero, orF_cons, lex_zero, orF_cons, lex_zero, orF_cons, lex_zero, cmpSL_zero, cmpB_zero, cmpB_zero, cmpB_zero] at h4
  obtain ⟨k, o, l, r, rs, ro, a, b⟩ := x
  obtain ⟨k', o', l', r', rs', ro', a', b'⟩ := y
  simp_all
 ·intro e
  have h1 : axHead x y = axHead x x := by rw [e]; rfl
  have h2 : axTail x y = axTail x x := by rw [e]; rfl
  have h3 := axHead_lc.anti x x
  have h4 := axTail_lc.anti x x
  refine ⟨by omega, by rw [e], by rw [e], by omega⟩
end Go.Proofs.YtnemengadjimcaaGreatDoor
