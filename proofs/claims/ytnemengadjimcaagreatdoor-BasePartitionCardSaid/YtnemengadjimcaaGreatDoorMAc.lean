/-
  Terms: CheckAxiom. The order of strings, in plain Lean. Terms: the weight of an axiom, and the library's comparisons. Terms: the library's comparisons of numbers, strings and lists. Terms: the tree of a concept: grow.
  Conditions: none.
-/
import Derived.Test.YtnemengadjimcaaGreatDoorMA8
import Derived.Test.YtnemengadjimcaaGreatDoorMG2
set_option linter.unusedSectionVars false
set_option linter.unusedSimpArgs false
set_option linter.unusedVariables false
set_option maxHeartbeats 8000000
namespace Go.Proofs.YtnemengadjimcaaGreatDoor
open Go.Proofs
set_option maxRecDepth 10000
attribute [local irreducible] SemVC CallVC Tri Stuck YVC GenP GenVC
def bareE (x : Ax) : Bool := if x.kind = 2 then (bareF x.left || bareF x.right) else if x.kind = 1 ∨ x.kind = 4 ∨ x.kind = 8 then bareF x.right else false
def axiomU (u : Use) (x : Ax) : Int :=
 if namedF u x = false then 20
 else if u.left = true ∧ conceptE x.left ≠ 0 then conceptE x.left
 else if u.right = true ∧ conceptE x.right ≠ 0 then conceptE x.right
 else if bareE x = true then 22 else 0
def axiomE (x : Ax) : Int := if shapedF x = false then 22 else axiomU (useAt x.kind) x
theorem checkAxiom_spec (x : Ax) : Tri Tryz.prog 48 [.d (.agg (axR x))] NG (fun r => r = .d (.int .i64 (axiomE x))) := by
 have e1 := checkConcept_spec x.left
 have e2 := checkConcept_spec x.right
 have b1 := isBare_spec x.left
 have b2 := isBare_spec x.right
 rw [cnR_eq] at e1 e2 b1 b2
 refine tri_of_bodyF false [1, 3] hty Tryz.func48 rfl (kp [0, 1, 2, 3, 4, 5, 8, 16, 18, 23, 26, 31, 34, 35, 44, 45, 51]) [] _ _ _ (by simp [Tryz.f48]) (by decide) ?_
 ((conv => whnf); repeat ((first | (intro hq; try simp only [lnS] at hq) | refine sI ?_ | refine .intro _ (.intro rfl ?_)); (conv => whnf)))
 refine call_tri NG (isShaped_spec x) ⟨rfl, rfl, trivial⟩ (fun r hs => ?_)
 subst hs
 cases hs : shapedF x
 ·((conv => whnf); repeat' ((first | (intro hq; (try simp only [lnS] at hq); (try rewrite [List.length_map])) | refine sJ ?_ | refine .intro _ (.intro rfl ?_) | (refine .intro (show (_ : Nat) < List.length _ from by first | omega | (simp only [lnS]; omega) | simp) ?_) | fail | refine draw_rule hty (by kernel_rfl) (by kernel_rfl) ?_ | ((first | refine brB_dec ?_ ?_ | refine brB_ndec ?_ ?_) <;> intro hb <;> (first | contradiction | ((try simp only [lnS] at hb); try (exfalso; omega)))) | (refine brB_split ?_ ?_ <;> intro hb <;> (first | contradiction | exact bT hb (by assumption) | exact bF hb (by assumption) | skip))) <;> (conv => whnf)))
  rw [axiomE, if_pos hs]; rfl
 ·have hE : axiomE x = axiomU (useAt x.kind) x := by rw [axiomE, if_neg (by simp [hs])]
  have hk : 1 ≤ x.kind ∧ x.kind ≤ 9 := by
   unfold shapedF at hs
   split at hs
   ·cases hs
   ·omega
  rw [hE]
  have hrow := use_row (k := x.kind) hk
  generalize useAt x.kind = u at hrow
  have hn := isNamed_spec x u
  clear hE
  ((conv => whnf); repeat ((first | (refine index_glob (id := 91) hty rfl rfl rfl rfl rfl rfl rfl (by omega) (by omega) ?_) | (refine ⟨_, hrow, ?_⟩) | (intro hq; try simp only [lnS] at hq) | refine sI ?_ | refine .intro _ (.intro rfl ?_)); (conv => whnf)))
  refine call_tri [] hn trivial (fun r hs => ?_)
  subst hs
  cases hs2 : namedF u x
  ·((conv => whnf); repeat' ((first | (intro hq; (try simp only [lnS] at hq); (try rewrite [List.length_map])) | refine sJ ?_ | refine .intro _ (.intro rfl ?_) | (refine .intro (show (_ : Nat) < List.length _ from by first | omega | (simp only [lnS]; omega) | simp) ?_) | fail | refine draw_rule hty (by kernel_rfl) (by kernel_rfl) ?_ | ((first | refine brB_dec ?_ ?_ | refine brB_ndec ?_ ?_) <;> intro hb <;> (first | contradiction | ((try simp only [lnS] at hb); try (exfalso; omega)))) | (refine brB_split ?_ ?_ <;> intro hb <;> (first | contradiction | exact bT hb (by assumption) | exact bF hb (by assumption) | skip))) <;> (conv => whnf)))
   rw [axiomU, if_pos hs2]; rfl
  ·((conv => whnf); repeat' ((first | (intro hq; (try simp only [lnS] at hq); (try rewrite [List.length_map])) | refine sJ ?_ | refine .intro _ (.intro rfl ?_) | (refine .intro (show (_ : Nat) < List.length _ from by first | omega | (simp only [lnS]; omega) | simp) ?_) | (refine call_tri NG e1 ⟨rfl, rfl, trivial⟩ (fun r hs => ?_); subst hs) | (refine call_tri NG e2 ⟨rfl, rfl, trivial⟩ (fun r hs => ?_); subst hs) | (refine call_tri [] b1 trivial (fun r hs => ?_); subst hs) | (refine call_tri [] b2 trivial (fun r hs => ?_); subst hs) | refine draw_rule hty (by kernel_rfl) (by kernel_rfl) ?_ | ((first | refine brB_dec ?_ ?_ | refine brB_ndec ?_ ?_) <;> intro hb <;> (first | contradiction | ((try simp only [lnS] at hb); try (exfalso; omega)))) | (refine brB_split ?_ ?_ <;> intro hb <;> (first | contradiction | exact bT hb (by assumption) | exact bF hb (by assumption) | skip))) <;> (conv => whnf)))
   all_goals (refine int_eq (Eq.symm ?_); clear e1 e2 b1 b2 hrow hn; unfold axiomU bareE; simp_all)
   all_goals trace_state
end Go.Proofs.YtnemengadjimcaaGreatDoor
namespace Go.Proofs.YtnemengadjimcaaGreatDoor
def cmpB (a b : List UInt8) : Int := Lib.compareBytes a b
theorem cmpB_range : ∀ (a b : List UInt8), cmpB a b = -1 ∨ cmpB a b = 0 ∨ cmpB a b = 1
 | [], [] => by simp [cmpB, Lib.compareBytes]
 | [], _ :: _ => by simp [cmpB, Lib.compareBytes]
 | _ :: _, [] => by simp [cmpB, Lib.compareBytes]
 | x :: a, y :: b => by
  have := cmpB_range a b
  unfold cmpB at this ⊢
  simp only [Lib.compareBytes]
  split
  ·exact .inl rfl
  ·split
   ·exact .inr (.inr rfl)
   ·exact this
theorem cmpB_zero : ∀ (a b : List UInt8), cmpB a b = 0 ↔ a = b
 | [], [] => by simp [cmpB, Lib.compareBytes]
 | [], _ :: _ => by simp [cmpB, Lib.compareBytes]
 | _ :: _, [] => by simp [cmpB, Lib.compareBytes]
 | x :: a, y :: b => by
  have ih := cmpB_zero a b
  unfold cmpB at ih ⊢
  simp only [Lib.compareBytes, List.cons.injEq]
  split
  ·rename_i h
   constructor
   ·intro h; omega
   ·rintro ⟨rfl, _⟩; exact absurd h (UInt8.lt_irrefl x)
  ·split
   ·rename_i h
    constructor
    ·intro h; omega
    ·rintro ⟨rfl, _⟩; exact absurd h (UInt8.lt_irrefl x)
   ·rename_i h1 h2
    rw [ih]
    have : x = y := UInt8.le_antisymm (UInt8.not_lt.1 h2) (UInt8.not_lt.1 h1)
    simp [this]
theorem cmpB_swap : ∀ (a b : List UInt8), cmpB b a = - cmpB a b
 | [], [] => by simp [cmpB, Lib.compareBytes]
 | [], _ :: _ => by simp [cmpB, Lib.compareBytes]
 | _ :: _, [] => by simp [cmpB, Lib.compareBytes]
 | x :: a, y :: b => by
  have ih := cmpB_swap a b
  unfold cmpB at ih ⊢
  simp only [Lib.compareBytes]
  by_cases h1 : x < y
  ·have h2 : ¬ y < x := fun h => UInt8.lt_irrefl x (UInt8.lt_trans h1 h)
   simp [h1, h2]
  ·by_cases h2 : y < x
   ·simp [h1, h2]
   ·simp [h1, h2, ih]
theorem cmpB_trans : ∀ (a b c : List UInt8), cmpB a b < 0 → cmpB b c < 0 → cmpB a c < 0
 | [], [], c, h, _ => by simp [cmpB, Lib.compareBytes] at h
 | [], _ :: _, [], _, h => by simp [cmpB, Lib.compareBytes] at h
 | [], _ :: _, _ :: _, _, _ => by simp [cmpB, Lib.compareBytes]
 | _ :: _, [], c, h, _ => by simp [cmpB, Lib.compareBytes] at h
 | _ :: _, _ :: _, [], _, h => by simp [cmpB, Lib.compareBytes] at h
 | x :: a, y :: b, z :: c, h1, h2 => by
  have ih := cmpB_trans a b c
  unfold cmpB at ih h1 h2 ⊢
  simp only [Lib.compareBytes] at h1 h2 ⊢
  by_cases hxy : x < y
  ·by_cases hyz : y < z
   ·simp [UInt8.lt_trans hxy hyz]
   ·by_cases hzy : z < y
    ·simp [hyz, hzy] at h2
    ·have : y = z := UInt8.le_antisymm (UInt8.not_lt.1 hzy) (UInt8.not_lt.1 hyz)
     subst this; simp [hxy]
  ·by_cases hyx : y < x
   ·simp [hxy, hyx] at h1
   ·have : x = y := UInt8.le_antisymm (UInt8.not_lt.1 hyx) (UInt8.not_lt.1 hxy)
    subst this
    simp only [hxy, if_false] at h1
    by_cases hyz : x < z
    ·simp [hyz]
    ·by_cases hzy : z < x
     ·simp [hyz, hzy] at h2
     ·simp only [hyz, hzy, if_false] at h2 ⊢
      exact ih h1 h2
theorem bytesLess_eq : ∀ (a b : List UInt8), Op.bytesLess a b = decide (cmpB a b < 0)
 | [], [] => by simp [cmpB, Lib.compareBytes, Op.bytesLess]
 | [], _ :: _ => by simp [cmpB, Lib.compareBytes, Op.bytesLess]
 | _ :: _, [] => by simp [cmpB, Lib.compareBytes, Op.bytesLess]
 | x :: a, y :: b => by
  have ih := bytesLess_eq a b
  unfold cmpB at ih ⊢
  simp only [Lib.compareBytes, Op.bytesLess]
  by_cases h1 : x < y
  ·simp [h1]
  ·by_cases h2 : y < x
   ·have : ¬ x = y := fun e => UInt8.lt_irrefl x (by rw [← e] at h2; exact h2)
    simp [h1, h2, this]
   ·have : x = y := UInt8.le_antisymm (UInt8.not_lt.1 h2) (UInt8.not_lt.1 h1)
    subst this
    simp [ih]
end Go.Proofs.YtnemengadjimcaaGreatDoor
namespace Go.Proofs.YtnemengadjimcaaGreatDoor
open Go.Proofs
set_option maxRecDepth 10000
attribute [local irreducible] SemVC CallVC Tri Stuck YVC GenP GenVC
def cnX (c : Cn) : List D := [.int .i64 c.kind, .str c.name, .int .i64 c.lo, .int .i64 c.hi, .sl 5 (c.parts.map cnR)]
def kindW (c : Cn) : Int := if c.kind ≠ 0 then sizeF c else 0
def strW (s : List UInt8) : Int := if s ≠ [] then 1 else 0
def sumK : List Cn → Int
 | [] => 0
 | c :: r => kindW c + sumK r
def sumS : List (List UInt8) → Int
 | [] => 0
 | c :: r => strW c + sumS r
def weightF (x : Ax) : Int := sumK [x.left, x.right] + x.roles.length + sumS [x.role, x.a, x.b]
theorem sumK_take {l : List Cn} {j : Nat} (h : j < l.length) : sumK (l.take (j + 1)) = sumK (l.take j) + kindW l[j] := by
 induction l generalizing j with
 | nil => simp at h
 | cons c l ih =>
  cases j with
  | zero => simp [sumK]
  | succ j =>
   have := ih (j := j) (by simpa using h)
   simp only [List.take_succ_cons, sumK, List.getElem_cons_succ, this]; omega
theorem sumS_take {l : List (List UInt8)} {j : Nat} (h : j < l.length) : sumS (l.take (j + 1)) = sumS (l.take j) + strW l[j] := by
 induction l generalizing j with
 | nil => simp at h
 | cons c l ih =>
  cases j with
  | zero => simp [sumS]
  | succ j =>
   have := ih (j := j) (by simpa using h)
   simp only [List.take_succ_cons, sumS, List.getElem_cons_succ, this]; omega
theorem sumK_bnd : ∀ (l : List Cn), (∀ c ∈ l, sizeF c ≤ 1000000) → 0 ≤ sumK l ∧ sumK l ≤ 1000000 * l.length
 | [], _ => by simp [sumK]
 | c :: r, h => by
  have h1 := sumK_bnd r fun x hx => h x (List.mem_cons_of_mem _ hx)
  have h2 := h c (List.mem_cons_self ..)
  simp only [sumK, kindW, List.length_cons]
  split <;> omega
theorem sumS_bnd : ∀ (l : List (List UInt8)), 0 ≤ sumS l ∧ sumS l ≤ l.length
 | [] => by simp [sumS]
 | c :: r => by
  have h1 := sumS_bnd r
  simp only [sumS, strW, List.length_cons]
  split <;> omega
theorem weight_spec (x : Ax) (h1 : sizeF x.left ≤ 1000000) (h2 : sizeF x.right ≤ 1000000) (h3 : x.roles.length ≤ 1000000) : Tri Tryz.prog 74 [.d (.agg (axR x))] [] (fun r => r = .d (.int .i64 (weightF x))) := by
 have hkb : ∀ j, 0 ≤ sumK ([x.left, x.right].take j) ∧ sumK ([x.left, x.right].take j) ≤ 2000000 := by
  intro j
  have := sumK_bnd ([x.left, x.right].take j) (fun c hc => by
   have := List.mem_of_mem_take hc
   simp at this
   rcases this with rfl | rfl <;> assumption)
  have hl : ([x.left, x.right].take j).length ≤ 2 := by rw [List.length_take]; simp; omega
  omega
 have hsz : ∀ (j : Nat) (hj : j < [x.left, x.right].length), sizeF [x.left, x.right][j] ≤ 1000000 := by
  intro j hj
  have hm := List.getElem_mem hj
  simp only [List.mem_cons, List.not_mem_nil, or_false] at hm
  rcases hm with e | e <;> rw [e] <;> assumption
 refine tri_of_bodyF false [1, 4] hty Tryz.func74 rfl (kp [0, 1, 2, 4, 6, 11, 12, 13, 14, 19, 36, 37, 38, 39, 43]) [] _ _ _ (by simp [Tryz.f74]) (by simp) ?_
 ((conv => whnf); repeat ((first | (intro hq; try simp only [lnS] at hq) | refine sI ?_ | refine .intro _ (.intro rfl ?_)); (conv => whnf)))
 refine loop_rule hty (fun j : Nat => ([(1, .ea 16 [axR x] 0 0), (2, .d (.int .i64 (sumK ([x.left, x.right].take j)))), (11, .d (.sl 5 ([x.left, x.right].map cnX))), (12, .d (.int .i64 2)), (13, .d (.int .i64 j))], [])) (fun j => j ≤ 2) (fun j => 2 - j) 0 (by omega) ⟨by repeat' (first | exact trivial | exact rfl | exact ⟨rfl, rfl⟩ | refine And.intro ?_ ?_), trivial⟩ ?_
 ·intro j hj
  have hb0 := hkb j
  ((conv => whnf); repeat ((first | (intro hq; try simp only [lnS] at hq) | refine sI ?_ | refine .intro _ (.intro rfl ?_)); (conv => whnf)))
  refine brB_dec (fun h4 => ?_) (fun h4 => ?_)
  ·have hjl : j < [x.left, x.right].length := by simp; omega
   have hrow : ([x.left, x.right].map cnX)[(j : Int).toNat]? = some (cnX [x.left, x.right][j]) := rowC_at hjl
   have hs2 := hsz j hjl
   have hsp := size_spec _ hs2
   have htk := sumK_take hjl
   generalize [x.left, x.right][j] = c at hrow hs2 hsp htk
   rw [cnR_eq] at hsp
   ((conv => whnf); repeat' ((first | (intro hq; (try simp only [lnS] at hq); (try rewrite [List.length_map])) | refine sJ ?_ | refine .intro _ (.intro rfl ?_) | (refine .intro (show (_ : Nat) < List.length _ from by first | omega | (simp only [lnS]; omega) | simp) ?_) | (refine ⟨_, hrow, ?_⟩) | (refine call_tri [] hsp trivial (fun r hs => ?_); subst hs) | refine draw_rule hty (by kernel_rfl) (by kernel_rfl) ?_ | ((first | refine brB_dec ?_ ?_ | refine brB_ndec ?_ ?_) <;> intro hb <;> (first | contradiction | ((try simp only [lnS] at hb); try (exfalso; omega)))) | (refine brB_split ?_ ?_ <;> intro hb <;> (first | contradiction | exact bT hb (by assumption) | exact bF hb (by assumption) | skip))) <;> (conv => whnf)))
   ·refine ⟨j + 1, by dsimp only; omega, by dsimp only; omega, ⟨?_, trivial⟩⟩
    dsimp only
    rw [htk, kindW, if_pos (by assumption)]
    repeat' (first | exact trivial | exact rfl | exact ⟨rfl, rfl⟩ | refine And.intro ?_ ?_)
   ·refine ⟨j + 1, by dsimp only; omega, by dsimp only; omega, ⟨?_, trivial⟩⟩
    dsimp only
    rw [htk, kindW, if_neg (by simpa using (by assumption : c.kind = 0)), Int.add_zero]
    repeat' (first | exact trivial | exact rfl | exact ⟨rfl, rfl⟩ | refine And.intro ?_ ?_)
  ·have hj2 : j = 2 := by omega
   subst hj2
   have ht : [x.left, x.right].take 2 = [x.left, x.right] := rfl
   rw [ht] at hb0 ⊢
   have hW : weightF x = sumK [x.left, x.right] + x.roles.length + sumS [x.role, x.a, x.b] := rfl
   rw [hW]
   generalize sumK [x.left, x.right] = m at hb0
   clear hW hkb hsz
   ((conv => whnf); repeat ((first | (intro hq; try simp only [lnS] at hq) | refine sI ?_ | refine .intro _ (.intro rfl ?_)); (conv => whnf)))
   have hsb : ∀ j, 0 ≤ sumS ([x.role, x.a, x.b].take j) ∧ sumS ([x.role, x.a, x.b].take j) ≤ 3 := by
    intro j
    have := sumS_bnd ([x.role, x.a, x.b].take j)
    have hl : ([x.role, x.a, x.b].take j).length ≤ 3 := by rw [List.length_take]; simp; omega
    omega
   refine loop_rule hty (fun j : Nat => ([(2, .d (.int .i64 (m + x.roles.length + sumS ([x.role, x.a, x.b].take j)))), (36, .d (.sl 1 ([x.role, x.a, x.b].map strR))), (37, .d (.int .i64 3)), (38, .d (.int .i64 j))], [])) (fun j => j ≤ 3) (fun j => 3 - j) 0 (by omega) ⟨by repeat' (first | exact trivial | exact rfl | exact ⟨rfl, rfl⟩ | exact wkInt6 (by simp [sumS]) | refine And.intro ?_ ?_), trivial⟩ ?_
   intro j hj
   have hb1 := hsb j
   ((conv => whnf); repeat ((first | (intro hq; try simp only [lnS] at hq) | refine sI ?_ | refine .intro _ (.intro rfl ?_)); (conv => whnf)))
   refine brB_dec (fun h5 => ?_) (fun h5 => ?_)
   ·have hjl : j < [x.role, x.a, x.b].length := by simp; omega
    have hrow : ([x.role, x.a, x.b].map strR)[(j : Int).toNat]? = some (strR [x.role, x.a, x.b][j]) := rowC_at hjl
    have htk := sumS_take hjl
    generalize [x.role, x.a, x.b][j] = c at hrow htk
    ((conv => whnf); repeat' ((first | (intro hq; (try simp only [lnS] at hq); (try rewrite [List.length_map])) | refine sJ ?_ | refine .intro _ (.intro rfl ?_) | (refine .intro (show (_ : Nat) < List.length _ from by first | omega | (simp only [lnS]; omega) | simp) ?_) | (refine ⟨_, hrow, ?_⟩) | refine draw_rule hty (by kernel_rfl) (by kernel_rfl) ?_ | ((first | refine brB_dec ?_ ?_ | refine brB_ndec ?_ ?_) <;> intro hb <;> (first | contradiction | ((try simp only [lnS] at hb); try (exfalso; omega)))) | (refine brB_split ?_ ?_ <;> intro hb <;> (first | contradiction | exact bT hb (by assumption) | exact bF hb (by assumption) | skip))) <;> (conv => whnf)))
    ·refine ⟨j + 1, by dsimp only; omega, by dsimp only; omega, ⟨?_, trivial⟩⟩
     dsimp only
     rw [htk, strW, if_pos (by assumption)]
     repeat' (first | exact trivial | exact rfl | exact ⟨rfl, rfl⟩ | exact wkInt6 (by omega) | refine And.intro ?_ ?_)
    ·refine ⟨j + 1, by dsimp only; omega, by dsimp only; omega, ⟨?_, trivial⟩⟩
     dsimp only
     rw [htk, strW, if_neg (by simpa using (by assumption : c = [])), Int.add_zero]
     repeat' (first | exact trivial | exact rfl | exact ⟨rfl, rfl⟩ | refine And.intro ?_ ?_)
   ·have hj3 : j = 3 := by omega
    subst hj3
    ((conv => whnf); repeat' ((first | (intro hq; (try simp only [lnS] at hq); (try rewrite [List.length_map])) | refine sJ ?_ | refine .intro _ (.intro rfl ?_) | (refine .intro (show (_ : Nat) < List.length _ from by first | omega | (simp only [lnS]; omega) | simp) ?_) | fail | refine draw_rule hty (by kernel_rfl) (by kernel_rfl) ?_ | ((first | refine brB_dec ?_ ?_ | refine brB_ndec ?_ ?_) <;> intro hb <;> (first | contradiction | ((try simp only [lnS] at hb); try (exfalso; omega)))) | (refine brB_split ?_ ?_ <;> intro hb <;> (first | contradiction | exact bT hb (by assumption) | exact bF hb (by assumption) | skip))) <;> (conv => whnf)))
    rfl
end Go.Proofs.YtnemengadjimcaaGreatDoor
namespace Go.Proofs.YtnemengadjimcaaGreatDoor
open Go.Proofs
set_option maxRecDepth 10000
attribute [local irreducible] SemVC CallVC Tri Stuck YVC GenP GenVC
def cmpI (a b : Int) : Int := if a < b then -1 else if b < a then 1 else 0
def orF : List Int → Int
 | [] => 0
 | x :: r => if x ≠ 0 then x else orF r
def numR (n : Int) : List D := [.int .i64 n]
theorem isNaNi_spec (a : Int) : Tri Tryz.prog 124 [.d (.int .i64 a)] [] (fun r => r = .d (.bool false)) := by
 refine tri_of_body hty Tryz.func124 rfl (kp [0, 2]) [] _ _ _ (by simp [Tryz.f124]) (by simp) ?_
 ((conv => whnf); repeat' ((first | (intro hq; (try simp only [lnS] at hq); (try rewrite [List.length_map])) | refine sJ ?_ | refine .intro _ (.intro rfl ?_) | (refine .intro (show (_ : Nat) < List.length _ from by first | omega | (simp only [lnS]; omega) | simp) ?_) | fail | refine draw_rule hty (by kernel_rfl) (by kernel_rfl) ?_ | ((first | refine brB_dec ?_ ?_ | refine brB_ndec ?_ ?_) <;> intro hb <;> (first | contradiction | ((try simp only [lnS] at hb); try (exfalso; omega)))) | (refine brB_split ?_ ?_ <;> intro hb <;> (first | contradiction | exact bT hb (by assumption) | exact bF hb (by assumption) | skip))) <;> (conv => whnf)))
 all_goals first | rfl | (exact bool_eq (by simp))
theorem isNaNs_spec (a : List UInt8) : Tri Tryz.prog 165 [.d (.str a)] [] (fun r => r = .d (.bool false)) := by
 refine tri_of_body hty Tryz.func165 rfl (kp [0, 2]) [] _ _ _ (by simp [Tryz.f165]) (by simp) ?_
 ((conv => whnf); repeat' ((first | (intro hq; (try simp only [lnS] at hq); (try rewrite [List.length_map])) | refine sJ ?_ | refine .intro _ (.intro rfl ?_) | (refine .intro (show (_ : Nat) < List.length _ from by first | omega | (simp only [lnS]; omega) | simp) ?_) | fail | refine draw_rule hty (by kernel_rfl) (by kernel_rfl) ?_ | ((first | refine brB_dec ?_ ?_ | refine brB_ndec ?_ ?_) <;> intro hb <;> (first | contradiction | ((try simp only [lnS] at hb); try (exfalso; omega)))) | (refine brB_split ?_ ?_ <;> intro hb <;> (first | contradiction | exact bT hb (by assumption) | exact bF hb (by assumption) | skip))) <;> (conv => whnf)))
 all_goals first | rfl | (exact bool_eq (by simp))
theorem compareI_spec (a b : Int) : Tri Tryz.prog 73 [.d (.int .i64 a), .d (.int .i64 b)] [] (fun r => r = .d (.int .i64 (cmpI a b))) := by
 refine tri_of_body hty Tryz.func73 rfl (kp [0, 1, 4, 5, 6, 11, 12, 13, 16, 19]) [] _ _ _ (by simp [Tryz.f73]) (by simp) ?_
 ((conv => whnf); repeat' ((first | (intro hq; (try simp only [lnS] at hq); (try rewrite [List.length_map])) | refine sJ ?_ | refine .intro _ (.intro rfl ?_) | (refine .intro (show (_ : Nat) < List.length _ from by first | omega | (simp only [lnS]; omega) | simp) ?_) | (refine call_tri [] (isNaNi_spec _) trivial (fun r hs => ?_); subst hs) | refine draw_rule hty (by kernel_rfl) (by kernel_rfl) ?_ | ((first | refine brB_dec ?_ ?_ | refine brB_ndec ?_ ?_) <;> intro hb <;> (first | contradiction | ((try simp only [lnS] at hb); try (exfalso; omega)))) | (refine brB_split ?_ ?_ <;> intro hb <;> (first | contradiction | exact bT hb (by assumption) | exact bF hb (by assumption) | skip))) <;> (conv => whnf)))
 all_goals (refine int_eq (Eq.symm ?_); unfold cmpI; simp_all <;> omega)
theorem compareS_spec (a b : List UInt8) : Tri Tryz.prog 126 [.d (.str a), .d (.str b)] [] (fun r => r = .d (.int .i64 (cmpB a b))) := by
 refine tri_of_body hty Tryz.func126 rfl (kp [0, 1, 4, 5, 6, 11, 12, 13, 16, 19]) [] _ _ _ (by simp [Tryz.f126]) (by simp) ?_
 ((conv => whnf); repeat' ((first | (intro hq; (try simp only [lnS] at hq); (try rewrite [List.length_map])) | refine sJ ?_ | refine .intro _ (.intro rfl ?_) | (refine .intro (show (_ : Nat) < List.length _ from by first | omega | (simp only [lnS]; omega) | simp) ?_) | (refine call_tri [] (isNaNs_spec _) trivial (fun r hs => ?_); subst hs) | refine draw_rule hty (by kernel_rfl) (by kernel_rfl) ?_ | ((first | refine brB_dec ?_ ?_ | refine brB_ndec ?_ ?_) <;> intro hb <;> (first | contradiction | ((try simp only [lnS] at hb); try (exfalso; omega)))) | (refine brB_split ?_ ?_ <;> intro hb <;> (first | contradiction | exact bT hb (by assumption) | exact bF hb (by assumption) | skip))) <;> (conv => whnf)))
 all_goals (
  refine int_eq (Eq.symm ?_)
  have hr := cmpB_range a b
  have hz := cmpB_zero a b)
 ·rw [bytesLess_eq, decide_eq_true_eq] at hb
  omega
 ·rename_i hb0
  rw [bytesLess_eq, decide_eq_false_iff_not] at hb0
  have : cmpB a b ≠ 0 := fun q => by rw [hz.1 q] at hb; simp at hb
  omega
 ·rename_i hb0
  rw [bytesLess_eq, decide_eq_false_iff_not] at hb0
  rw [bytesLess_eq, decide_eq_false hb0] at hb
  exact hz.2 (by simpa using hb)
theorem or_spec (l : List Int) : Tri Tryz.prog 72 [.d (.sl 1 (l.map numR))] [] (fun r => r = .d (.int .i64 (orF l))) := by
 refine tri_of_body hty Tryz.func72 rfl (kp [0, 2, 3, 5, 6, 7, 8, 9, 14]) [] _ _ _ (by simp [Tryz.f72]) (by simp) ?_
 ((conv => whnf); repeat ((first | (intro hq; try simp only [lnS] at hq) | refine sI ?_ | refine .intro _ (.intro rfl ?_)); (conv => whnf)))
 refine loop_rule hty (fun j : Nat => ([(3, .d (.int .i64 0)), (6, .d (.sl 1 (l.map numR))), (7, .d (.int .i64 l.length)), (8, .d (.int .i64 j))], [])) (fun j => j ≤ l.length ∧ orF l = orF (l.drop j)) (fun j => l.length - j) 0 ⟨by omega, rfl⟩ ⟨by repeat' (first | exact trivial | exact rfl | (rw [List.length_map]; exact rfl) | refine And.intro ?_ ?_), trivial⟩ ?_
 rintro j ⟨hj, hn⟩
 ((conv => whnf); repeat ((first | (intro hq; try simp only [lnS] at hq) | refine sI ?_ | refine .intro _ (.intro rfl ?_)); (conv => whnf)))
 refine brB_dec (fun h1 => ?_) (fun h1 => ?_)
 ·have hjl : j < l.length := by omega
  have hrow : (l.map numR)[(j : Int).toNat]? = some (numR l[j]) := rowC_at hjl
  rw [List.drop_eq_getElem_cons hjl, orF] at hn
  generalize l[j] = x at hrow hn
  ((conv => whnf); repeat' ((first | (intro hq; (try simp only [lnS] at hq); (try rewrite [List.length_map])) | refine sJ ?_ | refine .intro _ (.intro rfl ?_) | (refine .intro (show (_ : Nat) < List.length _ from by first | omega | (simp only [lnS]; omega) | simp) ?_) | (refine ⟨_, hrow, ?_⟩) | refine draw_rule hty (by kernel_rfl) (by kernel_rfl) ?_ | ((first | refine brB_dec ?_ ?_ | refine brB_ndec ?_ ?_) <;> intro hb <;> (first | contradiction | ((try simp only [lnS] at hb); try (exfalso; omega)))) | (refine brB_split ?_ ?_ <;> intro hb <;> (first | contradiction | exact bT hb (by assumption) | exact bF hb (by assumption) | skip))) <;> (conv => whnf)))
  ·rw [if_pos (by assumption)] at hn
   exact int_eq hn.symm
  ·rw [if_neg (by simpa using (by assumption : x = 0))] at hn
   exact ⟨j + 1, ⟨by omega, hn⟩, by dsimp only; omega, by repeat' (first | exact trivial | exact rfl | refine And.intro ?_ ?_), trivial⟩
 ·have hjl : j = l.length := by omega
  subst hjl
  rw [List.drop_length, orF] at hn
  ((conv => whnf); repeat' ((first | (intro hq; (try simp only [lnS] at hq); (try rewrite [List.length_map])) | refine sJ ?_ | refine .intro _ (.intro rfl ?_) | (refine .intro (show (_ : Nat) < List.length _ from by first | omega | (simp only [lnS]; omega) | simp) ?_) | fail | refine draw_rule hty (by kernel_rfl) (by kernel_rfl) ?_ | ((first | refine brB_dec ?_ ?_ | refine brB_ndec ?_ ?_) <;> intro hb <;> (first | contradiction | ((try simp only [lnS] at hb); try (exfalso; omega)))) | (refine brB_split ?_ ?_ <;> intro hb <;> (first | contradiction | exact bT hb (by assumption) | exact bF hb (by assumption) | skip))) <;> (conv => whnf)))
  exact int_eq hn.symm
def cmpSL : List (List UInt8) → List (List UInt8) → Int
 | [], [] => 0
 | [], _ :: _ => -1
 | _ :: _, [] => 1
 | a :: l, b :: m => if cmpB a b ≠ 0 then cmpB a b else cmpSL l m
theorem compareSL_spec (l m : List (List UInt8)) : Tri Tryz.prog 75 [.d (strl l), .d (strl m)] [] (fun r => r = .d (.int .i64 (cmpSL l m))) := by
 refine tri_of_body hty Tryz.func75 rfl (kp [0, 1, 4, 5, 6, 7, 8, 9, 10, 11, 12, 19, 28, 35]) [] _ _ _ (by simp [Tryz.f75]) (by simp) ?_
 ((conv => whnf); repeat ((first | (intro hq; try simp only [lnS] at hq) | refine sI ?_ | refine .intro _ (.intro rfl ?_)); (conv => whnf)))
 refine loop_rule hty (fun j : Nat => ([(0, .d (strl l)), (1, .d (strl m)), (9, .d (strl l)), (10, .d (.int .i64 l.length)), (11, .d (.int .i64 j))], [])) (fun j => j ≤ l.length ∧ j ≤ m.length ∧ cmpSL l m = cmpSL (l.drop j) (m.drop j)) (fun j => l.length - j) 0 ⟨by omega, by omega, rfl⟩ ⟨by repeat' (first | exact trivial | exact rfl | (rw [List.length_map]; exact rfl) | refine And.intro ?_ ?_), trivial⟩ ?_
 rintro j ⟨hj, hjm, hn⟩
 ((conv => whnf); repeat ((first | (intro hq; try simp only [lnS] at hq) | refine sI ?_ | refine .intro _ (.intro rfl ?_)); (conv => whnf)))
 refine brB_dec (fun h1 => ?_) (fun h1 => ?_)
 ·have hjl : j < l.length := by omega
  have hrow : (l.map strR)[(j : Int).toNat]? = some (strR l[j]) := rowC_at hjl
  rw [List.drop_eq_getElem_cons hjl] at hn
  generalize l[j] = x at hrow hn
  ((conv => whnf); repeat ((first | (refine ⟨_, hrow, ?_⟩) | (intro hq; try simp only [lnS] at hq) | refine sI ?_ | refine .intro _ (.intro rfl ?_)); (conv => whnf)))
  refine brB_dec (fun h2 => ?_) (fun h2 => ?_)
  ·have hm : m.drop j = [] := List.drop_eq_nil_of_le (by simp only [List.length_map] at h2; omega)
   rw [hm, cmpSL] at hn
   ((conv => whnf); repeat' ((first | (intro hq; (try simp only [lnS] at hq); (try rewrite [List.length_map])) | refine sJ ?_ | refine .intro _ (.intro rfl ?_) | (refine .intro (show (_ : Nat) < List.length _ from by first | omega | (simp only [lnS]; omega) | simp) ?_) | fail | refine draw_rule hty (by kernel_rfl) (by kernel_rfl) ?_ | ((first | refine brB_dec ?_ ?_ | refine brB_ndec ?_ ?_) <;> intro hb <;> (first | contradiction | ((try simp only [lnS] at hb); try (exfalso; omega)))) | (refine brB_split ?_ ?_ <;> intro hb <;> (first | contradiction | exact bT hb (by assumption) | exact bF hb (by assumption) | skip))) <;> (conv => whnf)))
   exact int_eq hn.symm
  ·have hjm2 : j < m.length := by simp only [List.length_map] at h2; omega
   have hrow2 : (m.map strR)[(j : Int).toNat]? = some (strR m[j]) := rowC_at hjm2
   rw [List.drop_eq_getElem_cons hjm2, cmpSL] at hn
   generalize m[j] = y at hrow2 hn
   ((conv => whnf); repeat' ((first | (intro hq; (try simp only [lnS] at hq); (try rewrite [List.length_map])) | refine sJ ?_ | refine .intro _ (.intro rfl ?_) | (refine .intro (show (_ : Nat) < List.length _ from by first | omega | (simp only [lnS]; omega) | simp) ?_) | (refine ⟨_, hrow2, ?_⟩) | (refine call_tri [] (compareS_spec x y) trivial (fun r hs => ?_); subst hs) | refine draw_rule hty (by kernel_rfl) (by kernel_rfl) ?_ | ((first | refine brB_dec ?_ ?_ | refine brB_ndec ?_ ?_) <;> intro hb <;> (first | contradiction | ((try simp only [lnS] at hb); try (exfalso; omega)))) | (refine brB_split ?_ ?_ <;> intro hb <;> (first | contradiction | exact bT hb (by assumption) | exact bF hb (by assumption) | skip))) <;> (conv => whnf)))
   ·rw [if_pos (by assumption)] at hn
    exact int_eq hn.symm
   ·rw [if_neg (by simpa using (by assumption : cmpB x y = 0))] at hn
    exact ⟨j + 1, ⟨by omega, by omega, hn⟩, by dsimp only; omega, by repeat' (first | exact trivial | exact rfl | refine And.intro ?_ ?_), trivial⟩
 ·have hjl : j = l.length := by omega
  subst hjl
  rw [List.drop_length] at hn
  ((conv => whnf); repeat' ((first | (intro hq; (try simp only [lnS] at hq); (try rewrite [List.length_map])) | refine sJ ?_ | refine .intro _ (.intro rfl ?_) | (refine .intro (show (_ : Nat) < List.length _ from by first | omega | (simp only [lnS]; omega) | simp) ?_) | fail | refine draw_rule hty (by kernel_rfl) (by kernel_rfl) ?_ | ((first | refine brB_dec ?_ ?_ | refine brB_ndec ?_ ?_) <;> intro hb <;> (first | contradiction | ((try simp only [lnS] at hb); try (exfalso; omega)))) | (refine brB_split ?_ ?_ <;> intro hb <;> (first | contradiction | exact bT hb (by assumption) | exact bF hb (by assumption) | skip))) <;> (conv => whnf)))
  ·have hjm2 : l.length < m.length := by simp_all
   rw [List.drop_eq_getElem_cons hjm2, cmpSL] at hn
   exact int_eq hn.symm
  ·rename_i h9
   have hjm2 : m.drop l.length = [] := List.drop_eq_nil_of_le (by simp_all)
   rw [hjm2, cmpSL] at hn
   exact int_eq hn.symm
end Go.Proofs.YtnemengadjimcaaGreatDoor
namespace Go.Proofs.YtnemengadjimcaaGreatDoor
open Go.Proofs
set_option maxRecDepth 10000
attribute [local irreducible] SemVC CallVC Tri Stuck YVC GenP GenVC
mutual
def grR : Cn → List D
 | .mk k n lo hi ps => [.int .i64 k, .str n, .int .i64 lo, .int .i64 hi, .sl 5 (cnRs ps), .int .i64 (sizeF (.mk k n lo hi ps)), .sl 7 (grRs ps)]
def grRs : List Cn → List (List D)
 | [] => []
 | c :: r => grR c :: grRs r
end
theorem grRs_map : ∀ l, grRs l = l.map grR
 | [] => rfl
 | c :: r => by rw [grRs, grRs_map r]; rfl
def grX (c : Cn) (n : Int) (l : List Cn) : List D := [.int .i64 c.kind, .str c.name, .int .i64 c.lo, .int .i64 c.hi, .sl 5 (c.parts.map cnR), .int .i64 n, .sl 7 (l.map grR)]
theorem grR_eq (c : Cn) : grR c = grX c (sizeF c) c.parts := by
 cases c; rw [grR, cnRs_map, grRs_map]; rfl
theorem nodesL_len_take {l : List Cn} {j : Nat} (h : j < l.length) : (nodesL (l.take (j + 1))).length = (nodesL (l.take j)).length + sizeF l[j] := by
 rw [nodesL_take h, List.length_append]; rfl
theorem nodesL_take_le (l : List Cn) (j : Nat) : (nodesL (l.take j)).length ≤ (nodesL l).length := by
 conv => rhs; rw [← List.take_append_drop j l, nodesL_append, List.length_append]
 omega
theorem len_nodesL : ∀ (l : List Cn), l.length ≤ (nodesL l).length
 | [] => by simp
 | c :: r => by
  have h1 := len_nodesL r
  have h2 := sizeF_pos c
  rw [sizeF] at h2
  rw [nodesL, List.length_append, List.length_cons]; omega
theorem sizeF_eq (c : Cn) : sizeF c = (nodesL c.parts).length + 1 := by rw [sizeF, nodes_eq]; simp
theorem grow_spec : ∀ (c : Cn) (_ : sizeF c ≤ 1000000), Tri Tryz.prog 122 [.d (.agg (cnR c))] [] (fun r => r = .d (.agg (grR c))) := by
 refine Cn.ind ?_
 intro c ih hs
 have hsz := sizeF_eq c
 rw [cnR_eq, grR_eq]
 refine tri_of_bodyF false [1, 4, 5] hty Tryz.func122 rfl (kp [0, 1, 2, 4, 5, 9, 10, 11, 12]) [] _ _ _ (by simp [Tryz.f122]) (by simp) ?_
 ((conv => whnf); repeat ((first | (intro hq; try simp only [lnS] at hq) | refine sI ?_ | refine .intro _ (.intro rfl ?_)); (conv => whnf)))
 refine SemVC.mownC 2 120 146 146 7 6 rfl rfl (fresh_of (by with_unfolding_all exact rfl)) ?_
 refine loop_rule hty (fun y : Nat × Nat => ([(2, .ptr 2 0), (9, .d (.sl 5 (c.parts.map cnR))), (10, .d (.int .i64 c.parts.length)), (11, .d (.int .i64 y.1))], [(120, .mrow 146 7 y.2 ((c.parts.take y.1).map grR)), (2, .cells 146 [.d (.int .i64 c.kind), .d (.str c.name), .d (.int .i64 c.lo), .d (.int .i64 c.hi), .d (.sl 5 (c.parts.map cnR)), .d (.int .i64 ((nodesL (c.parts.take y.1)).length + 1 : Nat)), .mw 120 7 y.1])])) (fun y => y.1 ≤ c.parts.length) (fun y => c.parts.length - y.1) (0, 0) (by dsimp only; omega) ⟨by repeat' (first | exact trivial | exact rfl | (rw [List.length_map]; exact rfl) | refine And.intro ?_ ?_), by repeat' (first | exact trivial | exact rfl | refine And.intro ?_ ?_)⟩ ?_
 rintro ⟨j, cap⟩ hj
 dsimp only at hj
 ((conv => whnf); repeat ((first | (intro hq; try simp only [lnS] at hq) | refine sI ?_ | refine .intro _ (.intro rfl ?_)); (conv => whnf)))
 refine brB_dec (fun h1 => ?_) (fun h1 => ?_)
 ·have hjl : j < c.parts.length := by dsimp only at h1; omega
  have hrow' : (c.parts.map cnR)[(j : Int).toNat]? = some (cnR c.parts[j]) := rowC_at hjl
  have hp := sizeF_part (List.getElem_mem (l := c.parts) hjl)
  have hi := ih c.parts[j] (List.getElem_mem hjl) (by omega)
  have hnl := nodesL_len_take hjl
  have hle := nodesL_take_le c.parts (j + 1)
  rw [cnR_eq] at hrow' hi
  rw [grR_eq] at hi
  have hgr := grR_eq c.parts[j]
  ((conv => whnf); repeat' ((first | (intro hq; (try simp only [lnS] at hq); (try rewrite [List.length_map])) | refine sJ ?_ | refine .intro _ (.intro rfl ?_) | (refine .intro (show (_ : Nat) < List.length _ from by first | omega | (simp only [lnS]; omega) | simp) ?_) | (refine ⟨_, hrow', ?_⟩) | (refine call_tri [] hi trivial (fun r hs => ?_); subst hs) | refine draw_rule hty (by kernel_rfl) (by kernel_rfl) ?_ | ((first | refine brB_dec ?_ ?_ | refine brB_ndec ?_ ?_) <;> intro hb <;> (first | contradiction | ((try simp only [lnS] at hb); try (exfalso; omega)))) | (refine brB_split ?_ ?_ <;> intro hb <;> (first | contradiction | exact bT hb (by assumption) | exact bF hb (by assumption) | skip))) <;> (conv => whnf)))
  have hpl := len_nodesL c.parts
  have hlt : ((c.parts.take j).map grR).length = j := by rw [List.length_map, List.length_take]; omega
  refine ⟨?_, fun cap' hc => ?_⟩
  ·show (((c.parts.take j).map grR).length + 1) * 96 ≤ 140737488355328
   rw [hlt]; omega
  ·((conv => whnf); repeat ((first | (intro hq; try simp only [lnS] at hq) | refine sI ?_ | refine .intro _ (.intro rfl ?_)); (conv => whnf)))
   have hrows : (c.parts.take (j + 1)).map grR = (c.parts.take j).map grR ++ [grX c.parts[j] (sizeF c.parts[j]) c.parts[j].parts] := by
    rw [List.take_succ_eq_append_getElem hjl, List.map_append, List.map_cons, List.map_nil, hgr]
   have hcast : (((nodesL (c.parts.take (j + 1))).length + 1 : Nat) : Int) = (((nodesL (c.parts.take j)).length + 1 : Nat) : Int) + (sizeF c.parts[j] : Nat) := by omega
   refine ⟨(j + 1, cap'), by dsimp only; omega, by dsimp only; omega, ⟨by repeat' (first | exact trivial | exact rfl | refine And.intro ?_ ?_), ?_⟩⟩
   dsimp only
   rw [hrows, hcast]
   refine ⟨rfl, ?_, trivial⟩
   have hmw : SV.mw 120 7 (j + 1) = SV.mw 120 7 (((c.parts.take j).map grR).length + 1) := by rw [hlt]
   rw [hmw]
   rfl
 ·have hjl : j = c.parts.length := by dsimp only at h1; omega
  subst hjl
  rw [List.take_length, ← hsz]
  ((conv => whnf); repeat' ((first | (intro hq; (try simp only [lnS] at hq); (try rewrite [List.length_map])) | refine sJ ?_ | refine .intro _ (.intro rfl ?_) | (refine .intro (show (_ : Nat) < List.length _ from by first | omega | (simp only [lnS]; omega) | simp) ?_) | fail | refine draw_rule hty (by kernel_rfl) (by kernel_rfl) ?_ | ((first | refine brB_dec ?_ ?_ | refine brB_ndec ?_ ?_) <;> intro hb <;> (first | contradiction | ((try simp only [lnS] at hb); try (exfalso; omega)))) | (refine brB_split ?_ ?_ <;> intro hb <;> (first | contradiction | exact bT hb (by assumption) | exact bF hb (by assumption) | skip))) <;> (conv => whnf)))
  refine ⟨(List.length_map ..).symm, ?_⟩
  ((conv => whnf); repeat ((first | (intro hq; try simp only [lnS] at hq) | refine sI ?_ | refine .intro _ (.intro rfl ?_)); (conv => whnf)))
  rfl
mutual
def cmpC : Cn → Cn → Int
 | .mk k n lo hi ps, d =>
  if orF [cmpI (sizeF (.mk k n lo hi ps)) (sizeF d), cmpI k d.kind, cmpB n d.name, cmpI lo d.lo, cmpI hi d.hi] ≠ 0 then orF [cmpI (sizeF (.mk k n lo hi ps)) (sizeF d), cmpI k d.kind, cmpB n d.name, cmpI lo d.lo, cmpI hi d.hi]
  else cmpL ps d.parts
def cmpL : List Cn → List Cn → Int
 | [], [] => 0
 | [], _ :: _ => -1
 | _ :: _, [] => 1
 | a :: l, b :: m => if cmpC a b ≠ 0 then cmpC a b else cmpL l m
end
def headC (c d : Cn) : Int := orF [cmpI (sizeF c) (sizeF d), cmpI c.kind d.kind, cmpB c.name d.name, cmpI c.lo d.lo, cmpI c.hi d.hi]
theorem cmpC_eq (c d : Cn) : cmpC c d = if headC c d ≠ 0 then headC c d else cmpL c.parts d.parts := by
 cases c; rw [cmpC]; rfl
theorem compareFunc_spec (f : FuncId) (hcall : callable Tryz.prog f = true) (l m : List Cn) (hf : ∀ a ∈ l, ∀ b ∈ m, Tri Tryz.prog f [.d (.agg (grR a)), .d (.agg (grR b))] [] (fun r => r = .d (.int .i64 (cmpC a b)))) :
  Tri Tryz.prog 164 [.d (.sl 7 (l.map grR)), .d (.sl 7 (m.map grR)), .fn f [] []] [] (fun r => r = .d (.int .i64 (cmpL l m))) := by
 refine tri_of_bodyF false [8, 9] hty Tryz.func164 rfl (kp [0, 1, 2, 6, 7, 8, 9, 10, 11, 12, 13, 14, 21, 31, 38]) [] _ _ _ (by simp [Tryz.f164]) (by simp) ?_
 ((conv => whnf); repeat ((first | (intro hq; try simp only [lnS] at hq) | refine sI ?_ | refine .intro _ (.intro rfl ?_)); (conv => whnf)))
 refine loop_rule hty (fun j : Nat => ([(0, .d (.sl 7 (l.map grR))), (1, .d (.sl 7 (m.map grR))), (2, .fn f [] []), (11, .d (.sl 7 (l.map grR))), (12, .d (.int .i64 l.length)), (13, .d (.int .i64 j))], [])) (fun j => j ≤ l.length ∧ j ≤ m.length ∧ cmpL l m = cmpL (l.drop j) (m.drop j)) (fun j => l.length - j) 0 ⟨by omega, by omega, rfl⟩ ⟨by repeat' (first | exact trivial | exact rfl | (rw [List.length_map]; exact rfl) | refine And.intro ?_ ?_), trivial⟩ ?_
 rintro j ⟨hj, hjm, hn⟩
 ((conv => whnf); repeat ((first | (intro hq; try simp only [lnS] at hq) | refine sI ?_ | refine .intro _ (.intro rfl ?_)); (conv => whnf)))
 refine brB_dec (fun h1 => ?_) (fun h1 => ?_)
 ·have hjl : j < l.length := by omega
  have hrow : (l.map grR)[(j : Int).toNat]? = some (grR l[j]) := rowC_at hjl
  rw [grR_eq] at hrow
  rw [List.drop_eq_getElem_cons hjl] at hn
  ((conv => whnf); repeat ((first | (refine ⟨_, hrow, ?_⟩) | (intro hq; try simp only [lnS] at hq) | refine sI ?_ | refine .intro _ (.intro rfl ?_)); (conv => whnf)))
  refine brB_dec (fun h2 => ?_) (fun h2 => ?_)
  ·have hm : m.drop j = [] := List.drop_eq_nil_of_le (by simp only [List.length_map] at h2; omega)
   rw [hm, cmpL] at hn
   ((conv => whnf); repeat' ((first | (intro hq; (try simp only [lnS] at hq); (try rewrite [List.length_map])) | refine sJ ?_ | refine .intro _ (.intro rfl ?_) | (refine .intro (show (_ : Nat) < List.length _ from by first | omega | (simp only [lnS]; omega) | simp) ?_) | fail | refine draw_rule hty (by kernel_rfl) (by kernel_rfl) ?_ | ((first | refine brB_dec ?_ ?_ | refine brB_ndec ?_ ?_) <;> intro hb <;> (first | contradiction | ((try simp only [lnS] at hb); try (exfalso; omega)))) | (refine brB_split ?_ ?_ <;> intro hb <;> (first | contradiction | exact bT hb (by assumption) | exact bF hb (by assumption) | skip))) <;> (conv => whnf)))
   exact int_eq hn.symm
  ·have hjm2 : j < m.length := by simp only [List.length_map] at h2; omega
   have hrow2 : (m.map grR)[(j : Int).toNat]? = some (grR m[j]) := rowC_at hjm2
   rw [grR_eq] at hrow2
   have hi := hf l[j] (List.getElem_mem hjl) m[j] (List.getElem_mem hjm2)
   rw [grR_eq, grR_eq] at hi
   rw [List.drop_eq_getElem_cons hjm2, cmpL] at hn
   ((conv => whnf); repeat' ((first | (intro hq; (try simp only [lnS] at hq); (try rewrite [List.length_map])) | refine sJ ?_ | refine .intro _ (.intro rfl ?_) | (refine .intro (show (_ : Nat) < List.length _ from by first | omega | (simp only [lnS]; omega) | simp) ?_) | (refine ⟨_, hrow2, ?_⟩) | (refine call_tri [] hi trivial (fun r hs => ?_); subst hs) | refine draw_rule hty (by kernel_rfl) (by kernel_rfl) ?_ | ((first | refine brB_dec ?_ ?_ | refine brB_ndec ?_ ?_) <;> intro hb <;> (first | contradiction | ((try simp only [lnS] at hb); try (exfalso; omega)))) | (refine brB_split ?_ ?_ <;> intro hb <;> (first | contradiction | exact bT hb (by assumption) | exact bF hb (by assumption) | skip))) <;> (conv => whnf)))
   ·rw [if_pos (by assumption)] at hn
    exact int_eq hn.symm
   ·rw [if_neg (by simpa using (by assumption : cmpC l[j] m[j] = 0))] at hn
    exact ⟨j + 1, ⟨by omega, by omega, hn⟩, by dsimp only; omega, by repeat' (first | exact trivial | exact rfl | refine And.intro ?_ ?_), trivial⟩
 ·have hjl : j = l.length := by omega
  subst hjl
  rw [List.drop_length] at hn
  ((conv => whnf); repeat' ((first | (intro hq; (try simp only [lnS] at hq); (try rewrite [List.length_map])) | refine sJ ?_ | refine .intro _ (.intro rfl ?_) | (refine .intro (show (_ : Nat) < List.length _ from by first | omega | (simp only [lnS]; omega) | simp) ?_) | fail | refine draw_rule hty (by kernel_rfl) (by kernel_rfl) ?_ | ((first | refine brB_dec ?_ ?_ | refine brB_ndec ?_ ?_) <;> intro hb <;> (first | contradiction | ((try simp only [lnS] at hb); try (exfalso; omega)))) | (refine brB_split ?_ ?_ <;> intro hb <;> (first | contradiction | exact bT hb (by assumption) | exact bF hb (by assumption) | skip))) <;> (conv => whnf)))
  ·have hjm2 : l.length < m.length := by simp_all
   rw [List.drop_eq_getElem_cons hjm2, cmpL] at hn
   exact int_eq hn.symm
  ·have hjm2 : m.drop l.length = [] := List.drop_eq_nil_of_le (by simp_all)
   rw [hjm2, cmpL] at hn
   exact int_eq hn.symm
end Go.Proofs.YtnemengadjimcaaGreatDoor
