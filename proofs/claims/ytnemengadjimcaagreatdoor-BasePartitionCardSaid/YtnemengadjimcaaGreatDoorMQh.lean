/-
  Base: alike, equal, role axioms, Find, Same, Open.
  Conditions: none.
-/
import Derived.Test.YtnemengadjimcaaGreatDoorMQb
import Derived.Test.YtnemengadjimcaaGreatDoorMAo
set_option linter.unnecessarySimpa false
set_option linter.unusedSectionVars false
set_option linter.unusedSimpArgs false
set_option linter.unusedVariables false
set_option maxHeartbeats 4000000
namespace Go.Proofs.YtnemengadjimcaaGreatDoor
open Go.Proofs
set_option maxRecDepth 10000
attribute [local irreducible] SemVC CallVC Tri Stuck YVC GenP GenVC
abbrev basR (l : List Ax) : D := .agg [.sl 16 (l.map axR)]
theorem smA_ok {x : Ax} (h : axiomE x = 0) : SmA x := by
 obtain ⟨h1, h2, h3⟩ := axiomE_bnd h
 exact ⟨by omega, by omega, by omega⟩
theorem smA_tidy {x : Ax} (h : (tidyA x).2 = 0) : SmA (tidyA x).1 := smA_ok (tidyA_valid (by rw [tidyA_twice h]))
theorem like_spec (x y : Ax) (hx : SmA x) (hy : SmA y) : Tri Tryz.prog 60 [.d (.agg (axR x)), .d (.agg (axR y))] [] (fun r => r = .d (.bool (decide (cmpAx x y = 0)))) := by
 have c := CompareAxiom_spec x y hx.1 hx.2.1 hx.2.2 hy.1 hy.2.1 hy.2.2
 refine tri_of_bodyF false [2, 3] hty Tryz.func60 rfl (kp [0, 1, 2, 3, 4]) [] _ _ _ (by simp [Tryz.f60]) (by simp) ?_
 generalize cmpAx x y = v at *
 ((conv => whnf); repeat' ((first | (intro hq; (try simp only [lnS] at hq); (try rewrite [List.length_map])) | refine sJ ?_ | refine .intro _ (.intro rfl ?_) | (refine .intro (show (_ : Nat) < List.length _ from by first | omega | (simp only [lnS]; omega) | simp) ?_) | (refine call_tri [] c trivial (fun r hs => ?_); subst hs) | refine draw_rule hty (by kernel_rfl) (by kernel_rfl) ?_ | ((first | refine brB_dec ?_ ?_ | refine brB_ndec ?_ ?_) <;> intro hb <;> (first | contradiction | ((try simp only [lnS] at hb); try (exfalso; omega)))) | (refine brB_split ?_ ?_ <;> intro hb <;> (first | contradiction | exact bT hb (by assumption) | exact bF hb (by assumption) | skip))) <;> (conv => whnf)))
 rfl
theorem equal_spec (x y : Ax) (hx : SmA x) (hy : SmA y) : Tri Tryz.prog 63 [.d (.agg (axR x)), .d (.agg (axR y))] [] (fun r => r = .d (.bool (eqA x y))) := by
 have c := like_spec x y hx hy
 have hv : eqA x y = (decide (x.isopen = y.isopen) && decide (cmpAx x y = 0)) := rfl
 rw [hv]
 generalize decide (cmpAx x y = 0) = v at *
 clear hv
 obtain ⟨k, o, a1, a2, a3, a4, a5, a6⟩ := x
 obtain ⟨k', o', b1, b2, b3, b4, b5, b6⟩ := y
 cases o <;> cases o'
 all_goals
  refine tri_of_bodyF false [2, 3] hty Tryz.func63 rfl (kp [0, 1, 2, 3, 4]) [] _ _ _ (by simp [Tryz.f63]) (by simp) ?_
  ((conv => whnf); repeat' ((first | (intro hq; (try simp only [lnS] at hq); (try rewrite [List.length_map])) | refine sJ ?_ | refine .intro _ (.intro rfl ?_) | (refine .intro (show (_ : Nat) < List.length _ from by first | omega | (simp only [lnS]; omega) | simp) ?_) | (refine call_tri [] c trivial (fun r hs => ?_); subst hs) | refine draw_rule hty (by kernel_rfl) (by kernel_rfl) ?_ | ((first | refine brB_dec ?_ ?_ | refine brB_ndec ?_ ?_) <;> intro hb <;> (first | contradiction | ((try simp only [lnS] at hb); try (exfalso; omega)))) | (refine brB_split ?_ ?_ <;> intro hb <;> (first | contradiction | exact bT hb (by assumption) | exact bF hb (by assumption) | skip))) <;> (conv => whnf)))
 all_goals rfl
theorem isRole_spec (x : Ax) : Tri Tryz.prog 64 [.d (.agg (axR x))] [] (fun r => r = .d (.bool (roleA x))) := by
 unfold roleA
 refine tri_of_bodyF false [1] hty Tryz.func64 rfl (kp [0, 1, 2]) [] _ _ _ (by simp [Tryz.f64]) (by simp) ?_
 ((conv => whnf); repeat' ((first | (intro hq; (try simp only [lnS] at hq); (try rewrite [List.length_map])) | refine sJ ?_ | refine .intro _ (.intro rfl ?_) | (refine .intro (show (_ : Nat) < List.length _ from by first | omega | (simp only [lnS]; omega) | simp) ?_) | fail | refine draw_rule hty (by kernel_rfl) (by kernel_rfl) ?_ | ((first | refine brB_dec ?_ ?_ | refine brB_ndec ?_ ?_) <;> intro hb <;> (first | contradiction | ((try simp only [lnS] at hb); try (exfalso; omega)))) | (refine brB_split ?_ ?_ <;> intro hb <;> (first | contradiction | exact bT hb (by assumption) | exact bF hb (by assumption) | skip))) <;> (conv => whnf)))
 all_goals (refine bool_eq ?_; simp [*])
def idxA (x : Ax) (l : List Ax) : Option Nat := l.findIdx? fun y => decide (cmpAx x y = 0)
def idxI (x : Ax) (l : List Ax) : Int := match idxA x l with | some i => (i : Int) | none => -1
theorem idx_hit {x : Ax} {l : List Ax} {j : Nat} (hj : j < l.length) (hz : ∀ y ∈ l.take j, cmpAx x y ≠ 0) (h : cmpAx x l[j] = 0) : idxA x l = some j := by
 unfold idxA
 rw [List.findIdx?_eq_some_iff_getElem]
 refine ⟨hj, by simpa using h, fun i hi => ?_⟩
 have : l[i] ∈ l.take j := by
  rw [List.mem_take_iff_getElem]
  exact ⟨i, by omega, rfl⟩
 simpa using hz _ this
theorem idx_none {x : Ax} {l : List Ax} : idxA x l = none ↔ ∀ y ∈ l, cmpAx x y ≠ 0 := by
 unfold idxA
 rw [List.findIdx?_eq_none_iff]
 simp
theorem idx_some {x : Ax} {l : List Ax} {i : Nat} (h : idxA x l = some i) : ∃ hi : i < l.length, cmpAx x l[i] = 0 := by
 unfold idxA at h
 rw [List.findIdx?_eq_some_iff_getElem] at h
 obtain ⟨hi, h1, _⟩ := h
 exact ⟨hi, by simpa using h1⟩
theorem indexA_spec (x : Ax) (l : List Ax) (hx : SmA x) (hl : ∀ y ∈ l, SmA y) : Tri Tryz.prog 71 [.d (.sl 16 (l.map axR)), .fn 60 [.d (.agg (axR x))] []] [] (fun r => r = .d (.int .i64 (idxI x l))) := by
 refine Tri.len 0 rfl fun hlen => ?_
 rw [List.length_map] at hlen
 refine tri_of_bodyF false [] hty Tryz.func71 rfl (kp [0, 1, 4, 5, 7, 8, 9, 16]) [] _ _ _ (by simp [Tryz.f71]) (by simp) ?_
 ((conv => whnf); repeat ((first | (intro hq; try simp only [lnS] at hq) | refine sI ?_ | refine .intro _ (.intro rfl ?_)); (conv => whnf)))
 refine loop_rule hty (fun j : Nat => ([(0, .d (.sl 16 (l.map axR))), (1, .fn 60 [.d (.agg (axR x))] []), (7, .d (.int .i64 l.length)), (8, .d (.int .i64 j))], [])) (fun j => j ≤ l.length ∧ ∀ y ∈ l.take j, cmpAx x y ≠ 0) (fun j => l.length - j) 0 ⟨by omega, by simp⟩ ⟨by repeat' (first | exact trivial | exact rfl | (rw [List.length_map]; exact rfl) | refine And.intro ?_ ?_), trivial⟩ ?_
 rintro j ⟨hj, hz⟩
 ((conv => whnf); repeat ((first | (intro hq; try simp only [lnS] at hq) | refine sI ?_ | refine .intro _ (.intro rfl ?_)); (conv => whnf)))
 refine brB_dec (fun h1 => ?_) (fun h1 => ?_)
 ·have hjl : j < l.length := by omega
  have hrow := axR_rows hjl
  have c := like_spec x l[j] hx (hl _ (List.getElem_mem hjl))
  have hit := idx_hit hjl hz
  have hz2 : cmpAx x l[j] ≠ 0 → ∀ y ∈ l.take (j + 1), cmpAx x y ≠ 0 := fun h2 y hy => by
   rw [List.take_succ_eq_append_getElem hjl] at hy
   rcases List.mem_append.1 hy with hy | hy
   ·exact hz y hy
   ·simp at hy; subst hy; exact h2
  ((conv => whnf); repeat ((first | (refine ⟨_, hrow, ?_⟩) | (refine call_tri [] c trivial (fun r hs => ?_); subst hs) | (intro hq; try simp only [lnS] at hq) | refine sI ?_ | refine .intro _ (.intro rfl ?_)); (conv => whnf)))
  refine brB_dec (fun h2 => ?_) (fun h2 => ?_)
  ·have hv : idxI x l = (j : Int) := by unfold idxI; rw [hit h2]
   rw [hv]
   ((conv => whnf); repeat' ((first | (intro hq; (try simp only [lnS] at hq); (try rewrite [List.length_map])) | refine sJ ?_ | refine .intro _ (.intro rfl ?_) | (refine .intro (show (_ : Nat) < List.length _ from by first | omega | (simp only [lnS]; omega) | simp) ?_) | fail | refine draw_rule hty (by kernel_rfl) (by kernel_rfl) ?_ | ((first | refine brB_dec ?_ ?_ | refine brB_ndec ?_ ?_) <;> intro hb <;> (first | contradiction | ((try simp only [lnS] at hb); try (exfalso; omega)))) | (refine brB_split ?_ ?_ <;> intro hb <;> (first | contradiction | exact bT hb (by assumption) | exact bF hb (by assumption) | skip))) <;> (conv => whnf)))
   rfl
  ·((conv => whnf); repeat' ((first | (intro hq; (try simp only [lnS] at hq); (try rewrite [List.length_map])) | refine sJ ?_ | refine .intro _ (.intro rfl ?_) | (refine .intro (show (_ : Nat) < List.length _ from by first | omega | (simp only [lnS]; omega) | simp) ?_) | fail | refine draw_rule hty (by kernel_rfl) (by kernel_rfl) ?_ | ((first | refine brB_dec ?_ ?_ | refine brB_ndec ?_ ?_) <;> intro hb <;> (first | contradiction | ((try simp only [lnS] at hb); try (exfalso; omega)))) | (refine brB_split ?_ ?_ <;> intro hb <;> (first | contradiction | exact bT hb (by assumption) | exact bF hb (by assumption) | skip))) <;> (conv => whnf)))
   exact ⟨j + 1, ⟨by omega, hz2 h2⟩, by dsimp only; omega, ⟨by repeat' (first | exact trivial | exact rfl | refine And.intro ?_ ?_), by repeat' (first | exact trivial | exact rfl | refine And.intro ?_ ?_)⟩⟩
 ·have hjl : j = l.length := by omega
  subst hjl
  rw [List.take_length] at hz
  have hv : idxI x l = -1 := by unfold idxI; rw [idx_none.2 hz]
  rw [hv]
  ((conv => whnf); repeat' ((first | (intro hq; (try simp only [lnS] at hq); (try rewrite [List.length_map])) | refine sJ ?_ | refine .intro _ (.intro rfl ?_) | (refine .intro (show (_ : Nat) < List.length _ from by first | omega | (simp only [lnS]; omega) | simp) ?_) | fail | refine draw_rule hty (by kernel_rfl) (by kernel_rfl) ?_ | ((first | refine brB_dec ?_ ?_ | refine brB_ndec ?_ ?_) <;> intro hb <;> (first | contradiction | ((try simp only [lnS] at hb); try (exfalso; omega)))) | (refine brB_split ?_ ?_ <;> intro hb <;> (first | contradiction | exact bT hb (by assumption) | exact bF hb (by assumption) | skip))) <;> (conv => whnf)))
  rfl
def findA (l : List Ax) (a : Ax) : Int × Bool := if (tidyA a).2 ≠ 0 then (0, false) else match idxA (tidyA a).1 l with | some i => ((i : Int), true) | none => (0, false)
theorem find_spec (l : List Ax) (a : Ax) (hl : ∀ y ∈ l, SmA y) : Tri Tryz.prog 29 [.d (basR l), .d (.agg (axR a))] NG (fun r => r = .tup [.d (.int .i64 (findA l a).1), .d (.bool (findA l a).2)]) := by
 have ht := TidyAxiom_spec a
 have hi := fun h => indexA_spec (tidyA a).1 l (smA_tidy h) hl
 have hv : findA l a = if (tidyA a).2 ≠ 0 then (0, false) else match idxA (tidyA a).1 l with | some i => ((i : Int), true) | none => (0, false) := rfl
 rw [hv]
 clear hv
 have hI : idxI (tidyA a).1 l = match idxA (tidyA a).1 l with | some i => (i : Int) | none => -1 := rfl
 generalize idxA (tidyA a).1 l = I at *
 generalize idxI (tidyA a).1 l = J at *
 generalize (tidyA a).1 = x at *
 generalize (tidyA a).2 = e at *
 refine tri_of_bodyF false [2, 3, 6] hty Tryz.func29 rfl (kp [0, 1, 2, 3, 4, 5, 6, 7, 14, 22]) [] _ _ _ (by simp [Tryz.f29]) (by decide) ?_
 ((conv => whnf); repeat ((first | (refine call_tri NG ht ⟨rfl, rfl, trivial⟩ (fun r hs => ?_); subst hs) | (intro hq; try simp only [lnS] at hq) | refine sI ?_ | refine .intro _ (.intro rfl ?_)); (conv => whnf)))
 refine brB_ndec (fun h1 => ?_) (fun h1 => ?_)
 ·rw [if_pos h1]
  ((conv => whnf); repeat' ((first | (intro hq; (try simp only [lnS] at hq); (try rewrite [List.length_map])) | refine sJ ?_ | refine .intro _ (.intro rfl ?_) | (refine .intro (show (_ : Nat) < List.length _ from by first | omega | (simp only [lnS]; omega) | simp) ?_) | fail | refine draw_rule hty (by kernel_rfl) (by kernel_rfl) ?_ | ((first | refine brB_dec ?_ ?_ | refine brB_ndec ?_ ?_) <;> intro hb <;> (first | contradiction | ((try simp only [lnS] at hb); try (exfalso; omega)))) | (refine brB_split ?_ ?_ <;> intro hb <;> (first | contradiction | exact bT hb (by assumption) | exact bF hb (by assumption) | skip))) <;> (conv => whnf)))
  rfl
 ·have h0 : e = 0 := by simpa using h1
  have hi := hi h0
  rw [if_neg (by simp [h0])]
  ((conv => whnf); repeat ((first | (refine call_tri [] hi trivial (fun r hs => ?_); subst hs) | (intro hq; try simp only [lnS] at hq) | refine sI ?_ | refine .intro _ (.intro rfl ?_)); (conv => whnf)))
  cases I with
  | none =>
   dsimp only at hI
   subst hI
   ((conv => whnf); repeat' ((first | (intro hq; (try simp only [lnS] at hq); (try rewrite [List.length_map])) | refine sJ ?_ | refine .intro _ (.intro rfl ?_) | (refine .intro (show (_ : Nat) < List.length _ from by first | omega | (simp only [lnS]; omega) | simp) ?_) | fail | refine draw_rule hty (by kernel_rfl) (by kernel_rfl) ?_ | ((first | refine brB_dec ?_ ?_ | refine brB_ndec ?_ ?_) <;> intro hb <;> (first | contradiction | ((try simp only [lnS] at hb); try (exfalso; omega)))) | (refine brB_split ?_ ?_ <;> intro hb <;> (first | contradiction | exact bT hb (by assumption) | exact bF hb (by assumption) | skip))) <;> (conv => whnf)))
   rfl
  | some i =>
   dsimp only at hI
   subst hI
   ((conv => whnf); repeat' ((first | (intro hq; (try simp only [lnS] at hq); (try rewrite [List.length_map])) | refine sJ ?_ | refine .intro _ (.intro rfl ?_) | (refine .intro (show (_ : Nat) < List.length _ from by first | omega | (simp only [lnS]; omega) | simp) ?_) | fail | refine draw_rule hty (by kernel_rfl) (by kernel_rfl) ?_ | ((first | refine brB_dec ?_ ?_ | refine brB_ndec ?_ ?_) <;> intro hb <;> (first | contradiction | ((try simp only [lnS] at hb); try (exfalso; omega)))) | (refine brB_split ?_ ?_ <;> intro hb <;> (first | contradiction | exact bT hb (by assumption) | exact bF hb (by assumption) | skip))) <;> (conv => whnf)))
   rfl
theorem same1_spec (x y : Ax) (hx : SmA x) (hy : SmA y) : Tri Tryz.prog 78 [.d (.agg (axR x)), .d (.agg (axR y))] [] (fun r => r = .d (.bool (eqA x y))) := by
 have c := equal_spec x y hx hy
 refine tri_of_bodyF false [2, 3] hty Tryz.func78 rfl (kp [0, 1, 2, 3, 4]) [] _ _ _ (by simp [Tryz.f78]) (by simp) ?_
 ((conv => whnf); repeat' ((first | (intro hq; (try simp only [lnS] at hq); (try rewrite [List.length_map])) | refine sJ ?_ | refine .intro _ (.intro rfl ?_) | (refine .intro (show (_ : Nat) < List.length _ from by first | omega | (simp only [lnS]; omega) | simp) ?_) | (refine call_tri [] c trivial (fun r hs => ?_); subst hs) | refine draw_rule hty (by kernel_rfl) (by kernel_rfl) ?_ | ((first | refine brB_dec ?_ ?_ | refine brB_ndec ?_ ?_) <;> intro hb <;> (first | contradiction | ((try simp only [lnS] at hb); try (exfalso; omega)))) | (refine brB_split ?_ ?_ <;> intro hb <;> (first | contradiction | exact bT hb (by assumption) | exact bF hb (by assumption) | skip))) <;> (conv => whnf)))
 rfl
def eqL : List Ax → List Ax → Bool
 | x :: l, y :: m => eqA x y && eqL l m
 | [], [] => true
 | _, _ => false
theorem eqL_iff : ∀ {l m : List Ax}, eqL l m = true ↔ l = m
 | [], [] => by simp [eqL]
 | [], _ :: _ => by simp [eqL]
 | _ :: _, [] => by simp [eqL]
 | x :: l, y :: m => by rw [eqL, Bool.and_eq_true, eqA_iff, eqL_iff]; simp
theorem eqL_take {l m : List Ax} {j : Nat} (h1 : j < l.length) (h2 : l.length = m.length) (h : eqA l[j] (m[j]'(by omega)) = false) : eqL l m = false := by
 rw [Bool.eq_false_iff]
 intro he
 have := eqL_iff.1 he
 subst this
 rw [eqA_iff.2 rfl] at h
 cases h
theorem equalF_spec (l m : List Ax) (hl : ∀ y ∈ l, SmA y) (hm : ∀ y ∈ m, SmA y) : Tri Tryz.prog 77 [.d (.sl 16 (l.map axR)), .d (.sl 16 (m.map axR)), .fn 78 [] []] [] (fun r => r = .d (.bool (eqL l m))) := by
 refine Tri.len 0 rfl fun hlen => ?_
 rw [List.length_map] at hlen
 refine tri_of_bodyF false [8, 9] hty Tryz.func77 rfl (kp [0, 1, 2, 6, 7, 8, 9, 14, 15, 16, 17, 18, 30]) [] _ _ _ (by simp [Tryz.f77]) (by simp) ?_
 ((conv => whnf); repeat ((first | (intro hq; try simp only [lnS] at hq) | refine sI ?_ | refine .intro _ (.intro rfl ?_)); (conv => whnf)))
 refine brB_ndec (fun h0 => ?_) (fun h0 => ?_)
 ·have hv : eqL l m = false := by
   rw [Bool.eq_false_iff]
   intro he
   have := eqL_iff.1 he
   subst this
   exact h0 rfl
  rw [hv]
  ((conv => whnf); repeat' ((first | (intro hq; (try simp only [lnS] at hq); (try rewrite [List.length_map])) | refine sJ ?_ | refine .intro _ (.intro rfl ?_) | (refine .intro (show (_ : Nat) < List.length _ from by first | omega | (simp only [lnS]; omega) | simp) ?_) | fail | refine draw_rule hty (by kernel_rfl) (by kernel_rfl) ?_ | ((first | refine brB_dec ?_ ?_ | refine brB_ndec ?_ ?_) <;> intro hb <;> (first | contradiction | ((try simp only [lnS] at hb); try (exfalso; omega)))) | (refine brB_split ?_ ?_ <;> intro hb <;> (first | contradiction | exact bT hb (by assumption) | exact bF hb (by assumption) | skip))) <;> (conv => whnf)))
  rfl
 ·have hlm : l.length = m.length := by
   have h0 : ((l.map axR).length : Int) = ((m.map axR).length : Nat) := by simpa using h0
   rw [List.length_map, List.length_map] at h0; omega
  clear h0
  ((conv => whnf); repeat ((first | (intro hq; try simp only [lnS] at hq) | refine sI ?_ | refine .intro _ (.intro rfl ?_)); (conv => whnf)))
  refine loop_rule hty (fun j : Nat => ([(0, .d (.sl 16 (l.map axR))), (1, .d (.sl 16 (m.map axR))), (2, .fn 78 [] []), (15, .d (.sl 16 (l.map axR))), (16, .d (.int .i64 l.length)), (17, .d (.int .i64 j))], [])) (fun j => j ≤ l.length ∧ l.take j = m.take j) (fun j => l.length - j) 0 ⟨by omega, by simp⟩ ⟨by repeat' (first | exact trivial | exact rfl | (rw [List.length_map]; exact rfl) | refine And.intro ?_ ?_), trivial⟩ ?_
  rintro j ⟨hj, hz⟩
  ((conv => whnf); repeat ((first | (intro hq; try simp only [lnS] at hq) | refine sI ?_ | refine .intro _ (.intro rfl ?_)); (conv => whnf)))
  refine brB_dec (fun h1 => ?_) (fun h1 => ?_)
  ·have hjl : j < l.length := by omega
   have hjm : j < m.length := by omega
   have hrow := axR_rows hjl
   have hrow2 := axR_rows hjm
   have c := same1_spec l[j] m[j] (hl _ (List.getElem_mem hjl)) (hm _ (List.getElem_mem hjm))
   have hbad := eqL_take hjl hlm
   have hz2 : eqA l[j] m[j] = true → l.take (j + 1) = m.take (j + 1) := fun h2 => by
    rw [List.take_succ_eq_append_getElem hjl, List.take_succ_eq_append_getElem hjm, hz, eqA_iff.1 h2]
   generalize eqA l[j] m[j] = b at *
   generalize l[j] = x at *
   generalize m[j] = y at *
   ((conv => whnf); repeat ((first | (refine ⟨_, hrow, ?_⟩) | (refine ⟨_, hrow2, ?_⟩) | (refine call_tri [] c trivial (fun r hs => ?_); subst hs) | (intro hq; try simp only [lnS] at hq) | refine sI ?_ | refine .intro _ (.intro rfl ?_)); (conv => whnf)))
   cases b
   ·rw [hbad rfl]
    ((conv => whnf); repeat' ((first | (intro hq; (try simp only [lnS] at hq); (try rewrite [List.length_map])) | refine sJ ?_ | refine .intro _ (.intro rfl ?_) | (refine .intro (show (_ : Nat) < List.length _ from by first | omega | (simp only [lnS]; omega) | simp) ?_) | (refine ⟨_, hrow, ?_⟩) | (refine ⟨_, hrow2, ?_⟩) | (refine call_tri [] c trivial (fun r hs => ?_); subst hs) | refine draw_rule hty (by kernel_rfl) (by kernel_rfl) ?_ | ((first | refine brB_dec ?_ ?_ | refine brB_ndec ?_ ?_) <;> intro hb <;> (first | contradiction | ((try simp only [lnS] at hb); try (exfalso; omega)))) | (refine brB_split ?_ ?_ <;> intro hb <;> (first | contradiction | exact bT hb (by assumption) | exact bF hb (by assumption) | skip))) <;> (conv => whnf)))
    rfl
   ·((conv => whnf); repeat' ((first | (intro hq; (try simp only [lnS] at hq); (try rewrite [List.length_map])) | refine sJ ?_ | refine .intro _ (.intro rfl ?_) | (refine .intro (show (_ : Nat) < List.length _ from by first | omega | (simp only [lnS]; omega) | simp) ?_) | fail | refine draw_rule hty (by kernel_rfl) (by kernel_rfl) ?_ | ((first | refine brB_dec ?_ ?_ | refine brB_ndec ?_ ?_) <;> intro hb <;> (first | contradiction | ((try simp only [lnS] at hb); try (exfalso; omega)))) | (refine brB_split ?_ ?_ <;> intro hb <;> (first | contradiction | exact bT hb (by assumption) | exact bF hb (by assumption) | skip))) <;> (conv => whnf)))
    exact ⟨j + 1, ⟨by omega, hz2 rfl⟩, by dsimp only; omega, ⟨by repeat' (first | exact trivial | exact rfl | refine And.intro ?_ ?_), by repeat' (first | exact trivial | exact rfl | refine And.intro ?_ ?_)⟩⟩
  ·have hjl : j = l.length := by omega
   subst hjl
   rw [List.take_length, hlm, List.take_length] at hz
   rw [eqL_iff.2 hz]
   ((conv => whnf); repeat' ((first | (intro hq; (try simp only [lnS] at hq); (try rewrite [List.length_map])) | refine sJ ?_ | refine .intro _ (.intro rfl ?_) | (refine .intro (show (_ : Nat) < List.length _ from by first | omega | (simp only [lnS]; omega) | simp) ?_) | fail | refine draw_rule hty (by kernel_rfl) (by kernel_rfl) ?_ | ((first | refine brB_dec ?_ ?_ | refine brB_ndec ?_ ?_) <;> intro hb <;> (first | contradiction | ((try simp only [lnS] at hb); try (exfalso; omega)))) | (refine brB_split ?_ ?_ <;> intro hb <;> (first | contradiction | exact bT hb (by assumption) | exact bF hb (by assumption) | skip))) <;> (conv => whnf)))
   rfl
theorem same_spec' (l m : List Ax) (hl : ∀ y ∈ l, SmA y) (hm : ∀ y ∈ m, SmA y) : Tri Tryz.prog 31 [.d (basR l), .d (basR m)] [] (fun r => r = .d (.bool (eqL l m))) := by
 have c := equalF_spec l m hl hm
 refine tri_of_bodyF false [2, 3] hty Tryz.func31 rfl (kp [0, 1, 2, 3, 4]) [] _ _ _ (by simp [Tryz.f31]) (by simp) ?_
 ((conv => whnf); repeat' ((first | (intro hq; (try simp only [lnS] at hq); (try rewrite [List.length_map])) | refine sJ ?_ | refine .intro _ (.intro rfl ?_) | (refine .intro (show (_ : Nat) < List.length _ from by first | omega | (simp only [lnS]; omega) | simp) ?_) | (refine call_tri [] c trivial (fun r hs => ?_); subst hs) | refine draw_rule hty (by kernel_rfl) (by kernel_rfl) ?_ | ((first | refine brB_dec ?_ ?_ | refine brB_ndec ?_ ?_) <;> intro hb <;> (first | contradiction | ((try simp only [lnS] at hb); try (exfalso; omega)))) | (refine brB_split ?_ ?_ <;> intro hb <;> (first | contradiction | exact bT hb (by assumption) | exact bF hb (by assumption) | skip))) <;> (conv => whnf)))
 rfl
theorem bHas_spec (l : List Ax) (x : Ax) (hx : SmA x) (hl : ∀ y ∈ l, SmA y) : Tri Tryz.prog 43 [.d (basR l), .d (.agg (axR x))] [] (fun r => r = .d (.bool (l.any fun y => decide (cmpAx y x = 0)))) := by
 refine tri_of_bodyF false [2, 3, 6] hty Tryz.func43 rfl (kp [0, 1, 2, 3, 4, 6, 8, 9, 10, 11, 17]) [] _ _ _ (by simp [Tryz.f43]) (by simp) ?_
 ((conv => whnf); repeat ((first | (intro hq; try simp only [lnS] at hq) | refine sI ?_ | refine .intro _ (.intro rfl ?_)); (conv => whnf)))
 refine loop_rule hty (fun j : Nat => ([(3, .ea 16 [axR x] 0 0), (8, .d (.sl 16 (l.map axR))), (9, .d (.int .i64 l.length)), (10, .d (.int .i64 j))], [])) (fun j => j ≤ l.length ∧ ∀ y ∈ l.take j, cmpAx y x ≠ 0) (fun j => l.length - j) 0 ⟨by omega, by simp⟩ ⟨by repeat' (first | exact trivial | exact rfl | (rw [List.length_map]; exact rfl) | refine And.intro ?_ ?_), trivial⟩ ?_
 rintro j ⟨hj, hz⟩
 ((conv => whnf); repeat ((first | (intro hq; try simp only [lnS] at hq) | refine sI ?_ | refine .intro _ (.intro rfl ?_)); (conv => whnf)))
 refine brB_dec (fun h1 => ?_) (fun h1 => ?_)
 ·have hjl : j < l.length := by omega
  have hrow := axR_rows hjl
  have hy := hl _ (List.getElem_mem hjl)
  have c := CompareAxiom_spec l[j] x hy.1 hy.2.1 hy.2.2 hx.1 hx.2.1 hx.2.2
  have hit : cmpAx l[j] x = 0 → (l.any fun y => decide (cmpAx y x = 0)) = true := fun h => List.any_eq_true.2 ⟨_, List.getElem_mem hjl, by simpa using h⟩
  have hz2 : cmpAx l[j] x ≠ 0 → ∀ y ∈ l.take (j + 1), cmpAx y x ≠ 0 := fun h2 y hy => by
   rw [List.take_succ_eq_append_getElem hjl] at hy
   rcases List.mem_append.1 hy with hy | hy
   ·exact hz y hy
   ·simp at hy; subst hy; exact h2
  generalize cmpAx l[j] x = v at *
  generalize l[j] = y at *
  ((conv => whnf); repeat ((first | (refine ⟨_, hrow, ?_⟩) | (refine call_tri [] c trivial (fun r hs => ?_); subst hs) | (intro hq; try simp only [lnS] at hq) | refine sI ?_ | refine .intro _ (.intro rfl ?_)); (conv => whnf)))
  refine brB_dec (fun h2 => ?_) (fun h2 => ?_)
  ·rw [hit h2]
   ((conv => whnf); repeat' ((first | (intro hq; (try simp only [lnS] at hq); (try rewrite [List.length_map])) | refine sJ ?_ | refine .intro _ (.intro rfl ?_) | (refine .intro (show (_ : Nat) < List.length _ from by first | omega | (simp only [lnS]; omega) | simp) ?_) | fail | refine draw_rule hty (by kernel_rfl) (by kernel_rfl) ?_ | ((first | refine brB_dec ?_ ?_ | refine brB_ndec ?_ ?_) <;> intro hb <;> (first | contradiction | ((try simp only [lnS] at hb); try (exfalso; omega)))) | (refine brB_split ?_ ?_ <;> intro hb <;> (first | contradiction | exact bT hb (by assumption) | exact bF hb (by assumption) | skip))) <;> (conv => whnf)))
   rfl
  ·((conv => whnf); repeat' ((first | (intro hq; (try simp only [lnS] at hq); (try rewrite [List.length_map])) | refine sJ ?_ | refine .intro _ (.intro rfl ?_) | (refine .intro (show (_ : Nat) < List.length _ from by first | omega | (simp only [lnS]; omega) | simp) ?_) | fail | refine draw_rule hty (by kernel_rfl) (by kernel_rfl) ?_ | ((first | refine brB_dec ?_ ?_ | refine brB_ndec ?_ ?_) <;> intro hb <;> (first | contradiction | ((try simp only [lnS] at hb); try (exfalso; omega)))) | (refine brB_split ?_ ?_ <;> intro hb <;> (first | contradiction | exact bT hb (by assumption) | exact bF hb (by assumption) | skip))) <;> (conv => whnf)))
   exact ⟨j + 1, ⟨by omega, hz2 h2⟩, by dsimp only; omega, ⟨by repeat' (first | exact trivial | exact rfl | refine And.intro ?_ ?_), by repeat' (first | exact trivial | exact rfl | refine And.intro ?_ ?_)⟩⟩
 ·have hjl : j = l.length := by omega
  subst hjl
  rw [List.take_length] at hz
  have hv : (l.any fun y => decide (cmpAx y x = 0)) = false := by
   rw [List.any_eq_false]
   intro y hy
   simpa using hz y hy
  rw [hv]
  ((conv => whnf); repeat' ((first | (intro hq; (try simp only [lnS] at hq); (try rewrite [List.length_map])) | refine sJ ?_ | refine .intro _ (.intro rfl ?_) | (refine .intro (show (_ : Nat) < List.length _ from by first | omega | (simp only [lnS]; omega) | simp) ?_) | fail | refine draw_rule hty (by kernel_rfl) (by kernel_rfl) ?_ | ((first | refine brB_dec ?_ ?_ | refine brB_ndec ?_ ?_) <;> intro hb <;> (first | contradiction | ((try simp only [lnS] at hb); try (exfalso; omega)))) | (refine brB_split ?_ ?_ <;> intro hb <;> (first | contradiction | exact bT hb (by assumption) | exact bF hb (by assumption) | skip))) <;> (conv => whnf)))
  rfl
def bFew (ls : List (List Ax)) : Bool := ls.all fun l => decide ((l.length : Int) ≤ 14) && l.all fewAx
def lsR (ls : List (List Ax)) : D := .sl 1 (ls.map fun l => [.sl 16 (l.map axR)])
theorem bFew_spec (ls : List (List Ax)) (hl : ∀ l ∈ ls, ∀ x ∈ l, SzAx x) : Tri Tryz.prog 22 [.d (lsR ls)] [] (fun r => r = .d (.bool (bFew ls))) := by
 refine Tri.len 0 rfl fun hlen => ?_
 rw [List.length_map] at hlen
 refine tri_of_bodyF false [] hty Tryz.func22 rfl (kp [0, 2, 4, 5, 6, 7, 8, 13]) [] _ _ _ (by simp [Tryz.f22]) (by simp) ?_
 ((conv => whnf); repeat ((first | (intro hq; try simp only [lnS] at hq) | refine sI ?_ | refine .intro _ (.intro rfl ?_)); (conv => whnf)))
 refine loop_rule hty (fun j : Nat => ([(5, .d (lsR ls)), (6, .d (.int .i64 ls.length)), (7, .d (.int .i64 j))], [])) (fun j => j ≤ ls.length ∧ bFew (ls.take j) = true) (fun j => ls.length - j) 0 ⟨by omega, by simp [bFew]⟩ ⟨by repeat' (first | exact trivial | exact rfl | (rw [List.length_map]; exact rfl) | refine And.intro ?_ ?_), trivial⟩ ?_
 rintro j ⟨hj, hz⟩
 ((conv => whnf); repeat ((first | (intro hq; try simp only [lnS] at hq) | refine sI ?_ | refine .intro _ (.intro rfl ?_)); (conv => whnf)))
 refine brB_dec (fun h1 => ?_) (fun h1 => ?_)
 ·have hjl : j < ls.length := by have h1 : (j : Int) < ((ls.length : Nat) : Int) := h1; omega
  have hrow : (ls.map fun l => [D.sl 16 (l.map axR)])[((j : Nat) : Int).toNat]? = some [.sl 16 (ls[j].map axR)] := by
   rw [Int.toNat_natCast, List.getElem?_map, List.getElem?_eq_getElem hjl]; rfl
  have c := fewAxioms_spec ls[j] 14 (hl _ (List.getElem_mem hjl))
  have hbad : (decide ((ls[j].length : Int) ≤ 14) && ls[j].all fewAx) = false → bFew ls = false := fun h => by
   rw [Bool.eq_false_iff]
   intro ht
   rw [List.all_eq_true.1 ht _ (List.getElem_mem hjl)] at h
   cases h
  have hz2 : (decide ((ls[j].length : Int) ≤ 14) && ls[j].all fewAx) = true → bFew (ls.take (j + 1)) = true := fun h2 => by
   unfold bFew at hz ⊢
   rw [List.take_succ_eq_append_getElem hjl, List.all_append, hz]
   simpa using h2
  generalize (decide ((ls[j].length : Int) ≤ 14) && ls[j].all fewAx) = b at *
  ((conv => whnf); repeat ((first | (refine ⟨_, hrow, ?_⟩) | (refine call_tri [] c trivial (fun r hs => ?_); subst hs) | (intro hq; try simp only [lnS] at hq) | refine sI ?_ | refine .intro _ (.intro rfl ?_)); (conv => whnf)))
  cases b
  ·rw [hbad rfl]
   ((conv => whnf); repeat' ((first | (intro hq; (try simp only [lnS] at hq); (try rewrite [List.length_map])) | refine sJ ?_ | refine .intro _ (.intro rfl ?_) | (refine .intro (show (_ : Nat) < List.length _ from by first | omega | (simp only [lnS]; omega) | simp) ?_) | (refine ⟨_, hrow, ?_⟩) | (refine call_tri [] c trivial (fun r hs => ?_); subst hs) | refine draw_rule hty (by kernel_rfl) (by kernel_rfl) ?_ | ((first | refine brB_dec ?_ ?_ | refine brB_ndec ?_ ?_) <;> intro hb <;> (first | contradiction | ((try simp only [lnS] at hb); try (exfalso; omega)))) | (refine brB_split ?_ ?_ <;> intro hb <;> (first | contradiction | exact bT hb (by assumption) | exact bF hb (by assumption) | skip))) <;> (conv => whnf)))
   rfl
  ·((conv => whnf); repeat' ((first | (intro hq; (try simp only [lnS] at hq); (try rewrite [List.length_map])) | refine sJ ?_ | refine .intro _ (.intro rfl ?_) | (refine .intro (show (_ : Nat) < List.length _ from by first | omega | (simp only [lnS]; omega) | simp) ?_) | fail | refine draw_rule hty (by kernel_rfl) (by kernel_rfl) ?_ | ((first | refine brB_dec ?_ ?_ | refine brB_ndec ?_ ?_) <;> intro hb <;> (first | contradiction | ((try simp only [lnS] at hb); try (exfalso; omega)))) | (refine brB_split ?_ ?_ <;> intro hb <;> (first | contradiction | exact bT hb (by assumption) | exact bF hb (by assumption) | skip))) <;> (conv => whnf)))
   exact ⟨j + 1, ⟨by omega, hz2 rfl⟩, by dsimp only; omega, ⟨by repeat' (first | exact trivial | exact rfl | refine And.intro ?_ ?_), by repeat' (first | exact trivial | exact rfl | refine And.intro ?_ ?_)⟩⟩
 ·have hjl : j = ls.length := by have h1 : ¬ (j : Int) < ((ls.length : Nat) : Int) := h1; omega
  subst hjl
  rw [List.take_length] at hz
  rw [hz]
  ((conv => whnf); repeat' ((first | (intro hq; (try simp only [lnS] at hq); (try rewrite [List.length_map])) | refine sJ ?_ | refine .intro _ (.intro rfl ?_) | (refine .intro (show (_ : Nat) < List.length _ from by first | omega | (simp only [lnS]; omega) | simp) ?_) | fail | refine draw_rule hty (by kernel_rfl) (by kernel_rfl) ?_ | ((first | refine brB_dec ?_ ?_ | refine brB_ndec ?_ ?_) <;> intro hb <;> (first | contradiction | ((try simp only [lnS] at hb); try (exfalso; omega)))) | (refine brB_split ?_ ?_ <;> intro hb <;> (first | contradiction | exact bT hb (by assumption) | exact bF hb (by assumption) | skip))) <;> (conv => whnf)))
  rfl
end Go.Proofs.YtnemengadjimcaaGreatDoor
