/-
  Terms: the library's comparisons of numbers, strings and lists. Terms: the tree of a concept: grow.
  Conditions: none.
-/
import Derived.Test.YtkbmlchceiglfaaGreatDoorMAa
namespace Go.Proofs.YtkbmlchceiglfaaGreatDoor
set_option linter.unusedSectionVars false
set_option linter.unusedSimpArgs false
set_option linter.unusedVariables false
open Go.Proofs
set_option maxRecDepth 10000
attribute [local irreducible] SemVC CallVC Tri Stuck YVC GenP GenVC

def cmpI (a b : Int) : Int := if a < b then -1 else if b < a then 1 else 0
def orF : List Int → Int
  | [] => 0
  | x :: r => if x ≠ 0 then x else orF r
def numR (n : Int) : List D := [.int .i64 n]

theorem isNaNi_spec (a : Int) : Tri Tryz.prog 59 [.d (.int .i64 a)] [] (fun r => r = .d (.bool false)) := by
  refine tri_of_body hty Tryz.func59 rfl (kp [0, 2]) [] _ _ _ (by simp [Tryz.f59]) (by simp) ?_
  ((conv => whnf); repeat' ((first | (intro hq; (try simp only [lnS] at hq); (try rewrite [List.length_map])) | refine sJ ?_ | refine Exists.intro _ (And.intro rfl ?_) | (refine Exists.intro (show (_ : Nat) < List.length _ from by first | omega | (simp only [List.length_cons, List.length_nil]; omega) | simp) ?_) | fail | refine draw_rule hty (by kernel_rfl) (by kernel_rfl) ?_ | ((first | refine brB_dec (fun hb => ?_) (fun hb => ?_) | refine brB_ndec (fun hb => ?_) (fun hb => ?_)) <;> (first | contradiction | ((try simp only [lnS] at hb); (first | (exfalso; omega) | skip)))) | (refine brB_split (fun hb => ?_) (fun hb => ?_) <;> (first | contradiction | exact absurd (hb.symm.trans (by assumption) : false = true) (by decide) | exact absurd (hb.symm.trans (by assumption) : true = false) (by decide) | skip))) <;> (conv => whnf)))
  all_goals first | rfl | (exact bool_eq (by simp))

theorem isNaNs_spec (a : List UInt8) : Tri Tryz.prog 80 [.d (.str a)] [] (fun r => r = .d (.bool false)) := by
  refine tri_of_body hty Tryz.func80 rfl (kp [0, 2]) [] _ _ _ (by simp [Tryz.f80]) (by simp) ?_
  ((conv => whnf); repeat' ((first | (intro hq; (try simp only [lnS] at hq); (try rewrite [List.length_map])) | refine sJ ?_ | refine Exists.intro _ (And.intro rfl ?_) | (refine Exists.intro (show (_ : Nat) < List.length _ from by first | omega | (simp only [List.length_cons, List.length_nil]; omega) | simp) ?_) | fail | refine draw_rule hty (by kernel_rfl) (by kernel_rfl) ?_ | ((first | refine brB_dec (fun hb => ?_) (fun hb => ?_) | refine brB_ndec (fun hb => ?_) (fun hb => ?_)) <;> (first | contradiction | ((try simp only [lnS] at hb); (first | (exfalso; omega) | skip)))) | (refine brB_split (fun hb => ?_) (fun hb => ?_) <;> (first | contradiction | exact absurd (hb.symm.trans (by assumption) : false = true) (by decide) | exact absurd (hb.symm.trans (by assumption) : true = false) (by decide) | skip))) <;> (conv => whnf)))
  all_goals first | rfl | (exact bool_eq (by simp))

theorem compareI_spec (a b : Int) : Tri Tryz.prog 33 [.d (.int .i64 a), .d (.int .i64 b)] [] (fun r => r = .d (.int .i64 (cmpI a b))) := by
  refine tri_of_body hty Tryz.func33 rfl (kp [0, 1, 4, 5, 6, 11, 12, 13, 16, 19]) [] _ _ _ (by simp [Tryz.f33]) (by simp) ?_
  ((conv => whnf); repeat' ((first | (intro hq; (try simp only [lnS] at hq); (try rewrite [List.length_map])) | refine sJ ?_ | refine Exists.intro _ (And.intro rfl ?_) | (refine Exists.intro (show (_ : Nat) < List.length _ from by first | omega | (simp only [List.length_cons, List.length_nil]; omega) | simp) ?_) | (refine call_tri [] (isNaNi_spec _) trivial (fun r hs => ?_); subst hs) | refine draw_rule hty (by kernel_rfl) (by kernel_rfl) ?_ | ((first | refine brB_dec (fun hb => ?_) (fun hb => ?_) | refine brB_ndec (fun hb => ?_) (fun hb => ?_)) <;> (first | contradiction | ((try simp only [lnS] at hb); (first | (exfalso; omega) | skip)))) | (refine brB_split (fun hb => ?_) (fun hb => ?_) <;> (first | contradiction | exact absurd (hb.symm.trans (by assumption) : false = true) (by decide) | exact absurd (hb.symm.trans (by assumption) : true = false) (by decide) | skip))) <;> (conv => whnf)))
  all_goals (refine int_eq (Eq.symm ?_); unfold cmpI; simp_all <;> omega)

theorem compareS_spec (a b : List UInt8) : Tri Tryz.prog 60 [.d (.str a), .d (.str b)] [] (fun r => r = .d (.int .i64 (cmpB a b))) := by
  refine tri_of_body hty Tryz.func60 rfl (kp [0, 1, 4, 5, 6, 11, 12, 13, 16, 19]) [] _ _ _ (by simp [Tryz.f60]) (by simp) ?_
  ((conv => whnf); repeat' ((first | (intro hq; (try simp only [lnS] at hq); (try rewrite [List.length_map])) | refine sJ ?_ | refine Exists.intro _ (And.intro rfl ?_) | (refine Exists.intro (show (_ : Nat) < List.length _ from by first | omega | (simp only [List.length_cons, List.length_nil]; omega) | simp) ?_) | (refine call_tri [] (isNaNs_spec _) trivial (fun r hs => ?_); subst hs) | refine draw_rule hty (by kernel_rfl) (by kernel_rfl) ?_ | ((first | refine brB_dec (fun hb => ?_) (fun hb => ?_) | refine brB_ndec (fun hb => ?_) (fun hb => ?_)) <;> (first | contradiction | ((try simp only [lnS] at hb); (first | (exfalso; omega) | skip)))) | (refine brB_split (fun hb => ?_) (fun hb => ?_) <;> (first | contradiction | exact absurd (hb.symm.trans (by assumption) : false = true) (by decide) | exact absurd (hb.symm.trans (by assumption) : true = false) (by decide) | skip))) <;> (conv => whnf)))
  all_goals (
    refine int_eq (Eq.symm ?_)
    have hr := cmpB_range a b
    have hz := cmpB_zero a b)
  · rw [bytesLess_eq, decide_eq_true_eq] at hb
    omega
  · rename_i hb0
    rw [bytesLess_eq, decide_eq_false_iff_not] at hb0
    have : cmpB a b ≠ 0 := fun q => by rw [hz.1 q] at hb; simp at hb
    omega
  · rename_i hb0
    rw [bytesLess_eq, decide_eq_false_iff_not] at hb0
    rw [bytesLess_eq, decide_eq_false hb0] at hb
    exact hz.2 (by simpa using hb)

set_option maxHeartbeats 2000000 in
theorem or_spec (l : List Int) : Tri Tryz.prog 32 [.d (.sl 1 (l.map numR))] [] (fun r => r = .d (.int .i64 (orF l))) := by
  refine tri_of_body hty Tryz.func32 rfl (kp [0, 2, 3, 5, 6, 7, 8, 9, 14]) [] _ _ _ (by simp [Tryz.f32]) (by simp) ?_
  ((conv => whnf); repeat ((first | (intro hq; try simp only [lnS] at hq) | refine sI ?_ | refine Exists.intro _ (And.intro rfl ?_)); (conv => whnf)))
  refine loop_rule hty (fun j : Nat => ([(3, .d (.int .i64 0)), (6, .d (.sl 1 (l.map numR))), (7, .d (.int .i64 l.length)), (8, .d (.int .i64 j))], [])) (fun j => j ≤ l.length ∧ orF l = orF (l.drop j)) (fun j => l.length - j) 0 ⟨by omega, rfl⟩ ⟨by repeat' (first | exact trivial | exact rfl | (rw [List.length_map]; exact rfl) | refine And.intro ?_ ?_), trivial⟩ ?_
  rintro j ⟨hj, hn⟩
  ((conv => whnf); repeat ((first | (intro hq; try simp only [lnS] at hq) | refine sI ?_ | refine Exists.intro _ (And.intro rfl ?_)); (conv => whnf)))
  refine brB_dec (fun h1 => ?_) (fun h1 => ?_)
  · have hjl : j < l.length := by omega
    have hrow : (l.map numR)[(j : Int).toNat]? = some (numR l[j]) := rowC_at hjl
    rw [List.drop_eq_getElem_cons hjl, orF] at hn
    generalize l[j] = x at hrow hn
    ((conv => whnf); repeat' ((first | (intro hq; (try simp only [lnS] at hq); (try rewrite [List.length_map])) | refine sJ ?_ | refine Exists.intro _ (And.intro rfl ?_) | (refine Exists.intro (show (_ : Nat) < List.length _ from by first | omega | (simp only [List.length_cons, List.length_nil]; omega) | simp) ?_) | (refine ⟨_, hrow, ?_⟩) | refine draw_rule hty (by kernel_rfl) (by kernel_rfl) ?_ | ((first | refine brB_dec (fun hb => ?_) (fun hb => ?_) | refine brB_ndec (fun hb => ?_) (fun hb => ?_)) <;> (first | contradiction | ((try simp only [lnS] at hb); (first | (exfalso; omega) | skip)))) | (refine brB_split (fun hb => ?_) (fun hb => ?_) <;> (first | contradiction | exact absurd (hb.symm.trans (by assumption) : false = true) (by decide) | exact absurd (hb.symm.trans (by assumption) : true = false) (by decide) | skip))) <;> (conv => whnf)))
    · rw [if_pos (by assumption)] at hn
      exact int_eq hn.symm
    · rw [if_neg (by simpa using (by assumption : x = 0))] at hn
      exact ⟨j + 1, ⟨by omega, hn⟩, by dsimp only; omega, by repeat' (first | exact trivial | exact rfl | refine And.intro ?_ ?_), trivial⟩
  · have hjl : j = l.length := by omega
    subst hjl
    rw [List.drop_length, orF] at hn
    ((conv => whnf); repeat' ((first | (intro hq; (try simp only [lnS] at hq); (try rewrite [List.length_map])) | refine sJ ?_ | refine Exists.intro _ (And.intro rfl ?_) | (refine Exists.intro (show (_ : Nat) < List.length _ from by first | omega | (simp only [List.length_cons, List.length_nil]; omega) | simp) ?_) | fail | refine draw_rule hty (by kernel_rfl) (by kernel_rfl) ?_ | ((first | refine brB_dec (fun hb => ?_) (fun hb => ?_) | refine brB_ndec (fun hb => ?_) (fun hb => ?_)) <;> (first | contradiction | ((try simp only [lnS] at hb); (first | (exfalso; omega) | skip)))) | (refine brB_split (fun hb => ?_) (fun hb => ?_) <;> (first | contradiction | exact absurd (hb.symm.trans (by assumption) : false = true) (by decide) | exact absurd (hb.symm.trans (by assumption) : true = false) (by decide) | skip))) <;> (conv => whnf)))
    exact int_eq hn.symm

def cmpSL : List (List UInt8) → List (List UInt8) → Int
  | [], [] => 0
  | [], _ :: _ => -1
  | _ :: _, [] => 1
  | a :: l, b :: m => if cmpB a b ≠ 0 then cmpB a b else cmpSL l m

set_option maxHeartbeats 4000000 in
theorem compareSL_spec (l m : List (List UInt8)) : Tri Tryz.prog 35 [.d (strl l), .d (strl m)] [] (fun r => r = .d (.int .i64 (cmpSL l m))) := by
  refine tri_of_body hty Tryz.func35 rfl (kp [0, 1, 4, 5, 6, 7, 8, 9, 10, 11, 12, 19, 28, 35]) [] _ _ _ (by simp [Tryz.f35]) (by simp) ?_
  ((conv => whnf); repeat ((first | (intro hq; try simp only [lnS] at hq) | refine sI ?_ | refine Exists.intro _ (And.intro rfl ?_)); (conv => whnf)))
  refine loop_rule hty (fun j : Nat => ([(0, .d (strl l)), (1, .d (strl m)), (9, .d (strl l)), (10, .d (.int .i64 l.length)), (11, .d (.int .i64 j))], [])) (fun j => j ≤ l.length ∧ j ≤ m.length ∧ cmpSL l m = cmpSL (l.drop j) (m.drop j)) (fun j => l.length - j) 0 ⟨by omega, by omega, rfl⟩ ⟨by repeat' (first | exact trivial | exact rfl | (rw [List.length_map]; exact rfl) | refine And.intro ?_ ?_), trivial⟩ ?_
  rintro j ⟨hj, hjm, hn⟩
  ((conv => whnf); repeat ((first | (intro hq; try simp only [lnS] at hq) | refine sI ?_ | refine Exists.intro _ (And.intro rfl ?_)); (conv => whnf)))
  refine brB_dec (fun h1 => ?_) (fun h1 => ?_)
  · have hjl : j < l.length := by omega
    have hrow : (l.map strR)[(j : Int).toNat]? = some (strR l[j]) := rowC_at hjl
    rw [List.drop_eq_getElem_cons hjl] at hn
    generalize l[j] = x at hrow hn
    ((conv => whnf); repeat ((first | (refine ⟨_, hrow, ?_⟩) | (intro hq; try simp only [lnS] at hq) | refine sI ?_ | refine Exists.intro _ (And.intro rfl ?_)); (conv => whnf)))
    refine brB_dec (fun h2 => ?_) (fun h2 => ?_)
    · have hm : m.drop j = [] := List.drop_eq_nil_of_le (by simp only [List.length_map] at h2; omega)
      rw [hm, cmpSL] at hn
      ((conv => whnf); repeat' ((first | (intro hq; (try simp only [lnS] at hq); (try rewrite [List.length_map])) | refine sJ ?_ | refine Exists.intro _ (And.intro rfl ?_) | (refine Exists.intro (show (_ : Nat) < List.length _ from by first | omega | (simp only [List.length_cons, List.length_nil]; omega) | simp) ?_) | fail | refine draw_rule hty (by kernel_rfl) (by kernel_rfl) ?_ | ((first | refine brB_dec (fun hb => ?_) (fun hb => ?_) | refine brB_ndec (fun hb => ?_) (fun hb => ?_)) <;> (first | contradiction | ((try simp only [lnS] at hb); (first | (exfalso; omega) | skip)))) | (refine brB_split (fun hb => ?_) (fun hb => ?_) <;> (first | contradiction | exact absurd (hb.symm.trans (by assumption) : false = true) (by decide) | exact absurd (hb.symm.trans (by assumption) : true = false) (by decide) | skip))) <;> (conv => whnf)))
      exact int_eq hn.symm
    · have hjm2 : j < m.length := by simp only [List.length_map] at h2; omega
      have hrow2 : (m.map strR)[(j : Int).toNat]? = some (strR m[j]) := rowC_at hjm2
      rw [List.drop_eq_getElem_cons hjm2, cmpSL] at hn
      generalize m[j] = y at hrow2 hn
      ((conv => whnf); repeat' ((first | (intro hq; (try simp only [lnS] at hq); (try rewrite [List.length_map])) | refine sJ ?_ | refine Exists.intro _ (And.intro rfl ?_) | (refine Exists.intro (show (_ : Nat) < List.length _ from by first | omega | (simp only [List.length_cons, List.length_nil]; omega) | simp) ?_) | (refine ⟨_, hrow2, ?_⟩) | (refine call_tri [] (compareS_spec x y) trivial (fun r hs => ?_); subst hs) | refine draw_rule hty (by kernel_rfl) (by kernel_rfl) ?_ | ((first | refine brB_dec (fun hb => ?_) (fun hb => ?_) | refine brB_ndec (fun hb => ?_) (fun hb => ?_)) <;> (first | contradiction | ((try simp only [lnS] at hb); (first | (exfalso; omega) | skip)))) | (refine brB_split (fun hb => ?_) (fun hb => ?_) <;> (first | contradiction | exact absurd (hb.symm.trans (by assumption) : false = true) (by decide) | exact absurd (hb.symm.trans (by assumption) : true = false) (by decide) | skip))) <;> (conv => whnf)))
      · rw [if_pos (by assumption)] at hn
        exact int_eq hn.symm
      · rw [if_neg (by simpa using (by assumption : cmpB x y = 0))] at hn
        exact ⟨j + 1, ⟨by omega, by omega, hn⟩, by dsimp only; omega, by repeat' (first | exact trivial | exact rfl | refine And.intro ?_ ?_), trivial⟩
  · have hjl : j = l.length := by omega
    subst hjl
    rw [List.drop_length] at hn
    ((conv => whnf); repeat' ((first | (intro hq; (try simp only [lnS] at hq); (try rewrite [List.length_map])) | refine sJ ?_ | refine Exists.intro _ (And.intro rfl ?_) | (refine Exists.intro (show (_ : Nat) < List.length _ from by first | omega | (simp only [List.length_cons, List.length_nil]; omega) | simp) ?_) | fail | refine draw_rule hty (by kernel_rfl) (by kernel_rfl) ?_ | ((first | refine brB_dec (fun hb => ?_) (fun hb => ?_) | refine brB_ndec (fun hb => ?_) (fun hb => ?_)) <;> (first | contradiction | ((try simp only [lnS] at hb); (first | (exfalso; omega) | skip)))) | (refine brB_split (fun hb => ?_) (fun hb => ?_) <;> (first | contradiction | exact absurd (hb.symm.trans (by assumption) : false = true) (by decide) | exact absurd (hb.symm.trans (by assumption) : true = false) (by decide) | skip))) <;> (conv => whnf)))
    · have hjm2 : l.length < m.length := by simp_all
      rw [List.drop_eq_getElem_cons hjm2, cmpSL] at hn
      exact int_eq hn.symm
    · rename_i h9
      have hjm2 : m.drop l.length = [] := List.drop_eq_nil_of_le (by simp_all)
      rw [hjm2, cmpSL] at hn
      exact int_eq hn.symm
end Go.Proofs.YtkbmlchceiglfaaGreatDoor

namespace Go.Proofs.YtkbmlchceiglfaaGreatDoor
set_option linter.unusedSectionVars false
set_option linter.unusedSimpArgs false
set_option linter.unusedVariables false
open Go.Proofs
set_option maxRecDepth 10000
attribute [local irreducible] SemVC CallVC Tri Stuck YVC GenP GenVC

mutual
def grR : Cn → List D
  | .mk k n lo hi ps => [.int .i64 k, .str n, .int .i64 lo, .int .i64 hi, .sl 5 (cnRs ps), .int .i64 (sizeF (.mk k n lo hi ps)), .sl 7 (grRs ps)]
def grRs : List Cn → List (List D)
  | [] => []
  | c :: r => grR c :: grRs r
end

theorem grRs_map : ∀ l, grRs l = l.map grR
  | [] => rfl
  | c :: r => by rw [grRs, grRs_map r]; rfl

def grX (c : Cn) (n : Int) (l : List Cn) : List D := [.int .i64 c.kind, .str c.name, .int .i64 c.lo, .int .i64 c.hi, .sl 5 (c.parts.map cnR), .int .i64 n, .sl 7 (l.map grR)]

theorem grR_eq (c : Cn) : grR c = grX c (sizeF c) c.parts := by
  cases c; rw [grR, cnRs_map, grRs_map]; rfl

theorem nodesL_len_take {l : List Cn} {j : Nat} (h : j < l.length) : (nodesL (l.take (j + 1))).length = (nodesL (l.take j)).length + sizeF l[j] := by
  rw [nodesL_take h, List.length_append]; rfl

theorem nodesL_take_le (l : List Cn) (j : Nat) : (nodesL (l.take j)).length ≤ (nodesL l).length := by
  conv => rhs; rw [← List.take_append_drop j l, nodesL_append, List.length_append]
  omega

theorem len_nodesL : ∀ (l : List Cn), l.length ≤ (nodesL l).length
  | [] => by simp
  | c :: r => by
    have h1 := len_nodesL r
    have h2 := sizeF_pos c
    rw [sizeF] at h2
    rw [nodesL, List.length_append, List.length_cons]; omega

theorem sizeF_eq (c : Cn) : sizeF c = (nodesL c.parts).length + 1 := by rw [sizeF, nodes_eq]; simp

set_option maxHeartbeats 8000000 in
theorem grow_spec : ∀ (c : Cn) (_ : sizeF c ≤ 1000000), Tri Tryz.prog 46 [.d (.agg (cnR c))] [] (fun r => r = .d (.agg (grR c))) := by
  refine Cn.ind ?_
  intro c ih hs
  have hsz := sizeF_eq c
  rw [cnR_eq, grR_eq]
  refine tri_of_bodyF false [1, 4, 5] hty Tryz.func46 rfl (kp [0, 1, 2, 4, 5, 9, 10, 11, 12]) [] _ _ _ (by simp [Tryz.f46]) (by simp) ?_
  ((conv => whnf); repeat ((first | (intro hq; try simp only [lnS] at hq) | refine sI ?_ | refine Exists.intro _ (And.intro rfl ?_)); (conv => whnf)))
  refine SemVC.mownC 2 120 81 81 7 6 rfl rfl (fresh_of (by with_unfolding_all exact rfl)) ?_
  refine loop_rule hty (fun y : Nat × Nat => ([(2, .ptr 2 0), (9, .d (.sl 5 (c.parts.map cnR))), (10, .d (.int .i64 c.parts.length)), (11, .d (.int .i64 y.1))], [(120, .mrow 81 7 y.2 ((c.parts.take y.1).map grR)), (2, .cells 81 [.d (.int .i64 c.kind), .d (.str c.name), .d (.int .i64 c.lo), .d (.int .i64 c.hi), .d (.sl 5 (c.parts.map cnR)), .d (.int .i64 ((nodesL (c.parts.take y.1)).length + 1 : Nat)), .mw 120 7 y.1])])) (fun y => y.1 ≤ c.parts.length) (fun y => c.parts.length - y.1) (0, 0) (by dsimp only; omega) ⟨by repeat' (first | exact trivial | exact rfl | (rw [List.length_map]; exact rfl) | refine And.intro ?_ ?_), by repeat' (first | exact trivial | exact rfl | refine And.intro ?_ ?_)⟩ ?_
  rintro ⟨j, cap⟩ hj
  dsimp only at hj
  ((conv => whnf); repeat ((first | (intro hq; try simp only [lnS] at hq) | refine sI ?_ | refine Exists.intro _ (And.intro rfl ?_)); (conv => whnf)))
  refine brB_dec (fun h1 => ?_) (fun h1 => ?_)
  · have hjl : j < c.parts.length := by dsimp only at h1; omega
    have hrow' : (c.parts.map cnR)[(j : Int).toNat]? = some (cnR c.parts[j]) := rowC_at hjl
    have hp := sizeF_part (List.getElem_mem (l := c.parts) hjl)
    have hi := ih c.parts[j] (List.getElem_mem hjl) (by omega)
    have hnl := nodesL_len_take hjl
    have hle := nodesL_take_le c.parts (j + 1)
    rw [cnR_eq] at hrow' hi
    rw [grR_eq] at hi
    have hgr := grR_eq c.parts[j]
    ((conv => whnf); repeat' ((first | (intro hq; (try simp only [lnS] at hq); (try rewrite [List.length_map])) | refine sJ ?_ | refine Exists.intro _ (And.intro rfl ?_) | (refine Exists.intro (show (_ : Nat) < List.length _ from by first | omega | (simp only [List.length_cons, List.length_nil]; omega) | simp) ?_) | (refine ⟨_, hrow', ?_⟩) | (refine call_tri [] hi trivial (fun r hs => ?_); subst hs) | refine draw_rule hty (by kernel_rfl) (by kernel_rfl) ?_ | ((first | refine brB_dec (fun hb => ?_) (fun hb => ?_) | refine brB_ndec (fun hb => ?_) (fun hb => ?_)) <;> (first | contradiction | ((try simp only [lnS] at hb); (first | (exfalso; omega) | skip)))) | (refine brB_split (fun hb => ?_) (fun hb => ?_) <;> (first | contradiction | exact absurd (hb.symm.trans (by assumption) : false = true) (by decide) | exact absurd (hb.symm.trans (by assumption) : true = false) (by decide) | skip))) <;> (conv => whnf)))
    have hpl := len_nodesL c.parts
    have hlt : ((c.parts.take j).map grR).length = j := by rw [List.length_map, List.length_take]; omega
    refine ⟨?_, fun cap' hc => ?_⟩
    · show (((c.parts.take j).map grR).length + 1) * 96 ≤ 140737488355328
      rw [hlt]; omega
    · ((conv => whnf); repeat ((first | (intro hq; try simp only [lnS] at hq) | refine sI ?_ | refine Exists.intro _ (And.intro rfl ?_)); (conv => whnf)))
      have hrows : (c.parts.take (j + 1)).map grR = (c.parts.take j).map grR ++ [grX c.parts[j] (sizeF c.parts[j]) c.parts[j].parts] := by
        rw [List.take_succ_eq_append_getElem hjl, List.map_append, List.map_cons, List.map_nil, hgr]
      have hcast : (((nodesL (c.parts.take (j + 1))).length + 1 : Nat) : Int) = (((nodesL (c.parts.take j)).length + 1 : Nat) : Int) + (sizeF c.parts[j] : Nat) := by omega
      refine ⟨(j + 1, cap'), by dsimp only; omega, by dsimp only; omega, ⟨by repeat' (first | exact trivial | exact rfl | refine And.intro ?_ ?_), ?_⟩⟩
      dsimp only
      rw [hrows, hcast]
      refine ⟨rfl, ?_, trivial⟩
      have hmw : SV.mw 120 7 (j + 1) = SV.mw 120 7 (((c.parts.take j).map grR).length + 1) := by rw [hlt]
      rw [hmw]
      rfl
  · have hjl : j = c.parts.length := by dsimp only at h1; omega
    subst hjl
    rw [List.take_length, ← hsz]
    ((conv => whnf); repeat' ((first | (intro hq; (try simp only [lnS] at hq); (try rewrite [List.length_map])) | refine sJ ?_ | refine Exists.intro _ (And.intro rfl ?_) | (refine Exists.intro (show (_ : Nat) < List.length _ from by first | omega | (simp only [List.length_cons, List.length_nil]; omega) | simp) ?_) | fail | refine draw_rule hty (by kernel_rfl) (by kernel_rfl) ?_ | ((first | refine brB_dec (fun hb => ?_) (fun hb => ?_) | refine brB_ndec (fun hb => ?_) (fun hb => ?_)) <;> (first | contradiction | ((try simp only [lnS] at hb); (first | (exfalso; omega) | skip)))) | (refine brB_split (fun hb => ?_) (fun hb => ?_) <;> (first | contradiction | exact absurd (hb.symm.trans (by assumption) : false = true) (by decide) | exact absurd (hb.symm.trans (by assumption) : true = false) (by decide) | skip))) <;> (conv => whnf)))
    refine ⟨(List.length_map ..).symm, ?_⟩
    ((conv => whnf); repeat ((first | (intro hq; try simp only [lnS] at hq) | refine sI ?_ | refine Exists.intro _ (And.intro rfl ?_)); (conv => whnf)))
    rfl

/-! ### the order of concepts -/

mutual
def cmpC : Cn → Cn → Int
  | .mk k n lo hi ps, d =>
    if orF [cmpI (sizeF (.mk k n lo hi ps)) (sizeF d), cmpI k d.kind, cmpB n d.name, cmpI lo d.lo, cmpI hi d.hi] ≠ 0 then orF [cmpI (sizeF (.mk k n lo hi ps)) (sizeF d), cmpI k d.kind, cmpB n d.name, cmpI lo d.lo, cmpI hi d.hi]
    else cmpL ps d.parts
def cmpL : List Cn → List Cn → Int
  | [], [] => 0
  | [], _ :: _ => -1
  | _ :: _, [] => 1
  | a :: l, b :: m => if cmpC a b ≠ 0 then cmpC a b else cmpL l m
end

def headC (c d : Cn) : Int := orF [cmpI (sizeF c) (sizeF d), cmpI c.kind d.kind, cmpB c.name d.name, cmpI c.lo d.lo, cmpI c.hi d.hi]

theorem cmpC_eq (c d : Cn) : cmpC c d = if headC c d ≠ 0 then headC c d else cmpL c.parts d.parts := by
  cases c; rw [cmpC]; rfl

set_option maxHeartbeats 4000000 in
theorem compareFunc_spec (f : FuncId) (hcall : callable Tryz.prog f = true) (l m : List Cn) (hf : ∀ a ∈ l, ∀ b ∈ m, Tri Tryz.prog f [.d (.agg (grR a)), .d (.agg (grR b))] [] (fun r => r = .d (.int .i64 (cmpC a b)))) :
    Tri Tryz.prog 73 [.d (.sl 7 (l.map grR)), .d (.sl 7 (m.map grR)), .fn f [] []] [] (fun r => r = .d (.int .i64 (cmpL l m))) := by
  refine tri_of_bodyF false [8, 9] hty Tryz.func73 rfl (kp [0, 1, 2, 6, 7, 8, 9, 10, 11, 12, 13, 14, 21, 31, 38]) [] _ _ _ (by simp [Tryz.f73]) (by simp) ?_
  ((conv => whnf); repeat ((first | (intro hq; try simp only [lnS] at hq) | refine sI ?_ | refine Exists.intro _ (And.intro rfl ?_)); (conv => whnf)))
  refine loop_rule hty (fun j : Nat => ([(0, .d (.sl 7 (l.map grR))), (1, .d (.sl 7 (m.map grR))), (2, .fn f [] []), (11, .d (.sl 7 (l.map grR))), (12, .d (.int .i64 l.length)), (13, .d (.int .i64 j))], [])) (fun j => j ≤ l.length ∧ j ≤ m.length ∧ cmpL l m = cmpL (l.drop j) (m.drop j)) (fun j => l.length - j) 0 ⟨by omega, by omega, rfl⟩ ⟨by repeat' (first | exact trivial | exact rfl | (rw [List.length_map]; exact rfl) | refine And.intro ?_ ?_), trivial⟩ ?_
  rintro j ⟨hj, hjm, hn⟩
  ((conv => whnf); repeat ((first | (intro hq; try simp only [lnS] at hq) | refine sI ?_ | refine Exists.intro _ (And.intro rfl ?_)); (conv => whnf)))
  refine brB_dec (fun h1 => ?_) (fun h1 => ?_)
  · have hjl : j < l.length := by omega
    have hrow : (l.map grR)[(j : Int).toNat]? = some (grR l[j]) := rowC_at hjl
    rw [grR_eq] at hrow
    rw [List.drop_eq_getElem_cons hjl] at hn
    ((conv => whnf); repeat ((first | (refine ⟨_, hrow, ?_⟩) | (intro hq; try simp only [lnS] at hq) | refine sI ?_ | refine Exists.intro _ (And.intro rfl ?_)); (conv => whnf)))
    refine brB_dec (fun h2 => ?_) (fun h2 => ?_)
    · have hm : m.drop j = [] := List.drop_eq_nil_of_le (by simp only [List.length_map] at h2; omega)
      rw [hm, cmpL] at hn
      ((conv => whnf); repeat' ((first | (intro hq; (try simp only [lnS] at hq); (try rewrite [List.length_map])) | refine sJ ?_ | refine Exists.intro _ (And.intro rfl ?_) | (refine Exists.intro (show (_ : Nat) < List.length _ from by first | omega | (simp only [List.length_cons, List.length_nil]; omega) | simp) ?_) | fail | refine draw_rule hty (by kernel_rfl) (by kernel_rfl) ?_ | ((first | refine brB_dec (fun hb => ?_) (fun hb => ?_) | refine brB_ndec (fun hb => ?_) (fun hb => ?_)) <;> (first | contradiction | ((try simp only [lnS] at hb); (first | (exfalso; omega) | skip)))) | (refine brB_split (fun hb => ?_) (fun hb => ?_) <;> (first | contradiction | exact absurd (hb.symm.trans (by assumption) : false = true) (by decide) | exact absurd (hb.symm.trans (by assumption) : true = false) (by decide) | skip))) <;> (conv => whnf)))
      exact int_eq hn.symm
    · have hjm2 : j < m.length := by simp only [List.length_map] at h2; omega
      have hrow2 : (m.map grR)[(j : Int).toNat]? = some (grR m[j]) := rowC_at hjm2
      rw [grR_eq] at hrow2
      have hi := hf l[j] (List.getElem_mem hjl) m[j] (List.getElem_mem hjm2)
      rw [grR_eq, grR_eq] at hi
      rw [List.drop_eq_getElem_cons hjm2, cmpL] at hn
      ((conv => whnf); repeat' ((first | (intro hq; (try simp only [lnS] at hq); (try rewrite [List.length_map])) | refine sJ ?_ | refine Exists.intro _ (And.intro rfl ?_) | (refine Exists.intro (show (_ : Nat) < List.length _ from by first | omega | (simp only [List.length_cons, List.length_nil]; omega) | simp) ?_) | (refine ⟨_, hrow2, ?_⟩) | (refine call_tri [] hi trivial (fun r hs => ?_); subst hs) | refine draw_rule hty (by kernel_rfl) (by kernel_rfl) ?_ | ((first | refine brB_dec (fun hb => ?_) (fun hb => ?_) | refine brB_ndec (fun hb => ?_) (fun hb => ?_)) <;> (first | contradiction | ((try simp only [lnS] at hb); (first | (exfalso; omega) | skip)))) | (refine brB_split (fun hb => ?_) (fun hb => ?_) <;> (first | contradiction | exact absurd (hb.symm.trans (by assumption) : false = true) (by decide) | exact absurd (hb.symm.trans (by assumption) : true = false) (by decide) | skip))) <;> (conv => whnf)))
      · rw [if_pos (by assumption)] at hn
        exact int_eq hn.symm
      · rw [if_neg (by simpa using (by assumption : cmpC l[j] m[j] = 0))] at hn
        exact ⟨j + 1, ⟨by omega, by omega, hn⟩, by dsimp only; omega, by repeat' (first | exact trivial | exact rfl | refine And.intro ?_ ?_), trivial⟩
  · have hjl : j = l.length := by omega
    subst hjl
    rw [List.drop_length] at hn
    ((conv => whnf); repeat' ((first | (intro hq; (try simp only [lnS] at hq); (try rewrite [List.length_map])) | refine sJ ?_ | refine Exists.intro _ (And.intro rfl ?_) | (refine Exists.intro (show (_ : Nat) < List.length _ from by first | omega | (simp only [List.length_cons, List.length_nil]; omega) | simp) ?_) | fail | refine draw_rule hty (by kernel_rfl) (by kernel_rfl) ?_ | ((first | refine brB_dec (fun hb => ?_) (fun hb => ?_) | refine brB_ndec (fun hb => ?_) (fun hb => ?_)) <;> (first | contradiction | ((try simp only [lnS] at hb); (first | (exfalso; omega) | skip)))) | (refine brB_split (fun hb => ?_) (fun hb => ?_) <;> (first | contradiction | exact absurd (hb.symm.trans (by assumption) : false = true) (by decide) | exact absurd (hb.symm.trans (by assumption) : true = false) (by decide) | skip))) <;> (conv => whnf)))
    · have hjm2 : l.length < m.length := by simp_all
      rw [List.drop_eq_getElem_cons hjm2, cmpL] at hn
      exact int_eq hn.symm
    · have hjm2 : m.drop l.length = [] := List.drop_eq_nil_of_le (by simp_all)
      rw [hjm2, cmpL] at hn
      exact int_eq hn.symm
end Go.Proofs.YtkbmlchceiglfaaGreatDoor
