/-
  Terms: the library's comparisons of numbers, strings and lists. Terms: the tree of a concept: grow. Statements whose order is open: a head of reads and calls in any order, then a tail that is forced.
  Conditions: none.
-/
import Derived.Test.YtnemengadjimcaaGreatDoorMAa
import Derived.Test.YtnemengadjimcaaGreatDoorMSs
set_option linter.unnecessarySimpa false
set_option linter.unusedSectionVars false
set_option linter.unusedSimpArgs false
set_option linter.unusedVariables false
namespace Go.Proofs.YtnemengadjimcaaGreatDoor
open Go.Proofs
set_option maxRecDepth 10000
attribute [local irreducible] SemVC CallVC Tri Stuck YVC GenP GenVC
def cmpI (a b : Int) : Int := if a < b then -1 else if b < a then 1 else 0
def orF : List Int → Int
  | [] => 0
  | x :: r => if x ≠ 0 then x else orF r
def numR (n : Int) : List D := [.int .i64 n]
theorem isNaNi_spec (a : Int) : Tri Tryz.prog 124 [.d (.int .i64 a)] [] (fun r => r = .d (.bool false)) := by
  refine tri_of_body hty Tryz.func124 rfl (kp [0, 2]) [] _ _ _ (by simp [Tryz.f124]) (by simp) ?_
  ((conv => whnf); repeat' ((first | (intro hq; (try simp only [lnS] at hq); (try rewrite [List.length_map])) | refine sJ ?_ | refine .intro _ (.intro rfl ?_) | (refine .intro (show (_ : Nat) < List.length _ from by first | omega | (simp only [lnS]; omega) | simp) ?_) | fail | refine draw_rule hty (by kernel_rfl) (by kernel_rfl) ?_ | ((first | refine brB_dec ?_ ?_ | refine brB_ndec ?_ ?_) <;> intro hb <;> (first | contradiction | ((try simp only [lnS] at hb); try (exfalso; omega)))) | (refine brB_split ?_ ?_ <;> intro hb <;> (first | contradiction | exact bT hb (by assumption) | exact bF hb (by assumption) | skip))) <;> (conv => whnf)))
  all_goals first | rfl | (exact bool_eq (by simp))
theorem isNaNs_spec (a : List UInt8) : Tri Tryz.prog 165 [.d (.str a)] [] (fun r => r = .d (.bool false)) := by
  refine tri_of_body hty Tryz.func165 rfl (kp [0, 2]) [] _ _ _ (by simp [Tryz.f165]) (by simp) ?_
  ((conv => whnf); repeat' ((first | (intro hq; (try simp only [lnS] at hq); (try rewrite [List.length_map])) | refine sJ ?_ | refine .intro _ (.intro rfl ?_) | (refine .intro (show (_ : Nat) < List.length _ from by first | omega | (simp only [lnS]; omega) | simp) ?_) | fail | refine draw_rule hty (by kernel_rfl) (by kernel_rfl) ?_ | ((first | refine brB_dec ?_ ?_ | refine brB_ndec ?_ ?_) <;> intro hb <;> (first | contradiction | ((try simp only [lnS] at hb); try (exfalso; omega)))) | (refine brB_split ?_ ?_ <;> intro hb <;> (first | contradiction | exact bT hb (by assumption) | exact bF hb (by assumption) | skip))) <;> (conv => whnf)))
  all_goals first | rfl | (exact bool_eq (by simp))
theorem compareI_spec (a b : Int) : Tri Tryz.prog 73 [.d (.int .i64 a), .d (.int .i64 b)] [] (fun r => r = .d (.int .i64 (cmpI a b))) := by
  refine tri_of_body hty Tryz.func73 rfl (kp [0, 1, 4, 5, 6, 11, 12, 13, 16, 19]) [] _ _ _ (by simp [Tryz.f73]) (by simp) ?_
  ((conv => whnf); repeat' ((first | (intro hq; (try simp only [lnS] at hq); (try rewrite [List.length_map])) | refine sJ ?_ | refine .intro _ (.intro rfl ?_) | (refine .intro (show (_ : Nat) < List.length _ from by first | omega | (simp only [lnS]; omega) | simp) ?_) | (refine call_tri [] (isNaNi_spec _) trivial (fun r hs => ?_); subst hs) | refine draw_rule hty (by kernel_rfl) (by kernel_rfl) ?_ | ((first | refine brB_dec ?_ ?_ | refine brB_ndec ?_ ?_) <;> intro hb <;> (first | contradiction | ((try simp only [lnS] at hb); try (exfalso; omega)))) | (refine brB_split ?_ ?_ <;> intro hb <;> (first | contradiction | exact bT hb (by assumption) | exact bF hb (by assumption) | skip))) <;> (conv => whnf)))
  all_goals (refine int_eq (Eq.symm ?_); unfold cmpI; simp_all <;> omega)
theorem compareS_spec (a b : List UInt8) : Tri Tryz.prog 126 [.d (.str a), .d (.str b)] [] (fun r => r = .d (.int .i64 (cmpB a b))) := by
  refine tri_of_body hty Tryz.func126 rfl (kp [0, 1, 4, 5, 6, 11, 12, 13, 16, 19]) [] _ _ _ (by simp [Tryz.f126]) (by simp) ?_
  ((conv => whnf); repeat' ((first | (intro hq; (try simp only [lnS] at hq); (try rewrite [List.length_map])) | refine sJ ?_ | refine .intro _ (.intro rfl ?_) | (refine .intro (show (_ : Nat) < List.length _ from by first | omega | (simp only [lnS]; omega) | simp) ?_) | (refine call_tri [] (isNaNs_spec _) trivial (fun r hs => ?_); subst hs) | refine draw_rule hty (by kernel_rfl) (by kernel_rfl) ?_ | ((first | refine brB_dec ?_ ?_ | refine brB_ndec ?_ ?_) <;> intro hb <;> (first | contradiction | ((try simp only [lnS] at hb); try (exfalso; omega)))) | (refine brB_split ?_ ?_ <;> intro hb <;> (first | contradiction | exact bT hb (by assumption) | exact bF hb (by assumption) | skip))) <;> (conv => whnf)))
  all_goals (
    refine int_eq (Eq.symm ?_)
    have hr := cmpB_range a b
    have hz := cmpB_zero a b)
  · rw [bytesLess_eq, decide_eq_true_eq] at hb
    omega
  · rename_i hb0
    rw [bytesLess_eq, decide_eq_false_iff_not] at hb0
    have : cmpB a b ≠ 0 := fun q => by rw [hz.1 q] at hb; simp at hb
    omega
  · rename_i hb0
    rw [bytesLess_eq, decide_eq_false_iff_not] at hb0
    rw [bytesLess_eq, decide_eq_false hb0] at hb
    exact hz.2 (by simpa using hb)
set_option maxHeartbeats 2000000 in
theorem or_spec (l : List Int) : Tri Tryz.prog 72 [.d (.sl 1 (l.map numR))] [] (fun r => r = .d (.int .i64 (orF l))) := by
  refine tri_of_body hty Tryz.func72 rfl (kp [0, 2, 3, 5, 6, 7, 8, 9, 14]) [] _ _ _ (by simp [Tryz.f72]) (by simp) ?_
  ((conv => whnf); repeat ((first | (intro hq; try simp only [lnS] at hq) | refine sI ?_ | refine .intro _ (.intro rfl ?_)); (conv => whnf)))
  refine loop_rule hty (fun j : Nat => ([(3, .d (.int .i64 0)), (6, .d (.sl 1 (l.map numR))), (7, .d (.int .i64 l.length)), (8, .d (.int .i64 j))], [])) (fun j => j ≤ l.length ∧ orF l = orF (l.drop j)) (fun j => l.length - j) 0 ⟨by omega, rfl⟩ ⟨by repeat' (first | exact trivial | exact rfl | (rw [List.length_map]; exact rfl) | refine And.intro ?_ ?_), trivial⟩ ?_
  rintro j ⟨hj, hn⟩
  ((conv => whnf); repeat ((first | (intro hq; try simp only [lnS] at hq) | refine sI ?_ | refine .intro _ (.intro rfl ?_)); (conv => whnf)))
  refine brB_dec (fun h1 => ?_) (fun h1 => ?_)
  · have hjl : j < l.length := by omega
    have hrow : (l.map numR)[(j : Int).toNat]? = some (numR l[j]) := rowC_at hjl
    rw [List.drop_eq_getElem_cons hjl, orF] at hn
    generalize l[j] = x at hrow hn
    ((conv => whnf); repeat' ((first | (intro hq; (try simp only [lnS] at hq); (try rewrite [List.length_map])) | refine sJ ?_ | refine .intro _ (.intro rfl ?_) | (refine .intro (show (_ : Nat) < List.length _ from by first | omega | (simp only [lnS]; omega) | simp) ?_) | (refine ⟨_, hrow, ?_⟩) | refine draw_rule hty (by kernel_rfl) (by kernel_rfl) ?_ | ((first | refine brB_dec ?_ ?_ | refine brB_ndec ?_ ?_) <;> intro hb <;> (first | contradiction | ((try simp only [lnS] at hb); try (exfalso; omega)))) | (refine brB_split ?_ ?_ <;> intro hb <;> (first | contradiction | exact bT hb (by assumption) | exact bF hb (by assumption) | skip))) <;> (conv => whnf)))
    · rw [if_pos (by assumption)] at hn
      exact int_eq hn.symm
    · rw [if_neg (by simpa using (by assumption : x = 0))] at hn
      exact ⟨j + 1, ⟨by omega, hn⟩, by dsimp only; omega, by repeat' (first | exact trivial | exact rfl | refine And.intro ?_ ?_), trivial⟩
  · have hjl : j = l.length := by omega
    subst hjl
    rw [List.drop_length, orF] at hn
    ((conv => whnf); repeat' ((first | (intro hq; (try simp only [lnS] at hq); (try rewrite [List.length_map])) | refine sJ ?_ | refine .intro _ (.intro rfl ?_) | (refine .intro (show (_ : Nat) < List.length _ from by first | omega | (simp only [lnS]; omega) | simp) ?_) | fail | refine draw_rule hty (by kernel_rfl) (by kernel_rfl) ?_ | ((first | refine brB_dec ?_ ?_ | refine brB_ndec ?_ ?_) <;> intro hb <;> (first | contradiction | ((try simp only [lnS] at hb); try (exfalso; omega)))) | (refine brB_split ?_ ?_ <;> intro hb <;> (first | contradiction | exact bT hb (by assumption) | exact bF hb (by assumption) | skip))) <;> (conv => whnf)))
    exact int_eq hn.symm
def cmpSL : List (List UInt8) → List (List UInt8) → Int
  | [], [] => 0
  | [], _ :: _ => -1
  | _ :: _, [] => 1
  | a :: l, b :: m => if cmpB a b ≠ 0 then cmpB a b else cmpSL l m
set_option maxHeartbeats 4000000 in
theorem compareSL_spec (l m : List (List UInt8)) : Tri Tryz.prog 75 [.d (strl l), .d (strl m)] [] (fun r => r = .d (.int .i64 (cmpSL l m))) := by
  refine tri_of_body hty Tryz.func75 rfl (kp [0, 1, 4, 5, 6, 7, 8, 9, 10, 11, 12, 19, 28, 35]) [] _ _ _ (by simp [Tryz.f75]) (by simp) ?_
  ((conv => whnf); repeat ((first | (intro hq; try simp only [lnS] at hq) | refine sI ?_ | refine .intro _ (.intro rfl ?_)); (conv => whnf)))
  refine loop_rule hty (fun j : Nat => ([(0, .d (strl l)), (1, .d (strl m)), (9, .d (strl l)), (10, .d (.int .i64 l.length)), (11, .d (.int .i64 j))], [])) (fun j => j ≤ l.length ∧ j ≤ m.length ∧ cmpSL l m = cmpSL (l.drop j) (m.drop j)) (fun j => l.length - j) 0 ⟨by omega, by omega, rfl⟩ ⟨by repeat' (first | exact trivial | exact rfl | (rw [List.length_map]; exact rfl) | refine And.intro ?_ ?_), trivial⟩ ?_
  rintro j ⟨hj, hjm, hn⟩
  ((conv => whnf); repeat ((first | (intro hq; try simp only [lnS] at hq) | refine sI ?_ | refine .intro _ (.intro rfl ?_)); (conv => whnf)))
  refine brB_dec (fun h1 => ?_) (fun h1 => ?_)
  · have hjl : j < l.length := by omega
    have hrow : (l.map strR)[(j : Int).toNat]? = some (strR l[j]) := rowC_at hjl
    rw [List.drop_eq_getElem_cons hjl] at hn
    generalize l[j] = x at hrow hn
    ((conv => whnf); repeat ((first | (refine ⟨_, hrow, ?_⟩) | (intro hq; try simp only [lnS] at hq) | refine sI ?_ | refine .intro _ (.intro rfl ?_)); (conv => whnf)))
    refine brB_dec (fun h2 => ?_) (fun h2 => ?_)
    · have hm : m.drop j = [] := List.drop_eq_nil_of_le (by simp only [List.length_map] at h2; omega)
      rw [hm, cmpSL] at hn
      ((conv => whnf); repeat' ((first | (intro hq; (try simp only [lnS] at hq); (try rewrite [List.length_map])) | refine sJ ?_ | refine .intro _ (.intro rfl ?_) | (refine .intro (show (_ : Nat) < List.length _ from by first | omega | (simp only [lnS]; omega) | simp) ?_) | fail | refine draw_rule hty (by kernel_rfl) (by kernel_rfl) ?_ | ((first | refine brB_dec ?_ ?_ | refine brB_ndec ?_ ?_) <;> intro hb <;> (first | contradiction | ((try simp only [lnS] at hb); try (exfalso; omega)))) | (refine brB_split ?_ ?_ <;> intro hb <;> (first | contradiction | exact bT hb (by assumption) | exact bF hb (by assumption) | skip))) <;> (conv => whnf)))
      exact int_eq hn.symm
    · have hjm2 : j < m.length := by simp only [List.length_map] at h2; omega
      have hrow2 : (m.map strR)[(j : Int).toNat]? = some (strR m[j]) := rowC_at hjm2
      rw [List.drop_eq_getElem_cons hjm2, cmpSL] at hn
      generalize m[j] = y at hrow2 hn
      ((conv => whnf); repeat' ((first | (intro hq; (try simp only [lnS] at hq); (try rewrite [List.length_map])) | refine sJ ?_ | refine .intro _ (.intro rfl ?_) | (refine .intro (show (_ : Nat) < List.length _ from by first | omega | (simp only [lnS]; omega) | simp) ?_) | (refine ⟨_, hrow2, ?_⟩) | (refine call_tri [] (compareS_spec x y) trivial (fun r hs => ?_); subst hs) | refine draw_rule hty (by kernel_rfl) (by kernel_rfl) ?_ | ((first | refine brB_dec ?_ ?_ | refine brB_ndec ?_ ?_) <;> intro hb <;> (first | contradiction | ((try simp only [lnS] at hb); try (exfalso; omega)))) | (refine brB_split ?_ ?_ <;> intro hb <;> (first | contradiction | exact bT hb (by assumption) | exact bF hb (by assumption) | skip))) <;> (conv => whnf)))
      · rw [if_pos (by assumption)] at hn
        exact int_eq hn.symm
      · rw [if_neg (by simpa using (by assumption : cmpB x y = 0))] at hn
        exact ⟨j + 1, ⟨by omega, by omega, hn⟩, by dsimp only; omega, by repeat' (first | exact trivial | exact rfl | refine And.intro ?_ ?_), trivial⟩
  · have hjl : j = l.length := by omega
    subst hjl
    rw [List.drop_length] at hn
    ((conv => whnf); repeat' ((first | (intro hq; (try simp only [lnS] at hq); (try rewrite [List.length_map])) | refine sJ ?_ | refine .intro _ (.intro rfl ?_) | (refine .intro (show (_ : Nat) < List.length _ from by first | omega | (simp only [lnS]; omega) | simp) ?_) | fail | refine draw_rule hty (by kernel_rfl) (by kernel_rfl) ?_ | ((first | refine brB_dec ?_ ?_ | refine brB_ndec ?_ ?_) <;> intro hb <;> (first | contradiction | ((try simp only [lnS] at hb); try (exfalso; omega)))) | (refine brB_split ?_ ?_ <;> intro hb <;> (first | contradiction | exact bT hb (by assumption) | exact bF hb (by assumption) | skip))) <;> (conv => whnf)))
    · have hjm2 : l.length < m.length := by simp_all
      rw [List.drop_eq_getElem_cons hjm2, cmpSL] at hn
      exact int_eq hn.symm
    · rename_i h9
      have hjm2 : m.drop l.length = [] := List.drop_eq_nil_of_le (by simp_all)
      rw [hjm2, cmpSL] at hn
      exact int_eq hn.symm
end Go.Proofs.YtnemengadjimcaaGreatDoor
namespace Go.Proofs.YtnemengadjimcaaGreatDoor
open Go.Proofs
set_option maxRecDepth 10000
attribute [local irreducible] SemVC CallVC Tri Stuck YVC GenP GenVC
mutual
def grR : Cn → List D
  | .mk k n lo hi ps => [.int .i64 k, .str n, .int .i64 lo, .int .i64 hi, .sl 5 (cnRs ps), .int .i64 (sizeF (.mk k n lo hi ps)), .sl 7 (grRs ps)]
def grRs : List Cn → List (List D)
  | [] => []
  | c :: r => grR c :: grRs r
end
theorem grRs_map : ∀ l, grRs l = l.map grR
  | [] => rfl
  | c :: r => by rw [grRs, grRs_map r]; rfl
def grX (c : Cn) (n : Int) (l : List Cn) : List D := [.int .i64 c.kind, .str c.name, .int .i64 c.lo, .int .i64 c.hi, .sl 5 (c.parts.map cnR), .int .i64 n, .sl 7 (l.map grR)]
theorem grR_eq (c : Cn) : grR c = grX c (sizeF c) c.parts := by
  cases c; rw [grR, cnRs_map, grRs_map]; rfl
theorem nodesL_len_take {l : List Cn} {j : Nat} (h : j < l.length) : (nodesL (l.take (j + 1))).length = (nodesL (l.take j)).length + sizeF l[j] := by
  rw [nodesL_take h, List.length_append]; rfl
theorem nodesL_take_le (l : List Cn) (j : Nat) : (nodesL (l.take j)).length ≤ (nodesL l).length := by
  conv => rhs; rw [← List.take_append_drop j l, nodesL_append, List.length_append]
  omega
theorem len_nodesL : ∀ (l : List Cn), l.length ≤ (nodesL l).length
  | [] => by simp
  | c :: r => by
    have h1 := len_nodesL r
    have h2 := sizeF_pos c
    rw [sizeF] at h2
    rw [nodesL, List.length_append, List.length_cons]; omega
theorem sizeF_eq (c : Cn) : sizeF c = (nodesL c.parts).length + 1 := by rw [sizeF, nodes_eq]; simp
set_option maxHeartbeats 8000000 in
theorem grow_spec : ∀ (c : Cn) (_ : sizeF c ≤ 1000000), Tri Tryz.prog 122 [.d (.agg (cnR c))] [] (fun r => r = .d (.agg (grR c))) := by
  refine Cn.ind ?_
  intro c ih hs
  have hsz := sizeF_eq c
  rw [cnR_eq, grR_eq]
  refine tri_of_bodyF false [1, 4, 5] hty Tryz.func122 rfl (kp [0, 1, 2, 4, 5, 9, 10, 11, 12]) [] _ _ _ (by simp [Tryz.f122]) (by simp) ?_
  ((conv => whnf); repeat ((first | (intro hq; try simp only [lnS] at hq) | refine sI ?_ | refine .intro _ (.intro rfl ?_)); (conv => whnf)))
  refine SemVC.mownC 2 120 146 146 7 6 rfl rfl (fresh_of (by with_unfolding_all exact rfl)) ?_
  refine loop_rule hty (fun y : Nat × Nat => ([(2, .ptr 2 0), (9, .d (.sl 5 (c.parts.map cnR))), (10, .d (.int .i64 c.parts.length)), (11, .d (.int .i64 y.1))], [(120, .mrow 146 7 y.2 ((c.parts.take y.1).map grR)), (2, .cells 146 [.d (.int .i64 c.kind), .d (.str c.name), .d (.int .i64 c.lo), .d (.int .i64 c.hi), .d (.sl 5 (c.parts.map cnR)), .d (.int .i64 ((nodesL (c.parts.take y.1)).length + 1 : Nat)), .mw 120 7 y.1])])) (fun y => y.1 ≤ c.parts.length) (fun y => c.parts.length - y.1) (0, 0) (by dsimp only; omega) ⟨by repeat' (first | exact trivial | exact rfl | (rw [List.length_map]; exact rfl) | refine And.intro ?_ ?_), by repeat' (first | exact trivial | exact rfl | refine And.intro ?_ ?_)⟩ ?_
  rintro ⟨j, cap⟩ hj
  dsimp only at hj
  ((conv => whnf); repeat ((first | (intro hq; try simp only [lnS] at hq) | refine sI ?_ | refine .intro _ (.intro rfl ?_)); (conv => whnf)))
  refine brB_dec (fun h1 => ?_) (fun h1 => ?_)
  · have hjl : j < c.parts.length := by dsimp only at h1; omega
    have hrow' : (c.parts.map cnR)[(j : Int).toNat]? = some (cnR c.parts[j]) := rowC_at hjl
    have hp := sizeF_part (List.getElem_mem (l := c.parts) hjl)
    have hi := ih c.parts[j] (List.getElem_mem hjl) (by omega)
    have hnl := nodesL_len_take hjl
    have hle := nodesL_take_le c.parts (j + 1)
    rw [cnR_eq] at hrow' hi
    rw [grR_eq] at hi
    have hgr := grR_eq c.parts[j]
    ((conv => whnf); repeat' ((first | (intro hq; (try simp only [lnS] at hq); (try rewrite [List.length_map])) | refine sJ ?_ | refine .intro _ (.intro rfl ?_) | (refine .intro (show (_ : Nat) < List.length _ from by first | omega | (simp only [lnS]; omega) | simp) ?_) | (refine ⟨_, hrow', ?_⟩) | (refine call_tri [] hi trivial (fun r hs => ?_); subst hs) | refine draw_rule hty (by kernel_rfl) (by kernel_rfl) ?_ | ((first | refine brB_dec ?_ ?_ | refine brB_ndec ?_ ?_) <;> intro hb <;> (first | contradiction | ((try simp only [lnS] at hb); try (exfalso; omega)))) | (refine brB_split ?_ ?_ <;> intro hb <;> (first | contradiction | exact bT hb (by assumption) | exact bF hb (by assumption) | skip))) <;> (conv => whnf)))
    have hpl := len_nodesL c.parts
    have hlt : ((c.parts.take j).map grR).length = j := by rw [List.length_map, List.length_take]; omega
    refine ⟨?_, fun cap' hc => ?_⟩
    · show (((c.parts.take j).map grR).length + 1) * 96 ≤ 140737488355328
      rw [hlt]; omega
    · ((conv => whnf); repeat ((first | (intro hq; try simp only [lnS] at hq) | refine sI ?_ | refine .intro _ (.intro rfl ?_)); (conv => whnf)))
      have hrows : (c.parts.take (j + 1)).map grR = (c.parts.take j).map grR ++ [grX c.parts[j] (sizeF c.parts[j]) c.parts[j].parts] := by
        rw [List.take_succ_eq_append_getElem hjl, List.map_append, List.map_cons, List.map_nil, hgr]
      have hcast : (((nodesL (c.parts.take (j + 1))).length + 1 : Nat) : Int) = (((nodesL (c.parts.take j)).length + 1 : Nat) : Int) + (sizeF c.parts[j] : Nat) := by omega
      refine ⟨(j + 1, cap'), by dsimp only; omega, by dsimp only; omega, ⟨by repeat' (first | exact trivial | exact rfl | refine And.intro ?_ ?_), ?_⟩⟩
      dsimp only
      rw [hrows, hcast]
      refine ⟨rfl, ?_, trivial⟩
      have hmw : SV.mw 120 7 (j + 1) = SV.mw 120 7 (((c.parts.take j).map grR).length + 1) := by rw [hlt]
      rw [hmw]
      rfl
  · have hjl : j = c.parts.length := by dsimp only at h1; omega
    subst hjl
    rw [List.take_length, ← hsz]
    ((conv => whnf); repeat' ((first | (intro hq; (try simp only [lnS] at hq); (try rewrite [List.length_map])) | refine sJ ?_ | refine .intro _ (.intro rfl ?_) | (refine .intro (show (_ : Nat) < List.length _ from by first | omega | (simp only [lnS]; omega) | simp) ?_) | fail | refine draw_rule hty (by kernel_rfl) (by kernel_rfl) ?_ | ((first | refine brB_dec ?_ ?_ | refine brB_ndec ?_ ?_) <;> intro hb <;> (first | contradiction | ((try simp only [lnS] at hb); try (exfalso; omega)))) | (refine brB_split ?_ ?_ <;> intro hb <;> (first | contradiction | exact bT hb (by assumption) | exact bF hb (by assumption) | skip))) <;> (conv => whnf)))
    refine ⟨(List.length_map ..).symm, ?_⟩
    ((conv => whnf); repeat ((first | (intro hq; try simp only [lnS] at hq) | refine sI ?_ | refine .intro _ (.intro rfl ?_)); (conv => whnf)))
    rfl
mutual
def cmpC : Cn → Cn → Int
  | .mk k n lo hi ps, d =>
    if orF [cmpI (sizeF (.mk k n lo hi ps)) (sizeF d), cmpI k d.kind, cmpB n d.name, cmpI lo d.lo, cmpI hi d.hi] ≠ 0 then orF [cmpI (sizeF (.mk k n lo hi ps)) (sizeF d), cmpI k d.kind, cmpB n d.name, cmpI lo d.lo, cmpI hi d.hi]
    else cmpL ps d.parts
def cmpL : List Cn → List Cn → Int
  | [], [] => 0
  | [], _ :: _ => -1
  | _ :: _, [] => 1
  | a :: l, b :: m => if cmpC a b ≠ 0 then cmpC a b else cmpL l m
end
def headC (c d : Cn) : Int := orF [cmpI (sizeF c) (sizeF d), cmpI c.kind d.kind, cmpB c.name d.name, cmpI c.lo d.lo, cmpI c.hi d.hi]
theorem cmpC_eq (c d : Cn) : cmpC c d = if headC c d ≠ 0 then headC c d else cmpL c.parts d.parts := by
  cases c; rw [cmpC]; rfl
set_option maxHeartbeats 4000000 in
theorem compareFunc_spec (f : FuncId) (hcall : callable Tryz.prog f = true) (l m : List Cn) (hf : ∀ a ∈ l, ∀ b ∈ m, Tri Tryz.prog f [.d (.agg (grR a)), .d (.agg (grR b))] [] (fun r => r = .d (.int .i64 (cmpC a b)))) :
    Tri Tryz.prog 164 [.d (.sl 7 (l.map grR)), .d (.sl 7 (m.map grR)), .fn f [] []] [] (fun r => r = .d (.int .i64 (cmpL l m))) := by
  refine tri_of_bodyF false [8, 9] hty Tryz.func164 rfl (kp [0, 1, 2, 6, 7, 8, 9, 10, 11, 12, 13, 14, 21, 31, 38]) [] _ _ _ (by simp [Tryz.f164]) (by simp) ?_
  ((conv => whnf); repeat ((first | (intro hq; try simp only [lnS] at hq) | refine sI ?_ | refine .intro _ (.intro rfl ?_)); (conv => whnf)))
  refine loop_rule hty (fun j : Nat => ([(0, .d (.sl 7 (l.map grR))), (1, .d (.sl 7 (m.map grR))), (2, .fn f [] []), (11, .d (.sl 7 (l.map grR))), (12, .d (.int .i64 l.length)), (13, .d (.int .i64 j))], [])) (fun j => j ≤ l.length ∧ j ≤ m.length ∧ cmpL l m = cmpL (l.drop j) (m.drop j)) (fun j => l.length - j) 0 ⟨by omega, by omega, rfl⟩ ⟨by repeat' (first | exact trivial | exact rfl | (rw [List.length_map]; exact rfl) | refine And.intro ?_ ?_), trivial⟩ ?_
  rintro j ⟨hj, hjm, hn⟩
  ((conv => whnf); repeat ((first | (intro hq; try simp only [lnS] at hq) | refine sI ?_ | refine .intro _ (.intro rfl ?_)); (conv => whnf)))
  refine brB_dec (fun h1 => ?_) (fun h1 => ?_)
  · have hjl : j < l.length := by omega
    have hrow : (l.map grR)[(j : Int).toNat]? = some (grR l[j]) := rowC_at hjl
    rw [grR_eq] at hrow
    rw [List.drop_eq_getElem_cons hjl] at hn
    ((conv => whnf); repeat ((first | (refine ⟨_, hrow, ?_⟩) | (intro hq; try simp only [lnS] at hq) | refine sI ?_ | refine .intro _ (.intro rfl ?_)); (conv => whnf)))
    refine brB_dec (fun h2 => ?_) (fun h2 => ?_)
    · have hm : m.drop j = [] := List.drop_eq_nil_of_le (by simp only [List.length_map] at h2; omega)
      rw [hm, cmpL] at hn
      ((conv => whnf); repeat' ((first | (intro hq; (try simp only [lnS] at hq); (try rewrite [List.length_map])) | refine sJ ?_ | refine .intro _ (.intro rfl ?_) | (refine .intro (show (_ : Nat) < List.length _ from by first | omega | (simp only [lnS]; omega) | simp) ?_) | fail | refine draw_rule hty (by kernel_rfl) (by kernel_rfl) ?_ | ((first | refine brB_dec ?_ ?_ | refine brB_ndec ?_ ?_) <;> intro hb <;> (first | contradiction | ((try simp only [lnS] at hb); try (exfalso; omega)))) | (refine brB_split ?_ ?_ <;> intro hb <;> (first | contradiction | exact bT hb (by assumption) | exact bF hb (by assumption) | skip))) <;> (conv => whnf)))
      exact int_eq hn.symm
    · have hjm2 : j < m.length := by simp only [List.length_map] at h2; omega
      have hrow2 : (m.map grR)[(j : Int).toNat]? = some (grR m[j]) := rowC_at hjm2
      rw [grR_eq] at hrow2
      have hi := hf l[j] (List.getElem_mem hjl) m[j] (List.getElem_mem hjm2)
      rw [grR_eq, grR_eq] at hi
      rw [List.drop_eq_getElem_cons hjm2, cmpL] at hn
      ((conv => whnf); repeat' ((first | (intro hq; (try simp only [lnS] at hq); (try rewrite [List.length_map])) | refine sJ ?_ | refine .intro _ (.intro rfl ?_) | (refine .intro (show (_ : Nat) < List.length _ from by first | omega | (simp only [lnS]; omega) | simp) ?_) | (refine ⟨_, hrow2, ?_⟩) | (refine call_tri [] hi trivial (fun r hs => ?_); subst hs) | refine draw_rule hty (by kernel_rfl) (by kernel_rfl) ?_ | ((first | refine brB_dec ?_ ?_ | refine brB_ndec ?_ ?_) <;> intro hb <;> (first | contradiction | ((try simp only [lnS] at hb); try (exfalso; omega)))) | (refine brB_split ?_ ?_ <;> intro hb <;> (first | contradiction | exact bT hb (by assumption) | exact bF hb (by assumption) | skip))) <;> (conv => whnf)))
      · rw [if_pos (by assumption)] at hn
        exact int_eq hn.symm
      · rw [if_neg (by simpa using (by assumption : cmpC l[j] m[j] = 0))] at hn
        exact ⟨j + 1, ⟨by omega, by omega, hn⟩, by dsimp only; omega, by repeat' (first | exact trivial | exact rfl | refine And.intro ?_ ?_), trivial⟩
  · have hjl : j = l.length := by omega
    subst hjl
    rw [List.drop_length] at hn
    ((conv => whnf); repeat' ((first | (intro hq; (try simp only [lnS] at hq); (try rewrite [List.length_map])) | refine sJ ?_ | refine .intro _ (.intro rfl ?_) | (refine .intro (show (_ : Nat) < List.length _ from by first | omega | (simp only [lnS]; omega) | simp) ?_) | fail | refine draw_rule hty (by kernel_rfl) (by kernel_rfl) ?_ | ((first | refine brB_dec ?_ ?_ | refine brB_ndec ?_ ?_) <;> intro hb <;> (first | contradiction | ((try simp only [lnS] at hb); try (exfalso; omega)))) | (refine brB_split ?_ ?_ <;> intro hb <;> (first | contradiction | exact bT hb (by assumption) | exact bF hb (by assumption) | skip))) <;> (conv => whnf)))
    · have hjm2 : l.length < m.length := by simp_all
      rw [List.drop_eq_getElem_cons hjm2, cmpL] at hn
      exact int_eq hn.symm
    · have hjm2 : m.drop l.length = [] := List.drop_eq_nil_of_le (by simp_all)
      rw [hjm2, cmpL] at hn
      exact int_eq hn.symm
end Go.Proofs.YtnemengadjimcaaGreatDoor
namespace Go.Proofs.YtnemengadjimcaaGreatDoor
open Go.RowKit
section
variable {P : Program}
theorem wpAny_more {ops : Array Oper} {Q : Exit → Act → World → Prop} : ∀ (fuel : Nat) (listed : Array Bool) (a : Act) (w : World), wpAny P .any ops Q fuel listed a w → wpAny P .any ops Q (fuel + 1) listed a w := by
  intro fuel
  induction fuel with
  | zero => intro listed a w h; exact ⟨fun _ => h.2, fun i hi => (by rw [h.1] at hi; cases hi)⟩
  | succ fuel ih => intro listed a w h; exact ⟨h.1, fun i hi => wpOp_mono (fun a w => ih _ a w) (h.2 i hi)⟩
theorem wpAny_plus {ops : Array Oper} {Q : Exit → Act → World → Prop} {fuel : Nat} {listed : Array Bool} {a : Act} {w : World} (h : wpAny P .any ops Q fuel listed a w) : ∀ k, wpAny P .any ops Q (k + fuel) listed a w
  | 0 => by rw [Nat.zero_add]; exact h
  | k + 1 => by rw [Nat.add_right_comm]; exact wpAny_more _ _ _ _ (wpAny_plus h k)
def preB (l : List Oper) (m : Nat) : Bool :=
  decide (m < l.length) &&
  (List.range l.length).all fun i =>
    match l[i]? with
    | some o =>
      (o.after.all fun e => !Region.binds .any e || decide (e.on < i)) &&
      (if i < m then o.guard.isNone && (List.range (m + 1)).any fun k => decide (i < k) && (match l[k]? with
          | some o' => o'.after.any fun e => Region.binds .any e && e.on == i
          | none => false)
       else i == m || o.after.any fun e => Region.binds .any e && decide (m ≤ e.on))
    | none => false
theorem preB_spec {l : List Oper} {m : Nat} (h : preB l m = true) : m < l.length ∧ ∀ i o, l[i]? = some o →
    (∀ e ∈ o.after, Region.binds .any e = true → e.on < i) ∧
    (i < m → o.guard = none ∧ ∃ k o', i < k ∧ k ≤ m ∧ l[k]? = some o' ∧ ∃ e ∈ o'.after, Region.binds .any e = true ∧ e.on = i) ∧
    (m < i → ∃ e ∈ o.after, Region.binds .any e = true ∧ m ≤ e.on) := by
  simp only [preB, Bool.and_eq_true, decide_eq_true_eq, List.all_eq_true, List.mem_range] at h
  refine ⟨h.1, fun i o ho => ?_⟩
  have hi := h.2 i (List.getElem?_eq_some_iff.1 ho).1
  rw [ho] at hi
  simp only [Bool.and_eq_true] at hi
  obtain ⟨h1, h2⟩ := hi
  refine ⟨fun e he hb => ?_, fun him => ?_, fun hmi => ?_⟩
  · rw [Array.all_eq_true'] at h1
    have := h1 e he
    simpa [hb] using this
  · rw [if_pos him] at h2
    simp only [Bool.and_eq_true, Option.isNone_iff_eq_none, List.any_eq_true, List.mem_range, decide_eq_true_eq] at h2
    obtain ⟨hg, k, hk, hik, hx⟩ := h2
    refine ⟨hg, ?_⟩
    split at hx
    · rename_i o' ho'
      obtain ⟨e, he, hb⟩ := Array.any_eq_true'.1 hx
      simp only [Bool.and_eq_true, beq_iff_eq] at hb
      exact ⟨k, o', hik, by omega, ho', e, he, hb.1, hb.2⟩
    · cases hx
  · rw [if_neg (by omega)] at h2
    have : (i == m) = false := by simp; omega
    rw [this, Bool.false_or] at h2
    obtain ⟨e, he, hb⟩ := Array.any_eq_true'.1 h2
    simp only [Bool.and_eq_true, decide_eq_true_eq] at hb
    exact ⟨e, he, hb.1, hb.2⟩
theorem getD_app {x : Array Bool} {m k : Nat} {d : Bool} (hx : x.size = m) (i : Nat) : (x ++ Array.replicate k false).getD i d = if i < m then x.getD i d else if i < m + k then false else d := by
  simp only [Array.getD_eq_getD_getElem?, Array.getElem?_append, hx]
  split
  · rfl
  · rw [Array.getElem?_replicate]
    split
    · rw [if_pos (by omega)]; rfl
    · rw [if_neg (by omega)]; rfl
theorem pre_any {l : List Oper} {m : Nat} {C : World → Prop} {Q : Act → Prop} {Q' : Exit → Act → World → Prop} (hB : preB l m = true)
    (ht : ∀ a w, C w → Q a → wpAny P .any l.toArray Q' (l.length - m) (Array.replicate m true ++ Array.replicate (l.length - m) false) a w) :
    ∀ (f : Nat) (x : Array Bool) (a : Act) (w : World), C w → x.size = m → (∀ (i : Nat) o, i < m → l[i]? = some o → x.getD i true = true → ∀ e ∈ o.after, Region.binds .any e = true → x.getD e.on false = true) →
      wpAnyQ P .any (l.take m).toArray C Q f x a → wpAny P .any l.toArray Q' (f + (l.length - m)) (x ++ Array.replicate (l.length - m) false) a w := by
  obtain ⟨hm, hs⟩ := preB_spec hB
  have take_lt : ∀ i, i < m → (l.take m).toArray[i]? = l[i]? := fun i hi => by simp [List.getElem?_take, hi]
  have full : ∀ x : Array Bool, x.size = m → Region.ready .any (l.take m).toArray x = [] → x = Array.replicate m true := by
    intro x hx hr
    have all : ∀ i, i < m → x.getD i true = true := by
      intro i
      induction i using Nat.strongRecOn with
      | _ i ih =>
        intro him
        by_cases hc : x.getD i true = true
        · exact hc
        · exfalso
          have hc : x.getD i true = false := by simpa using hc
          have hlt : i < l.length := by omega
          have hmem : i ∈ Region.ready .any (l.take m).toArray x := mem_ready.2 ⟨hc, l[i], by rw [take_lt i him]; exact List.getElem?_eq_getElem hlt, fun e he hb => by
            have hlt' := (hs i _ (List.getElem?_eq_getElem hlt)).1 e he hb
            have := ih e.on hlt' (by omega)
            simp only [Array.getD_eq_getD_getElem?] at this ⊢
            rw [Array.getElem?_eq_getElem (by omega)] at this ⊢
            exact this⟩
          rw [hr] at hmem
          cases hmem
    apply Array.ext
    · simp [hx]
    · intro i h1 h2
      have := all i (by omega)
      simp only [Array.getD_eq_getD_getElem?, Array.getElem?_eq_getElem h1, Option.getD_some] at this
      simpa using this
  intro f
  induction f with
  | zero =>
    intro x a w hw hx _ h
    rw [full x hx h.1, Nat.zero_add]
    exact ht a w hw h.2
  | succ f ih =>
    intro x a w hw hx hcl h
    by_cases hr : Region.ready .any (l.take m).toArray x = []
    · rw [full x hx hr]
      exact wpAny_plus (ht a w hw (h.1 hr)) _
    · have sub : ∀ i ∈ Region.ready .any l.toArray (x ++ Array.replicate (l.length - m) false), i < m ∧ i ∈ Region.ready .any (l.take m).toArray x := by
        intro i hi
        obtain ⟨h1, o, ho, h2⟩ := mem_ready.1 hi
        have ho : l[i]? = some o := by simpa using ho
        have hlt := (List.getElem?_eq_some_iff.1 ho).1
        have hlow : ∀ j, j < m → (x ++ Array.replicate (l.length - m) false).getD j false = true → x.getD j false = true := fun j hj h => by rw [getD_app hx, if_pos hj] at h; exact h
        have hhigh : ∀ j, m ≤ j → j < l.length → ¬ (x ++ Array.replicate (l.length - m) false).getD j false = true := fun j hj hj' h => by rw [getD_app hx, if_neg (by omega)] at h; split at h <;> cases h
        have him : i < m := by
          by_cases him : i < m
          · exact him
          · exfalso
            by_cases hie : m < i
            · obtain ⟨e, he, hb, hme⟩ := (hs i o ho).2.2 hie
              exact hhigh e.on hme (by have := (hs i o ho).1 e he hb; omega) (h2 e he hb)
            · have : i = m := by omega
              subst this
              -- every statement of the head is listed
              have all : ∀ d j, j + d = i → 0 < d → x.getD j true = true := by
                intro d
                induction d using Nat.strongRecOn with
                | _ d ihd =>
                  intro j hjd hd
                  have hjl : j < l.length := by omega
                  obtain ⟨_, k, o', hjk, hki, ho', e, he, hb, hej⟩ := (hs j _ (List.getElem?_eq_getElem hjl)).2.1 (by omega)
                  have htrue : x.getD j false = true := by
                    by_cases hk : k = i
                    · subst hk
                      rw [ho] at ho'
                      injection ho' with ho'; subst ho'
                      have := hlow e.on (by omega) (h2 e he hb)
                      rwa [hej] at this
                    · have := hcl k o' (by omega) ho' (ihd (i - k) (by omega) k (by omega) (by omega)) e he hb
                      rwa [hej] at this
                  simp only [Array.getD_eq_getD_getElem?] at htrue ⊢
                  rw [Array.getElem?_eq_getElem (by omega)] at htrue ⊢
                  exact htrue
              apply hr
              apply List.eq_nil_iff_forall_not_mem.2
              intro j hj
              obtain ⟨g1, oj, hoj, _⟩ := mem_ready.1 hj
              have hjm : j < i := by
                have := (Array.getElem?_eq_some_iff.1 hoj).1
                simp at this
                omega
              rw [all (i - j) j (by omega) (by omega)] at g1
              cases g1
        refine ⟨him, mem_ready.2 ⟨?_, o, by rw [take_lt i him]; exact ho, fun e he hb => ?_⟩⟩
        · rw [getD_app hx, if_pos him] at h1; exact h1
        · exact hlow e.on (by have := (hs i o ho).1 e he hb; omega) (h2 e he hb)
      have hne : Region.ready .any l.toArray (x ++ Array.replicate (l.length - m) false) ≠ [] := by
        obtain ⟨j, hj⟩ := List.exists_mem_of_ne_nil _ hr
        obtain ⟨g1, oj, hoj, g2⟩ := mem_ready.1 hj
        have hjm : j < m := by
          have := (Array.getElem?_eq_some_iff.1 hoj).1
          simp at this
          omega
        have hmem : j ∈ Region.ready .any l.toArray (x ++ Array.replicate (l.length - m) false) := mem_ready.2 ⟨by rw [getD_app hx, if_pos hjm]; exact g1, oj, by rw [take_lt j hjm] at hoj; simpa using hoj, fun e he hb => by
          have := g2 e he hb
          have hem : e.on < m := by
            rw [take_lt j hjm] at hoj
            have := (hs j oj hoj).1 e he hb
            omega
          rw [getD_app hx, if_pos hem]; exact this⟩
        intro h0
        rw [h0] at hmem
        cases hmem
      rw [Nat.add_right_comm]
      refine ⟨fun h0 => absurd h0 hne, fun i hi => ?_⟩
      obtain ⟨him, hip⟩ := sub i hi
      have hlt : i < l.length := by omega
      have ho := List.getElem?_eq_getElem hlt
      have hq := h.2 i hip
      have hg := ((hs i _ ho).2.1 him).1
      have hq' : qOp P l.toArray C i (wpAnyQ P .any (l.take m).toArray C Q f (x.setIfInBounds i true)) a := by
        unfold qOp at hq ⊢
        rw [take_lt i him] at hq
        have : l.toArray[i]? = l[i]? := by simp
        rw [this]
        rw [ho] at hq ⊢
        simp only [Region.wanted, hg] at hq ⊢
        exact hq
      refine wpOp_of_qOp hw (fun a' w' hw' hk => ?_) hq'
      have hset : (x ++ Array.replicate (l.length - m) false).setIfInBounds i true = x.setIfInBounds i true ++ Array.replicate (l.length - m) false := by
        rw [Array.setIfInBounds_append_left (by omega)]
      rw [hset]
      refine ih _ a' w' hw' (by simp [hx]) ?_ hk
      intro j o hj hoj hjt e he hb
      have hup : ∀ k (d : Bool), x.getD k d = true → (x.setIfInBounds i true).getD k d = true := by
        intro k d hk
        simp only [Array.getD_eq_getD_getElem?, Array.getElem?_setIfInBounds] at hk ⊢
        split
        · split <;> simp_all
        · exact hk
      by_cases hji : j = i
      · subst hji
        obtain ⟨_, o2, ho2, h2⟩ := mem_ready.1 hip
        rw [take_lt j him, hoj] at ho2
        injection ho2 with ho2; subst ho2
        exact hup _ _ (h2 e he hb)
      · refine hup _ _ (hcl j o hj hoj ?_ e he hb)
        simp only [Array.getD_eq_getD_getElem?, Array.getElem?_setIfInBounds] at hjt ⊢
        rw [if_neg (fun h => hji h.symm)] at hjt
        exact hjt
def qpVC (C : Cfg) (all : List Oper) (K : Fr → Prop) : List Oper → Fr → Hp → Prop
  | [], fr, _ => K fr
  | o :: r, fr, hp => qstep C all o fr hp fun fr' => qpVC C all K r fr' hp
theorem qp_sound {C : Cfg} (hti : TyOK C.P C.ti) {all : List Oper} {K : Fr → Prop} {E : Entry} {ρ : Env} {w : World} {hp : Hp} {df : List Deferred} (hm : Mem E ρ hp w) : ∀ (l : List Oper) (fr : Fr) (a : Act), qpVC C all K l fr hp → a.tmps.size = C.nt → a.defers = df → FSat ρ w fr a.tmps →
    wpQuiet C.P all.toArray (Grew w) (fun a' => ∃ fr', K fr' ∧ a'.tmps.size = C.nt ∧ a'.defers = df ∧ FSat ρ w fr' a'.tmps) l a := by
  intro l
  induction l with
  | nil =>
    intro fr a h h1 h2 h3
    exact ⟨fr, h, h1, h2, h3⟩
  | cons o r ih =>
    intro fr a h h1 h2 h3
    simp only [qpVC, qstep] at h
    simp only [wpQuiet]
    obtain ⟨fr0, h3, hh⟩ := guarded_ok h h3
    rcases hh with ⟨hw, h⟩ | ⟨hw, h⟩
    · simp only [hw, if_true]
      obtain ⟨v, s, q1, q2, q3⟩ := q_ok hti h hm h3
      obtain ⟨fr', p1, p2⟩ := put_ok q3 h1 h3 q2
      exact ⟨v, q1, ih fr' _ p1 (by rw [put_size]; exact h1) (by rw [put_defers]; exact h2) p2⟩
    · simp only [hw, Bool.false_eq_true, if_false]
      obtain ⟨fr', p1, p2⟩ := put_ok h h1 h3 (Rep.d _ undef (.lit undef))
      exact ih fr' _ p1 (by rw [put_size]; exact h1) (by rw [put_defers]; exact h2) p2
theorem pre_rule {C : Cfg} (hti : TyOK C.P C.ti) {id : Nat} {l : List Oper} {fr : Fr} {hp : Hp} {K : Ex → Fr → Hp → Prop} (m : Nat) (hm : C.P.follows .mixedOrders = true)
    (hB : (preB l m && Region.lexB .any (l.take m).toArray && Region.noSelect l.toArray && ordB l.toArray (List.range' m (l.length - m)) (Array.replicate m true ++ Array.replicate (l.length - m) false) false && noDefer l) = true)
    (h : qpVC C (l.take m) (fun fr' => dopsVC C l (K .normal) (List.range' m (l.length - m)) fr' hp) (l.take m) fr hp) : SemVC C (.region id l.toArray true) fr hp K := by
  intro E a w hpin hrd ⟨h1, h2, ρ, h3, h4⟩
  simp only [Bool.and_eq_true] at hB
  obtain ⟨⟨⟨⟨b1, b2⟩, b3⟩, b4⟩, hnd⟩ := hB
  simp only [Region.lexB, Bool.and_eq_true] at b2
  refine region_any_in hm hnd PostX.noOut ?_
  have hlt := (preB_spec b1).1
  have hq := qp_sound (C := C) hti (all := l.take m) h3 (l.take m) fr a h h1 rfl h4
  have hl := wpAnyQ_lex (P := C.P) (C := Grew w) (md := .any) b2.1 (l.take m) 0 (Array.replicate (l.take m).toArray.size false) a (by simp) (by simpa using b2.2) hq
  have hlen : (l.take m).length = m := by simp; omega
  have hsz : (l.take m).toArray.size = m := by simp; omega
  rw [hlen, hsz] at hl
  have := pre_any (P := C.P) (C := Grew w) (Q' := PostX C E K) b1 (fun a' w' hg hQ => by
    obtain ⟨fr', k1, k2, k3, k4⟩ := hQ
    obtain ⟨m1, m2⟩ := h3.grow_same hg
    have := dops_sound (C := C) hti (E := E) hpin b3 _ _ false fr' hp ρ a' _ b4 k1 m1 k2 (k3.trans h2) (m2 fr' _ k4)
    rw [List.length_range'] at this
    exact wpAny_of_E _ _ _ _ _ (wpE_Q (Q' := PostX C E K .normal) (fun a w ⟨fr', hp', k1, k2⟩ => ⟨.normal, fr', hp', E, .refl E, trivial, k1, k2⟩) _ _ _ _ _ this)) m (Array.replicate m false) a _ (Grew.drew w) (by simp) (fun i o hi _ hx => by simp [hi] at hx) hl
  have e1 : m + (l.length - m) = l.toArray.size := by simp; omega
  have e2 : Array.replicate m false ++ Array.replicate (l.length - m) false = Array.replicate l.toArray.size false := by rw [Array.replicate_append_replicate, e1]
  rw [e1, e2] at this
  exact this
end
end Go.Proofs.YtnemengadjimcaaGreatDoor
