/-
  Terms: the shape and the names of an axiom. Terms: CheckAxiom. The order of strings, in plain Lean. Terms: the weight of an axiom, and the library's comparisons.
  Conditions: none.
-/
import Derived.Test.YtnemengadjimcaaGreatDoorMA7
import Derived.Test.YtnemengadjimcaaGreatDoorMG2
set_option linter.unusedSectionVars false
set_option linter.unusedSimpArgs false
set_option linter.unusedVariables false
namespace Go.Proofs.YtnemengadjimcaaGreatDoor
open Go.Proofs
set_option maxRecDepth 10000
attribute [local irreducible] SemVC CallVC Tri Stuck YVC GenP GenVC
def shapedU (u : Use) (x : Ax) : Bool :=
  (u.left || emptyF x.left) && ((u.right || emptyF x.right) && ((u.role || decide (x.role = [])) && ((u.a || decide (x.a = [])) && ((u.b || decide (x.b = [])) && (decide (u.least ≤ x.roles.length) && decide ((x.roles.length : Int) ≤ u.most))))))
def shapedF (x : Ax) : Bool := if x.kind < 1 ∨ 9 < x.kind then false else shapedU (useAt x.kind) x
theorem use_at {k : Int} (n : Nat) (h : n < uses.length) (hk : k = n) : (uses.map useR)[k.toNat]? = some (useR uses[n]) := by
  subst hk
  rw [Int.toNat_natCast, List.getElem?_map, List.getElem?_eq_getElem h]; rfl
set_option maxHeartbeats 8000000 in
theorem isShaped_1 (x : Ax) (hk : x.kind = 1) : Tri Tryz.prog 93 [.d (.agg (axR x))] NG (fun r => r = .d (.bool (shapedF x))) := by
  have e1 := isEmpty_spec x.left
  have e2 := isEmpty_spec x.right
  rw [cnR_eq] at e1 e2
  have hrow := use_at (k := x.kind) 1 (by decide) hk
  have hE : shapedF x = shapedU (uses[1]'(by decide)) x := by rw [shapedF, if_neg (by omega), hk]; rfl
  rw [hE]
  refine tri_of_bodyF false [1, 3] hty Tryz.func93 rfl (kp [0, 1, 2, 3, 11]) [] _ _ _ (by simp [Tryz.f93]) (by decide) ?_
  ((conv => whnf); repeat ((first | (intro hq; try simp only [lnS] at hq) | refine sI ?_ | refine .intro _ (.intro rfl ?_)); (conv => whnf)))
  refine brB_dec (fun h1 => by omega) (fun h1 => ?_)
  ((conv => whnf); repeat ((first | (intro hq; try simp only [lnS] at hq) | refine sI ?_ | refine .intro _ (.intro rfl ?_)); (conv => whnf)))
  refine brB_dec (fun h2 => by omega) (fun h2 => ?_)
  ((conv => whnf); repeat' ((first | (intro hq; (try simp only [lnS] at hq); (try rewrite [List.length_map])) | refine sJ ?_ | refine .intro _ (.intro rfl ?_) | (refine .intro (show (_ : Nat) < List.length _ from by first | omega | (simp only [lnS]; omega) | simp) ?_) | (refine index_glob (id := 91) hty rfl rfl rfl rfl rfl rfl rfl (by omega) (by omega) ?_) | (refine ⟨_, hrow, ?_⟩) | (refine call_tri [] e1 trivial (fun r hs => ?_); subst hs) | (refine call_tri [] e2 trivial (fun r hs => ?_); subst hs) | refine draw_rule hty (by kernel_rfl) (by kernel_rfl) ?_ | ((first | refine brB_dec ?_ ?_ | refine brB_ndec ?_ ?_) <;> intro hb <;> (first | contradiction | ((try simp only [lnS] at hb); try (exfalso; omega)))) | (refine brB_split ?_ ?_ <;> intro hb <;> (first | contradiction | exact bT hb (by assumption) | exact bF hb (by assumption) | skip))) <;> (conv => whnf)))
  all_goals (clear e1 e2 hrow hE; refine bool_eq (Eq.symm ?_); show shapedU _ x = _; simp only [shapedU, uses, List.getElem_cons_succ, List.getElem_cons_zero, Bool.true_or, Bool.false_or, Bool.true_and]; simp_all [uses] <;> omega)
set_option maxHeartbeats 8000000 in
theorem isShaped_2 (x : Ax) (hk : x.kind = 2) : Tri Tryz.prog 93 [.d (.agg (axR x))] NG (fun r => r = .d (.bool (shapedF x))) := by
  have e1 := isEmpty_spec x.left
  have e2 := isEmpty_spec x.right
  rw [cnR_eq] at e1 e2
  have hrow := use_at (k := x.kind) 2 (by decide) hk
  have hE : shapedF x = shapedU (uses[2]'(by decide)) x := by rw [shapedF, if_neg (by omega), hk]; rfl
  rw [hE]
  refine tri_of_bodyF false [1, 3] hty Tryz.func93 rfl (kp [0, 1, 2, 3, 11]) [] _ _ _ (by simp [Tryz.f93]) (by decide) ?_
  ((conv => whnf); repeat ((first | (intro hq; try simp only [lnS] at hq) | refine sI ?_ | refine .intro _ (.intro rfl ?_)); (conv => whnf)))
  refine brB_dec (fun h1 => by omega) (fun h1 => ?_)
  ((conv => whnf); repeat ((first | (intro hq; try simp only [lnS] at hq) | refine sI ?_ | refine .intro _ (.intro rfl ?_)); (conv => whnf)))
  refine brB_dec (fun h2 => by omega) (fun h2 => ?_)
  ((conv => whnf); repeat' ((first | (intro hq; (try simp only [lnS] at hq); (try rewrite [List.length_map])) | refine sJ ?_ | refine .intro _ (.intro rfl ?_) | (refine .intro (show (_ : Nat) < List.length _ from by first | omega | (simp only [lnS]; omega) | simp) ?_) | (refine index_glob (id := 91) hty rfl rfl rfl rfl rfl rfl rfl (by omega) (by omega) ?_) | (refine ⟨_, hrow, ?_⟩) | (refine call_tri [] e1 trivial (fun r hs => ?_); subst hs) | (refine call_tri [] e2 trivial (fun r hs => ?_); subst hs) | refine draw_rule hty (by kernel_rfl) (by kernel_rfl) ?_ | ((first | refine brB_dec ?_ ?_ | refine brB_ndec ?_ ?_) <;> intro hb <;> (first | contradiction | ((try simp only [lnS] at hb); try (exfalso; omega)))) | (refine brB_split ?_ ?_ <;> intro hb <;> (first | contradiction | exact bT hb (by assumption) | exact bF hb (by assumption) | skip))) <;> (conv => whnf)))
  all_goals (clear e1 e2 hrow hE; refine bool_eq (Eq.symm ?_); show shapedU _ x = _; simp only [shapedU, uses, List.getElem_cons_succ, List.getElem_cons_zero, Bool.true_or, Bool.false_or, Bool.true_and]; simp_all [uses] <;> omega)
set_option maxHeartbeats 8000000 in
theorem isShaped_3 (x : Ax) (hk : x.kind = 3) : Tri Tryz.prog 93 [.d (.agg (axR x))] NG (fun r => r = .d (.bool (shapedF x))) := by
  have e1 := isEmpty_spec x.left
  have e2 := isEmpty_spec x.right
  rw [cnR_eq] at e1 e2
  have hrow := use_at (k := x.kind) 3 (by decide) hk
  have hE : shapedF x = shapedU (uses[3]'(by decide)) x := by rw [shapedF, if_neg (by omega), hk]; rfl
  rw [hE]
  refine tri_of_bodyF false [1, 3] hty Tryz.func93 rfl (kp [0, 1, 2, 3, 11]) [] _ _ _ (by simp [Tryz.f93]) (by decide) ?_
  ((conv => whnf); repeat ((first | (intro hq; try simp only [lnS] at hq) | refine sI ?_ | refine .intro _ (.intro rfl ?_)); (conv => whnf)))
  refine brB_dec (fun h1 => by omega) (fun h1 => ?_)
  ((conv => whnf); repeat ((first | (intro hq; try simp only [lnS] at hq) | refine sI ?_ | refine .intro _ (.intro rfl ?_)); (conv => whnf)))
  refine brB_dec (fun h2 => by omega) (fun h2 => ?_)
  ((conv => whnf); repeat' ((first | (intro hq; (try simp only [lnS] at hq); (try rewrite [List.length_map])) | refine sJ ?_ | refine .intro _ (.intro rfl ?_) | (refine .intro (show (_ : Nat) < List.length _ from by first | omega | (simp only [lnS]; omega) | simp) ?_) | (refine index_glob (id := 91) hty rfl rfl rfl rfl rfl rfl rfl (by omega) (by omega) ?_) | (refine ⟨_, hrow, ?_⟩) | (refine call_tri [] e1 trivial (fun r hs => ?_); subst hs) | (refine call_tri [] e2 trivial (fun r hs => ?_); subst hs) | refine draw_rule hty (by kernel_rfl) (by kernel_rfl) ?_ | ((first | refine brB_dec ?_ ?_ | refine brB_ndec ?_ ?_) <;> intro hb <;> (first | contradiction | ((try simp only [lnS] at hb); try (exfalso; omega)))) | (refine brB_split ?_ ?_ <;> intro hb <;> (first | contradiction | exact bT hb (by assumption) | exact bF hb (by assumption) | skip))) <;> (conv => whnf)))
  all_goals (clear e1 e2 hrow hE; refine bool_eq (Eq.symm ?_); show shapedU _ x = _; simp only [shapedU, uses, List.getElem_cons_succ, List.getElem_cons_zero, Bool.true_or, Bool.false_or, Bool.true_and]; simp_all [uses] <;> omega)
set_option maxHeartbeats 8000000 in
theorem isShaped_4 (x : Ax) (hk : x.kind = 4) : Tri Tryz.prog 93 [.d (.agg (axR x))] NG (fun r => r = .d (.bool (shapedF x))) := by
  have e1 := isEmpty_spec x.left
  have e2 := isEmpty_spec x.right
  rw [cnR_eq] at e1 e2
  have hrow := use_at (k := x.kind) 4 (by decide) hk
  have hE : shapedF x = shapedU (uses[4]'(by decide)) x := by rw [shapedF, if_neg (by omega), hk]; rfl
  rw [hE]
  refine tri_of_bodyF false [1, 3] hty Tryz.func93 rfl (kp [0, 1, 2, 3, 11]) [] _ _ _ (by simp [Tryz.f93]) (by decide) ?_
  ((conv => whnf); repeat ((first | (intro hq; try simp only [lnS] at hq) | refine sI ?_ | refine .intro _ (.intro rfl ?_)); (conv => whnf)))
  refine brB_dec (fun h1 => by omega) (fun h1 => ?_)
  ((conv => whnf); repeat ((first | (intro hq; try simp only [lnS] at hq) | refine sI ?_ | refine .intro _ (.intro rfl ?_)); (conv => whnf)))
  refine brB_dec (fun h2 => by omega) (fun h2 => ?_)
  ((conv => whnf); repeat' ((first | (intro hq; (try simp only [lnS] at hq); (try rewrite [List.length_map])) | refine sJ ?_ | refine .intro _ (.intro rfl ?_) | (refine .intro (show (_ : Nat) < List.length _ from by first | omega | (simp only [lnS]; omega) | simp) ?_) | (refine index_glob (id := 91) hty rfl rfl rfl rfl rfl rfl rfl (by omega) (by omega) ?_) | (refine ⟨_, hrow, ?_⟩) | (refine call_tri [] e1 trivial (fun r hs => ?_); subst hs) | (refine call_tri [] e2 trivial (fun r hs => ?_); subst hs) | refine draw_rule hty (by kernel_rfl) (by kernel_rfl) ?_ | ((first | refine brB_dec ?_ ?_ | refine brB_ndec ?_ ?_) <;> intro hb <;> (first | contradiction | ((try simp only [lnS] at hb); try (exfalso; omega)))) | (refine brB_split ?_ ?_ <;> intro hb <;> (first | contradiction | exact bT hb (by assumption) | exact bF hb (by assumption) | skip))) <;> (conv => whnf)))
  all_goals (clear e1 e2 hrow hE; refine bool_eq (Eq.symm ?_); show shapedU _ x = _; simp only [shapedU, uses, List.getElem_cons_succ, List.getElem_cons_zero, Bool.true_or, Bool.false_or, Bool.true_and]; simp_all [uses] <;> omega)
set_option maxHeartbeats 8000000 in
theorem isShaped_7 (x : Ax) (hk : x.kind = 7) : Tri Tryz.prog 93 [.d (.agg (axR x))] NG (fun r => r = .d (.bool (shapedF x))) := by
  have e1 := isEmpty_spec x.left
  have e2 := isEmpty_spec x.right
  rw [cnR_eq] at e1 e2
  have hrow := use_at (k := x.kind) 7 (by decide) hk
  have hE : shapedF x = shapedU (uses[7]'(by decide)) x := by rw [shapedF, if_neg (by omega), hk]; rfl
  rw [hE]
  refine tri_of_bodyF false [1, 3] hty Tryz.func93 rfl (kp [0, 1, 2, 3, 11]) [] _ _ _ (by simp [Tryz.f93]) (by decide) ?_
  ((conv => whnf); repeat ((first | (intro hq; try simp only [lnS] at hq) | refine sI ?_ | refine .intro _ (.intro rfl ?_)); (conv => whnf)))
  refine brB_dec (fun h1 => by omega) (fun h1 => ?_)
  ((conv => whnf); repeat ((first | (intro hq; try simp only [lnS] at hq) | refine sI ?_ | refine .intro _ (.intro rfl ?_)); (conv => whnf)))
  refine brB_dec (fun h2 => by omega) (fun h2 => ?_)
  ((conv => whnf); repeat' ((first | (intro hq; (try simp only [lnS] at hq); (try rewrite [List.length_map])) | refine sJ ?_ | refine .intro _ (.intro rfl ?_) | (refine .intro (show (_ : Nat) < List.length _ from by first | omega | (simp only [lnS]; omega) | simp) ?_) | (refine index_glob (id := 91) hty rfl rfl rfl rfl rfl rfl rfl (by omega) (by omega) ?_) | (refine ⟨_, hrow, ?_⟩) | (refine call_tri [] e1 trivial (fun r hs => ?_); subst hs) | (refine call_tri [] e2 trivial (fun r hs => ?_); subst hs) | refine draw_rule hty (by kernel_rfl) (by kernel_rfl) ?_ | ((first | refine brB_dec ?_ ?_ | refine brB_ndec ?_ ?_) <;> intro hb <;> (first | contradiction | ((try simp only [lnS] at hb); try (exfalso; omega)))) | (refine brB_split ?_ ?_ <;> intro hb <;> (first | contradiction | exact bT hb (by assumption) | exact bF hb (by assumption) | skip))) <;> (conv => whnf)))
  all_goals (clear e1 e2 hrow hE; refine bool_eq (Eq.symm ?_); show shapedU _ x = _; simp only [shapedU, uses, List.getElem_cons_succ, List.getElem_cons_zero, Bool.true_or, Bool.false_or, Bool.true_and]; simp_all [uses] <;> omega)
set_option maxHeartbeats 8000000 in
theorem isShaped_8 (x : Ax) (hk : x.kind = 8) : Tri Tryz.prog 93 [.d (.agg (axR x))] NG (fun r => r = .d (.bool (shapedF x))) := by
  have e1 := isEmpty_spec x.left
  have e2 := isEmpty_spec x.right
  rw [cnR_eq] at e1 e2
  have hrow := use_at (k := x.kind) 8 (by decide) hk
  have hE : shapedF x = shapedU (uses[8]'(by decide)) x := by rw [shapedF, if_neg (by omega), hk]; rfl
  rw [hE]
  refine tri_of_bodyF false [1, 3] hty Tryz.func93 rfl (kp [0, 1, 2, 3, 11]) [] _ _ _ (by simp [Tryz.f93]) (by decide) ?_
  ((conv => whnf); repeat ((first | (intro hq; try simp only [lnS] at hq) | refine sI ?_ | refine .intro _ (.intro rfl ?_)); (conv => whnf)))
  refine brB_dec (fun h1 => by omega) (fun h1 => ?_)
  ((conv => whnf); repeat ((first | (intro hq; try simp only [lnS] at hq) | refine sI ?_ | refine .intro _ (.intro rfl ?_)); (conv => whnf)))
  refine brB_dec (fun h2 => by omega) (fun h2 => ?_)
  ((conv => whnf); repeat' ((first | (intro hq; (try simp only [lnS] at hq); (try rewrite [List.length_map])) | refine sJ ?_ | refine .intro _ (.intro rfl ?_) | (refine .intro (show (_ : Nat) < List.length _ from by first | omega | (simp only [lnS]; omega) | simp) ?_) | (refine index_glob (id := 91) hty rfl rfl rfl rfl rfl rfl rfl (by omega) (by omega) ?_) | (refine ⟨_, hrow, ?_⟩) | (refine call_tri [] e1 trivial (fun r hs => ?_); subst hs) | (refine call_tri [] e2 trivial (fun r hs => ?_); subst hs) | refine draw_rule hty (by kernel_rfl) (by kernel_rfl) ?_ | ((first | refine brB_dec ?_ ?_ | refine brB_ndec ?_ ?_) <;> intro hb <;> (first | contradiction | ((try simp only [lnS] at hb); try (exfalso; omega)))) | (refine brB_split ?_ ?_ <;> intro hb <;> (first | contradiction | exact bT hb (by assumption) | exact bF hb (by assumption) | skip))) <;> (conv => whnf)))
  all_goals (clear e1 e2 hrow hE; refine bool_eq (Eq.symm ?_); show shapedU _ x = _; simp only [shapedU, uses, List.getElem_cons_succ, List.getElem_cons_zero, Bool.true_or, Bool.false_or, Bool.true_and]; simp_all [uses] <;> omega)
set_option maxHeartbeats 8000000 in
theorem isShaped_9 (x : Ax) (hk : x.kind = 9) : Tri Tryz.prog 93 [.d (.agg (axR x))] NG (fun r => r = .d (.bool (shapedF x))) := by
  have e1 := isEmpty_spec x.left
  have e2 := isEmpty_spec x.right
  rw [cnR_eq] at e1 e2
  have hrow := use_at (k := x.kind) 9 (by decide) hk
  have hE : shapedF x = shapedU (uses[9]'(by decide)) x := by rw [shapedF, if_neg (by omega), hk]; rfl
  rw [hE]
  refine tri_of_bodyF false [1, 3] hty Tryz.func93 rfl (kp [0, 1, 2, 3, 11]) [] _ _ _ (by simp [Tryz.f93]) (by decide) ?_
  ((conv => whnf); repeat ((first | (intro hq; try simp only [lnS] at hq) | refine sI ?_ | refine .intro _ (.intro rfl ?_)); (conv => whnf)))
  refine brB_dec (fun h1 => by omega) (fun h1 => ?_)
  ((conv => whnf); repeat ((first | (intro hq; try simp only [lnS] at hq) | refine sI ?_ | refine .intro _ (.intro rfl ?_)); (conv => whnf)))
  refine brB_dec (fun h2 => by omega) (fun h2 => ?_)
  ((conv => whnf); repeat' ((first | (intro hq; (try simp only [lnS] at hq); (try rewrite [List.length_map])) | refine sJ ?_ | refine .intro _ (.intro rfl ?_) | (refine .intro (show (_ : Nat) < List.length _ from by first | omega | (simp only [lnS]; omega) | simp) ?_) | (refine index_glob (id := 91) hty rfl rfl rfl rfl rfl rfl rfl (by omega) (by omega) ?_) | (refine ⟨_, hrow, ?_⟩) | (refine call_tri [] e1 trivial (fun r hs => ?_); subst hs) | (refine call_tri [] e2 trivial (fun r hs => ?_); subst hs) | refine draw_rule hty (by kernel_rfl) (by kernel_rfl) ?_ | ((first | refine brB_dec ?_ ?_ | refine brB_ndec ?_ ?_) <;> intro hb <;> (first | contradiction | ((try simp only [lnS] at hb); try (exfalso; omega)))) | (refine brB_split ?_ ?_ <;> intro hb <;> (first | contradiction | exact bT hb (by assumption) | exact bF hb (by assumption) | skip))) <;> (conv => whnf)))
  all_goals (clear e1 e2 hrow hE; refine bool_eq (Eq.symm ?_); show shapedU _ x = _; simp only [shapedU, uses, List.getElem_cons_succ, List.getElem_cons_zero, Bool.true_or, Bool.false_or, Bool.true_and]; simp_all [uses] <;> omega)
set_option maxHeartbeats 8000000 in
theorem isShaped_5 (x : Ax) (hk : x.kind = 5) : Tri Tryz.prog 93 [.d (.agg (axR x))] NG (fun r => r = .d (.bool (shapedF x))) := by
  have e1 := isEmpty_spec x.left
  have e2 := isEmpty_spec x.right
  rw [cnR_eq] at e1 e2
  have hrow := use_at (k := x.kind) 5 (by decide) hk
  have hE : shapedF x = shapedU (uses[5]'(by decide)) x := by rw [shapedF, if_neg (by omega), hk]; rfl
  rw [hE]
  refine tri_of_bodyF false [1, 3] hty Tryz.func93 rfl (kp [0, 1, 2, 3, 11]) [] _ _ _ (by simp [Tryz.f93]) (by decide) ?_
  ((conv => whnf); repeat ((first | (intro hq; try simp only [lnS] at hq) | refine sI ?_ | refine .intro _ (.intro rfl ?_)); (conv => whnf)))
  refine brB_dec (fun h1 => by omega) (fun h1 => ?_)
  ((conv => whnf); repeat ((first | (intro hq; try simp only [lnS] at hq) | refine sI ?_ | refine .intro _ (.intro rfl ?_)); (conv => whnf)))
  refine brB_dec (fun h2 => by omega) (fun h2 => ?_)
  ((conv => whnf); repeat' ((first | (intro hq; (try simp only [lnS] at hq); (try rewrite [List.length_map])) | refine sJ ?_ | refine .intro _ (.intro rfl ?_) | (refine .intro (show (_ : Nat) < List.length _ from by first | omega | (simp only [lnS]; omega) | simp) ?_) | (refine index_glob (id := 91) hty rfl rfl rfl rfl rfl rfl rfl (by omega) (by omega) ?_) | (refine ⟨_, hrow, ?_⟩) | (refine call_tri [] e1 trivial (fun r hs => ?_); subst hs) | (refine call_tri [] e2 trivial (fun r hs => ?_); subst hs) | refine draw_rule hty (by kernel_rfl) (by kernel_rfl) ?_ | ((first | refine brB_dec ?_ ?_ | refine brB_ndec ?_ ?_) <;> intro hb <;> (first | contradiction | ((try simp only [lnS] at hb); try (exfalso; omega)))) | (refine brB_split ?_ ?_ <;> intro hb <;> (first | contradiction | exact bT hb (by assumption) | exact bF hb (by assumption) | skip))) <;> (conv => whnf)))
  all_goals (clear e1 e2 hrow hE; refine bool_eq (Eq.symm ?_); show shapedU _ x = _; simp only [shapedU, show (uses[5]'(by decide)).left = false from rfl, show (uses[5]'(by decide)).right = false from rfl, show (uses[5]'(by decide)).role = true from rfl, show (uses[5]'(by decide)).a = false from rfl, show (uses[5]'(by decide)).b = false from rfl, Bool.true_or, Bool.false_or, Bool.true_and]; have hl : (uses[5]'(by decide)).least = (5 : Int) - 4 := rfl; have hm : (uses[5]'(by decide)).most = 3 * (5 : Int) - 14 := rfl; simp_all <;> omega)
set_option maxHeartbeats 8000000 in
theorem isShaped_6 (x : Ax) (hk : x.kind = 6) : Tri Tryz.prog 93 [.d (.agg (axR x))] NG (fun r => r = .d (.bool (shapedF x))) := by
  have e1 := isEmpty_spec x.left
  have e2 := isEmpty_spec x.right
  rw [cnR_eq] at e1 e2
  have hrow := use_at (k := x.kind) 6 (by decide) hk
  have hE : shapedF x = shapedU (uses[6]'(by decide)) x := by rw [shapedF, if_neg (by omega), hk]; rfl
  rw [hE]
  refine tri_of_bodyF false [1, 3] hty Tryz.func93 rfl (kp [0, 1, 2, 3, 11]) [] _ _ _ (by simp [Tryz.f93]) (by decide) ?_
  ((conv => whnf); repeat ((first | (intro hq; try simp only [lnS] at hq) | refine sI ?_ | refine .intro _ (.intro rfl ?_)); (conv => whnf)))
  refine brB_dec (fun h1 => by omega) (fun h1 => ?_)
  ((conv => whnf); repeat ((first | (intro hq; try simp only [lnS] at hq) | refine sI ?_ | refine .intro _ (.intro rfl ?_)); (conv => whnf)))
  refine brB_dec (fun h2 => by omega) (fun h2 => ?_)
  ((conv => whnf); repeat' ((first | (intro hq; (try simp only [lnS] at hq); (try rewrite [List.length_map])) | refine sJ ?_ | refine .intro _ (.intro rfl ?_) | (refine .intro (show (_ : Nat) < List.length _ from by first | omega | (simp only [lnS]; omega) | simp) ?_) | (refine index_glob (id := 91) hty rfl rfl rfl rfl rfl rfl rfl (by omega) (by omega) ?_) | (refine ⟨_, hrow, ?_⟩) | (refine call_tri [] e1 trivial (fun r hs => ?_); subst hs) | (refine call_tri [] e2 trivial (fun r hs => ?_); subst hs) | refine draw_rule hty (by kernel_rfl) (by kernel_rfl) ?_ | ((first | refine brB_dec ?_ ?_ | refine brB_ndec ?_ ?_) <;> intro hb <;> (first | contradiction | ((try simp only [lnS] at hb); try (exfalso; omega)))) | (refine brB_split ?_ ?_ <;> intro hb <;> (first | contradiction | exact bT hb (by assumption) | exact bF hb (by assumption) | skip))) <;> (conv => whnf)))
  all_goals (clear e1 e2 hrow hE; refine bool_eq (Eq.symm ?_); show shapedU _ x = _; simp only [shapedU, show (uses[6]'(by decide)).left = false from rfl, show (uses[6]'(by decide)).right = false from rfl, show (uses[6]'(by decide)).role = true from rfl, show (uses[6]'(by decide)).a = false from rfl, show (uses[6]'(by decide)).b = false from rfl, Bool.true_or, Bool.false_or, Bool.true_and]; have hl : (uses[6]'(by decide)).least = (6 : Int) - 4 := rfl; have hm : (uses[6]'(by decide)).most = 3 * (6 : Int) - 14 := rfl; simp_all <;> omega)
theorem isShaped_spec (x : Ax) : Tri Tryz.prog 93 [.d (.agg (axR x))] NG (fun r => r = .d (.bool (shapedF x))) := by
  by_cases hk : 1 ≤ x.kind ∧ x.kind ≤ 9
  · rcases (show x.kind = 1 ∨ x.kind = 2 ∨ x.kind = 3 ∨ x.kind = 4 ∨ x.kind = 5 ∨ x.kind = 6 ∨ x.kind = 7 ∨ x.kind = 8 ∨ x.kind = 9 by omega) with h | h | h | h | h | h | h | h | h
    · exact isShaped_1 x h
    · exact isShaped_2 x h
    · exact isShaped_3 x h
    · exact isShaped_4 x h
    · exact isShaped_5 x h
    · exact isShaped_6 x h
    · exact isShaped_7 x h
    · exact isShaped_8 x h
    · exact isShaped_9 x h
  · have hE : shapedF x = false := by rw [shapedF, if_pos (by omega)]
    rw [hE]
    refine tri_of_bodyF false [1, 3] hty Tryz.func93 rfl (kp [0, 1, 2, 3, 11]) [] _ _ _ (by simp [Tryz.f93]) (by decide) ?_
    ((conv => whnf); repeat ((first | (intro hq; try simp only [lnS] at hq) | refine sI ?_ | refine .intro _ (.intro rfl ?_)); (conv => whnf)))
    refine brB_dec (fun h1 => ?_) (fun h1 => ?_)
    · ((conv => whnf); repeat' ((first | (intro hq; (try simp only [lnS] at hq); (try rewrite [List.length_map])) | refine sJ ?_ | refine .intro _ (.intro rfl ?_) | (refine .intro (show (_ : Nat) < List.length _ from by first | omega | (simp only [lnS]; omega) | simp) ?_) | fail | refine draw_rule hty (by kernel_rfl) (by kernel_rfl) ?_ | ((first | refine brB_dec ?_ ?_ | refine brB_ndec ?_ ?_) <;> intro hb <;> (first | contradiction | ((try simp only [lnS] at hb); try (exfalso; omega)))) | (refine brB_split ?_ ?_ <;> intro hb <;> (first | contradiction | exact bT hb (by assumption) | exact bF hb (by assumption) | skip))) <;> (conv => whnf)))
      rfl
    · ((conv => whnf); repeat ((first | (intro hq; try simp only [lnS] at hq) | refine sI ?_ | refine .intro _ (.intro rfl ?_)); (conv => whnf)))
      refine brB_dec (fun h2 => ?_) (fun h2 => by omega)
      ((conv => whnf); repeat' ((first | (intro hq; (try simp only [lnS] at hq); (try rewrite [List.length_map])) | refine sJ ?_ | refine .intro _ (.intro rfl ?_) | (refine .intro (show (_ : Nat) < List.length _ from by first | omega | (simp only [lnS]; omega) | simp) ?_) | fail | refine draw_rule hty (by kernel_rfl) (by kernel_rfl) ?_ | ((first | refine brB_dec ?_ ?_ | refine brB_ndec ?_ ?_) <;> intro hb <;> (first | contradiction | ((try simp only [lnS] at hb); try (exfalso; omega)))) | (refine brB_split ?_ ?_ <;> intro hb <;> (first | contradiction | exact bT hb (by assumption) | exact bF hb (by assumption) | skip))) <;> (conv => whnf)))
      rfl
def namedF (u : Use) (x : Ax) : Bool := !((u.role && !plainF x.role) || ((u.a && !nameF x.a) || (u.b && !nameF x.b))) && x.roles.all plainF
theorem take_all {p : List UInt8 → Bool} {l : List (List UInt8)} {j : Nat} (h : j < l.length) (h1 : (l.take j).all p = true) (h2 : p l[j] = true) : (l.take (j + 1)).all p = true := by
  rw [List.take_succ_eq_append_getElem h, List.all_append, h1]; simp [h2]
set_option maxHeartbeats 8000000 in
theorem isNamed_spec (x : Ax) (u : Use) : Tri Tryz.prog 94 [.d (.agg (axR x)), .d (.agg (useR u))] [] (fun r => r = .d (.bool (namedF u x))) := by
  refine tri_of_bodyF false [2, 3] hty Tryz.func94 rfl (kp [0, 1, 2, 3, 4, 6, 34, 36, 37, 38, 39, 44]) [] _ _ _ (by simp [Tryz.f94]) (by simp) ?_
  ((conv => whnf); repeat' ((first | (intro hq; (try simp only [lnS] at hq); (try rewrite [List.length_map])) | refine sJ ?_ | refine .intro _ (.intro rfl ?_) | (refine .intro (show (_ : Nat) < List.length _ from by first | omega | (simp only [lnS]; omega) | simp) ?_) | (refine call_tri [] (isPlain_spec _) trivial (fun r hs => ?_); subst hs) | (refine call_tri [] (checkName_spec _) trivial (fun r hs => ?_); subst hs) | refine draw_rule hty (by kernel_rfl) (by kernel_rfl) ?_ | ((first | refine brB_dec ?_ ?_ | refine brB_ndec ?_ ?_) <;> intro hb <;> (first | contradiction | ((try simp only [lnS] at hb); try (exfalso; omega)))) | (refine brB_split ?_ ?_ <;> intro hb <;> (first | contradiction | exact bT hb (by assumption) | exact bF hb (by assumption) | skip))) <;> (conv => whnf)))
  all_goals first
    | (refine bool_eq (Eq.symm ?_); unfold namedF; simp_all; done)
    | skip
  all_goals (
    have hN : namedF u x = x.roles.all plainF := by unfold namedF; simp_all
    rw [hN]
    refine loop_rule hty (fun j : Nat => ([(36, .d (.sl 1 (x.roles.map strR))), (37, .d (.int .i64 x.roles.length)), (38, .d (.int .i64 j))], [])) (fun j => j ≤ x.roles.length ∧ (x.roles.take j).all plainF = true) (fun j => x.roles.length - j) 0 ⟨by omega, by simp⟩ ⟨by repeat' (first | exact trivial | exact rfl | (rw [List.length_map]; exact rfl) | refine And.intro ?_ ?_), trivial⟩ ?_
    rintro j ⟨hj, hn⟩
    ((conv => whnf); repeat ((first | (intro hq; try simp only [lnS] at hq) | refine sI ?_ | refine .intro _ (.intro rfl ?_)); (conv => whnf)))
    refine brB_dec (fun h1 => ?_) (fun h1 => ?_)
    · have hjl : j < x.roles.length := by omega
      have hrow : (x.roles.map strR)[(j : Int).toNat]? = some (strR x.roles[j]) := rowC_at hjl
      ((conv => whnf); repeat ((first | (refine ⟨_, hrow, ?_⟩) | (intro hq; try simp only [lnS] at hq) | refine sI ?_ | refine .intro _ (.intro rfl ?_)); (conv => whnf)))
      refine call_tri [] (isPlain_spec x.roles[j]) trivial (fun r hs => ?_)
      subst hs
      cases hb2 : plainF x.roles[j]
      · ((conv => whnf); repeat' ((first | (intro hq; (try simp only [lnS] at hq); (try rewrite [List.length_map])) | refine sJ ?_ | refine .intro _ (.intro rfl ?_) | (refine .intro (show (_ : Nat) < List.length _ from by first | omega | (simp only [lnS]; omega) | simp) ?_) | fail | refine draw_rule hty (by kernel_rfl) (by kernel_rfl) ?_ | ((first | refine brB_dec ?_ ?_ | refine brB_ndec ?_ ?_) <;> intro hb <;> (first | contradiction | ((try simp only [lnS] at hb); try (exfalso; omega)))) | (refine brB_split ?_ ?_ <;> intro hb <;> (first | contradiction | exact bT hb (by assumption) | exact bF hb (by assumption) | skip))) <;> (conv => whnf)))
        exact bool_eq (List.all_eq_false.2 ⟨_, List.getElem_mem hjl, by simp [hb2]⟩).symm
      · ((conv => whnf); repeat' ((first | (intro hq; (try simp only [lnS] at hq); (try rewrite [List.length_map])) | refine sJ ?_ | refine .intro _ (.intro rfl ?_) | (refine .intro (show (_ : Nat) < List.length _ from by first | omega | (simp only [lnS]; omega) | simp) ?_) | fail | refine draw_rule hty (by kernel_rfl) (by kernel_rfl) ?_ | ((first | refine brB_dec ?_ ?_ | refine brB_ndec ?_ ?_) <;> intro hb <;> (first | contradiction | ((try simp only [lnS] at hb); try (exfalso; omega)))) | (refine brB_split ?_ ?_ <;> intro hb <;> (first | contradiction | exact bT hb (by assumption) | exact bF hb (by assumption) | skip))) <;> (conv => whnf)))
        exact ⟨j + 1, ⟨by omega, take_all hjl hn hb2⟩, by dsimp only; omega, by repeat' (first | exact trivial | exact rfl | refine And.intro ?_ ?_), trivial⟩
    · have hjl : j = x.roles.length := by omega
      subst hjl
      rw [List.take_length] at hn
      ((conv => whnf); repeat' ((first | (intro hq; (try simp only [lnS] at hq); (try rewrite [List.length_map])) | refine sJ ?_ | refine .intro _ (.intro rfl ?_) | (refine .intro (show (_ : Nat) < List.length _ from by first | omega | (simp only [lnS]; omega) | simp) ?_) | fail | refine draw_rule hty (by kernel_rfl) (by kernel_rfl) ?_ | ((first | refine brB_dec ?_ ?_ | refine brB_ndec ?_ ?_) <;> intro hb <;> (first | contradiction | ((try simp only [lnS] at hb); try (exfalso; omega)))) | (refine brB_split ?_ ?_ <;> intro hb <;> (first | contradiction | exact bT hb (by assumption) | exact bF hb (by assumption) | skip))) <;> (conv => whnf)))
      exact bool_eq hn.symm)
end Go.Proofs.YtnemengadjimcaaGreatDoor
namespace Go.Proofs.YtnemengadjimcaaGreatDoor
open Go.Proofs
set_option maxRecDepth 10000
attribute [local irreducible] SemVC CallVC Tri Stuck YVC GenP GenVC
def bareE (x : Ax) : Bool := if x.kind = 2 then (bareF x.left || bareF x.right) else if x.kind = 1 ∨ x.kind = 4 ∨ x.kind = 8 then bareF x.right else false
def axiomU (u : Use) (x : Ax) : Int :=
  if namedF u x = false then 20
  else if u.left = true ∧ conceptE x.left ≠ 0 then conceptE x.left
  else if u.right = true ∧ conceptE x.right ≠ 0 then conceptE x.right
  else if bareE x = true then 22 else 0
def axiomE (x : Ax) : Int := if shapedF x = false then 22 else axiomU (useAt x.kind) x
set_option maxHeartbeats 8000000 in
theorem checkAxiom_spec (x : Ax) : Tri Tryz.prog 48 [.d (.agg (axR x))] NG (fun r => r = .d (.int .i64 (axiomE x))) := by
  have e1 := checkConcept_spec x.left
  have e2 := checkConcept_spec x.right
  have b1 := isBare_spec x.left
  have b2 := isBare_spec x.right
  rw [cnR_eq] at e1 e2 b1 b2
  refine tri_of_bodyF false [1, 3] hty Tryz.func48 rfl (kp [0, 1, 2, 3, 4, 5, 8, 16, 18, 23, 26, 31, 34, 35, 44, 45, 51]) [] _ _ _ (by simp [Tryz.f48]) (by decide) ?_
  ((conv => whnf); repeat ((first | (intro hq; try simp only [lnS] at hq) | refine sI ?_ | refine .intro _ (.intro rfl ?_)); (conv => whnf)))
  refine call_tri NG (isShaped_spec x) ⟨rfl, rfl, trivial⟩ (fun r hs => ?_)
  subst hs
  cases hs : shapedF x
  · ((conv => whnf); repeat' ((first | (intro hq; (try simp only [lnS] at hq); (try rewrite [List.length_map])) | refine sJ ?_ | refine .intro _ (.intro rfl ?_) | (refine .intro (show (_ : Nat) < List.length _ from by first | omega | (simp only [lnS]; omega) | simp) ?_) | fail | refine draw_rule hty (by kernel_rfl) (by kernel_rfl) ?_ | ((first | refine brB_dec ?_ ?_ | refine brB_ndec ?_ ?_) <;> intro hb <;> (first | contradiction | ((try simp only [lnS] at hb); try (exfalso; omega)))) | (refine brB_split ?_ ?_ <;> intro hb <;> (first | contradiction | exact bT hb (by assumption) | exact bF hb (by assumption) | skip))) <;> (conv => whnf)))
    rw [axiomE, if_pos hs]; rfl
  · have hE : axiomE x = axiomU (useAt x.kind) x := by rw [axiomE, if_neg (by simp [hs])]
    have hk : 1 ≤ x.kind ∧ x.kind ≤ 9 := by
      unfold shapedF at hs
      split at hs
      · cases hs
      · omega
    rw [hE]
    have hrow := use_row (k := x.kind) hk
    generalize useAt x.kind = u at hrow
    have hn := isNamed_spec x u
    clear hE
    ((conv => whnf); repeat ((first | (refine index_glob (id := 91) hty rfl rfl rfl rfl rfl rfl rfl (by omega) (by omega) ?_) | (refine ⟨_, hrow, ?_⟩) | (intro hq; try simp only [lnS] at hq) | refine sI ?_ | refine .intro _ (.intro rfl ?_)); (conv => whnf)))
    refine call_tri [] hn trivial (fun r hs => ?_)
    subst hs
    cases hs2 : namedF u x
    · ((conv => whnf); repeat' ((first | (intro hq; (try simp only [lnS] at hq); (try rewrite [List.length_map])) | refine sJ ?_ | refine .intro _ (.intro rfl ?_) | (refine .intro (show (_ : Nat) < List.length _ from by first | omega | (simp only [lnS]; omega) | simp) ?_) | fail | refine draw_rule hty (by kernel_rfl) (by kernel_rfl) ?_ | ((first | refine brB_dec ?_ ?_ | refine brB_ndec ?_ ?_) <;> intro hb <;> (first | contradiction | ((try simp only [lnS] at hb); try (exfalso; omega)))) | (refine brB_split ?_ ?_ <;> intro hb <;> (first | contradiction | exact bT hb (by assumption) | exact bF hb (by assumption) | skip))) <;> (conv => whnf)))
      rw [axiomU, if_pos hs2]; rfl
    · ((conv => whnf); repeat' ((first | (intro hq; (try simp only [lnS] at hq); (try rewrite [List.length_map])) | refine sJ ?_ | refine .intro _ (.intro rfl ?_) | (refine .intro (show (_ : Nat) < List.length _ from by first | omega | (simp only [lnS]; omega) | simp) ?_) | (refine call_tri NG e1 ⟨rfl, rfl, trivial⟩ (fun r hs => ?_); subst hs) | (refine call_tri NG e2 ⟨rfl, rfl, trivial⟩ (fun r hs => ?_); subst hs) | (refine call_tri [] b1 trivial (fun r hs => ?_); subst hs) | (refine call_tri [] b2 trivial (fun r hs => ?_); subst hs) | refine draw_rule hty (by kernel_rfl) (by kernel_rfl) ?_ | ((first | refine brB_dec ?_ ?_ | refine brB_ndec ?_ ?_) <;> intro hb <;> (first | contradiction | ((try simp only [lnS] at hb); try (exfalso; omega)))) | (refine brB_split ?_ ?_ <;> intro hb <;> (first | contradiction | exact bT hb (by assumption) | exact bF hb (by assumption) | skip))) <;> (conv => whnf)))
      all_goals (refine int_eq (Eq.symm ?_); clear e1 e2 b1 b2 hrow hn; unfold axiomU bareE; simp_all)
      all_goals trace_state
end Go.Proofs.YtnemengadjimcaaGreatDoor
namespace Go.Proofs.YtnemengadjimcaaGreatDoor
def cmpB (a b : List UInt8) : Int := Lib.compareBytes a b
theorem cmpB_range : ∀ (a b : List UInt8), cmpB a b = -1 ∨ cmpB a b = 0 ∨ cmpB a b = 1
  | [], [] => by simp [cmpB, Lib.compareBytes]
  | [], _ :: _ => by simp [cmpB, Lib.compareBytes]
  | _ :: _, [] => by simp [cmpB, Lib.compareBytes]
  | x :: a, y :: b => by
    have := cmpB_range a b
    unfold cmpB at this ⊢
    simp only [Lib.compareBytes]
    split
    · exact .inl rfl
    · split
      · exact .inr (.inr rfl)
      · exact this
theorem cmpB_zero : ∀ (a b : List UInt8), cmpB a b = 0 ↔ a = b
  | [], [] => by simp [cmpB, Lib.compareBytes]
  | [], _ :: _ => by simp [cmpB, Lib.compareBytes]
  | _ :: _, [] => by simp [cmpB, Lib.compareBytes]
  | x :: a, y :: b => by
    have ih := cmpB_zero a b
    unfold cmpB at ih ⊢
    simp only [Lib.compareBytes, List.cons.injEq]
    split
    · rename_i h
      constructor
      · intro h; omega
      · rintro ⟨rfl, _⟩; exact absurd h (UInt8.lt_irrefl x)
    · split
      · rename_i h
        constructor
        · intro h; omega
        · rintro ⟨rfl, _⟩; exact absurd h (UInt8.lt_irrefl x)
      · rename_i h1 h2
        rw [ih]
        have : x = y := UInt8.le_antisymm (UInt8.not_lt.1 h2) (UInt8.not_lt.1 h1)
        simp [this]
theorem cmpB_swap : ∀ (a b : List UInt8), cmpB b a = - cmpB a b
  | [], [] => by simp [cmpB, Lib.compareBytes]
  | [], _ :: _ => by simp [cmpB, Lib.compareBytes]
  | _ :: _, [] => by simp [cmpB, Lib.compareBytes]
  | x :: a, y :: b => by
    have ih := cmpB_swap a b
    unfold cmpB at ih ⊢
    simp only [Lib.compareBytes]
    by_cases h1 : x < y
    · have h2 : ¬ y < x := fun h => UInt8.lt_irrefl x (UInt8.lt_trans h1 h)
      simp [h1, h2]
    · by_cases h2 : y < x
      · simp [h1, h2]
      · simp [h1, h2, ih]
theorem cmpB_trans : ∀ (a b c : List UInt8), cmpB a b < 0 → cmpB b c < 0 → cmpB a c < 0
  | [], [], c, h, _ => by simp [cmpB, Lib.compareBytes] at h
  | [], _ :: _, [], _, h => by simp [cmpB, Lib.compareBytes] at h
  | [], _ :: _, _ :: _, _, _ => by simp [cmpB, Lib.compareBytes]
  | _ :: _, [], c, h, _ => by simp [cmpB, Lib.compareBytes] at h
  | _ :: _, _ :: _, [], _, h => by simp [cmpB, Lib.compareBytes] at h
  | x :: a, y :: b, z :: c, h1, h2 => by
    have ih := cmpB_trans a b c
    unfold cmpB at ih h1 h2 ⊢
    simp only [Lib.compareBytes] at h1 h2 ⊢
    by_cases hxy : x < y
    · by_cases hyz : y < z
      · simp [UInt8.lt_trans hxy hyz]
      · by_cases hzy : z < y
        · simp [hyz, hzy] at h2
        · have : y = z := UInt8.le_antisymm (UInt8.not_lt.1 hzy) (UInt8.not_lt.1 hyz)
          subst this; simp [hxy]
    · by_cases hyx : y < x
      · simp [hxy, hyx] at h1
      · have : x = y := UInt8.le_antisymm (UInt8.not_lt.1 hyx) (UInt8.not_lt.1 hxy)
        subst this
        simp only [hxy, if_false] at h1
        by_cases hyz : x < z
        · simp [hyz]
        · by_cases hzy : z < x
          · simp [hyz, hzy] at h2
          · simp only [hyz, hzy, if_false] at h2 ⊢
            exact ih h1 h2
theorem bytesLess_eq : ∀ (a b : List UInt8), Op.bytesLess a b = decide (cmpB a b < 0)
  | [], [] => by simp [cmpB, Lib.compareBytes, Op.bytesLess]
  | [], _ :: _ => by simp [cmpB, Lib.compareBytes, Op.bytesLess]
  | _ :: _, [] => by simp [cmpB, Lib.compareBytes, Op.bytesLess]
  | x :: a, y :: b => by
    have ih := bytesLess_eq a b
    unfold cmpB at ih ⊢
    simp only [Lib.compareBytes, Op.bytesLess]
    by_cases h1 : x < y
    · simp [h1]
    · by_cases h2 : y < x
      · have : ¬ x = y := fun e => UInt8.lt_irrefl x (by rw [← e] at h2; exact h2)
        simp [h1, h2, this]
      · have : x = y := UInt8.le_antisymm (UInt8.not_lt.1 h2) (UInt8.not_lt.1 h1)
        subst this
        simp [ih]
end Go.Proofs.YtnemengadjimcaaGreatDoor
namespace Go.Proofs.YtnemengadjimcaaGreatDoor
open Go.Proofs
set_option maxRecDepth 10000
attribute [local irreducible] SemVC CallVC Tri Stuck YVC GenP GenVC
def cnX (c : Cn) : List D := [.int .i64 c.kind, .str c.name, .int .i64 c.lo, .int .i64 c.hi, .sl 5 (c.parts.map cnR)]
def kindW (c : Cn) : Int := if c.kind ≠ 0 then sizeF c else 0
def strW (s : List UInt8) : Int := if s ≠ [] then 1 else 0
def sumK : List Cn → Int
  | [] => 0
  | c :: r => kindW c + sumK r
def sumS : List (List UInt8) → Int
  | [] => 0
  | c :: r => strW c + sumS r
def weightF (x : Ax) : Int := sumK [x.left, x.right] + x.roles.length + sumS [x.role, x.a, x.b]
theorem sumK_take {l : List Cn} {j : Nat} (h : j < l.length) : sumK (l.take (j + 1)) = sumK (l.take j) + kindW l[j] := by
  induction l generalizing j with
  | nil => simp at h
  | cons c l ih =>
    cases j with
    | zero => simp [sumK]
    | succ j =>
      have := ih (j := j) (by simpa using h)
      simp only [List.take_succ_cons, sumK, List.getElem_cons_succ, this]; omega
theorem sumS_take {l : List (List UInt8)} {j : Nat} (h : j < l.length) : sumS (l.take (j + 1)) = sumS (l.take j) + strW l[j] := by
  induction l generalizing j with
  | nil => simp at h
  | cons c l ih =>
    cases j with
    | zero => simp [sumS]
    | succ j =>
      have := ih (j := j) (by simpa using h)
      simp only [List.take_succ_cons, sumS, List.getElem_cons_succ, this]; omega
theorem sumK_bnd : ∀ (l : List Cn), (∀ c ∈ l, sizeF c ≤ 1000000) → 0 ≤ sumK l ∧ sumK l ≤ 1000000 * l.length
  | [], _ => by simp [sumK]
  | c :: r, h => by
    have h1 := sumK_bnd r fun x hx => h x (List.mem_cons_of_mem _ hx)
    have h2 := h c (List.mem_cons_self ..)
    simp only [sumK, kindW, List.length_cons]
    split <;> omega
theorem sumS_bnd : ∀ (l : List (List UInt8)), 0 ≤ sumS l ∧ sumS l ≤ l.length
  | [] => by simp [sumS]
  | c :: r => by
    have h1 := sumS_bnd r
    simp only [sumS, strW, List.length_cons]
    split <;> omega
set_option maxHeartbeats 4000000 in
theorem weight_spec (x : Ax) (h1 : sizeF x.left ≤ 1000000) (h2 : sizeF x.right ≤ 1000000) (h3 : x.roles.length ≤ 1000000) : Tri Tryz.prog 74 [.d (.agg (axR x))] [] (fun r => r = .d (.int .i64 (weightF x))) := by
  have hkb : ∀ j, 0 ≤ sumK ([x.left, x.right].take j) ∧ sumK ([x.left, x.right].take j) ≤ 2000000 := by
    intro j
    have := sumK_bnd ([x.left, x.right].take j) (fun c hc => by
      have := List.mem_of_mem_take hc
      simp at this
      rcases this with rfl | rfl <;> assumption)
    have hl : ([x.left, x.right].take j).length ≤ 2 := by rw [List.length_take]; simp; omega
    omega
  have hsz : ∀ (j : Nat) (hj : j < [x.left, x.right].length), sizeF [x.left, x.right][j] ≤ 1000000 := by
    intro j hj
    have hm := List.getElem_mem hj
    simp only [List.mem_cons, List.not_mem_nil, or_false] at hm
    rcases hm with e | e <;> rw [e] <;> assumption
  refine tri_of_bodyF false [1, 4] hty Tryz.func74 rfl (kp [0, 1, 2, 4, 6, 11, 12, 13, 14, 19, 36, 37, 38, 39, 43]) [] _ _ _ (by simp [Tryz.f74]) (by simp) ?_
  ((conv => whnf); repeat ((first | (intro hq; try simp only [lnS] at hq) | refine sI ?_ | refine .intro _ (.intro rfl ?_)); (conv => whnf)))
  refine loop_rule hty (fun j : Nat => ([(1, .ea 16 [axR x] 0 0), (2, .d (.int .i64 (sumK ([x.left, x.right].take j)))), (11, .d (.sl 5 ([x.left, x.right].map cnX))), (12, .d (.int .i64 2)), (13, .d (.int .i64 j))], [])) (fun j => j ≤ 2) (fun j => 2 - j) 0 (by omega) ⟨by repeat' (first | exact trivial | exact rfl | exact ⟨rfl, rfl⟩ | refine And.intro ?_ ?_), trivial⟩ ?_
  · intro j hj
    have hb0 := hkb j
    ((conv => whnf); repeat ((first | (intro hq; try simp only [lnS] at hq) | refine sI ?_ | refine .intro _ (.intro rfl ?_)); (conv => whnf)))
    refine brB_dec (fun h4 => ?_) (fun h4 => ?_)
    · have hjl : j < [x.left, x.right].length := by simp; omega
      have hrow : ([x.left, x.right].map cnX)[(j : Int).toNat]? = some (cnX [x.left, x.right][j]) := rowC_at hjl
      have hs2 := hsz j hjl
      have hsp := size_spec _ hs2
      have htk := sumK_take hjl
      generalize [x.left, x.right][j] = c at hrow hs2 hsp htk
      rw [cnR_eq] at hsp
      ((conv => whnf); repeat' ((first | (intro hq; (try simp only [lnS] at hq); (try rewrite [List.length_map])) | refine sJ ?_ | refine .intro _ (.intro rfl ?_) | (refine .intro (show (_ : Nat) < List.length _ from by first | omega | (simp only [lnS]; omega) | simp) ?_) | (refine ⟨_, hrow, ?_⟩) | (refine call_tri [] hsp trivial (fun r hs => ?_); subst hs) | refine draw_rule hty (by kernel_rfl) (by kernel_rfl) ?_ | ((first | refine brB_dec ?_ ?_ | refine brB_ndec ?_ ?_) <;> intro hb <;> (first | contradiction | ((try simp only [lnS] at hb); try (exfalso; omega)))) | (refine brB_split ?_ ?_ <;> intro hb <;> (first | contradiction | exact bT hb (by assumption) | exact bF hb (by assumption) | skip))) <;> (conv => whnf)))
      · refine ⟨j + 1, by dsimp only; omega, by dsimp only; omega, ⟨?_, trivial⟩⟩
        dsimp only
        rw [htk, kindW, if_pos (by assumption)]
        repeat' (first | exact trivial | exact rfl | exact ⟨rfl, rfl⟩ | refine And.intro ?_ ?_)
      · refine ⟨j + 1, by dsimp only; omega, by dsimp only; omega, ⟨?_, trivial⟩⟩
        dsimp only
        rw [htk, kindW, if_neg (by simpa using (by assumption : c.kind = 0)), Int.add_zero]
        repeat' (first | exact trivial | exact rfl | exact ⟨rfl, rfl⟩ | refine And.intro ?_ ?_)
    · have hj2 : j = 2 := by omega
      subst hj2
      have ht : [x.left, x.right].take 2 = [x.left, x.right] := rfl
      rw [ht] at hb0 ⊢
      have hW : weightF x = sumK [x.left, x.right] + x.roles.length + sumS [x.role, x.a, x.b] := rfl
      rw [hW]
      generalize sumK [x.left, x.right] = m at hb0
      clear hW hkb hsz
      ((conv => whnf); repeat ((first | (intro hq; try simp only [lnS] at hq) | refine sI ?_ | refine .intro _ (.intro rfl ?_)); (conv => whnf)))
      have hsb : ∀ j, 0 ≤ sumS ([x.role, x.a, x.b].take j) ∧ sumS ([x.role, x.a, x.b].take j) ≤ 3 := by
        intro j
        have := sumS_bnd ([x.role, x.a, x.b].take j)
        have hl : ([x.role, x.a, x.b].take j).length ≤ 3 := by rw [List.length_take]; simp; omega
        omega
      refine loop_rule hty (fun j : Nat => ([(2, .d (.int .i64 (m + x.roles.length + sumS ([x.role, x.a, x.b].take j)))), (36, .d (.sl 1 ([x.role, x.a, x.b].map strR))), (37, .d (.int .i64 3)), (38, .d (.int .i64 j))], [])) (fun j => j ≤ 3) (fun j => 3 - j) 0 (by omega) ⟨by repeat' (first | exact trivial | exact rfl | exact ⟨rfl, rfl⟩ | exact wkInt6 (by simp [sumS]) | refine And.intro ?_ ?_), trivial⟩ ?_
      intro j hj
      have hb1 := hsb j
      ((conv => whnf); repeat ((first | (intro hq; try simp only [lnS] at hq) | refine sI ?_ | refine .intro _ (.intro rfl ?_)); (conv => whnf)))
      refine brB_dec (fun h5 => ?_) (fun h5 => ?_)
      · have hjl : j < [x.role, x.a, x.b].length := by simp; omega
        have hrow : ([x.role, x.a, x.b].map strR)[(j : Int).toNat]? = some (strR [x.role, x.a, x.b][j]) := rowC_at hjl
        have htk := sumS_take hjl
        generalize [x.role, x.a, x.b][j] = c at hrow htk
        ((conv => whnf); repeat' ((first | (intro hq; (try simp only [lnS] at hq); (try rewrite [List.length_map])) | refine sJ ?_ | refine .intro _ (.intro rfl ?_) | (refine .intro (show (_ : Nat) < List.length _ from by first | omega | (simp only [lnS]; omega) | simp) ?_) | (refine ⟨_, hrow, ?_⟩) | refine draw_rule hty (by kernel_rfl) (by kernel_rfl) ?_ | ((first | refine brB_dec ?_ ?_ | refine brB_ndec ?_ ?_) <;> intro hb <;> (first | contradiction | ((try simp only [lnS] at hb); try (exfalso; omega)))) | (refine brB_split ?_ ?_ <;> intro hb <;> (first | contradiction | exact bT hb (by assumption) | exact bF hb (by assumption) | skip))) <;> (conv => whnf)))
        · refine ⟨j + 1, by dsimp only; omega, by dsimp only; omega, ⟨?_, trivial⟩⟩
          dsimp only
          rw [htk, strW, if_pos (by assumption)]
          repeat' (first | exact trivial | exact rfl | exact ⟨rfl, rfl⟩ | exact wkInt6 (by omega) | refine And.intro ?_ ?_)
        · refine ⟨j + 1, by dsimp only; omega, by dsimp only; omega, ⟨?_, trivial⟩⟩
          dsimp only
          rw [htk, strW, if_neg (by simpa using (by assumption : c = [])), Int.add_zero]
          repeat' (first | exact trivial | exact rfl | exact ⟨rfl, rfl⟩ | refine And.intro ?_ ?_)
      · have hj3 : j = 3 := by omega
        subst hj3
        ((conv => whnf); repeat' ((first | (intro hq; (try simp only [lnS] at hq); (try rewrite [List.length_map])) | refine sJ ?_ | refine .intro _ (.intro rfl ?_) | (refine .intro (show (_ : Nat) < List.length _ from by first | omega | (simp only [lnS]; omega) | simp) ?_) | fail | refine draw_rule hty (by kernel_rfl) (by kernel_rfl) ?_ | ((first | refine brB_dec ?_ ?_ | refine brB_ndec ?_ ?_) <;> intro hb <;> (first | contradiction | ((try simp only [lnS] at hb); try (exfalso; omega)))) | (refine brB_split ?_ ?_ <;> intro hb <;> (first | contradiction | exact bT hb (by assumption) | exact bF hb (by assumption) | skip))) <;> (conv => whnf)))
        rfl
end Go.Proofs.YtnemengadjimcaaGreatDoor
