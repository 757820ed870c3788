/-
  Terms: the shape and the names of an axiom.
  Conditions: none.
-/
import Derived.Test.YtnemengadjimcaaDoorMA7
set_option linter.unusedSectionVars false
set_option linter.unusedSimpArgs false
set_option linter.unusedVariables false
namespace Go.Proofs.YtnemengadjimcaaDoor
open Go.Proofs
set_option maxRecDepth 10000
attribute [local irreducible] SemVC CallVC Tri Stuck YVC GenP GenVC
def shapedU (u : Use) (x : Ax) : Bool :=
  (u.left || emptyF x.left) && ((u.right || emptyF x.right) && ((u.role || decide (x.role = [])) && ((u.a || decide (x.a = [])) && ((u.b || decide (x.b = [])) && (decide (u.least ≤ x.roles.length) && decide ((x.roles.length : Int) ≤ u.most))))))
def shapedF (x : Ax) : Bool := if x.kind < 1 ∨ 9 < x.kind then false else shapedU (useAt x.kind) x
theorem use_at {k : Int} (n : Nat) (h : n < uses.length) (hk : k = n) : (uses.map useR)[k.toNat]? = some (useR uses[n]) := by
  subst hk
  rw [Int.toNat_natCast, List.getElem?_map, List.getElem?_eq_getElem h]; rfl
set_option maxHeartbeats 8000000 in
theorem isShaped_1 (x : Ax) (hk : x.kind = 1) : Tri Tryd.prog 28 [.d (.agg (axR x))] NG (fun r => r = .d (.bool (shapedF x))) := by
  have e1 := isEmpty_spec x.left
  have e2 := isEmpty_spec x.right
  rw [cnR_eq] at e1 e2
  have hrow := use_at (k := x.kind) 1 (by decide) hk
  have hE : shapedF x = shapedU (uses[1]'(by decide)) x := by rw [shapedF, if_neg (by omega), hk]; rfl
  rw [hE]
  refine tri_of_bodyF false [1, 3] hty Tryd.func28 rfl (kp [0, 1, 2, 3, 11]) [] _ _ _ (by simp [Tryd.f28]) (by decide) ?_
  ((conv => whnf); repeat ((first | (intro hq; try simp only [lnS] at hq) | refine sI ?_ | refine .intro _ (.intro rfl ?_)); (conv => whnf)))
  refine brB_dec (fun h1 => by omega) (fun h1 => ?_)
  ((conv => whnf); repeat ((first | (intro hq; try simp only [lnS] at hq) | refine sI ?_ | refine .intro _ (.intro rfl ?_)); (conv => whnf)))
  refine brB_dec (fun h2 => by omega) (fun h2 => ?_)
  ((conv => whnf); repeat' ((first | (intro hq; (try simp only [lnS] at hq); (try rewrite [List.length_map])) | refine sJ ?_ | refine .intro _ (.intro rfl ?_) | (refine .intro (show (_ : Nat) < List.length _ from by first | omega | (simp only [lnS]; omega) | simp) ?_) | (refine index_glob (id := 91) hty rfl rfl rfl rfl rfl rfl rfl (by omega) (by omega) ?_) | (refine ⟨_, hrow, ?_⟩) | (refine call_tri [] e1 trivial (fun r hs => ?_); subst hs) | (refine call_tri [] e2 trivial (fun r hs => ?_); subst hs) | refine draw_rule hty (by kernel_rfl) (by kernel_rfl) ?_ | ((first | refine brB_dec ?_ ?_ | refine brB_ndec ?_ ?_) <;> intro hb <;> (first | contradiction | ((try simp only [lnS] at hb); try (exfalso; omega)))) | (refine brB_split ?_ ?_ <;> intro hb <;> (first | contradiction | exact bT hb (by assumption) | exact bF hb (by assumption) | skip))) <;> (conv => whnf)))
  all_goals (clear e1 e2 hrow hE; refine bool_eq (Eq.symm ?_); show shapedU _ x = _; simp only [shapedU, uses, List.getElem_cons_succ, List.getElem_cons_zero, Bool.true_or, Bool.false_or, Bool.true_and]; simp_all [uses] <;> omega)
set_option maxHeartbeats 8000000 in
theorem isShaped_2 (x : Ax) (hk : x.kind = 2) : Tri Tryd.prog 28 [.d (.agg (axR x))] NG (fun r => r = .d (.bool (shapedF x))) := by
  have e1 := isEmpty_spec x.left
  have e2 := isEmpty_spec x.right
  rw [cnR_eq] at e1 e2
  have hrow := use_at (k := x.kind) 2 (by decide) hk
  have hE : shapedF x = shapedU (uses[2]'(by decide)) x := by rw [shapedF, if_neg (by omega), hk]; rfl
  rw [hE]
  refine tri_of_bodyF false [1, 3] hty Tryd.func28 rfl (kp [0, 1, 2, 3, 11]) [] _ _ _ (by simp [Tryd.f28]) (by decide) ?_
  ((conv => whnf); repeat ((first | (intro hq; try simp only [lnS] at hq) | refine sI ?_ | refine .intro _ (.intro rfl ?_)); (conv => whnf)))
  refine brB_dec (fun h1 => by omega) (fun h1 => ?_)
  ((conv => whnf); repeat ((first | (intro hq; try simp only [lnS] at hq) | refine sI ?_ | refine .intro _ (.intro rfl ?_)); (conv => whnf)))
  refine brB_dec (fun h2 => by omega) (fun h2 => ?_)
  ((conv => whnf); repeat' ((first | (intro hq; (try simp only [lnS] at hq); (try rewrite [List.length_map])) | refine sJ ?_ | refine .intro _ (.intro rfl ?_) | (refine .intro (show (_ : Nat) < List.length _ from by first | omega | (simp only [lnS]; omega) | simp) ?_) | (refine index_glob (id := 91) hty rfl rfl rfl rfl rfl rfl rfl (by omega) (by omega) ?_) | (refine ⟨_, hrow, ?_⟩) | (refine call_tri [] e1 trivial (fun r hs => ?_); subst hs) | (refine call_tri [] e2 trivial (fun r hs => ?_); subst hs) | refine draw_rule hty (by kernel_rfl) (by kernel_rfl) ?_ | ((first | refine brB_dec ?_ ?_ | refine brB_ndec ?_ ?_) <;> intro hb <;> (first | contradiction | ((try simp only [lnS] at hb); try (exfalso; omega)))) | (refine brB_split ?_ ?_ <;> intro hb <;> (first | contradiction | exact bT hb (by assumption) | exact bF hb (by assumption) | skip))) <;> (conv => whnf)))
  all_goals (clear e1 e2 hrow hE; refine bool_eq (Eq.symm ?_); show shapedU _ x = _; simp only [shapedU, uses, List.getElem_cons_succ, List.getElem_cons_zero, Bool.true_or, Bool.false_or, Bool.true_and]; simp_all [uses] <;> omega)
set_option maxHeartbeats 8000000 in
theorem isShaped_3 (x : Ax) (hk : x.kind = 3) : Tri Tryd.prog 28 [.d (.agg (axR x))] NG (fun r => r = .d (.bool (shapedF x))) := by
  have e1 := isEmpty_spec x.left
  have e2 := isEmpty_spec x.right
  rw [cnR_eq] at e1 e2
  have hrow := use_at (k := x.kind) 3 (by decide) hk
  have hE : shapedF x = shapedU (uses[3]'(by decide)) x := by rw [shapedF, if_neg (by omega), hk]; rfl
  rw [hE]
  refine tri_of_bodyF false [1, 3] hty Tryd.func28 rfl (kp [0, 1, 2, 3, 11]) [] _ _ _ (by simp [Tryd.f28]) (by decide) ?_
  ((conv => whnf); repeat ((first | (intro hq; try simp only [lnS] at hq) | refine sI ?_ | refine .intro _ (.intro rfl ?_)); (conv => whnf)))
  refine brB_dec (fun h1 => by omega) (fun h1 => ?_)
  ((conv => whnf); repeat ((first | (intro hq; try simp only [lnS] at hq) | refine sI ?_ | refine .intro _ (.intro rfl ?_)); (conv => whnf)))
  refine brB_dec (fun h2 => by omega) (fun h2 => ?_)
  ((conv => whnf); repeat' ((first | (intro hq; (try simp only [lnS] at hq); (try rewrite [List.length_map])) | refine sJ ?_ | refine .intro _ (.intro rfl ?_) | (refine .intro (show (_ : Nat) < List.length _ from by first | omega | (simp only [lnS]; omega) | simp) ?_) | (refine index_glob (id := 91) hty rfl rfl rfl rfl rfl rfl rfl (by omega) (by omega) ?_) | (refine ⟨_, hrow, ?_⟩) | (refine call_tri [] e1 trivial (fun r hs => ?_); subst hs) | (refine call_tri [] e2 trivial (fun r hs => ?_); subst hs) | refine draw_rule hty (by kernel_rfl) (by kernel_rfl) ?_ | ((first | refine brB_dec ?_ ?_ | refine brB_ndec ?_ ?_) <;> intro hb <;> (first | contradiction | ((try simp only [lnS] at hb); try (exfalso; omega)))) | (refine brB_split ?_ ?_ <;> intro hb <;> (first | contradiction | exact bT hb (by assumption) | exact bF hb (by assumption) | skip))) <;> (conv => whnf)))
  all_goals (clear e1 e2 hrow hE; refine bool_eq (Eq.symm ?_); show shapedU _ x = _; simp only [shapedU, uses, List.getElem_cons_succ, List.getElem_cons_zero, Bool.true_or, Bool.false_or, Bool.true_and]; simp_all [uses] <;> omega)
set_option maxHeartbeats 8000000 in
theorem isShaped_4 (x : Ax) (hk : x.kind = 4) : Tri Tryd.prog 28 [.d (.agg (axR x))] NG (fun r => r = .d (.bool (shapedF x))) := by
  have e1 := isEmpty_spec x.left
  have e2 := isEmpty_spec x.right
  rw [cnR_eq] at e1 e2
  have hrow := use_at (k := x.kind) 4 (by decide) hk
  have hE : shapedF x = shapedU (uses[4]'(by decide)) x := by rw [shapedF, if_neg (by omega), hk]; rfl
  rw [hE]
  refine tri_of_bodyF false [1, 3] hty Tryd.func28 rfl (kp [0, 1, 2, 3, 11]) [] _ _ _ (by simp [Tryd.f28]) (by decide) ?_
  ((conv => whnf); repeat ((first | (intro hq; try simp only [lnS] at hq) | refine sI ?_ | refine .intro _ (.intro rfl ?_)); (conv => whnf)))
  refine brB_dec (fun h1 => by omega) (fun h1 => ?_)
  ((conv => whnf); repeat ((first | (intro hq; try simp only [lnS] at hq) | refine sI ?_ | refine .intro _ (.intro rfl ?_)); (conv => whnf)))
  refine brB_dec (fun h2 => by omega) (fun h2 => ?_)
  ((conv => whnf); repeat' ((first | (intro hq; (try simp only [lnS] at hq); (try rewrite [List.length_map])) | refine sJ ?_ | refine .intro _ (.intro rfl ?_) | (refine .intro (show (_ : Nat) < List.length _ from by first | omega | (simp only [lnS]; omega) | simp) ?_) | (refine index_glob (id := 91) hty rfl rfl rfl rfl rfl rfl rfl (by omega) (by omega) ?_) | (refine ⟨_, hrow, ?_⟩) | (refine call_tri [] e1 trivial (fun r hs => ?_); subst hs) | (refine call_tri [] e2 trivial (fun r hs => ?_); subst hs) | refine draw_rule hty (by kernel_rfl) (by kernel_rfl) ?_ | ((first | refine brB_dec ?_ ?_ | refine brB_ndec ?_ ?_) <;> intro hb <;> (first | contradiction | ((try simp only [lnS] at hb); try (exfalso; omega)))) | (refine brB_split ?_ ?_ <;> intro hb <;> (first | contradiction | exact bT hb (by assumption) | exact bF hb (by assumption) | skip))) <;> (conv => whnf)))
  all_goals (clear e1 e2 hrow hE; refine bool_eq (Eq.symm ?_); show shapedU _ x = _; simp only [shapedU, uses, List.getElem_cons_succ, List.getElem_cons_zero, Bool.true_or, Bool.false_or, Bool.true_and]; simp_all [uses] <;> omega)
set_option maxHeartbeats 8000000 in
theorem isShaped_7 (x : Ax) (hk : x.kind = 7) : Tri Tryd.prog 28 [.d (.agg (axR x))] NG (fun r => r = .d (.bool (shapedF x))) := by
  have e1 := isEmpty_spec x.left
  have e2 := isEmpty_spec x.right
  rw [cnR_eq] at e1 e2
  have hrow := use_at (k := x.kind) 7 (by decide) hk
  have hE : shapedF x = shapedU (uses[7]'(by decide)) x := by rw [shapedF, if_neg (by omega), hk]; rfl
  rw [hE]
  refine tri_of_bodyF false [1, 3] hty Tryd.func28 rfl (kp [0, 1, 2, 3, 11]) [] _ _ _ (by simp [Tryd.f28]) (by decide) ?_
  ((conv => whnf); repeat ((first | (intro hq; try simp only [lnS] at hq) | refine sI ?_ | refine .intro _ (.intro rfl ?_)); (conv => whnf)))
  refine brB_dec (fun h1 => by omega) (fun h1 => ?_)
  ((conv => whnf); repeat ((first | (intro hq; try simp only [lnS] at hq) | refine sI ?_ | refine .intro _ (.intro rfl ?_)); (conv => whnf)))
  refine brB_dec (fun h2 => by omega) (fun h2 => ?_)
  ((conv => whnf); repeat' ((first | (intro hq; (try simp only [lnS] at hq); (try rewrite [List.length_map])) | refine sJ ?_ | refine .intro _ (.intro rfl ?_) | (refine .intro (show (_ : Nat) < List.length _ from by first | omega | (simp only [lnS]; omega) | simp) ?_) | (refine index_glob (id := 91) hty rfl rfl rfl rfl rfl rfl rfl (by omega) (by omega) ?_) | (refine ⟨_, hrow, ?_⟩) | (refine call_tri [] e1 trivial (fun r hs => ?_); subst hs) | (refine call_tri [] e2 trivial (fun r hs => ?_); subst hs) | refine draw_rule hty (by kernel_rfl) (by kernel_rfl) ?_ | ((first | refine brB_dec ?_ ?_ | refine brB_ndec ?_ ?_) <;> intro hb <;> (first | contradiction | ((try simp only [lnS] at hb); try (exfalso; omega)))) | (refine brB_split ?_ ?_ <;> intro hb <;> (first | contradiction | exact bT hb (by assumption) | exact bF hb (by assumption) | skip))) <;> (conv => whnf)))
  all_goals (clear e1 e2 hrow hE; refine bool_eq (Eq.symm ?_); show shapedU _ x = _; simp only [shapedU, uses, List.getElem_cons_succ, List.getElem_cons_zero, Bool.true_or, Bool.false_or, Bool.true_and]; simp_all [uses] <;> omega)
set_option maxHeartbeats 8000000 in
theorem isShaped_8 (x : Ax) (hk : x.kind = 8) : Tri Tryd.prog 28 [.d (.agg (axR x))] NG (fun r => r = .d (.bool (shapedF x))) := by
  have e1 := isEmpty_spec x.left
  have e2 := isEmpty_spec x.right
  rw [cnR_eq] at e1 e2
  have hrow := use_at (k := x.kind) 8 (by decide) hk
  have hE : shapedF x = shapedU (uses[8]'(by decide)) x := by rw [shapedF, if_neg (by omega), hk]; rfl
  rw [hE]
  refine tri_of_bodyF false [1, 3] hty Tryd.func28 rfl (kp [0, 1, 2, 3, 11]) [] _ _ _ (by simp [Tryd.f28]) (by decide) ?_
  ((conv => whnf); repeat ((first | (intro hq; try simp only [lnS] at hq) | refine sI ?_ | refine .intro _ (.intro rfl ?_)); (conv => whnf)))
  refine brB_dec (fun h1 => by omega) (fun h1 => ?_)
  ((conv => whnf); repeat ((first | (intro hq; try simp only [lnS] at hq) | refine sI ?_ | refine .intro _ (.intro rfl ?_)); (conv => whnf)))
  refine brB_dec (fun h2 => by omega) (fun h2 => ?_)
  ((conv => whnf); repeat' ((first | (intro hq; (try simp only [lnS] at hq); (try rewrite [List.length_map])) | refine sJ ?_ | refine .intro _ (.intro rfl ?_) | (refine .intro (show (_ : Nat) < List.length _ from by first | omega | (simp only [lnS]; omega) | simp) ?_) | (refine index_glob (id := 91) hty rfl rfl rfl rfl rfl rfl rfl (by omega) (by omega) ?_) | (refine ⟨_, hrow, ?_⟩) | (refine call_tri [] e1 trivial (fun r hs => ?_); subst hs) | (refine call_tri [] e2 trivial (fun r hs => ?_); subst hs) | refine draw_rule hty (by kernel_rfl) (by kernel_rfl) ?_ | ((first | refine brB_dec ?_ ?_ | refine brB_ndec ?_ ?_) <;> intro hb <;> (first | contradiction | ((try simp only [lnS] at hb); try (exfalso; omega)))) | (refine brB_split ?_ ?_ <;> intro hb <;> (first | contradiction | exact bT hb (by assumption) | exact bF hb (by assumption) | skip))) <;> (conv => whnf)))
  all_goals (clear e1 e2 hrow hE; refine bool_eq (Eq.symm ?_); show shapedU _ x = _; simp only [shapedU, uses, List.getElem_cons_succ, List.getElem_cons_zero, Bool.true_or, Bool.false_or, Bool.true_and]; simp_all [uses] <;> omega)
set_option maxHeartbeats 8000000 in
theorem isShaped_9 (x : Ax) (hk : x.kind = 9) : Tri Tryd.prog 28 [.d (.agg (axR x))] NG (fun r => r = .d (.bool (shapedF x))) := by
  have e1 := isEmpty_spec x.left
  have e2 := isEmpty_spec x.right
  rw [cnR_eq] at e1 e2
  have hrow := use_at (k := x.kind) 9 (by decide) hk
  have hE : shapedF x = shapedU (uses[9]'(by decide)) x := by rw [shapedF, if_neg (by omega), hk]; rfl
  rw [hE]
  refine tri_of_bodyF false [1, 3] hty Tryd.func28 rfl (kp [0, 1, 2, 3, 11]) [] _ _ _ (by simp [Tryd.f28]) (by decide) ?_
  ((conv => whnf); repeat ((first | (intro hq; try simp only [lnS] at hq) | refine sI ?_ | refine .intro _ (.intro rfl ?_)); (conv => whnf)))
  refine brB_dec (fun h1 => by omega) (fun h1 => ?_)
  ((conv => whnf); repeat ((first | (intro hq; try simp only [lnS] at hq) | refine sI ?_ | refine .intro _ (.intro rfl ?_)); (conv => whnf)))
  refine brB_dec (fun h2 => by omega) (fun h2 => ?_)
  ((conv => whnf); repeat' ((first | (intro hq; (try simp only [lnS] at hq); (try rewrite [List.length_map])) | refine sJ ?_ | refine .intro _ (.intro rfl ?_) | (refine .intro (show (_ : Nat) < List.length _ from by first | omega | (simp only [lnS]; omega) | simp) ?_) | (refine index_glob (id := 91) hty rfl rfl rfl rfl rfl rfl rfl (by omega) (by omega) ?_) | (refine ⟨_, hrow, ?_⟩) | (refine call_tri [] e1 trivial (fun r hs => ?_); subst hs) | (refine call_tri [] e2 trivial (fun r hs => ?_); subst hs) | refine draw_rule hty (by kernel_rfl) (by kernel_rfl) ?_ | ((first | refine brB_dec ?_ ?_ | refine brB_ndec ?_ ?_) <;> intro hb <;> (first | contradiction | ((try simp only [lnS] at hb); try (exfalso; omega)))) | (refine brB_split ?_ ?_ <;> intro hb <;> (first | contradiction | exact bT hb (by assumption) | exact bF hb (by assumption) | skip))) <;> (conv => whnf)))
  all_goals (clear e1 e2 hrow hE; refine bool_eq (Eq.symm ?_); show shapedU _ x = _; simp only [shapedU, uses, List.getElem_cons_succ, List.getElem_cons_zero, Bool.true_or, Bool.false_or, Bool.true_and]; simp_all [uses] <;> omega)
set_option maxHeartbeats 8000000 in
theorem isShaped_5 (x : Ax) (hk : x.kind = 5) : Tri Tryd.prog 28 [.d (.agg (axR x))] NG (fun r => r = .d (.bool (shapedF x))) := by
  have e1 := isEmpty_spec x.left
  have e2 := isEmpty_spec x.right
  rw [cnR_eq] at e1 e2
  have hrow := use_at (k := x.kind) 5 (by decide) hk
  have hE : shapedF x = shapedU (uses[5]'(by decide)) x := by rw [shapedF, if_neg (by omega), hk]; rfl
  rw [hE]
  refine tri_of_bodyF false [1, 3] hty Tryd.func28 rfl (kp [0, 1, 2, 3, 11]) [] _ _ _ (by simp [Tryd.f28]) (by decide) ?_
  ((conv => whnf); repeat ((first | (intro hq; try simp only [lnS] at hq) | refine sI ?_ | refine .intro _ (.intro rfl ?_)); (conv => whnf)))
  refine brB_dec (fun h1 => by omega) (fun h1 => ?_)
  ((conv => whnf); repeat ((first | (intro hq; try simp only [lnS] at hq) | refine sI ?_ | refine .intro _ (.intro rfl ?_)); (conv => whnf)))
  refine brB_dec (fun h2 => by omega) (fun h2 => ?_)
  ((conv => whnf); repeat' ((first | (intro hq; (try simp only [lnS] at hq); (try rewrite [List.length_map])) | refine sJ ?_ | refine .intro _ (.intro rfl ?_) | (refine .intro (show (_ : Nat) < List.length _ from by first | omega | (simp only [lnS]; omega) | simp) ?_) | (refine index_glob (id := 91) hty rfl rfl rfl rfl rfl rfl rfl (by omega) (by omega) ?_) | (refine ⟨_, hrow, ?_⟩) | (refine call_tri [] e1 trivial (fun r hs => ?_); subst hs) | (refine call_tri [] e2 trivial (fun r hs => ?_); subst hs) | refine draw_rule hty (by kernel_rfl) (by kernel_rfl) ?_ | ((first | refine brB_dec ?_ ?_ | refine brB_ndec ?_ ?_) <;> intro hb <;> (first | contradiction | ((try simp only [lnS] at hb); try (exfalso; omega)))) | (refine brB_split ?_ ?_ <;> intro hb <;> (first | contradiction | exact bT hb (by assumption) | exact bF hb (by assumption) | skip))) <;> (conv => whnf)))
  all_goals (clear e1 e2 hrow hE; refine bool_eq (Eq.symm ?_); show shapedU _ x = _; simp only [shapedU, show (uses[5]'(by decide)).left = false from rfl, show (uses[5]'(by decide)).right = false from rfl, show (uses[5]'(by decide)).role = true from rfl, show (uses[5]'(by decide)).a = false from rfl, show (uses[5]'(by decide)).b = false from rfl, Bool.true_or, Bool.false_or, Bool.true_and]; have hl : (uses[5]'(by decide)).least = (5 : Int) - 4 := rfl; have hm : (uses[5]'(by decide)).most = 3 * (5 : Int) - 14 := rfl; simp_all <;> omega)
set_option maxHeartbeats 8000000 in
theorem isShaped_6 (x : Ax) (hk : x.kind = 6) : Tri Tryd.prog 28 [.d (.agg (axR x))] NG (fun r => r = .d (.bool (shapedF x))) := by
  have e1 := isEmpty_spec x.left
  have e2 := isEmpty_spec x.right
  rw [cnR_eq] at e1 e2
  have hrow := use_at (k := x.kind) 6 (by decide) hk
  have hE : shapedF x = shapedU (uses[6]'(by decide)) x := by rw [shapedF, if_neg (by omega), hk]; rfl
  rw [hE]
  refine tri_of_bodyF false [1, 3] hty Tryd.func28 rfl (kp [0, 1, 2, 3, 11]) [] _ _ _ (by simp [Tryd.f28]) (by decide) ?_
  ((conv => whnf); repeat ((first | (intro hq; try simp only [lnS] at hq) | refine sI ?_ | refine .intro _ (.intro rfl ?_)); (conv => whnf)))
  refine brB_dec (fun h1 => by omega) (fun h1 => ?_)
  ((conv => whnf); repeat ((first | (intro hq; try simp only [lnS] at hq) | refine sI ?_ | refine .intro _ (.intro rfl ?_)); (conv => whnf)))
  refine brB_dec (fun h2 => by omega) (fun h2 => ?_)
  ((conv => whnf); repeat' ((first | (intro hq; (try simp only [lnS] at hq); (try rewrite [List.length_map])) | refine sJ ?_ | refine .intro _ (.intro rfl ?_) | (refine .intro (show (_ : Nat) < List.length _ from by first | omega | (simp only [lnS]; omega) | simp) ?_) | (refine index_glob (id := 91) hty rfl rfl rfl rfl rfl rfl rfl (by omega) (by omega) ?_) | (refine ⟨_, hrow, ?_⟩) | (refine call_tri [] e1 trivial (fun r hs => ?_); subst hs) | (refine call_tri [] e2 trivial (fun r hs => ?_); subst hs) | refine draw_rule hty (by kernel_rfl) (by kernel_rfl) ?_ | ((first | refine brB_dec ?_ ?_ | refine brB_ndec ?_ ?_) <;> intro hb <;> (first | contradiction | ((try simp only [lnS] at hb); try (exfalso; omega)))) | (refine brB_split ?_ ?_ <;> intro hb <;> (first | contradiction | exact bT hb (by assumption) | exact bF hb (by assumption) | skip))) <;> (conv => whnf)))
  all_goals (clear e1 e2 hrow hE; refine bool_eq (Eq.symm ?_); show shapedU _ x = _; simp only [shapedU, show (uses[6]'(by decide)).left = false from rfl, show (uses[6]'(by decide)).right = false from rfl, show (uses[6]'(by decide)).role = true from rfl, show (uses[6]'(by decide)).a = false from rfl, show (uses[6]'(by decide)).b = false from rfl, Bool.true_or, Bool.false_or, Bool.true_and]; have hl : (uses[6]'(by decide)).least = (6 : Int) - 4 := rfl; have hm : (uses[6]'(by decide)).most = 3 * (6 : Int) - 14 := rfl; simp_all <;> omega)
theorem isShaped_spec (x : Ax) : Tri Tryd.prog 28 [.d (.agg (axR x))] NG (fun r => r = .d (.bool (shapedF x))) := by
  by_cases hk : 1 ≤ x.kind ∧ x.kind ≤ 9
  · rcases (show x.kind = 1 ∨ x.kind = 2 ∨ x.kind = 3 ∨ x.kind = 4 ∨ x.kind = 5 ∨ x.kind = 6 ∨ x.kind = 7 ∨ x.kind = 8 ∨ x.kind = 9 by omega) with h | h | h | h | h | h | h | h | h
    · exact isShaped_1 x h
    · exact isShaped_2 x h
    · exact isShaped_3 x h
    · exact isShaped_4 x h
    · exact isShaped_5 x h
    · exact isShaped_6 x h
    · exact isShaped_7 x h
    · exact isShaped_8 x h
    · exact isShaped_9 x h
  · have hE : shapedF x = false := by rw [shapedF, if_pos (by omega)]
    rw [hE]
    refine tri_of_bodyF false [1, 3] hty Tryd.func28 rfl (kp [0, 1, 2, 3, 11]) [] _ _ _ (by simp [Tryd.f28]) (by decide) ?_
    ((conv => whnf); repeat ((first | (intro hq; try simp only [lnS] at hq) | refine sI ?_ | refine .intro _ (.intro rfl ?_)); (conv => whnf)))
    refine brB_dec (fun h1 => ?_) (fun h1 => ?_)
    · ((conv => whnf); repeat' ((first | (intro hq; (try simp only [lnS] at hq); (try rewrite [List.length_map])) | refine sJ ?_ | refine .intro _ (.intro rfl ?_) | (refine .intro (show (_ : Nat) < List.length _ from by first | omega | (simp only [lnS]; omega) | simp) ?_) | fail | refine draw_rule hty (by kernel_rfl) (by kernel_rfl) ?_ | ((first | refine brB_dec ?_ ?_ | refine brB_ndec ?_ ?_) <;> intro hb <;> (first | contradiction | ((try simp only [lnS] at hb); try (exfalso; omega)))) | (refine brB_split ?_ ?_ <;> intro hb <;> (first | contradiction | exact bT hb (by assumption) | exact bF hb (by assumption) | skip))) <;> (conv => whnf)))
      rfl
    · ((conv => whnf); repeat ((first | (intro hq; try simp only [lnS] at hq) | refine sI ?_ | refine .intro _ (.intro rfl ?_)); (conv => whnf)))
      refine brB_dec (fun h2 => ?_) (fun h2 => by omega)
      ((conv => whnf); repeat' ((first | (intro hq; (try simp only [lnS] at hq); (try rewrite [List.length_map])) | refine sJ ?_ | refine .intro _ (.intro rfl ?_) | (refine .intro (show (_ : Nat) < List.length _ from by first | omega | (simp only [lnS]; omega) | simp) ?_) | fail | refine draw_rule hty (by kernel_rfl) (by kernel_rfl) ?_ | ((first | refine brB_dec ?_ ?_ | refine brB_ndec ?_ ?_) <;> intro hb <;> (first | contradiction | ((try simp only [lnS] at hb); try (exfalso; omega)))) | (refine brB_split ?_ ?_ <;> intro hb <;> (first | contradiction | exact bT hb (by assumption) | exact bF hb (by assumption) | skip))) <;> (conv => whnf)))
      rfl
def namedF (u : Use) (x : Ax) : Bool := !((u.role && !plainF x.role) || ((u.a && !nameF x.a) || (u.b && !nameF x.b))) && x.roles.all plainF
theorem take_all {p : List UInt8 → Bool} {l : List (List UInt8)} {j : Nat} (h : j < l.length) (h1 : (l.take j).all p = true) (h2 : p l[j] = true) : (l.take (j + 1)).all p = true := by
  rw [List.take_succ_eq_append_getElem h, List.all_append, h1]; simp [h2]
set_option maxHeartbeats 8000000 in
theorem isNamed_spec (x : Ax) (u : Use) : Tri Tryd.prog 29 [.d (.agg (axR x)), .d (.agg (useR u))] [] (fun r => r = .d (.bool (namedF u x))) := by
  refine tri_of_bodyF false [2, 3] hty Tryd.func29 rfl (kp [0, 1, 2, 3, 4, 6, 34, 36, 37, 38, 39, 44]) [] _ _ _ (by simp [Tryd.f29]) (by simp) ?_
  ((conv => whnf); repeat' ((first | (intro hq; (try simp only [lnS] at hq); (try rewrite [List.length_map])) | refine sJ ?_ | refine .intro _ (.intro rfl ?_) | (refine .intro (show (_ : Nat) < List.length _ from by first | omega | (simp only [lnS]; omega) | simp) ?_) | (refine call_tri [] (isPlain_spec _) trivial (fun r hs => ?_); subst hs) | (refine call_tri [] (checkName_spec _) trivial (fun r hs => ?_); subst hs) | refine draw_rule hty (by kernel_rfl) (by kernel_rfl) ?_ | ((first | refine brB_dec ?_ ?_ | refine brB_ndec ?_ ?_) <;> intro hb <;> (first | contradiction | ((try simp only [lnS] at hb); try (exfalso; omega)))) | (refine brB_split ?_ ?_ <;> intro hb <;> (first | contradiction | exact bT hb (by assumption) | exact bF hb (by assumption) | skip))) <;> (conv => whnf)))
  all_goals first
    | (refine bool_eq (Eq.symm ?_); unfold namedF; simp_all; done)
    | skip
  all_goals (
    have hN : namedF u x = x.roles.all plainF := by unfold namedF; simp_all
    rw [hN]
    refine loop_rule hty (fun j : Nat => ([(36, .d (.sl 1 (x.roles.map strR))), (37, .d (.int .i64 x.roles.length)), (38, .d (.int .i64 j))], [])) (fun j => j ≤ x.roles.length ∧ (x.roles.take j).all plainF = true) (fun j => x.roles.length - j) 0 ⟨by omega, by simp⟩ ⟨by repeat' (first | exact trivial | exact rfl | (rw [List.length_map]; exact rfl) | refine And.intro ?_ ?_), trivial⟩ ?_
    rintro j ⟨hj, hn⟩
    ((conv => whnf); repeat ((first | (intro hq; try simp only [lnS] at hq) | refine sI ?_ | refine .intro _ (.intro rfl ?_)); (conv => whnf)))
    refine brB_dec (fun h1 => ?_) (fun h1 => ?_)
    · have hjl : j < x.roles.length := by omega
      have hrow : (x.roles.map strR)[(j : Int).toNat]? = some (strR x.roles[j]) := rowC_at hjl
      ((conv => whnf); repeat ((first | (refine ⟨_, hrow, ?_⟩) | (intro hq; try simp only [lnS] at hq) | refine sI ?_ | refine .intro _ (.intro rfl ?_)); (conv => whnf)))
      refine call_tri [] (isPlain_spec x.roles[j]) trivial (fun r hs => ?_)
      subst hs
      cases hb2 : plainF x.roles[j]
      · ((conv => whnf); repeat' ((first | (intro hq; (try simp only [lnS] at hq); (try rewrite [List.length_map])) | refine sJ ?_ | refine .intro _ (.intro rfl ?_) | (refine .intro (show (_ : Nat) < List.length _ from by first | omega | (simp only [lnS]; omega) | simp) ?_) | fail | refine draw_rule hty (by kernel_rfl) (by kernel_rfl) ?_ | ((first | refine brB_dec ?_ ?_ | refine brB_ndec ?_ ?_) <;> intro hb <;> (first | contradiction | ((try simp only [lnS] at hb); try (exfalso; omega)))) | (refine brB_split ?_ ?_ <;> intro hb <;> (first | contradiction | exact bT hb (by assumption) | exact bF hb (by assumption) | skip))) <;> (conv => whnf)))
        exact bool_eq (List.all_eq_false.2 ⟨_, List.getElem_mem hjl, by simp [hb2]⟩).symm
      · ((conv => whnf); repeat' ((first | (intro hq; (try simp only [lnS] at hq); (try rewrite [List.length_map])) | refine sJ ?_ | refine .intro _ (.intro rfl ?_) | (refine .intro (show (_ : Nat) < List.length _ from by first | omega | (simp only [lnS]; omega) | simp) ?_) | fail | refine draw_rule hty (by kernel_rfl) (by kernel_rfl) ?_ | ((first | refine brB_dec ?_ ?_ | refine brB_ndec ?_ ?_) <;> intro hb <;> (first | contradiction | ((try simp only [lnS] at hb); try (exfalso; omega)))) | (refine brB_split ?_ ?_ <;> intro hb <;> (first | contradiction | exact bT hb (by assumption) | exact bF hb (by assumption) | skip))) <;> (conv => whnf)))
        exact ⟨j + 1, ⟨by omega, take_all hjl hn hb2⟩, by dsimp only; omega, by repeat' (first | exact trivial | exact rfl | refine And.intro ?_ ?_), trivial⟩
    · have hjl : j = x.roles.length := by omega
      subst hjl
      rw [List.take_length] at hn
      ((conv => whnf); repeat' ((first | (intro hq; (try simp only [lnS] at hq); (try rewrite [List.length_map])) | refine sJ ?_ | refine .intro _ (.intro rfl ?_) | (refine .intro (show (_ : Nat) < List.length _ from by first | omega | (simp only [lnS]; omega) | simp) ?_) | fail | refine draw_rule hty (by kernel_rfl) (by kernel_rfl) ?_ | ((first | refine brB_dec ?_ ?_ | refine brB_ndec ?_ ?_) <;> intro hb <;> (first | contradiction | ((try simp only [lnS] at hb); try (exfalso; omega)))) | (refine brB_split ?_ ?_ <;> intro hb <;> (first | contradiction | exact bT hb (by assumption) | exact bF hb (by assumption) | skip))) <;> (conv => whnf)))
      exact bool_eq hn.symm)
end Go.Proofs.YtnemengadjimcaaDoor
