/-
  Terms: the reference's Depth, shape, named, walk, CheckConcept. Terms: the reference's bare, Empty, fields, CheckAxiom.
  Conditions: none.
-/
import Derived.Test.YtkbmlchceiglfaaGreatDoorMGr
import Derived.Test.YtkbmlchceiglfaaGreatDoorMG4
import Derived.Test.YtkbmlchceiglfaaGreatDoorMAu
namespace Go.Proofs.YtkbmlchceiglfaaGreatDoor
set_option linter.unnecessarySimpa false
set_option linter.unusedSectionVars false
set_option linter.unusedSimpArgs false
set_option linter.unusedVariables false
open Go.Proofs
set_option maxRecDepth 10000
attribute [local irreducible] SemVC CallVC Tri Stuck YVC GenP GenVC

def shapeF (c : Cn) : Bool :=
  if c.kind = 1 ∨ c.kind = 2 then decide (c.lo = 0) && (decide (c.hi = 0) && (decide (c.name = []) && decide (c.parts.length = 0)))
  else if c.kind = 3 ∨ c.kind = 4 then decide (c.lo = 0) && (decide (c.hi = 0) && decide (c.parts.length = 0))
  else if c.kind = 5 then decide (c.lo = 0) && (decide (c.hi = 0) && (decide (c.name = []) && (decide (2 ≤ c.parts.length) && decide (c.parts.length ≤ 8))))
  else if c.kind = 6 then decide (c.lo = 0) && (decide (c.hi = 0) && decide (c.parts.length = 1))
  else if c.kind = 7 then decide (c.parts.length = 0) && (decide (-1099511627776 ≤ c.lo) && (decide (c.lo ≤ c.hi) && decide (c.hi ≤ 1099511627776)))
  else false

set_option maxHeartbeats 4000000 in
theorem rShape_spec (c : Cn) : Tri Tryz.prog 110 [.d (.agg (cnR c))] [] (fun r => r = .d (.bool (shapeF c))) := by
  rw [cnR_eq]
  unfold shapeF
  generalize hk : c.kind = k
  refine tri_of_bodyF false [1] hty Tryz.func110 rfl (kp [0, 1, 2, 3, 13, 14, 29, 39, 59, 68]) [] _ _ _ (by simp [Tryz.f110]) (by simp) ?_
  ((conv => whnf); repeat' ((first | (intro hq; (try simp only [lnS] at hq); (try rewrite [List.length_map])) | refine sJ ?_ | refine Exists.intro _ (And.intro rfl ?_) | (refine Exists.intro (show (_ : Nat) < List.length _ from by first | omega | (simp only [List.length_cons, List.length_nil]; omega) | simp) ?_) | fail | refine draw_rule hty (by kernel_rfl) (by kernel_rfl) ?_ | ((first | refine brB_dec (fun hb => ?_) (fun hb => ?_) | refine brB_ndec (fun hb => ?_) (fun hb => ?_)) <;> (first | contradiction | ((try simp only [lnS] at hb); (first | (exfalso; omega) | skip)))) | (refine brB_split (fun hb => ?_) (fun hb => ?_) <;> (first | contradiction | exact absurd (hb.symm.trans (by assumption) : false = true) (by decide) | exact absurd (hb.symm.trans (by assumption) : true = false) (by decide) | skip))) <;> (conv => whnf)))
  all_goals (refine bool_eq (Eq.symm ?_); simp_all <;> first | omega | (rw [Bool.eq_iff_iff]; simp <;> omega))

def namedC (c : Cn) : Bool := if c.kind = 3 ∨ c.kind = 6 ∨ c.kind = 7 then plainF c.name else if c.kind = 4 then nameF c.name else true

theorem rNamed_spec (c : Cn) : Tri Tryz.prog 111 [.d (.agg (cnR c))] [] (fun r => r = .d (.bool (namedC c))) := by
  rw [cnR_eq]
  have p1 := rPlain_spec c.name
  have p2 := rPerson_spec c.name
  unfold namedC
  generalize hk : c.kind = k
  refine tri_of_bodyF false [1] hty Tryz.func111 rfl (kp [0, 1, 2, 4, 5, 12]) [] _ _ _ (by simp [Tryz.f111]) (by simp) ?_
  ((conv => whnf); repeat' ((first | (intro hq; (try simp only [lnS] at hq); (try rewrite [List.length_map])) | refine sJ ?_ | refine Exists.intro _ (And.intro rfl ?_) | (refine Exists.intro (show (_ : Nat) < List.length _ from by first | omega | (simp only [List.length_cons, List.length_nil]; omega) | simp) ?_) | (refine call_tri [] p1 trivial (fun r hs => ?_); subst hs) | (refine call_tri [] p2 trivial (fun r hs => ?_); subst hs) | refine draw_rule hty (by kernel_rfl) (by kernel_rfl) ?_ | ((first | refine brB_dec (fun hb => ?_) (fun hb => ?_) | refine brB_ndec (fun hb => ?_) (fun hb => ?_)) <;> (first | contradiction | ((try simp only [lnS] at hb); (first | (exfalso; omega) | skip)))) | (refine brB_split (fun hb => ?_) (fun hb => ?_) <;> (first | contradiction | exact absurd (hb.symm.trans (by assumption) : false = true) (by decide) | exact absurd (hb.symm.trans (by assumption) : true = false) (by decide) | skip))) <;> (conv => whnf)))
  all_goals (refine bool_eq (Eq.symm ?_); simp_all)

theorem fieldsE_ref (c : Cn) : fieldsE c = if shapeF c = false then 21 else if namedC c = false then 20 else 0 := by
  by_cases h : c.kind < 1 ∨ 7 < c.kind
  · have e : shapeF c = false := by
      unfold shapeF
      rw [if_neg (by omega), if_neg (by omega), if_neg (by omega), if_neg (by omega), if_neg (by omega)]
    rw [e, if_pos rfl, fieldsE, if_pos h]
  · have hk : c.kind = 1 ∨ c.kind = 2 ∨ c.kind = 3 ∨ c.kind = 4 ∨ c.kind = 5 ∨ c.kind = 6 ∨ c.kind = 7 := by omega
    have hE : fieldsE c = fieldsN (needAt c.kind) c := by rw [fieldsE, if_neg h]
    rw [hE]
    clear hE h
    have n1 : needAt 1 = ⟨0, 0, 0, false⟩ := rfl
    have n2 : needAt 2 = ⟨0, 0, 0, false⟩ := rfl
    have n3 : needAt 3 = ⟨1, 0, 0, false⟩ := rfl
    have n4 : needAt 4 = ⟨2, 0, 0, false⟩ := rfl
    have n5 : needAt 5 = ⟨0, 2, 8, false⟩ := rfl
    have n6 : needAt 6 = ⟨1, 1, 1, false⟩ := rfl
    have n7 : needAt 7 = ⟨1, 0, 0, true⟩ := rfl
    unfold shapeF namedC fieldsN nameE nameF
    generalize c.parts.length = m
    rcases hk with hk | hk | hk | hk | hk | hk | hk <;> rw [hk] <;> simp only [n1, n2, n3, n4, n5, n6, n7]
    all_goals
      cases plainF c.name <;> cases resF c.name <;> simp
      all_goals (repeat' split) <;> simp_all <;> omega

theorem firstE_app : ∀ (l m : List Cn), firstE (l ++ m) = if firstE l ≠ 0 then firstE l else firstE m
  | [], m => by simp [firstE]
  | x :: r, m => by
    rw [List.cons_append, firstE, firstE, firstE_app r m]
    split <;> rfl

mutual
theorem fitsF_size' : ∀ (c : Cn) (d n : Int), (fitsF c d n).1 = true → (fitsF c d n).2 = n + (sizeF c : Nat)
  | .mk k s lo hi ps, d, n => by
    have e : sizeF (.mk k s lo hi ps) = (nodesL ps).length + 1 := sizeF_eq _
    rw [fitsF, e]
    split
    · intro h; exact absurd h (by simp)
    · intro h
      rw [fitsL_size' ps d (n + 1) h]; omega
theorem fitsL_size' : ∀ (l : List Cn) (d n : Int), (fitsL l d n).1 = true → (fitsL l d n).2 = n + ((nodesL l).length : Nat)
  | [], d, n => by intro _; rw [fitsL, nodesL]; simp
  | c :: r, d, n => by
    have h1 := fitsF_size' c (d + 1) n
    have e : (nodesL (c :: r)).length = sizeF c + (nodesL r).length := by rw [nodesL, List.length_append]; rfl
    rw [fitsL, e]
    split
    · rename_i hb
      intro h
      rw [fitsL_size' r d _ h, h1 hb]; omega
    · intro h; exact absurd h (by simp)
end

mutual
theorem fitsF_iff' : ∀ (c : Cn) (d n : Int), ((fitsF c d n).1 = true ↔ d + depthF c ≤ 8 ∧ n + sizeF c ≤ 64)
  | .mk k s lo hi ps, d, n => by
    have e : sizeF (.mk k s lo hi ps) = (nodesL ps).length + 1 := sizeF_eq _
    rw [fitsF, depthF, e]
    split
    · rename_i h
      simp only [Bool.false_eq_true, false_iff]
      omega
    · rename_i h
      rw [fitsL_iff' ps d (n + 1) (by omega) (by omega)]
      omega
theorem fitsL_iff' : ∀ (l : List Cn) (d n : Int), d ≤ 8 → n ≤ 64 → ((fitsL l d n).1 = true ↔ d + depthL l ≤ 8 ∧ n + (nodesL l).length ≤ 64)
  | [], d, n, hd, hn => by
    rw [fitsL, depthL, nodesL]
    simp only [true_iff, List.length_nil]
    omega
  | c :: r, d, n, hd, hn => by
    have h1 := fitsF_iff' c (d + 1) n
    have h2 := fitsF_size' c (d + 1) n
    have e : (nodesL (c :: r)).length = sizeF c + (nodesL r).length := by rw [nodesL, List.length_append]; rfl
    rw [fitsL, depthL, e]
    split
    · rename_i hb
      rw [hb] at h1
      have h1 := h1.1 rfl
      rw [h2 hb, fitsL_iff' r d _ hd (by omega)]
      omega
    · rename_i hb
      have h1 : ¬ (d + 1 + depthF c ≤ 8 ∧ n + sizeF c ≤ 64) := fun h => hb (h1.2 h)
      simp only [Bool.false_eq_true, false_iff]
      omega
end

theorem conceptE_if (c : Cn) : conceptE c = if 8 < depthF c ∨ 64 < sizeF c then 21 else firstE (nodes c) := by
  have h := fitsF_iff' c 0 0
  unfold conceptE
  split
  · rename_i hf
    rw [hf] at h
    rw [if_pos]
    have h : ¬ ((0 : Int) + depthF c ≤ 8 ∧ (0 : Int) + sizeF c ≤ 64) := fun h' => absurd (h.2 h') (by decide)
    omega
  · rename_i hf
    have hf : (fitsF c 0 0).1 = true := by simpa using hf
    have h1 := h.1 hf
    rw [if_neg]
    omega

set_option maxHeartbeats 4000000 in
theorem rWalk_spec : ∀ (c : Cn), Tri Tryz.prog 88 [.d (.agg (cnR c))] [] (fun r => r = .d (.int .i64 (firstE (nodes c)))) := by
  refine Cn.ind ?_
  intro c ih
  have h1 := rShape_spec c
  have h2 := rNamed_spec c
  rw [nodes_eq, firstE, fieldsE_ref]
  rw [cnR_eq] at h1 h2 ⊢
  generalize shapeF c = b1 at *
  generalize namedC c = b2 at *
  refine tri_of_bodyF false [1] hty Tryz.func88 rfl (kp [0, 1, 2, 3, 4, 7, 10, 15, 25]) [] _ _ _ (by simp [Tryz.f88]) (by simp) ?_
  ((conv => whnf); repeat' ((first | (intro hq; (try simp only [lnS] at hq); (try rewrite [List.length_map])) | refine sJ ?_ | refine Exists.intro _ (And.intro rfl ?_) | (refine Exists.intro (show (_ : Nat) < List.length _ from by first | omega | (simp only [List.length_cons, List.length_nil]; omega) | simp) ?_) | (refine call_tri [] h1 trivial (fun r hs => ?_); subst hs) | (refine call_tri [] h2 trivial (fun r hs => ?_); subst hs) | refine draw_rule hty (by kernel_rfl) (by kernel_rfl) ?_ | ((first | refine brB_dec (fun hb => ?_) (fun hb => ?_) | refine brB_ndec (fun hb => ?_) (fun hb => ?_)) <;> (first | contradiction | ((try simp only [lnS] at hb); (first | (exfalso; omega) | skip)))) | (refine brB_split (fun hb => ?_) (fun hb => ?_) <;> (first | contradiction | exact absurd (hb.symm.trans (by assumption) : false = true) (by decide) | exact absurd (hb.symm.trans (by assumption) : true = false) (by decide) | skip))) <;> (conv => whnf)))
  · subst_vars; simp_all; rfl
  · subst_vars; simp_all; rfl
  · have e1 : b1 = true := by simpa using (by assumption : (!b1) = false)
    have e2 : b2 = true := by simpa using (by assumption : (!b2) = false)
    subst e1; subst e2
    rw [if_neg (by simp)]
    refine loop_rule hty (fun j : Nat => ([(1, .ea 5 [[.int .i64 c.kind, .str c.name, .int .i64 c.lo, .int .i64 c.hi, .sl 5 (c.parts.map cnR)]] 0 0), (2, .d (.int .i64 0)), (3, .d (.int .i64 j))], [])) (fun j => j ≤ c.parts.length ∧ firstE (nodesL c.parts) = firstE (nodesL (c.parts.drop j))) (fun j => c.parts.length - j) 0 ⟨by omega, rfl⟩ ⟨by repeat' (first | exact trivial | exact rfl | exact ⟨rfl, rfl⟩ | refine And.intro ?_ ?_), trivial⟩ ?_
    rintro j ⟨hj, hn⟩
    ((conv => whnf); repeat ((first | (intro hq; try simp only [lnS] at hq) | refine sI ?_ | refine Exists.intro _ (And.intro rfl ?_)); (conv => whnf)))
    refine brB_dec (fun h1 => ?_) (fun h1 => ?_)
    · have hjl : j < c.parts.length := by simp only [List.length_map] at h1; omega
      have hrow' : (c.parts.map cnR)[(j : Int).toNat]? = some (cnR c.parts[j]) := rowC_at hjl
      have hi := ih c.parts[j] (List.getElem_mem hjl)
      rw [List.drop_eq_getElem_cons hjl, nodesL, firstE_app] at hn
      generalize c.parts[j] = x at hrow' hi hn
      rw [cnR_eq] at hrow' hi
      ((conv => whnf); repeat' ((first | (intro hq; (try simp only [lnS] at hq); (try rewrite [List.length_map])) | refine sJ ?_ | refine Exists.intro _ (And.intro rfl ?_) | (refine Exists.intro (show (_ : Nat) < List.length _ from by first | omega | (simp only [List.length_cons, List.length_nil]; omega) | simp) ?_) | (refine ⟨_, hrow', ?_⟩) | (refine call_tri [] hi trivial (fun r hs => ?_); subst hs) | refine draw_rule hty (by kernel_rfl) (by kernel_rfl) ?_ | ((first | refine brB_dec (fun hb => ?_) (fun hb => ?_) | refine brB_ndec (fun hb => ?_) (fun hb => ?_)) <;> (first | contradiction | ((try simp only [lnS] at hb); (first | (exfalso; omega) | skip)))) | (refine brB_split (fun hb => ?_) (fun hb => ?_) <;> (first | contradiction | exact absurd (hb.symm.trans (by assumption) : false = true) (by decide) | exact absurd (hb.symm.trans (by assumption) : true = false) (by decide) | skip))) <;> (conv => whnf)))
      · rw [if_pos (by assumption)] at hn
        exact int_eq hn.symm
      · rw [if_neg (by simpa using (by assumption : firstE (nodes x) = 0))] at hn
        exact ⟨j + 1, ⟨by omega, hn⟩, by dsimp only; omega, by repeat' (first | exact trivial | exact rfl | refine And.intro ?_ ?_), trivial⟩
    · have hjl : j = c.parts.length := by simp only [List.length_map] at h1; omega
      subst hjl
      rw [List.drop_length] at hn
      ((conv => whnf); repeat' ((first | (intro hq; (try simp only [lnS] at hq); (try rewrite [List.length_map])) | refine sJ ?_ | refine Exists.intro _ (And.intro rfl ?_) | (refine Exists.intro (show (_ : Nat) < List.length _ from by first | omega | (simp only [List.length_cons, List.length_nil]; omega) | simp) ?_) | fail | refine draw_rule hty (by kernel_rfl) (by kernel_rfl) ?_ | ((first | refine brB_dec (fun hb => ?_) (fun hb => ?_) | refine brB_ndec (fun hb => ?_) (fun hb => ?_)) <;> (first | contradiction | ((try simp only [lnS] at hb); (first | (exfalso; omega) | skip)))) | (refine brB_split (fun hb => ?_) (fun hb => ?_) <;> (first | contradiction | exact absurd (hb.symm.trans (by assumption) : false = true) (by decide) | exact absurd (hb.symm.trans (by assumption) : true = false) (by decide) | skip))) <;> (conv => whnf)))
      exact int_eq hn.symm

set_option maxHeartbeats 4000000 in
theorem rDepth_spec : ∀ (c : Cn) (_ : sizeF c ≤ 1000000), Tri Tryz.prog 87 [.d (.agg (cnR c))] [] (fun r => r = .d (.int .i64 (depthF c))) := by
  refine Cn.ind ?_
  intro c ih hs
  rw [cnR_eq, depthF_eq]
  refine tri_of_bodyF false [1] hty Tryz.func87 rfl (kp [0, 1, 2, 3, 4, 9]) [] _ _ _ (by simp [Tryz.f87]) (by simp) ?_
  ((conv => whnf); repeat ((first | (intro hq; try simp only [lnS] at hq) | refine sI ?_ | refine Exists.intro _ (And.intro rfl ?_)); (conv => whnf)))
  refine loop_rule hty (fun j : Nat => ([(1, .ea 5 [[.int .i64 c.kind, .str c.name, .int .i64 c.lo, .int .i64 c.hi, .sl 5 (c.parts.map cnR)]] 0 0), (3, .d (.int .i64 (depthL (c.parts.take j) : Nat))), (4, .d (.int .i64 j))], [])) (fun j => j ≤ c.parts.length) (fun j => c.parts.length - j) 0 (by omega) ⟨by repeat' (first | exact trivial | exact rfl | exact ⟨rfl, rfl⟩ | refine And.intro ?_ ?_), trivial⟩ ?_
  intro j hj
  ((conv => whnf); repeat ((first | (intro hq; try simp only [lnS] at hq) | refine sI ?_ | refine Exists.intro _ (And.intro rfl ?_)); (conv => whnf)))
  refine brB_dec (fun h1 => ?_) (fun h1 => ?_)
  · have hjl : j < c.parts.length := by simp only [List.length_map] at h1; omega
    have hrow' : (c.parts.map cnR)[(j : Int).toNat]? = some (cnR c.parts[j]) := rowC_at hjl
    have hi := ih c.parts[j] (List.getElem_mem hjl) (by have := sizeF_part (List.getElem_mem (l := c.parts) hjl); omega)
    have hd1 := depth_size c.parts[j]
    have hd2 := sizeF_part (List.getElem_mem (l := c.parts) hjl)
    rw [cnR_eq] at hrow' hi
    ((conv => whnf); repeat' ((first | (intro hq; (try simp only [lnS] at hq); (try rewrite [List.length_map])) | refine sJ ?_ | refine Exists.intro _ (And.intro rfl ?_) | (refine Exists.intro (show (_ : Nat) < List.length _ from by first | omega | (simp only [List.length_cons, List.length_nil]; omega) | simp) ?_) | (refine ⟨_, hrow', ?_⟩) | (refine call_tri [] hi trivial (fun r hs => ?_); subst hs) | (refine max_ints rfl rfl rfl ?_) | refine draw_rule hty (by kernel_rfl) (by kernel_rfl) ?_ | ((first | refine brB_dec (fun hb => ?_) (fun hb => ?_) | refine brB_ndec (fun hb => ?_) (fun hb => ?_)) <;> (first | contradiction | ((try simp only [lnS] at hb); (first | (exfalso; omega) | skip)))) | (refine brB_split (fun hb => ?_) (fun hb => ?_) <;> (first | contradiction | exact absurd (hb.symm.trans (by assumption) : false = true) (by decide) | exact absurd (hb.symm.trans (by assumption) : true = false) (by decide) | skip))) <;> (conv => whnf)))
    refine ⟨j + 1, by dsimp only; omega, by dsimp only; omega, ⟨?_, trivial⟩⟩
    dsimp only
    rw [depthL_take hjl]
    repeat' (first | exact trivial | exact rfl | exact wkInt6 (by omega) | exact ⟨rfl, rfl⟩ | refine And.intro ?_ ?_)
  · have hjl : j = c.parts.length := by simp only [List.length_map] at h1; omega
    subst hjl
    rw [List.take_length]
    ((conv => whnf); repeat' ((first | (intro hq; (try simp only [lnS] at hq); (try rewrite [List.length_map])) | refine sJ ?_ | refine Exists.intro _ (And.intro rfl ?_) | (refine Exists.intro (show (_ : Nat) < List.length _ from by first | omega | (simp only [List.length_cons, List.length_nil]; omega) | simp) ?_) | fail | refine draw_rule hty (by kernel_rfl) (by kernel_rfl) ?_ | ((first | refine brB_dec (fun hb => ?_) (fun hb => ?_) | refine brB_ndec (fun hb => ?_) (fun hb => ?_)) <;> (first | contradiction | ((try simp only [lnS] at hb); (first | (exfalso; omega) | skip)))) | (refine brB_split (fun hb => ?_) (fun hb => ?_) <;> (first | contradiction | exact absurd (hb.symm.trans (by assumption) : false = true) (by decide) | exact absurd (hb.symm.trans (by assumption) : true = false) (by decide) | skip))) <;> (conv => whnf)))
    rfl

set_option maxHeartbeats 4000000 in
theorem rCheckConcept_spec (c : Cn) (hs : sizeF c ≤ 1000000) : Tri Tryz.prog 71 [.d (.agg (cnR c))] [] (fun r => r = .d (.int .i64 (conceptE c))) := by
  have h1 := rDepth_spec c hs
  have h2 := rSize_spec c hs
  have h3 := rWalk_spec c
  have hc := conceptE_if c
  rw [hc]
  rw [cnR_eq] at h1 h2 h3 ⊢
  clear hc
  have hd := depth_size c
  generalize firstE (nodes c) = e at *
  generalize depthF c = d at *
  generalize sizeF c = z at *
  refine tri_of_bodyF false [1] hty Tryz.func71 rfl (kp [0, 1, 2, 10]) [] _ _ _ (by simp [Tryz.f71]) (by simp) ?_
  ((conv => whnf); repeat' ((first | (intro hq; (try simp only [lnS] at hq); (try rewrite [List.length_map])) | refine sJ ?_ | refine Exists.intro _ (And.intro rfl ?_) | (refine Exists.intro (show (_ : Nat) < List.length _ from by first | omega | (simp only [List.length_cons, List.length_nil]; omega) | simp) ?_) | (refine call_tri [] h1 trivial (fun r hs => ?_); subst hs) | (refine call_tri [] h2 trivial (fun r hs => ?_); subst hs) | (refine call_tri [] h3 trivial (fun r hs => ?_); subst hs) | refine draw_rule hty (by kernel_rfl) (by kernel_rfl) ?_ | ((first | refine brB_dec (fun hb => ?_) (fun hb => ?_) | refine brB_ndec (fun hb => ?_) (fun hb => ?_)) <;> (first | contradiction | ((try simp only [lnS] at hb); (first | (exfalso; omega) | skip)))) | (refine brB_split (fun hb => ?_) (fun hb => ?_) <;> (first | contradiction | exact absurd (hb.symm.trans (by assumption) : false = true) (by decide) | exact absurd (hb.symm.trans (by assumption) : true = false) (by decide) | skip))) <;> (conv => whnf)))
  all_goals (first | (rw [if_neg (by omega)]; rfl) | (rw [if_pos (by omega)]; rfl))
end Go.Proofs.YtkbmlchceiglfaaGreatDoor

namespace Go.Proofs.YtkbmlchceiglfaaGreatDoor
set_option linter.unnecessarySimpa false
set_option linter.unusedSectionVars false
set_option linter.unusedSimpArgs false
set_option linter.unusedVariables false
open Go.Proofs
set_option maxRecDepth 10000
attribute [local irreducible] SemVC CallVC Tri Stuck YVC GenP GenVC

theorem okn_leaf {c : Cn} (h : Okn c) (h5 : c.kind ≠ 5) (h6 : c.kind ≠ 6) : c.parts = [] := by
  have hf := ((okn_iff c).1 h).1
  have hk : 1 ≤ c.kind ∧ c.kind ≤ 7 := by
    unfold fieldsE at hf
    split at hf
    · exact absurd hf (by decide)
    · omega
  rw [fieldsE_ref] at hf
  have hs : shapeF c = true := by
    cases e : shapeF c
    · rw [e, if_pos rfl] at hf; exact absurd hf (by decide)
    · rfl
  unfold shapeF at hs
  have hl : c.parts.length = 0 := by
    rw [if_neg h5, if_neg h6] at hs
    by_cases k1 : c.kind = 1 ∨ c.kind = 2
    · rw [if_pos k1] at hs; simp only [Bool.and_eq_true, decide_eq_true_eq] at hs; omega
    · rw [if_neg k1] at hs
      by_cases k2 : c.kind = 3 ∨ c.kind = 4
      · rw [if_pos k2] at hs; simp only [Bool.and_eq_true, decide_eq_true_eq] at hs; omega
      · rw [if_neg k2] at hs
        by_cases k3 : c.kind = 7
        · rw [if_pos k3] at hs; simp only [Bool.and_eq_true, decide_eq_true_eq] at hs; omega
        · omega
  exact List.eq_nil_of_length_eq_zero hl

set_option maxHeartbeats 4000000 in
theorem rBare_spec : ∀ (c : Cn) (_ : Okn c), Tri Tryz.prog 72 [.d (.agg (cnR c))] [] (fun r => r = .d (.bool (bareF c))) := by
  refine Cn.ind ?_
  intro c ih hok
  have hp := ((okn_iff c).1 hok).2
  have hB : bareF c = if c.kind = 4 then true else if c.kind = 6 then false else bareL c.parts := by
    rw [bareF_eq']
    by_cases h4 : c.kind = 4
    · rw [if_pos h4, if_pos h4]
    · rw [if_neg h4, if_neg h4]
      by_cases h5 : c.kind = 5
      · rw [if_pos h5, if_neg (by omega)]
      · rw [if_neg h5]
        by_cases h6 : c.kind = 6
        · rw [if_pos h6]
        · rw [if_neg h6, okn_leaf hok h5 h6]; rfl
  rw [hB]
  clear hB hok
  rw [cnR_eq]
  refine tri_of_bodyF false [1] hty Tryz.func72 rfl (kp [0, 1, 2, 3, 6, 9, 14, 22]) [] _ _ _ (by simp [Tryz.f72]) (by simp) ?_
  ((conv => whnf); repeat' ((first | (intro hq; (try simp only [lnS] at hq); (try rewrite [List.length_map])) | refine sJ ?_ | refine Exists.intro _ (And.intro rfl ?_) | (refine Exists.intro (show (_ : Nat) < List.length _ from by first | omega | (simp only [List.length_cons, List.length_nil]; omega) | simp) ?_) | fail | refine draw_rule hty (by kernel_rfl) (by kernel_rfl) ?_ | ((first | refine brB_dec (fun hb => ?_) (fun hb => ?_) | refine brB_ndec (fun hb => ?_) (fun hb => ?_)) <;> (first | contradiction | ((try simp only [lnS] at hb); (first | (exfalso; omega) | skip)))) | (refine brB_split (fun hb => ?_) (fun hb => ?_) <;> (first | contradiction | exact absurd (hb.symm.trans (by assumption) : false = true) (by decide) | exact absurd (hb.symm.trans (by assumption) : true = false) (by decide) | skip))) <;> (conv => whnf)))
  · rw [if_pos (by assumption)]; rfl
  · rw [if_neg (by assumption), if_pos (by assumption)]; rfl
  · rw [if_neg (by assumption), if_neg (by assumption)]
    refine loop_rule hty (fun j : Nat => ([(1, .ea 5 [[.int .i64 c.kind, .str c.name, .int .i64 c.lo, .int .i64 c.hi, .sl 5 (c.parts.map cnR)]] 0 0), (2, .d (.bool false)), (3, .d (.int .i64 j))], [])) (fun j => j ≤ c.parts.length ∧ bareL c.parts = bareL (c.parts.drop j)) (fun j => c.parts.length - j) 0 ⟨by omega, rfl⟩ ⟨by repeat' (first | exact trivial | exact rfl | exact ⟨rfl, rfl⟩ | refine And.intro ?_ ?_), trivial⟩ ?_
    rintro j ⟨hj, hn⟩
    ((conv => whnf); repeat ((first | (intro hq; try simp only [lnS] at hq) | refine sI ?_ | refine Exists.intro _ (And.intro rfl ?_)); (conv => whnf)))
    refine brB_dec (fun h1 => ?_) (fun h1 => ?_)
    · have hjl : j < c.parts.length := by simp only [List.length_map] at h1; omega
      have hrow' : (c.parts.map cnR)[(j : Int).toNat]? = some (cnR c.parts[j]) := rowC_at hjl
      have hi := ih c.parts[j] (List.getElem_mem hjl) (hp _ (List.getElem_mem hjl))
      rw [List.drop_eq_getElem_cons hjl, bareL] at hn
      generalize c.parts[j] = x at hrow' hi hn
      rw [cnR_eq] at hrow' hi
      generalize bareF x = b at hi hn
      ((conv => whnf); repeat' ((first | (intro hq; (try simp only [lnS] at hq); (try rewrite [List.length_map])) | refine sJ ?_ | refine Exists.intro _ (And.intro rfl ?_) | (refine Exists.intro (show (_ : Nat) < List.length _ from by first | omega | (simp only [List.length_cons, List.length_nil]; omega) | simp) ?_) | (refine ⟨_, hrow', ?_⟩) | (refine call_tri [] hi trivial (fun r hs => ?_); subst hs) | refine draw_rule hty (by kernel_rfl) (by kernel_rfl) ?_ | ((first | refine brB_dec (fun hb => ?_) (fun hb => ?_) | refine brB_ndec (fun hb => ?_) (fun hb => ?_)) <;> (first | contradiction | ((try simp only [lnS] at hb); (first | (exfalso; omega) | skip)))) | (refine brB_split (fun hb => ?_) (fun hb => ?_) <;> (first | contradiction | exact absurd (hb.symm.trans (by assumption) : false = true) (by decide) | exact absurd (hb.symm.trans (by assumption) : true = false) (by decide) | skip))) <;> (conv => whnf)))
      · rw [if_pos (by assumption)] at hn
        exact bool_eq hn.symm
      · rw [if_neg (by rw [(by assumption : b = false)]; decide)] at hn
        exact ⟨j + 1, ⟨by omega, hn⟩, by dsimp only; omega, by repeat' (first | exact trivial | exact rfl | refine And.intro ?_ ?_), trivial⟩
    · have hjl : j = c.parts.length := by simp only [List.length_map] at h1; omega
      subst hjl
      rw [List.drop_length] at hn
      ((conv => whnf); repeat' ((first | (intro hq; (try simp only [lnS] at hq); (try rewrite [List.length_map])) | refine sJ ?_ | refine Exists.intro _ (And.intro rfl ?_) | (refine Exists.intro (show (_ : Nat) < List.length _ from by first | omega | (simp only [List.length_cons, List.length_nil]; omega) | simp) ?_) | fail | refine draw_rule hty (by kernel_rfl) (by kernel_rfl) ?_ | ((first | refine brB_dec (fun hb => ?_) (fun hb => ?_) | refine brB_ndec (fun hb => ?_) (fun hb => ?_)) <;> (first | contradiction | ((try simp only [lnS] at hb); (first | (exfalso; omega) | skip)))) | (refine brB_split (fun hb => ?_) (fun hb => ?_) <;> (first | contradiction | exact absurd (hb.symm.trans (by assumption) : false = true) (by decide) | exact absurd (hb.symm.trans (by assumption) : true = false) (by decide) | skip))) <;> (conv => whnf)))
      exact bool_eq hn.symm

theorem rEmpty_spec (c : Cn) : Tri Tryz.prog 68 [.d (.agg (cnR c))] [] (fun r => r = .d (.bool (emptyF c))) := by
  rw [cnR_eq]
  have hE : emptyF c = (decide (c.kind = 0) && (decide (c.name = []) && (decide (c.lo = 0) && (decide (c.hi = 0) && decide (c.parts.length = 0))))) := by
    unfold emptyF
    congr 4
    simp [List.length_eq_zero_iff]
  rw [hE]
  clear hE
  refine tri_of_bodyF false [1] hty Tryz.func68 rfl (kp [0, 1, 2]) [] _ _ _ (by simp [Tryz.f68]) (by simp) ?_
  ((conv => whnf); repeat' ((first | (intro hq; (try simp only [lnS] at hq); (try rewrite [List.length_map])) | refine sJ ?_ | refine Exists.intro _ (And.intro rfl ?_) | (refine Exists.intro (show (_ : Nat) < List.length _ from by first | omega | (simp only [List.length_cons, List.length_nil]; omega) | simp) ?_) | fail | refine draw_rule hty (by kernel_rfl) (by kernel_rfl) ?_ | ((first | refine brB_dec (fun hb => ?_) (fun hb => ?_) | refine brB_ndec (fun hb => ?_) (fun hb => ?_)) <;> (first | contradiction | ((try simp only [lnS] at hb); (first | (exfalso; omega) | skip)))) | (refine brB_split (fun hb => ?_) (fun hb => ?_) <;> (first | contradiction | exact absurd (hb.symm.trans (by assumption) : false = true) (by decide) | exact absurd (hb.symm.trans (by assumption) : true = false) (by decide) | skip))) <;> (conv => whnf)))
  all_goals (refine bool_eq (Eq.symm ?_); simp_all <;> first | omega | (rw [Bool.eq_iff_iff]; simp <;> omega))

theorem use_out {k : Int} (h : k < 1 ∨ 9 < k) : useAt k = ⟨false, false, false, false, false, 0, 0⟩ := by
  unfold useAt
  rcases h with h | h
  · rw [show k.toNat = 0 by omega]; rfl
  · rw [List.getD, List.getElem?_eq_none (show uses.length ≤ k.toNat by show 10 ≤ k.toNat; omega)]; rfl

def useT (u : Use) : SV := .tup [.d (.bool u.left), .d (.bool u.right), .d (.bool u.role), .d (.bool u.a), .d (.bool u.b), .d (.int .i64 u.least), .d (.int .i64 u.most)]

set_option maxHeartbeats 4000000 in
theorem rFields_spec (k : Int) : Tri Tryz.prog 67 [.d (.int .i64 k)] [] (fun r => r = useT (useAt k)) := by
  refine tri_of_bodyF false [] hty Tryz.func67 rfl (kp [0, 2, 3, 4, 5, 6, 7, 8, 9, 10, 14, 16, 18, 20, 22, 24]) [] _ _ _ (by simp [Tryz.f67]) (by simp) ?_
  ((conv => whnf); repeat' ((first | (intro hq; (try simp only [lnS] at hq); (try rewrite [List.length_map])) | refine sJ ?_ | refine Exists.intro _ (And.intro rfl ?_) | (refine Exists.intro (show (_ : Nat) < List.length _ from by first | omega | (simp only [List.length_cons, List.length_nil]; omega) | simp) ?_) | fail | refine draw_rule hty (by kernel_rfl) (by kernel_rfl) ?_ | ((first | refine brB_dec (fun hb => ?_) (fun hb => ?_) | refine brB_ndec (fun hb => ?_) (fun hb => ?_)) <;> (first | contradiction | ((try simp only [lnS] at hb); (first | (exfalso; omega) | skip)))) | (refine brB_split (fun hb => ?_) (fun hb => ?_) <;> (first | contradiction | exact absurd (hb.symm.trans (by assumption) : false = true) (by decide) | exact absurd (hb.symm.trans (by assumption) : true = false) (by decide) | skip))) <;> (conv => whnf)))
  all_goals first
    | (subst_vars; rfl)
    | (rw [use_out (by omega)]; rfl)
end Go.Proofs.YtkbmlchceiglfaaGreatDoor
