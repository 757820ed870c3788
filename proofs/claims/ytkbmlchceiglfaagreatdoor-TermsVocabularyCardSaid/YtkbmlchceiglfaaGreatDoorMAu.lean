/-
  Terms: has, within of the law; FewAxioms of the reference.
  Conditions: none.
-/
import Derived.Test.YtkbmlchceiglfaaGreatDoorMBp
import Derived.Test.YtkbmlchceiglfaaGreatDoorMAc
namespace Go.Proofs.YtkbmlchceiglfaaGreatDoor
set_option linter.unnecessarySimpa false
set_option linter.unusedSectionVars false
set_option linter.unusedSimpArgs false
set_option linter.unusedVariables false
open Go.Proofs
set_option maxRecDepth 10000
attribute [local irreducible] SemVC CallVC Tri Stuck YVC GenP GenVC

set_option maxHeartbeats 4000000 in
theorem has_spec (l : List (List UInt8)) (s : List UInt8) : Tri Tryz.prog 53 [.d (strl l), .d (.str s)] [] (fun r => r = .d (.bool (decide (s ∈ l)))) := by
  refine tri_of_body hty Tryz.func53 rfl (kp [0, 1, 4, 5, 9, 17]) [] _ _ _ (by simp [Tryz.f53]) (by simp) ?_
  ((conv => whnf); repeat' ((first | (intro hq; (try simp only [lnS] at hq); (try rewrite [List.length_map])) | (refine And.intro (by first | exact rfl | exact trivial | exact fresh_of (by with_unfolding_all exact rfl) | exact List.cons_ne_nil _ _ | exact leaf_of rfl | exact unb_sub _ _ _ | exact Nat.le_of_ble_eq_true rfl | exact notMem_of (by with_unfolding_all exact rfl) | omega | (rw [unb_map]) | exact byte_lt _ | (simp only [lnS, Int.toNat_natCast]; omega) | (simp only [lnS, Int.toNat_natCast] at *; omega) | (show eqOK _ _ = true; kernel_rfl) | (rw [List.length_append]; exact rfl) | (simp only [List.length_map, List.length_append]; exact rfl)) ?_) | (refine Exists.intro _ (And.intro rfl ?_)) | (refine Exists.intro (show (_ : Nat) < List.length _ from by first | omega | (simp only [List.length_cons, List.length_nil]; omega) | simp) ?_) | fail | (refine draw_rule hty (by kernel_rfl) (by kernel_rfl) ?_) | (refine brB_dec (fun hb => ?_) (fun hb => ?_) <;> (first | contradiction | ((try simp only [lnS] at hb); (first | (exfalso; omega) | skip)))) | (refine brB_ndec (fun hb => ?_) (fun hb => ?_) <;> (first | contradiction | ((try simp only [lnS] at hb); (first | (exfalso; omega) | skip)))) | (refine brB_split (fun hb => ?_) (fun hb => ?_) <;> (first | contradiction | exact absurd (hb.symm.trans (by assumption) : false = true) (by decide) | exact absurd (hb.symm.trans (by assumption) : true = false) (by decide) | skip))) <;> (conv => whnf)))
  refine loop_rule hty (fun j : Nat => ([(0, .d (strl l)), (1, .d (.str s)), (4, .d (.bool false)), (5, .d (.int .i64 j))], [])) (fun j => j ≤ l.length ∧ decide (s ∈ l) = decide (s ∈ l.drop j)) (fun j => l.length - j) 0 ⟨by omega, rfl⟩ ⟨by repeat' (first | exact trivial | exact rfl | (rw [List.length_map]; exact rfl) | refine And.intro ?_ ?_), trivial⟩ ?_
  rintro j ⟨hj, hn⟩
  ((conv => whnf); repeat ((first | (intro hq; try simp only [lnS] at hq) | (refine And.intro (by first | exact rfl | exact trivial | exact fresh_of (by with_unfolding_all exact rfl) | exact List.cons_ne_nil _ _ | exact leaf_of rfl | exact unb_sub _ _ _ | exact Nat.le_of_ble_eq_true rfl | exact notMem_of (by with_unfolding_all exact rfl) | omega | (rw [unb_map]) | exact byte_lt _ | (simp only [lnS, Int.toNat_natCast]; omega) | (simp only [lnS, Int.toNat_natCast] at *; omega)) ?_) | (refine Exists.intro _ (And.intro rfl ?_))); (conv => whnf)))
  refine brB_dec (fun h1 => ?_) (fun h1 => ?_)
  · have hjl : j < l.length := by simp only [List.length_map] at h1; omega
    have hrow : (l.map strR)[(j : Int).toNat]? = some (strR l[j]) := rowC_at hjl
    rw [List.drop_eq_getElem_cons hjl] at hn
    generalize l[j] = x at hrow hn
    ((conv => whnf); repeat' ((first | (intro hq; (try simp only [lnS] at hq); (try rewrite [List.length_map])) | (refine And.intro (by first | exact rfl | exact trivial | exact fresh_of (by with_unfolding_all exact rfl) | exact List.cons_ne_nil _ _ | exact leaf_of rfl | exact unb_sub _ _ _ | exact Nat.le_of_ble_eq_true rfl | exact notMem_of (by with_unfolding_all exact rfl) | omega | (rw [unb_map]) | exact byte_lt _ | (simp only [lnS, Int.toNat_natCast]; omega) | (simp only [lnS, Int.toNat_natCast] at *; omega) | (show eqOK _ _ = true; kernel_rfl) | (rw [List.length_append]; exact rfl) | (simp only [List.length_map, List.length_append]; exact rfl)) ?_) | (refine Exists.intro _ (And.intro rfl ?_)) | (refine Exists.intro (show (_ : Nat) < List.length _ from by first | omega | (simp only [List.length_cons, List.length_nil]; omega) | simp) ?_) | (refine ⟨_, hrow, ?_⟩) | (refine draw_rule hty (by kernel_rfl) (by kernel_rfl) ?_) | (refine brB_dec (fun hb => ?_) (fun hb => ?_) <;> (first | contradiction | ((try simp only [lnS] at hb); (first | (exfalso; omega) | skip)))) | (refine brB_ndec (fun hb => ?_) (fun hb => ?_) <;> (first | contradiction | ((try simp only [lnS] at hb); (first | (exfalso; omega) | skip)))) | (refine brB_split (fun hb => ?_) (fun hb => ?_) <;> (first | contradiction | exact absurd (hb.symm.trans (by assumption) : false = true) (by decide) | exact absurd (hb.symm.trans (by assumption) : true = false) (by decide) | skip))) <;> (conv => whnf)))
    · refine bool_eq (Eq.symm ?_)
      rw [hn]; simp_all
    · refine ⟨j + 1, ⟨by omega, ?_⟩, by dsimp only; omega, by repeat' (first | exact trivial | exact rfl | refine And.intro ?_ ?_), trivial⟩
      rw [hn]
      simp_all [eq_comm]
  · have hjl : j = l.length := by simp only [List.length_map] at h1; omega
    subst hjl
    ((conv => whnf); repeat' ((first | (intro hq; (try simp only [lnS] at hq); (try rewrite [List.length_map])) | (refine And.intro (by first | exact rfl | exact trivial | exact fresh_of (by with_unfolding_all exact rfl) | exact List.cons_ne_nil _ _ | exact leaf_of rfl | exact unb_sub _ _ _ | exact Nat.le_of_ble_eq_true rfl | exact notMem_of (by with_unfolding_all exact rfl) | omega | (rw [unb_map]) | exact byte_lt _ | (simp only [lnS, Int.toNat_natCast]; omega) | (simp only [lnS, Int.toNat_natCast] at *; omega) | (show eqOK _ _ = true; kernel_rfl) | (rw [List.length_append]; exact rfl) | (simp only [List.length_map, List.length_append]; exact rfl)) ?_) | (refine Exists.intro _ (And.intro rfl ?_)) | (refine Exists.intro (show (_ : Nat) < List.length _ from by first | omega | (simp only [List.length_cons, List.length_nil]; omega) | simp) ?_) | fail | (refine draw_rule hty (by kernel_rfl) (by kernel_rfl) ?_) | (refine brB_dec (fun hb => ?_) (fun hb => ?_) <;> (first | contradiction | ((try simp only [lnS] at hb); (first | (exfalso; omega) | skip)))) | (refine brB_ndec (fun hb => ?_) (fun hb => ?_) <;> (first | contradiction | ((try simp only [lnS] at hb); (first | (exfalso; omega) | skip)))) | (refine brB_split (fun hb => ?_) (fun hb => ?_) <;> (first | contradiction | exact absurd (hb.symm.trans (by assumption) : false = true) (by decide) | exact absurd (hb.symm.trans (by assumption) : true = false) (by decide) | skip))) <;> (conv => whnf)))
    refine bool_eq (Eq.symm ?_)
    rw [hn, List.drop_length]; simp

def fewL (l : List Ax) : Bool := l.all fewAx

set_option maxHeartbeats 4000000 in
theorem fewAxioms_spec (l : List Ax) (n : Int) (hl : ∀ x ∈ l, SzAx x) : Tri Tryz.prog 9 [.d (.sl 16 (l.map axR)), .d (.int .i64 n)] [] (fun r => r = .d (.bool (decide ((l.length : Int) ≤ n) && l.all fewAx))) := by
  refine tri_of_body hty Tryz.func9 rfl (kp [0, 1, 4, 5, 9, 13, 21]) [] _ _ _ (by simp [Tryz.f9]) (by simp) ?_
  ((conv => whnf); repeat' ((first | (intro hq; (try simp only [lnS] at hq); (try rewrite [List.length_map])) | (refine And.intro (by first | exact rfl | exact trivial | exact fresh_of (by with_unfolding_all exact rfl) | exact List.cons_ne_nil _ _ | exact leaf_of rfl | exact unb_sub _ _ _ | exact Nat.le_of_ble_eq_true rfl | exact notMem_of (by with_unfolding_all exact rfl) | omega | (rw [unb_map]) | exact byte_lt _ | (simp only [lnS, Int.toNat_natCast]; omega) | (simp only [lnS, Int.toNat_natCast] at *; omega) | (show eqOK _ _ = true; kernel_rfl) | (rw [List.length_append]; exact rfl) | (simp only [List.length_map, List.length_append]; exact rfl)) ?_) | (refine Exists.intro _ (And.intro rfl ?_)) | (refine Exists.intro (show (_ : Nat) < List.length _ from by first | omega | (simp only [List.length_cons, List.length_nil]; omega) | simp) ?_) | fail | (refine draw_rule hty (by kernel_rfl) (by kernel_rfl) ?_) | (refine brB_dec (fun hb => ?_) (fun hb => ?_) <;> (first | contradiction | ((try simp only [lnS] at hb); (first | (exfalso; omega) | skip)))) | (refine brB_ndec (fun hb => ?_) (fun hb => ?_) <;> (first | contradiction | ((try simp only [lnS] at hb); (first | (exfalso; omega) | skip)))) | (refine brB_split (fun hb => ?_) (fun hb => ?_) <;> (first | contradiction | exact absurd (hb.symm.trans (by assumption) : false = true) (by decide) | exact absurd (hb.symm.trans (by assumption) : true = false) (by decide) | skip))) <;> (conv => whnf)))
  · refine bool_eq (Eq.symm ?_)
    rw [decide_eq_false (by omega), Bool.false_and]
  · have hle : (l.length : Int) ≤ n := by omega
    rw [decide_eq_true hle, Bool.true_and]
    refine loop_rule hty (fun j : Nat => ([(0, .d (.sl 16 (l.map axR))), (1, .d (.int .i64 n)), (4, .d (.bool false)), (5, .d (.int .i64 j))], [])) (fun j => j ≤ l.length ∧ l.all fewAx = (l.drop j).all fewAx) (fun j => l.length - j) 0 ⟨by omega, rfl⟩ ⟨by repeat' (first | exact trivial | exact rfl | (rw [List.length_map]; exact rfl) | refine And.intro ?_ ?_), trivial⟩ ?_
    rintro j ⟨hj, hn⟩
    ((conv => whnf); repeat ((first | (intro hq; try simp only [lnS] at hq) | (refine And.intro (by first | exact rfl | exact trivial | exact fresh_of (by with_unfolding_all exact rfl) | exact List.cons_ne_nil _ _ | exact leaf_of rfl | exact unb_sub _ _ _ | exact Nat.le_of_ble_eq_true rfl | exact notMem_of (by with_unfolding_all exact rfl) | omega | (rw [unb_map]) | exact byte_lt _ | (simp only [lnS, Int.toNat_natCast]; omega) | (simp only [lnS, Int.toNat_natCast] at *; omega)) ?_) | (refine Exists.intro _ (And.intro rfl ?_))); (conv => whnf)))
    refine brB_dec (fun h1 => ?_) (fun h1 => ?_)
    · have hjl : j < l.length := by simp only [List.length_map] at h1; omega
      have hrow : (l.map axR)[(j : Int).toNat]? = some (axR l[j]) := rowC_at hjl
      have hc := FewAxiom_spec l[j] (hl _ (List.getElem_mem hjl))
      rw [List.drop_eq_getElem_cons hjl, List.all_cons] at hn
      generalize l[j] = x at hrow hn hc
      ((conv => whnf); repeat' ((first | (intro hq; (try simp only [lnS] at hq); (try rewrite [List.length_map])) | (refine And.intro (by first | exact rfl | exact trivial | exact fresh_of (by with_unfolding_all exact rfl) | exact List.cons_ne_nil _ _ | exact leaf_of rfl | exact unb_sub _ _ _ | exact Nat.le_of_ble_eq_true rfl | exact notMem_of (by with_unfolding_all exact rfl) | omega | (rw [unb_map]) | exact byte_lt _ | (simp only [lnS, Int.toNat_natCast]; omega) | (simp only [lnS, Int.toNat_natCast] at *; omega) | (show eqOK _ _ = true; kernel_rfl) | (rw [List.length_append]; exact rfl) | (simp only [List.length_map, List.length_append]; exact rfl)) ?_) | (refine Exists.intro _ (And.intro rfl ?_)) | (refine Exists.intro (show (_ : Nat) < List.length _ from by first | omega | (simp only [List.length_cons, List.length_nil]; omega) | simp) ?_) | (refine ⟨_, hrow, ?_⟩) | (refine call_tri [] hc trivial (fun r hs => ?_); subst hs) | (refine draw_rule hty (by kernel_rfl) (by kernel_rfl) ?_) | (refine brB_dec (fun hb => ?_) (fun hb => ?_) <;> (first | contradiction | ((try simp only [lnS] at hb); (first | (exfalso; omega) | skip)))) | (refine brB_ndec (fun hb => ?_) (fun hb => ?_) <;> (first | contradiction | ((try simp only [lnS] at hb); (first | (exfalso; omega) | skip)))) | (refine brB_split (fun hb => ?_) (fun hb => ?_) <;> (first | contradiction | exact absurd (hb.symm.trans (by assumption) : false = true) (by decide) | exact absurd (hb.symm.trans (by assumption) : true = false) (by decide) | skip))) <;> (conv => whnf)))
      · refine bool_eq (Eq.symm ?_)
        rw [hn]; simp_all
      · refine ⟨j + 1, ⟨by omega, ?_⟩, by dsimp only; omega, by repeat' (first | exact trivial | exact rfl | refine And.intro ?_ ?_), trivial⟩
        rw [hn]; simp_all
    · have hjl : j = l.length := by simp only [List.length_map] at h1; omega
      subst hjl
      ((conv => whnf); repeat' ((first | (intro hq; (try simp only [lnS] at hq); (try rewrite [List.length_map])) | (refine And.intro (by first | exact rfl | exact trivial | exact fresh_of (by with_unfolding_all exact rfl) | exact List.cons_ne_nil _ _ | exact leaf_of rfl | exact unb_sub _ _ _ | exact Nat.le_of_ble_eq_true rfl | exact notMem_of (by with_unfolding_all exact rfl) | omega | (rw [unb_map]) | exact byte_lt _ | (simp only [lnS, Int.toNat_natCast]; omega) | (simp only [lnS, Int.toNat_natCast] at *; omega) | (show eqOK _ _ = true; kernel_rfl) | (rw [List.length_append]; exact rfl) | (simp only [List.length_map, List.length_append]; exact rfl)) ?_) | (refine Exists.intro _ (And.intro rfl ?_)) | (refine Exists.intro (show (_ : Nat) < List.length _ from by first | omega | (simp only [List.length_cons, List.length_nil]; omega) | simp) ?_) | fail | (refine draw_rule hty (by kernel_rfl) (by kernel_rfl) ?_) | (refine brB_dec (fun hb => ?_) (fun hb => ?_) <;> (first | contradiction | ((try simp only [lnS] at hb); (first | (exfalso; omega) | skip)))) | (refine brB_ndec (fun hb => ?_) (fun hb => ?_) <;> (first | contradiction | ((try simp only [lnS] at hb); (first | (exfalso; omega) | skip)))) | (refine brB_split (fun hb => ?_) (fun hb => ?_) <;> (first | contradiction | exact absurd (hb.symm.trans (by assumption) : false = true) (by decide) | exact absurd (hb.symm.trans (by assumption) : true = false) (by decide) | skip))) <;> (conv => whnf)))
      refine bool_eq (Eq.symm ?_)
      rw [hn, List.drop_length]; rfl
end Go.Proofs.YtkbmlchceiglfaaGreatDoor
