/-
  Terms: within of the law.
  Conditions: none.
-/
import Derived.Test.YtkbmlchceiglfaaGreatDoorMAu
namespace Go.Proofs.YtkbmlchceiglfaaGreatDoor
set_option linter.unnecessarySimpa false
set_option linter.unusedSectionVars false
set_option linter.unusedSimpArgs false
set_option linter.unusedVariables false
open Go.Proofs
set_option maxRecDepth 10000
attribute [local irreducible] SemVC CallVC Tri Stuck YVC GenP GenVC


/-- Each in the other list, each above the one before. -/
def upO : Option (List UInt8) → List UInt8 → Bool
  | none, _ => true
  | some y, x => Op.bytesLess y x
def withinL (b : List (List UInt8)) : List (List UInt8) → Option (List UInt8) → Bool
  | [], _ => true
  | x :: r, p => decide (x ∈ b) && (upO p x && withinL b r (some x))
def withinR (b : List (List UInt8)) (p : Option (List UInt8)) (l : List (List UInt8)) : Bool := withinL b l p

def prevO (a : List (List UInt8)) (j : Nat) : Option (List UInt8) := if j = 0 then none else a[j - 1]?

set_option maxHeartbeats 4000000 in
theorem within_spec (a b : List (List UInt8)) : Tri Tryz.prog 24 [.d (strl a), .d (strl b)] [] (fun r => r = .d (.bool (withinR b none a))) := by
  refine tri_of_body hty Tryz.func24 rfl (kp [0, 1, 4, 5, 9, 34]) [] _ _ _ (by simp [Tryz.f24]) (by simp) ?_
  ((conv => whnf); repeat' ((first | (intro hq; (try simp only [lnS] at hq); (try rewrite [List.length_map])) | (refine And.intro (by first | exact rfl | exact trivial | exact fresh_of (by with_unfolding_all exact rfl) | exact List.cons_ne_nil _ _ | exact leaf_of rfl | exact unb_sub _ _ _ | exact Nat.le_of_ble_eq_true rfl | exact notMem_of (by with_unfolding_all exact rfl) | omega | (rw [unb_map]) | exact byte_lt _ | (simp only [lnS, Int.toNat_natCast]; omega) | (simp only [lnS, Int.toNat_natCast] at *; omega) | (show eqOK _ _ = true; kernel_rfl) | (rw [List.length_append]; exact rfl) | (simp only [List.length_map, List.length_append]; exact rfl)) ?_) | (refine Exists.intro _ (And.intro rfl ?_)) | (refine Exists.intro (show (_ : Nat) < List.length _ from by first | omega | (simp only [List.length_cons, List.length_nil]; omega) | simp) ?_) | fail | (refine draw_rule hty (by kernel_rfl) (by kernel_rfl) ?_) | (refine brB_dec (fun hb => ?_) (fun hb => ?_) <;> (first | contradiction | ((try simp only [lnS] at hb); (first | (exfalso; omega) | skip)))) | (refine brB_ndec (fun hb => ?_) (fun hb => ?_) <;> (first | contradiction | ((try simp only [lnS] at hb); (first | (exfalso; omega) | skip)))) | (refine brB_split (fun hb => ?_) (fun hb => ?_) <;> (first | contradiction | exact absurd (hb.symm.trans (by assumption) : false = true) (by decide) | exact absurd (hb.symm.trans (by assumption) : true = false) (by decide) | skip))) <;> (conv => whnf)))
  refine loop_rule hty (fun j : Nat => ([(0, .d (strl a)), (1, .d (strl b)), (4, .d (.bool false)), (5, .d (.int .i64 j))], [])) (fun j => j ≤ a.length ∧ withinR b none a = withinR b (prevO a j) (a.drop j)) (fun j => a.length - j) 0 ⟨by omega, rfl⟩ ⟨by repeat' (first | exact trivial | exact rfl | (rw [List.length_map]; exact rfl) | refine And.intro ?_ ?_), trivial⟩ ?_
  rintro j ⟨hj, hn⟩
  ((conv => whnf); repeat ((first | (intro hq; try simp only [lnS] at hq) | (refine And.intro (by first | exact rfl | exact trivial | exact fresh_of (by with_unfolding_all exact rfl) | exact List.cons_ne_nil _ _ | exact leaf_of rfl | exact unb_sub _ _ _ | exact Nat.le_of_ble_eq_true rfl | exact notMem_of (by with_unfolding_all exact rfl) | omega | (rw [unb_map]) | exact byte_lt _ | (simp only [lnS, Int.toNat_natCast]; omega) | (simp only [lnS, Int.toNat_natCast] at *; omega)) ?_) | (refine Exists.intro _ (And.intro rfl ?_))); (conv => whnf)))
  refine brB_dec (fun h1 => ?_) (fun h1 => ?_)
  · have hjl : j < a.length := by simp only [List.length_map] at h1; omega
    have hrow : (a.map strR)[(j : Int).toNat]? = some (strR a[j]) := rowC_at hjl
    rw [List.drop_eq_getElem_cons hjl, withinR, withinR, withinL] at hn
    generalize hx : a[j] = x at hrow hn
    rcases Nat.eq_zero_or_pos j with h0 | h0
    · subst h0
      rw [show prevO a 0 = none from rfl] at hn
      ((conv => whnf); repeat' ((first | (intro hq; (try simp only [lnS] at hq); (try rewrite [List.length_map])) | (refine And.intro (by first | exact rfl | exact trivial | exact fresh_of (by with_unfolding_all exact rfl) | exact List.cons_ne_nil _ _ | exact leaf_of rfl | exact unb_sub _ _ _ | exact Nat.le_of_ble_eq_true rfl | exact notMem_of (by with_unfolding_all exact rfl) | omega | (rw [unb_map]) | exact byte_lt _ | (simp only [lnS, Int.toNat_natCast]; omega) | (simp only [lnS, Int.toNat_natCast] at *; omega) | (show eqOK _ _ = true; kernel_rfl) | (rw [List.length_append]; exact rfl) | (simp only [List.length_map, List.length_append]; exact rfl)) ?_) | (refine Exists.intro _ (And.intro rfl ?_)) | (refine Exists.intro (show (_ : Nat) < List.length _ from by first | omega | (simp only [List.length_cons, List.length_nil]; omega) | simp) ?_) | (refine ⟨_, hrow, ?_⟩) | (refine ⟨.d (.bool _), _, [], rfl, trivial, has_spec _ _, ?_⟩) | (refine draw_rule hty (by kernel_rfl) (by kernel_rfl) ?_) | (refine brB_dec (fun hb => ?_) (fun hb => ?_) <;> (first | contradiction | ((try simp only [lnS] at hb); (first | (exfalso; omega) | skip)))) | (refine brB_ndec (fun hb => ?_) (fun hb => ?_) <;> (first | contradiction | ((try simp only [lnS] at hb); (first | (exfalso; omega) | skip)))) | (refine brB_split (fun hb => ?_) (fun hb => ?_) <;> (first | contradiction | exact absurd (hb.symm.trans (by assumption) : false = true) (by decide) | exact absurd (hb.symm.trans (by assumption) : true = false) (by decide) | skip))) <;> (conv => whnf)))
      · refine bool_eq (Eq.symm ?_)
        rw [withinR, hn, decide_eq_false hb, Bool.false_and]
      · refine ⟨1, ⟨by omega, ?_⟩, by dsimp only; omega, by repeat' (first | exact trivial | exact rfl | refine And.intro ?_ ?_), trivial⟩
        rw [withinR, hn, decide_eq_true hb, Bool.true_and, withinR, prevO, if_neg (by omega), List.getElem?_eq_getElem (by omega), hx]
        rfl
    · have hrow2 : (a.map strR)[((j : Int) - 1).toNat]? = some (strR a[j - 1]) := by
        rw [show ((j : Int) - 1).toNat = ((j - 1 : Nat) : Int).toNat by omega]
        exact rowC_at (by omega)
      have hp : prevO a j = some a[j - 1] := by rw [prevO, if_neg (by omega), List.getElem?_eq_getElem (by omega)]
      rw [hp] at hn
      generalize a[j - 1] = y at hrow2 hn
      ((conv => whnf); repeat' ((first | (intro hq; (try simp only [lnS] at hq); (try rewrite [List.length_map])) | (refine And.intro (by first | exact rfl | exact trivial | exact fresh_of (by with_unfolding_all exact rfl) | exact List.cons_ne_nil _ _ | exact leaf_of rfl | exact unb_sub _ _ _ | exact Nat.le_of_ble_eq_true rfl | exact notMem_of (by with_unfolding_all exact rfl) | omega | (rw [unb_map]) | exact byte_lt _ | (simp only [lnS, Int.toNat_natCast]; omega) | (simp only [lnS, Int.toNat_natCast] at *; omega) | (show eqOK _ _ = true; kernel_rfl) | (rw [List.length_append]; exact rfl) | (simp only [List.length_map, List.length_append]; exact rfl)) ?_) | (refine Exists.intro _ (And.intro rfl ?_)) | (refine Exists.intro (show (_ : Nat) < List.length _ from by first | omega | (simp only [List.length_cons, List.length_nil]; omega) | simp) ?_) | (refine ⟨_, hrow, ?_⟩) | (refine ⟨_, hrow2, ?_⟩) | (refine ⟨.d (.bool _), _, [], rfl, trivial, has_spec _ _, ?_⟩) | (refine draw_rule hty (by kernel_rfl) (by kernel_rfl) ?_) | (refine brB_dec (fun hb => ?_) (fun hb => ?_) <;> (first | contradiction | ((try simp only [lnS] at hb); (first | (exfalso; omega) | skip)))) | (refine brB_ndec (fun hb => ?_) (fun hb => ?_) <;> (first | contradiction | ((try simp only [lnS] at hb); (first | (exfalso; omega) | skip)))) | (refine brB_split (fun hb => ?_) (fun hb => ?_) <;> (first | contradiction | exact absurd (hb.symm.trans (by assumption) : false = true) (by decide) | exact absurd (hb.symm.trans (by assumption) : true = false) (by decide) | skip))) <;> (conv => whnf)))
      · refine bool_eq (Eq.symm ?_)
        rw [withinR, hn, decide_eq_false hb, Bool.false_and]
      · refine bool_eq (Eq.symm ?_)
        have hb : Op.bytesLess y x = false := by simpa using hb
        rw [withinR, hn, upO, hb, Bool.false_and, Bool.and_false]
      · refine ⟨j + 1, ⟨by omega, ?_⟩, by dsimp only; omega, by repeat' (first | exact trivial | exact rfl | refine And.intro ?_ ?_), trivial⟩
        rename_i hb1 _
        have hb : Op.bytesLess y x = true := by simpa using hb
        rw [withinR, hn, decide_eq_true hb1, Bool.true_and, upO, hb, Bool.true_and, withinR, prevO, if_neg (by omega), Nat.add_sub_cancel, List.getElem?_eq_getElem hjl, hx]
  · have hjl : j = a.length := by simp only [List.length_map] at h1; omega
    subst hjl
    ((conv => whnf); repeat' ((first | (intro hq; (try simp only [lnS] at hq); (try rewrite [List.length_map])) | (refine And.intro (by first | exact rfl | exact trivial | exact fresh_of (by with_unfolding_all exact rfl) | exact List.cons_ne_nil _ _ | exact leaf_of rfl | exact unb_sub _ _ _ | exact Nat.le_of_ble_eq_true rfl | exact notMem_of (by with_unfolding_all exact rfl) | omega | (rw [unb_map]) | exact byte_lt _ | (simp only [lnS, Int.toNat_natCast]; omega) | (simp only [lnS, Int.toNat_natCast] at *; omega) | (show eqOK _ _ = true; kernel_rfl) | (rw [List.length_append]; exact rfl) | (simp only [List.length_map, List.length_append]; exact rfl)) ?_) | (refine Exists.intro _ (And.intro rfl ?_)) | (refine Exists.intro (show (_ : Nat) < List.length _ from by first | omega | (simp only [List.length_cons, List.length_nil]; omega) | simp) ?_) | fail | (refine draw_rule hty (by kernel_rfl) (by kernel_rfl) ?_) | (refine brB_dec (fun hb => ?_) (fun hb => ?_) <;> (first | contradiction | ((try simp only [lnS] at hb); (first | (exfalso; omega) | skip)))) | (refine brB_ndec (fun hb => ?_) (fun hb => ?_) <;> (first | contradiction | ((try simp only [lnS] at hb); (first | (exfalso; omega) | skip)))) | (refine brB_split (fun hb => ?_) (fun hb => ?_) <;> (first | contradiction | exact absurd (hb.symm.trans (by assumption) : false = true) (by decide) | exact absurd (hb.symm.trans (by assumption) : true = false) (by decide) | skip))) <;> (conv => whnf)))
    refine bool_eq (Eq.symm ?_)
    rw [hn, List.drop_length]; rfl
end Go.Proofs.YtkbmlchceiglfaaGreatDoor
