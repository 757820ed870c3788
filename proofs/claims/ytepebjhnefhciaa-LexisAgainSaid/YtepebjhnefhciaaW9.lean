/-
  The walks through the reference's words: word, Word, Integer, Sign, valid.
  Conditions: none.
-/
import Derived.Test.YtepebjhnefhciaaW8
namespace Go.Proofs.Ytepebjhnefhciaa
open Go.Proofs
set_option linter.unusedSimpArgs false
set_option maxRecDepth 10000
attribute [local irreducible] SemVC CallVC Tri Stuck

theorem wordF_yes {b : List UInt8} {at_ n : Nat} (hn : simpleF (b.drop at_) = n) (h0 : 0 < n) (h : at_ + n + 1 < b.length) (h1 : b[at_ + n].toNat = 58) (h2 : letB b[at_ + n + 1] = true) : wordF (b.drop at_) = n + (1 + simpleF (b.drop (at_ + n + 1))) := by
  unfold wordF
  rw [hn, List.drop_drop, drop_get (by omega), drop_get h]
  simp only
  rw [if_pos ⟨h0, h1, h2⟩, ← drop_get h]

theorem wordF_no {b : List UInt8} {at_ n : Nat} (hn : simpleF (b.drop at_) = n) (h : ∀ hl : at_ + n + 1 < b.length, ¬ (0 < n ∧ b[at_ + n].toNat = 58 ∧ letB b[at_ + n + 1] = true)) : wordF (b.drop at_) = n := by
  unfold wordF
  rw [hn, List.drop_drop]
  by_cases hl : at_ + n + 1 < b.length
  · rw [drop_get (by omega), drop_get hl]
    simp only
    rw [if_neg (h hl)]
  · split
    · rename_i x y t he
      have := congrArg List.length he
      simp at this
      omega
    · rfl

theorem word_spec (b : List UInt8) (at_ : Nat) (ha : at_ ≤ b.length) (hb62 : b.length ≤ 4611686018427387904) : Tri Try.prog 33 [.d (bsv b), .d (.int .i64 at_)] [] (fun r => r = .d (.int .i64 (at_ + wordF (b.drop at_) : Nat))) := by
  have hsl := simpleF_le (b.drop at_)
  rw [List.length_drop] at hsl
  refine tri_of_body hty Try.func33 rfl (kp [0, 1, 4, 5, 33]) [] _ _ _ (by simp [Try.f33]) (by simp) ?_
  ((conv => whnf); repeat ((first | (intro hq; try simp only [List.length_set, List.length_replicate, List.length_map, List.length_append, List.length_drop, List.length_take, List.length_cons, List.length_nil] at hq) | (refine And.intro (by first | exact rfl | exact trivial | exact fresh_of (by with_unfolding_all exact rfl) | exact List.cons_ne_nil _ _ | exact leaf_of rfl | exact unb_sub _ _ _ | exact Nat.le_of_ble_eq_true rfl | exact notMem_of (by with_unfolding_all exact rfl) | omega | (rw [unb_map]) | exact byte_lt _ | (simp only [List.length_set, List.length_replicate, List.length_map, List.length_append, List.length_drop, List.length_take, List.length_cons, List.length_nil, Int.toNat_natCast]; omega) | (simp only [List.length_set, List.length_replicate, List.length_map, List.length_append, List.length_drop, List.length_take, List.length_cons, List.length_nil, Int.toNat_natCast] at *; omega)) ?_) | (refine Exists.intro _ (And.intro rfl ?_))); (conv => whnf)))
  refine call_tri [] (simple_spec b at_ ha) trivial (fun s hs => ?_)
  subst hs
  generalize hn : simpleF (b.drop at_) = n at hsl ⊢
  ((conv => whnf); repeat' ((first | (intro hq; try simp only [List.length_set, List.length_replicate, List.length_map, List.length_append, List.length_drop, List.length_take, List.length_cons, List.length_nil] at hq) | (refine And.intro (by first | exact rfl | exact trivial | exact fresh_of (by with_unfolding_all exact rfl) | exact List.cons_ne_nil _ _ | exact leaf_of rfl | exact unb_sub _ _ _ | exact Nat.le_of_ble_eq_true rfl | exact notMem_of (by with_unfolding_all exact rfl) | omega | (rw [unb_map]) | exact byte_lt _ | (simp only [List.length_set, List.length_replicate, List.length_map, List.length_append, List.length_drop, List.length_take, List.length_cons, List.length_nil, Int.toNat_natCast]; omega) | (simp only [List.length_set, List.length_replicate, List.length_map, List.length_append, List.length_drop, List.length_take, List.length_cons, List.length_nil, Int.toNat_natCast] at *; omega) | (show eqOK _ _ = true; kernel_rfl) | (rw [List.length_append]; exact rfl) | (simp only [List.length_map, List.length_append]; exact rfl)) ?_) | (refine Exists.intro _ (And.intro rfl ?_)) | (refine Exists.intro (show (_ : Nat) < List.length _ from by first | omega | (simp only [List.length_cons, List.length_nil]; omega) | simp) ?_) | (refine ⟨_, row_at (by omega), ?_⟩) | (refine call_tri [] (letter_spec _) trivial (fun s hs => ?_); subst hs) | (refine draw_rule hty (by kernel_rfl) (by kernel_rfl) ?_) | (refine brB_dec (fun hb => ?_) (fun hb => ?_) <;> (first | contradiction | ((try simp only [List.length_set, List.length_replicate, List.length_map, List.length_append, List.length_drop, List.length_take, List.length_cons, List.length_nil] at hb); (first | (exfalso; omega) | skip)))) | (refine brB_ndec (fun hb => ?_) (fun hb => ?_) <;> (first | contradiction | ((try simp only [List.length_set, List.length_replicate, List.length_map, List.length_append, List.length_drop, List.length_take, List.length_cons, List.length_nil] at hb); (first | (exfalso; omega) | skip)))) | (refine brB_split (fun hb => ?_) (fun hb => ?_) <;> (first | contradiction | exact absurd (hb.symm.trans (by assumption) : false = true) (by decide) | exact absurd (hb.symm.trans (by assumption) : true = false) (by decide) | skip))) <;> (conv => whnf)))
  · rename_i h1 h2 h3
    have h2' : at_ + n + 1 < b.length := by omega
    refine call_tri [] (simple_spec b (at_ + n + 1) (by omega)) trivial (fun s hs => ?_)
    subst hs
    ((conv => whnf); repeat ((first | (intro hq; try simp only [List.length_set, List.length_replicate, List.length_map, List.length_append, List.length_drop, List.length_take, List.length_cons, List.length_nil] at hq) | (refine And.intro (by first | exact rfl | exact trivial | exact fresh_of (by with_unfolding_all exact rfl) | exact List.cons_ne_nil _ _ | exact leaf_of rfl | exact unb_sub _ _ _ | exact Nat.le_of_ble_eq_true rfl | exact notMem_of (by with_unfolding_all exact rfl) | omega | (rw [unb_map]) | exact byte_lt _ | (simp only [List.length_set, List.length_replicate, List.length_map, List.length_append, List.length_drop, List.length_take, List.length_cons, List.length_nil, Int.toNat_natCast]; omega) | (simp only [List.length_set, List.length_replicate, List.length_map, List.length_append, List.length_drop, List.length_take, List.length_cons, List.length_nil, Int.toNat_natCast] at *; omega)) ?_) | (refine Exists.intro _ (And.intro rfl ?_))); (conv => whnf)))
    rw [wordF_yes hn (by omega) h2' (nat_of_int_eq (b := 58) h3) hb, show at_ + n + 1 + simpleF (List.drop (at_ + n + 1) b) = at_ + (n + (1 + simpleF (List.drop (at_ + n + 1) b))) from by omega]
    rfl
  · rw [wordF_no hn (fun hl h => by have hb' : letB b[at_ + n + 1] = false := hb; rw [h.2.2] at hb'; cases hb')]; rfl
  · rw [wordF_no hn (fun hl h => hb (by show ((b[at_ + n]).toNat : Int) = 58; rw [h.2.1]; rfl))]; rfl
  · rw [wordF_no hn (fun hl h => hb (by omega))]; rfl
  · rw [wordF_no hn (fun hl h => hb (by omega))]; rfl

theorem Word_spec (l : List UInt8) (h62 : l.length ≤ 4611686018427387904) : Tri Try.prog 38 [.d (.str l)] [] (fun r => r = .d (.bool (decide (0 < l.length) && decide (wordF l = l.length)))) := by
  refine tri_of_body hty Try.func38 rfl (kp [0, 2]) [] _ _ _ (by simp [Try.f38]) (by simp) ?_
  ((conv => whnf); repeat' ((first | (intro hq; try simp only [List.length_set, List.length_replicate, List.length_map, List.length_append, List.length_drop, List.length_take, List.length_cons, List.length_nil] at hq) | (refine And.intro (by first | exact rfl | exact trivial | exact fresh_of (by with_unfolding_all exact rfl) | exact List.cons_ne_nil _ _ | exact leaf_of rfl | exact unb_sub _ _ _ | exact Nat.le_of_ble_eq_true rfl | exact notMem_of (by with_unfolding_all exact rfl) | omega | (rw [unb_map]) | exact byte_lt _ | (simp only [List.length_set, List.length_replicate, List.length_map, List.length_append, List.length_drop, List.length_take, List.length_cons, List.length_nil, Int.toNat_natCast]; omega) | (simp only [List.length_set, List.length_replicate, List.length_map, List.length_append, List.length_drop, List.length_take, List.length_cons, List.length_nil, Int.toNat_natCast] at *; omega) | (show eqOK _ _ = true; kernel_rfl) | (rw [List.length_append]; exact rfl) | (simp only [List.length_map, List.length_append]; exact rfl)) ?_) | (refine Exists.intro _ (And.intro rfl ?_)) | (refine Exists.intro (show (_ : Nat) < List.length _ from by first | omega | (simp only [List.length_cons, List.length_nil]; omega) | simp) ?_) | (refine call_tri [] (word_spec l 0 (Nat.zero_le _) h62) trivial (fun s hs => ?_); subst hs) | (refine draw_rule hty (by kernel_rfl) (by kernel_rfl) ?_) | (refine brB_dec (fun hb => ?_) (fun hb => ?_) <;> (first | contradiction | ((try simp only [List.length_set, List.length_replicate, List.length_map, List.length_append, List.length_drop, List.length_take, List.length_cons, List.length_nil] at hb); (first | (exfalso; omega) | skip)))) | (refine brB_ndec (fun hb => ?_) (fun hb => ?_) <;> (first | contradiction | ((try simp only [List.length_set, List.length_replicate, List.length_map, List.length_append, List.length_drop, List.length_take, List.length_cons, List.length_nil] at hb); (first | (exfalso; omega) | skip)))) | (refine brB_split (fun hb => ?_) (fun hb => ?_) <;> (first | contradiction | exact absurd (hb.symm.trans (by assumption) : false = true) (by decide) | exact absurd (hb.symm.trans (by assumption) : true = false) (by decide) | skip))) <;> (conv => whnf)))
  · have h1 : decide (0 < l.length) = true := by simp; omega
    rw [h1, Bool.true_and]
    refine bool_eq (Bool.eq_iff_iff.2 ?_)
    simp only [decide_eq_true_eq, List.drop_zero, Nat.zero_add]
    omega
  · have h1 : decide (0 < l.length) = false := decide_eq_false (by omega)
    rw [h1, Bool.false_and]; rfl

set_option maxHeartbeats 1000000 in
theorem Sign_spec (l : List UInt8) : Tri Try.prog 37 [.d (.str l)] [] (fun r => r = .d (.bool (signF l))) := by
  refine tri_of_body hty Try.func37 rfl (kp [0, 2, 5, 9, 10]) [] _ _ _ (by simp [Try.f37]) (by simp) ?_
  by_cases h : l.length = 1
  · obtain ⟨c, rfl⟩ : ∃ c, l = [c] := List.length_eq_one_iff.1 h
    ((conv => whnf); repeat' ((first | (intro hq; try simp only [List.length_set, List.length_replicate, List.length_map, List.length_append, List.length_drop, List.length_take, List.length_cons, List.length_nil] at hq) | (refine And.intro (by first | exact rfl | exact trivial | exact fresh_of (by with_unfolding_all exact rfl) | exact List.cons_ne_nil _ _ | exact leaf_of rfl | exact unb_sub _ _ _ | exact Nat.le_of_ble_eq_true rfl | exact notMem_of (by with_unfolding_all exact rfl) | omega | (rw [unb_map]) | exact byte_lt _ | (simp only [List.length_set, List.length_replicate, List.length_map, List.length_append, List.length_drop, List.length_take, List.length_cons, List.length_nil, Int.toNat_natCast]; omega) | (simp only [List.length_set, List.length_replicate, List.length_map, List.length_append, List.length_drop, List.length_take, List.length_cons, List.length_nil, Int.toNat_natCast] at *; omega) | (show eqOK _ _ = true; kernel_rfl) | (rw [List.length_append]; exact rfl) | (simp only [List.length_map, List.length_append]; exact rfl)) ?_) | (refine Exists.intro _ (And.intro rfl ?_)) | (refine Exists.intro (show (_ : Nat) < List.length _ from by first | omega | (simp only [List.length_cons, List.length_nil]; omega) | simp) ?_) | (refine draw_rule hty (by kernel_rfl) (by kernel_rfl) ?_) | (refine brB_dec (fun hb => ?_) (fun hb => ?_) <;> (first | contradiction | ((try simp only [List.length_set, List.length_replicate, List.length_map, List.length_append, List.length_drop, List.length_take, List.length_cons, List.length_nil] at hb); (first | (exfalso; omega) | skip)))) | (refine brB_ndec (fun hb => ?_) (fun hb => ?_) <;> (first | contradiction | ((try simp only [List.length_set, List.length_replicate, List.length_map, List.length_append, List.length_drop, List.length_take, List.length_cons, List.length_nil] at hb); (first | (exfalso; omega) | skip)))) | (refine brB_split (fun hb => ?_) (fun hb => ?_) <;> (first | contradiction | exact absurd (hb.symm.trans (by assumption) : false = true) (by decide) | exact absurd (hb.symm.trans (by assumption) : true = false) (by decide) | skip))) <;> (conv => whnf)))
    all_goals (refine bool_eq (Bool.eq_iff_iff.2 ?_); simp only [signF, decide_eq_true_eq, cls6, true_iff, false_iff, Bool.false_eq_true] <;> (simp only [Int.toNat_zero, List.getElem_cons_zero] at *; omega))
  · ((conv => whnf); repeat' ((first | (intro hq; try simp only [List.length_set, List.length_replicate, List.length_map, List.length_append, List.length_drop, List.length_take, List.length_cons, List.length_nil] at hq) | (refine And.intro (by first | exact rfl | exact trivial | exact fresh_of (by with_unfolding_all exact rfl) | exact List.cons_ne_nil _ _ | exact leaf_of rfl | exact unb_sub _ _ _ | exact Nat.le_of_ble_eq_true rfl | exact notMem_of (by with_unfolding_all exact rfl) | omega | (rw [unb_map]) | exact byte_lt _ | (simp only [List.length_set, List.length_replicate, List.length_map, List.length_append, List.length_drop, List.length_take, List.length_cons, List.length_nil, Int.toNat_natCast]; omega) | (simp only [List.length_set, List.length_replicate, List.length_map, List.length_append, List.length_drop, List.length_take, List.length_cons, List.length_nil, Int.toNat_natCast] at *; omega) | (show eqOK _ _ = true; kernel_rfl) | (rw [List.length_append]; exact rfl) | (simp only [List.length_map, List.length_append]; exact rfl)) ?_) | (refine Exists.intro _ (And.intro rfl ?_)) | (refine Exists.intro (show (_ : Nat) < List.length _ from by first | omega | (simp only [List.length_cons, List.length_nil]; omega) | simp) ?_) | (refine draw_rule hty (by kernel_rfl) (by kernel_rfl) ?_) | (refine brB_dec (fun hb => ?_) (fun hb => ?_) <;> (first | contradiction | ((try simp only [List.length_set, List.length_replicate, List.length_map, List.length_append, List.length_drop, List.length_take, List.length_cons, List.length_nil] at hb); (first | (exfalso; omega) | skip)))) | (refine brB_ndec (fun hb => ?_) (fun hb => ?_) <;> (first | contradiction | ((try simp only [List.length_set, List.length_replicate, List.length_map, List.length_append, List.length_drop, List.length_take, List.length_cons, List.length_nil] at hb); (first | (exfalso; omega) | skip)))) | (refine brB_split (fun hb => ?_) (fun hb => ?_) <;> (first | contradiction | exact absurd (hb.symm.trans (by assumption) : false = true) (by decide) | exact absurd (hb.symm.trans (by assumption) : true = false) (by decide) | skip))) <;> (conv => whnf)))
    · have e : signF l = decide (l = [45, 62]) := by
        unfold signF
        split
        · simp at h
        · rfl
      rw [e]; rfl
    all_goals (exfalso; omega)
end Go.Proofs.Ytepebjhnefhciaa
