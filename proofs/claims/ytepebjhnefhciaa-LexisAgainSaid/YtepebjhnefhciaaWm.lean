/-
  The walk through the law LexisAgain.
  Conditions: none.
-/
import Derived.Test.YtepebjhnefhciaaWl
namespace Go.Proofs.Ytepebjhnefhciaa
open Go.Proofs
set_option linter.unusedSimpArgs false
set_option maxRecDepth 10000
attribute [local irreducible] SemVC CallVC Tri Stuck

theorem again_ok (src : List UInt8) : (((LT src 0).map toG).all tokOK) = true := by
  rw [List.all_eq_true]
  intro g hg
  obtain ⟨t, ht, rfl⟩ := List.mem_map.1 hg
  obtain ⟨h1, h2, h3⟩ := LT_scan _ _ 0 t ht
  exact (tokOK_iff _).2 ⟨h1, by simp only [toG]; omega, t.kind, rfl, h3⟩

theorem again_len (src : List UInt8) : (joinB ((LT src 0).map toG)).length ≤ 2 * src.length := by
  have := LT_sum src 0 0
  rw [joinB, List.flatMap_map, List.length_drop]
  simp only [toG]
  omega

theorem again_join (src : List UInt8) (h : src.length ≤ 4000) : joinF ((tokensOf src).map toG) = (joinB ((LT src 0).map toG), 0) := by
  have hl : ((tokensOf src).map toG).length = (LT src 0).length + 1 := by rw [tokensOf_eq]; simp
  have e : (tokensOf src).map toG = (LT src 0).map toG ++ [⟨4, [], src.length⟩] := by rw [tokensOf_eq]; simp [toG]
  have ht : ((tokensOf src).map toG).take (((tokensOf src).map toG).length - 1) = (LT src 0).map toG := by
    rw [hl, e]; simp
  have hlast : ((tokensOf src).map toG)[((tokensOf src).map toG).length - 1]? = some ⟨4, [], src.length⟩ := by
    rw [hl, e]; simp
  have hlen := again_len src
  unfold joinF
  rw [hlast]
  dsimp only
  rw [if_pos ⟨rfl, rfl⟩, ht, if_pos (again_ok src), if_neg (by omega)]

theorem again_small (src : List UInt8) (h : src.length ≤ 4000) : Small ((tokensOf src).map toG) := by
  have hs := LT_sum src 0 0
  have hc : (LT src 0).length ≤ ((LT src 0).flatMap fun t => 32 :: t.text).length := by
    generalize LT src 0 = T
    induction T with
    | nil => simp
    | cons t r ih => rw [List.flatMap_cons, List.length_append, List.length_cons, List.length_cons]; omega
  refine ⟨?_, ?_⟩
  · rw [tokensOf_eq]; simp; omega
  · intro g hg
    rw [tokensOf_eq] at hg
    simp only [List.map_append, List.mem_append, List.map_cons, List.map_nil, List.mem_singleton] at hg
    rcases hg with hg | rfl
    · obtain ⟨t, ht, rfl⟩ := List.mem_map.1 hg
      have := LT_bounds _ _ 0 t ht
      simp only [toG]; omega
    · simp [toG]

theorem lexisAgain_spec (src : List UInt8) : Tri Try.prog 6 [.d (bsv src)] [] (fun r => r = .d (.bool true)) := by
  refine tri_of_body hty Try.func6 rfl (kp [0, 2, 3, 5, 6, 7, 8, 9, 10, 12, 15]) [] _ _ _ (by simp [Try.f6]) (by simp) ?_
  ((conv => whnf); repeat ((first | (intro hq; try simp only [List.length_set, List.length_replicate, List.length_map, List.length_append, List.length_drop, List.length_take, List.length_cons, List.length_nil] at hq) | (refine And.intro (by first | exact rfl | exact trivial | exact fresh_of (by with_unfolding_all exact rfl) | exact List.cons_ne_nil _ _ | exact leaf_of rfl | exact unb_sub _ _ _ | exact Nat.le_of_ble_eq_true rfl | exact notMem_of (by with_unfolding_all exact rfl) | omega | (rw [unb_map]) | exact byte_lt _ | (simp only [List.length_set, List.length_replicate, List.length_map, List.length_append, List.length_drop, List.length_take, List.length_cons, List.length_nil, Int.toNat_natCast]; omega) | (simp only [List.length_set, List.length_replicate, List.length_map, List.length_append, List.length_drop, List.length_take, List.length_cons, List.length_nil, Int.toNat_natCast] at *; omega)) ?_) | (refine Exists.intro _ (And.intro rfl ?_))); (conv => whnf)))
  refine call_tri [] sane_spec trivial (fun s hs => ?_)
  subst hs
  ((conv => whnf); repeat' ((first | (intro hq; (try simp only [List.length_set, List.length_replicate, List.length_map, List.length_append, List.length_drop, List.length_take, List.length_cons, List.length_nil] at hq); (try rewrite [List.length_map])) | (refine And.intro (by first | exact rfl | exact trivial | exact fresh_of (by with_unfolding_all exact rfl) | exact List.cons_ne_nil _ _ | exact leaf_of rfl | exact unb_sub _ _ _ | exact Nat.le_of_ble_eq_true rfl | exact notMem_of (by with_unfolding_all exact rfl) | omega | (rw [unb_map]) | exact byte_lt _ | (simp only [List.length_set, List.length_replicate, List.length_map, List.length_append, List.length_drop, List.length_take, List.length_cons, List.length_nil, Int.toNat_natCast]; omega) | (simp only [List.length_set, List.length_replicate, List.length_map, List.length_append, List.length_drop, List.length_take, List.length_cons, List.length_nil, Int.toNat_natCast] at *; omega) | (show eqOK _ _ = true; kernel_rfl) | (rw [List.length_append]; exact rfl) | (simp only [List.length_map, List.length_append]; exact rfl)) ?_) | (refine Exists.intro _ (And.intro rfl ?_)) | (refine Exists.intro (show (_ : Nat) < List.length _ from by first | omega | (simp only [List.length_cons, List.length_nil]; omega) | simp) ?_) | fail | (refine draw_rule hty (by kernel_rfl) (by kernel_rfl) ?_) | (refine brB_dec (fun hb => ?_) (fun hb => ?_) <;> (first | contradiction | ((try simp only [List.length_set, List.length_replicate, List.length_map, List.length_append, List.length_drop, List.length_take, List.length_cons, List.length_nil] at hb); (first | (exfalso; omega) | skip)))) | (refine brB_ndec (fun hb => ?_) (fun hb => ?_) <;> (first | contradiction | ((try simp only [List.length_set, List.length_replicate, List.length_map, List.length_append, List.length_drop, List.length_take, List.length_cons, List.length_nil] at hb); (first | (exfalso; omega) | skip)))) | (refine brB_split (fun hb => ?_) (fun hb => ?_) <;> (first | contradiction | exact absurd (hb.symm.trans (by assumption) : false = true) (by decide) | exact absurd (hb.symm.trans (by assumption) : true = false) (by decide) | skip))) <;> (conv => whnf)))
  · rfl
  have hlen : src.length ≤ 4000 := by omega
  have hj := again_join src hlen
  refine call_tri [] (tokens_spec src) trivial (fun s hs => ?_)
  rcases hs with ⟨hh, _⟩ | ⟨_, hh⟩
  · omega
  subst hh
  ((conv => whnf); repeat ((first | (intro hq; try simp only [List.length_set, List.length_replicate, List.length_map, List.length_append, List.length_drop, List.length_take, List.length_cons, List.length_nil] at hq) | (refine And.intro (by first | exact rfl | exact trivial | exact fresh_of (by with_unfolding_all exact rfl) | exact List.cons_ne_nil _ _ | exact leaf_of rfl | exact unb_sub _ _ _ | exact Nat.le_of_ble_eq_true rfl | exact notMem_of (by with_unfolding_all exact rfl) | omega | (rw [unb_map]) | exact byte_lt _ | (simp only [List.length_set, List.length_replicate, List.length_map, List.length_append, List.length_drop, List.length_take, List.length_cons, List.length_nil, Int.toNat_natCast]; omega) | (simp only [List.length_set, List.length_replicate, List.length_map, List.length_append, List.length_drop, List.length_take, List.length_cons, List.length_nil, Int.toNat_natCast] at *; omega)) ?_) | (refine Exists.intro _ (And.intro rfl ?_))); (conv => whnf)))
  rw [map_tokR]
  refine call_tri [] (join_spec _ (again_small src hlen)) trivial (fun s hs => ?_)
  cases hs with
  | no e h he =>
    exfalso
    rw [hj] at h
    injection h with h1 h2
    omega
  | yes b h hb1 =>
    obtain ⟨hbad, hsame⟩ := joinF_inv h
    ((conv => whnf); repeat ((first | (intro hq; try simp only [List.length_set, List.length_replicate, List.length_map, List.length_append, List.length_drop, List.length_take, List.length_cons, List.length_nil] at hq) | (refine And.intro (by first | exact rfl | exact trivial | exact fresh_of (by with_unfolding_all exact rfl) | exact List.cons_ne_nil _ _ | exact leaf_of rfl | exact unb_sub _ _ _ | exact Nat.le_of_ble_eq_true rfl | exact notMem_of (by with_unfolding_all exact rfl) | omega | (rw [unb_map]) | exact byte_lt _ | (simp only [List.length_set, List.length_replicate, List.length_map, List.length_append, List.length_drop, List.length_take, List.length_cons, List.length_nil, Int.toNat_natCast]; omega) | (simp only [List.length_set, List.length_replicate, List.length_map, List.length_append, List.length_drop, List.length_take, List.length_cons, List.length_nil, Int.toNat_natCast] at *; omega)) ?_) | (refine Exists.intro _ (And.intro rfl ?_))); (conv => whnf)))
    refine call_tri [] (tokens_spec b) trivial (fun s hs => ?_)
    rcases hs with ⟨hh, _⟩ | ⟨_, hh⟩
    · omega
    rw [hbad] at hh
    subst hh
    ((conv => whnf); repeat' ((first | (intro hq; (try simp only [List.length_set, List.length_replicate, List.length_map, List.length_append, List.length_drop, List.length_take, List.length_cons, List.length_nil] at hq); (try rewrite [List.length_map])) | (refine And.intro (by first | exact rfl | exact trivial | exact fresh_of (by with_unfolding_all exact rfl) | exact List.cons_ne_nil _ _ | exact leaf_of rfl | exact unb_sub _ _ _ | exact Nat.le_of_ble_eq_true rfl | exact notMem_of (by with_unfolding_all exact rfl) | omega | (rw [unb_map]) | exact byte_lt _ | (simp only [List.length_set, List.length_replicate, List.length_map, List.length_append, List.length_drop, List.length_take, List.length_cons, List.length_nil, Int.toNat_natCast]; omega) | (simp only [List.length_set, List.length_replicate, List.length_map, List.length_append, List.length_drop, List.length_take, List.length_cons, List.length_nil, Int.toNat_natCast] at *; omega) | (show eqOK _ _ = true; kernel_rfl) | (rw [List.length_append]; exact rfl) | (simp only [List.length_map, List.length_append]; exact rfl)) ?_) | (refine Exists.intro _ (And.intro rfl ?_)) | (refine Exists.intro (show (_ : Nat) < List.length _ from by first | omega | (simp only [List.length_cons, List.length_nil]; omega) | simp) ?_) | (rw [map_tokR]; refine call_tri [] (same_spec _ _ _) trivial (fun s hs => ?_); subst hs; rw [hsame]) | (refine draw_rule hty (by kernel_rfl) (by kernel_rfl) ?_) | (refine brB_dec (fun hb => ?_) (fun hb => ?_) <;> (first | contradiction | ((try simp only [List.length_set, List.length_replicate, List.length_map, List.length_append, List.length_drop, List.length_take, List.length_cons, List.length_nil] at hb); (first | (exfalso; omega) | skip)))) | (refine brB_ndec (fun hb => ?_) (fun hb => ?_) <;> (first | contradiction | ((try simp only [List.length_set, List.length_replicate, List.length_map, List.length_append, List.length_drop, List.length_take, List.length_cons, List.length_nil] at hb); (first | (exfalso; omega) | skip)))) | (refine brB_split (fun hb => ?_) (fun hb => ?_) <;> (first | contradiction | exact absurd (hb.symm.trans (by assumption) : false = true) (by decide) | exact absurd (hb.symm.trans (by assumption) : true = false) (by decide) | skip))) <;> (conv => whnf)))
    rfl
end Go.Proofs.Ytepebjhnefhciaa
