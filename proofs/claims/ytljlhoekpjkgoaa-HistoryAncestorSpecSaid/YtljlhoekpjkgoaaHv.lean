/-
  History: the law that Ancestors and Common agree with the reference: the walk.
  Conditions: none.
-/
import Derived.Test.YtljlhoekpjkgoaaHu
import Derived.Test.YtljlhoekpjkgoaaHc
namespace Go.Proofs.Ytljlhoekpjkgoaa
open Go.Proofs
set_option linter.unusedSimpArgs false
set_option maxRecDepth 10000
attribute [local irreducible] SemVC CallVC Tri Stuck YVC

inductive IntsD : D → Prop
  | nil : IntsD .nil
  | sl (l : List Int) : IntsD (isv l)

theorem same_self {d : D} (h : IntsD d) : Tri Try.prog 19 [.d d, .d d] [] (fun r => r = .d (.bool true)) := by
  cases h with
  | nil => exact (Tri.weakD (sameInts_spec [] []) (by repeat' (first | exact trivial | exact rfl | refine And.intro ?_ ?_))).mono fun s hs => by rw [hs]; rfl
  | sl l => exact (sameInts_spec l l).mono fun s hs => by rw [hs, decide_eq_true rfl]

theorem ancA_ints (h : Hs) (no : Int) : IntsD (ancA h no).1 := by
  unfold ancA
  split
  · exact .nil
  · split
    · exact .nil
    · exact .sl _
theorem comA_ints (h : Hs) (a b : Int) : IntsD (comA h a b).1 := by
  unfold comA
  split
  · exact .nil
  · split
    · exact .nil
    · exact .sl _

set_option maxHeartbeats 8000000 in
theorem ancestorSpec_spec (h : Hs) (a b : Int) : Tri Try.prog 5 [.d (histD h), .d (.int .i64 a), .d (.int .i64 b)] [] (fun r => r = .d (.bool true)) := by
  refine tri_of_body hty Try.func5 rfl (kp [0, 1, 2, 3, 6, 7, 8, 9, 10, 11, 12, 13, 14, 16, 19]) [] _ _ _ (by simp [Try.f5]) (by simp) ?_
  ((conv => whnf); repeat ((first | (intro hq; try simp only [List.length_set, List.length_replicate, List.length_map, List.length_append, List.length_drop, List.length_take, List.length_cons, List.length_nil] at hq) | (refine And.intro (by first | exact rfl | exact trivial | exact fresh_of (by with_unfolding_all exact rfl) | exact List.cons_ne_nil _ _ | exact leaf_of rfl | exact unb_sub _ _ _ | exact Nat.le_of_ble_eq_true rfl | exact notMem_of (by with_unfolding_all exact rfl) | omega | (rw [unb_map]) | exact byte_lt _ | (simp only [List.length_set, List.length_replicate, List.length_map, List.length_append, List.length_drop, List.length_take, List.length_cons, List.length_nil, Int.toNat_natCast]; omega) | (simp only [List.length_set, List.length_replicate, List.length_map, List.length_append, List.length_drop, List.length_take, List.length_cons, List.length_nil, Int.toNat_natCast] at *; omega)) ?_) | (refine Exists.intro _ (And.intro rfl ?_))); (conv => whnf)))
  refine call_tri [] sane_spec trivial (fun s hs => ?_)
  subst hs
  ((conv => whnf); repeat ((first | (intro hq; try simp only [List.length_set, List.length_replicate, List.length_map, List.length_append, List.length_drop, List.length_take, List.length_cons, List.length_nil] at hq) | (refine And.intro (by first | exact rfl | exact trivial | exact fresh_of (by with_unfolding_all exact rfl) | exact List.cons_ne_nil _ _ | exact leaf_of rfl | exact unb_sub _ _ _ | exact Nat.le_of_ble_eq_true rfl | exact notMem_of (by with_unfolding_all exact rfl) | omega | (rw [unb_map]) | exact byte_lt _ | (simp only [List.length_set, List.length_replicate, List.length_map, List.length_append, List.length_drop, List.length_take, List.length_cons, List.length_nil, Int.toNat_natCast]; omega) | (simp only [List.length_set, List.length_replicate, List.length_map, List.length_append, List.length_drop, List.length_take, List.length_cons, List.length_nil, Int.toNat_natCast] at *; omega)) ?_) | (refine Exists.intro _ (And.intro rfl ?_))); (conv => whnf)))
  refine call_tri [] (few_spec h) trivial (fun r hr => ?_)
  cases hr with
  | no =>
    ((conv => whnf); repeat ((first | (intro hq; try simp only [List.length_set, List.length_replicate, List.length_map, List.length_append, List.length_drop, List.length_take, List.length_cons, List.length_nil] at hq) | (refine And.intro (by first | exact rfl | exact trivial | exact fresh_of (by with_unfolding_all exact rfl) | exact List.cons_ne_nil _ _ | exact leaf_of rfl | exact unb_sub _ _ _ | exact Nat.le_of_ble_eq_true rfl | exact notMem_of (by with_unfolding_all exact rfl) | omega | (rw [unb_map]) | exact byte_lt _ | (simp only [List.length_set, List.length_replicate, List.length_map, List.length_append, List.length_drop, List.length_take, List.length_cons, List.length_nil, Int.toNat_natCast]; omega) | (simp only [List.length_set, List.length_replicate, List.length_map, List.length_append, List.length_drop, List.length_take, List.length_cons, List.length_nil, Int.toNat_natCast] at *; omega)) ?_) | (refine Exists.intro _ (And.intro rfl ?_))); (conv => whnf)))
    rfl
  | yes hc hb ht hp =>
    have hsz : h.branches.length ≤ 1000000 ∧ h.tags.length ≤ 1000000 := ⟨by omega, by omega⟩
    clear hp
    have i1 := ancA_ints h a
    have i2 := comA_ints h a b
    have q1 := ancestors_spec h a hsz
    have q2 := rancestors_spec h a hsz
    have q3 := common_spec h a b hsz
    have q4 := rcommon_spec h a b hsz
    generalize ancA h a = x at *
    generalize comA h a b = y at *
    obtain ⟨x1, x2⟩ := x
    obtain ⟨y1, y2⟩ := y
    dsimp only at *
    ((conv => whnf); repeat' ((first | (intro hq; (try simp only [List.length_set, List.length_replicate, List.length_map, List.length_append, List.length_drop, List.length_take, List.length_cons, List.length_nil] at hq); (try rewrite [List.length_map])) | (refine And.intro (by first | exact rfl | exact trivial | exact fresh_of (by with_unfolding_all exact rfl) | exact List.cons_ne_nil _ _ | exact leaf_of rfl | exact unb_sub _ _ _ | exact Nat.le_of_ble_eq_true rfl | exact notMem_of (by with_unfolding_all exact rfl) | omega | (rw [unb_map]) | exact byte_lt _ | (simp only [List.length_set, List.length_replicate, List.length_map, List.length_append, List.length_drop, List.length_take, List.length_cons, List.length_nil, Int.toNat_natCast]; omega) | (simp only [List.length_set, List.length_replicate, List.length_map, List.length_append, List.length_drop, List.length_take, List.length_cons, List.length_nil, Int.toNat_natCast] at *; omega) | (show eqOK _ _ = true; kernel_rfl) | (rw [List.length_append]; exact rfl) | (simp only [List.length_map, List.length_append]; exact rfl)) ?_) | (refine Exists.intro _ (And.intro rfl ?_)) | (refine Exists.intro (show (_ : Nat) < List.length _ from by first | omega | (simp only [List.length_cons, List.length_nil]; omega) | simp) ?_) | (refine call_tri [] q1 trivial (fun r hs => ?_); subst hs) | (refine call_tri [] q2 trivial (fun r hs => ?_); subst hs) | (refine call_tri [] q3 trivial (fun r hs => ?_); subst hs) | (refine call_tri [] q4 trivial (fun r hs => ?_); subst hs) | (refine call_tri [] (same_self i1) trivial (fun r hs => ?_); subst hs) | (refine call_tri [] (same_self i2) trivial (fun r hs => ?_); subst hs) | (refine draw_rule hty (by kernel_rfl) (by kernel_rfl) ?_) | (refine brB_dec (fun hb => ?_) (fun hb => ?_) <;> (first | contradiction | ((try simp only [List.length_set, List.length_replicate, List.length_map, List.length_append, List.length_drop, List.length_take, List.length_cons, List.length_nil] at hb); (first | (exfalso; omega) | skip)))) | (refine brB_ndec (fun hb => ?_) (fun hb => ?_) <;> (first | contradiction | ((try simp only [List.length_set, List.length_replicate, List.length_map, List.length_append, List.length_drop, List.length_take, List.length_cons, List.length_nil] at hb); (first | (exfalso; omega) | skip)))) | (refine brB_split (fun hb => ?_) (fun hb => ?_) <;> (first | contradiction | exact absurd (hb.symm.trans (by assumption) : false = true) (by decide) | exact absurd (hb.symm.trans (by assumption) : true = false) (by decide) | skip))) <;> (conv => whnf)))
    all_goals first | rfl | (exfalso; omega) | trace_state
end Go.Proofs.Ytljlhoekpjkgoaa
