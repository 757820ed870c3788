/-
  The walk through Keyword.
  Conditions: none.
-/
import Derived.Test.YtljlhoekpjkgoaaG1
namespace Go.Proofs.Ytljlhoekpjkgoaa
open Go.Proofs
set_option linter.unusedSimpArgs false
set_option maxRecDepth 10000
attribute [local irreducible] SemVC CallVC Tri Stuck

/-- The keywords. -/
def kws : List (List UInt8) := [[97, 110, 100],
  [115, 111, 109, 101],
  [105, 110],
  [116, 111],
  [110, 111, 116, 104, 105, 110, 103],
  [101, 118, 101, 114, 121, 116, 104, 105, 110, 103],
  [111, 110, 101],
  [111, 102],
  [111, 112, 101, 110],
  [112, 114, 105, 118, 97, 116, 101],
  [115, 117, 98],
  [115, 97, 109, 101],
  [100, 105, 115, 106, 111, 105, 110, 116],
  [100, 111, 109, 97, 105, 110],
  [114, 111, 108, 101],
  [99, 104, 97, 105, 110],
  [114, 101, 102, 108, 101, 120, 105, 118, 101],
  [116, 121, 112, 101],
  [108, 105, 110, 107],
  [115, 101, 108, 101, 99, 116],
  [119, 104, 101, 114, 101],
  [111, 114]]
def kwF (s : List UInt8) : Bool := decide (s ∈ kws)

set_option maxHeartbeats 2000000 in
theorem keyword_spec (s : List UInt8) : Tri Try.prog 82 [.d (.str s)] [] (fun r => r = .d (.bool (kwF s))) := by
  refine tri_of_body hty Try.func82 rfl (kp [0, 2, 3, 4]) [] _ _ _ (by simp [Try.f82]) (by simp) ?_
  ((conv => whnf); repeat' ((first | (intro hq; try simp only [List.length_set, List.length_replicate, List.length_map, List.length_append, List.length_drop, List.length_take, List.length_cons, List.length_nil] at hq) | (refine And.intro (by first | exact rfl | exact trivial | exact fresh_of (by with_unfolding_all exact rfl) | exact List.cons_ne_nil _ _ | exact leaf_of rfl | exact unb_sub _ _ _ | exact Nat.le_of_ble_eq_true rfl | exact notMem_of (by with_unfolding_all exact rfl) | omega | (rw [unb_map]) | exact byte_lt _ | (simp only [List.length_set, List.length_replicate, List.length_map, List.length_append, List.length_drop, List.length_take, List.length_cons, List.length_nil, Int.toNat_natCast]; omega) | (simp only [List.length_set, List.length_replicate, List.length_map, List.length_append, List.length_drop, List.length_take, List.length_cons, List.length_nil, Int.toNat_natCast] at *; omega) | (show eqOK _ _ = true; kernel_rfl) | (rw [List.length_append]; exact rfl) | (simp only [List.length_map, List.length_append]; exact rfl)) ?_) | (refine Exists.intro _ (And.intro rfl ?_)) | (refine Exists.intro (show (_ : Nat) < List.length _ from by first | omega | (simp only [List.length_cons, List.length_nil]; omega) | simp) ?_) | (refine draw_rule hty (by kernel_rfl) (by kernel_rfl) ?_) | (refine brB_dec (fun hb => ?_) (fun hb => ?_) <;> (first | contradiction | ((try simp only [List.length_set, List.length_replicate, List.length_map, List.length_append, List.length_drop, List.length_take, List.length_cons, List.length_nil] at hb); (first | (exfalso; omega) | skip)))) | (refine brB_ndec (fun hb => ?_) (fun hb => ?_) <;> (first | contradiction | ((try simp only [List.length_set, List.length_replicate, List.length_map, List.length_append, List.length_drop, List.length_take, List.length_cons, List.length_nil] at hb); (first | (exfalso; omega) | skip)))) | (refine brB_split (fun hb => ?_) (fun hb => ?_) <;> (first | contradiction | exact absurd (hb.symm.trans (by assumption) : false = true) (by decide) | exact absurd (hb.symm.trans (by assumption) : true = false) (by decide) | skip))) <;> (conv => whnf)))
  all_goals first | (rename_i hb; subst hb; rfl) | skip
  have : kwF s = false := by simp [kwF, kws, *]
  rw [this]; rfl


end Go.Proofs.Ytljlhoekpjkgoaa
