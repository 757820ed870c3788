/-
  The walks through the reference's skipped and token.
  Conditions: none.
-/
import Derived.Test.YtepebjhnefhciaaWa
namespace Go.Proofs.Ytepebjhnefhciaa
open Go.Proofs
set_option linter.unusedSimpArgs false
set_option maxRecDepth 10000
attribute [local irreducible] SemVC CallVC Tri Stuck

/-- m is the first place from at_ on where a token may begin. -/
structure Skip (b : List UInt8) (at_ m : Nat) : Prop where
  le : at_ ≤ m
  hi : m ≤ b.length
  eq : ∀ last, LX (b.drop at_) at_ last = LX (b.drop m) m last

theorem Skip.blank {b : List UInt8} {at_ m : Nat} (h : Skip b at_ m) (hm : m < b.length) (hc : cls b[m].toNat = 1) : Skip b at_ (m + 1) :=
  ⟨Nat.le_succ_of_le h.le, hm, fun last => by rw [h.eq, drop_get hm, LX_blank hc]⟩

theorem Skip.hash {b : List UInt8} {at_ m n : Nat} (h : Skip b at_ m) (hm : m < b.length) (hc : b[m].toNat = 35) (hn : n = m + ((b.drop m).takeWhile noNL).length) : Skip b at_ n := by
  have hle := tw_le noNL (b.drop m)
  rw [List.length_drop] at hle
  have h1 := h.le
  refine ⟨by omega, by omega, fun last => ?_⟩
  rw [h.eq]
  have hd := drop_get hm
  rw [hn, ← List.drop_drop, drop_tw]
  rw [hd, LX_hash hc]

inductive SkipP (b : List UInt8) (at_ : Nat) : SV → Prop
  | mk (m : Nat) (h : Skip b at_ m) (h2 : ∀ h : m < b.length, ¬ cls b[m].toNat = 1 ∧ ¬ b[m].toNat = 35) : SkipP b at_ (.d (.int .i64 m))

theorem skipped_spec (b : List UInt8) (at_ : Nat) (ha : at_ ≤ b.length) : Tri Try.prog 27 [.d (bsv b), .d (.int .i64 at_)] [] (SkipP b at_) := by
  refine tri_of_body hty Try.func27 rfl (kp [0, 1, 4, 8, 13, 20, 31]) [] _ _ _ (by simp [Try.f27]) (by simp) ?_
  ((conv => whnf); repeat' ((first | (intro hq; try simp only [List.length_set, List.length_replicate, List.length_map, List.length_append, List.length_drop, List.length_take, List.length_cons, List.length_nil] at hq) | (refine And.intro (by first | exact rfl | exact trivial | exact fresh_of (by with_unfolding_all exact rfl) | exact List.cons_ne_nil _ _ | exact leaf_of rfl | exact unb_sub _ _ _ | exact Nat.le_of_ble_eq_true rfl | exact notMem_of (by with_unfolding_all exact rfl) | omega | (rw [unb_map]) | exact byte_lt _ | (simp only [List.length_set, List.length_replicate, List.length_map, List.length_append, List.length_drop, List.length_take, List.length_cons, List.length_nil, Int.toNat_natCast]; omega) | (simp only [List.length_set, List.length_replicate, List.length_map, List.length_append, List.length_drop, List.length_take, List.length_cons, List.length_nil, Int.toNat_natCast] at *; omega) | (show eqOK _ _ = true; kernel_rfl) | (rw [List.length_append]; exact rfl) | (simp only [List.length_map, List.length_append]; exact rfl)) ?_) | (refine Exists.intro _ (And.intro rfl ?_)) | (refine Exists.intro (show (_ : Nat) < List.length _ from by first | omega | (simp only [List.length_cons, List.length_nil]; omega) | simp) ?_) | (refine draw_rule hty (by kernel_rfl) (by kernel_rfl) ?_) | (refine brB_dec (fun hb => ?_) (fun hb => ?_) <;> (first | contradiction | ((try simp only [List.length_set, List.length_replicate, List.length_map, List.length_append, List.length_drop, List.length_take, List.length_cons, List.length_nil] at hb); (first | (exfalso; omega) | skip)))) | (refine brB_ndec (fun hb => ?_) (fun hb => ?_) <;> (first | contradiction | ((try simp only [List.length_set, List.length_replicate, List.length_map, List.length_append, List.length_drop, List.length_take, List.length_cons, List.length_nil] at hb); (first | (exfalso; omega) | skip)))) | (refine brB_split (fun hb => ?_) (fun hb => ?_) <;> (first | contradiction | exact absurd (hb.symm.trans (by assumption) : false = true) (by decide) | exact absurd (hb.symm.trans (by assumption) : true = false) (by decide) | skip))) <;> (conv => whnf)))
  refine loop_rule hty (fun m : Nat => ([(0, .d (bsv b)), (1, .d (.int .i64 m))], [])) (fun m => Skip b at_ m) (fun m => b.length - m) at_ ⟨Nat.le_refl _, ha, fun _ => rfl⟩ ⟨by repeat' (first | exact trivial | exact rfl | refine And.intro ?_ ?_), by repeat' (first | exact trivial | exact rfl | refine And.intro ?_ ?_)⟩ ?_
  intro m hm
  have hle := hm.hi
  ((conv => whnf); repeat' ((first | (intro hq; try simp only [List.length_set, List.length_replicate, List.length_map, List.length_append, List.length_drop, List.length_take, List.length_cons, List.length_nil] at hq) | (refine And.intro (by first | exact rfl | exact trivial | exact fresh_of (by with_unfolding_all exact rfl) | exact List.cons_ne_nil _ _ | exact leaf_of rfl | exact unb_sub _ _ _ | exact Nat.le_of_ble_eq_true rfl | exact notMem_of (by with_unfolding_all exact rfl) | omega | (rw [unb_map]) | exact byte_lt _ | (simp only [List.length_set, List.length_replicate, List.length_map, List.length_append, List.length_drop, List.length_take, List.length_cons, List.length_nil, Int.toNat_natCast]; omega) | (simp only [List.length_set, List.length_replicate, List.length_map, List.length_append, List.length_drop, List.length_take, List.length_cons, List.length_nil, Int.toNat_natCast] at *; omega) | (show eqOK _ _ = true; kernel_rfl) | (rw [List.length_append]; exact rfl) | (simp only [List.length_map, List.length_append]; exact rfl)) ?_) | (refine Exists.intro _ (And.intro rfl ?_)) | (refine Exists.intro (show (_ : Nat) < List.length _ from by first | omega | (simp only [List.length_cons, List.length_nil]; omega) | simp) ?_) | (refine ⟨_, row_at (by omega), ?_⟩) | (refine call_tri [] (blank_spec _) trivial (fun s hs => ?_); subst hs) | (refine draw_rule hty (by kernel_rfl) (by kernel_rfl) ?_) | (refine brB_dec (fun hb => ?_) (fun hb => ?_) <;> (first | contradiction | ((try simp only [List.length_set, List.length_replicate, List.length_map, List.length_append, List.length_drop, List.length_take, List.length_cons, List.length_nil] at hb); (first | (exfalso; omega) | skip)))) | (refine brB_ndec (fun hb => ?_) (fun hb => ?_) <;> (first | contradiction | ((try simp only [List.length_set, List.length_replicate, List.length_map, List.length_append, List.length_drop, List.length_take, List.length_cons, List.length_nil] at hb); (first | (exfalso; omega) | skip)))) | (refine brB_split (fun hb => ?_) (fun hb => ?_) <;> (first | contradiction | exact absurd (hb.symm.trans (by assumption) : false = true) (by decide) | exact absurd (hb.symm.trans (by assumption) : true = false) (by decide) | skip))) <;> (conv => whnf)))
  · exact ⟨m + 1, hm.blank (by omega) hb, by dsimp only; omega, ⟨by repeat' (first | exact trivial | exact rfl | refine And.intro ?_ ?_), by repeat' (first | exact trivial | exact rfl | refine And.intro ?_ ?_)⟩⟩
  · have h1 : m < b.length := by omega
    have h3' : b[m].toNat = 35 := nat_of_int_eq (b := 35) hb
    have hle := tw_le noNL (b.drop m)
    rw [List.length_drop] at hle
    have htw : 0 < ((b.drop m).takeWhile noNL).length := by
      rw [drop_get h1, List.takeWhile_cons_of_pos (by simp [noNL, h3'])]; simp
    clear hb
    refine loop_rule hty (fun n : Nat => ([(0, .d (bsv b)), (1, .d (.int .i64 n))], [])) (fun n => m ≤ n ∧ n - m ≤ ((b.drop m).takeWhile noNL).length) (fun n => b.length - n) m ⟨Nat.le_refl _, by omega⟩ ⟨by repeat' (first | exact trivial | exact rfl | refine And.intro ?_ ?_), by repeat' (first | exact trivial | exact rfl | refine And.intro ?_ ?_)⟩ ?_
    rintro n ⟨hn1, hn2⟩
    have fin : ((b.drop m).takeWhile noNL).length ≤ n - m → Skip b at_ n ∧ b.length - n < b.length - m := fun h => ⟨hm.hash h1 h3' (by omega), by omega⟩
    ((conv => whnf); repeat' ((first | (intro hq; try simp only [List.length_set, List.length_replicate, List.length_map, List.length_append, List.length_drop, List.length_take, List.length_cons, List.length_nil] at hq) | (refine And.intro (by first | exact rfl | exact trivial | exact fresh_of (by with_unfolding_all exact rfl) | exact List.cons_ne_nil _ _ | exact leaf_of rfl | exact unb_sub _ _ _ | exact Nat.le_of_ble_eq_true rfl | exact notMem_of (by with_unfolding_all exact rfl) | omega | (rw [unb_map]) | exact byte_lt _ | (simp only [List.length_set, List.length_replicate, List.length_map, List.length_append, List.length_drop, List.length_take, List.length_cons, List.length_nil, Int.toNat_natCast]; omega) | (simp only [List.length_set, List.length_replicate, List.length_map, List.length_append, List.length_drop, List.length_take, List.length_cons, List.length_nil, Int.toNat_natCast] at *; omega) | (show eqOK _ _ = true; kernel_rfl) | (rw [List.length_append]; exact rfl) | (simp only [List.length_map, List.length_append]; exact rfl)) ?_) | (refine Exists.intro _ (And.intro rfl ?_)) | (refine Exists.intro (show (_ : Nat) < List.length _ from by first | omega | (simp only [List.length_cons, List.length_nil]; omega) | simp) ?_) | (refine ⟨_, row_at (by omega), ?_⟩) | (refine draw_rule hty (by kernel_rfl) (by kernel_rfl) ?_) | (refine brB_dec (fun hb => ?_) (fun hb => ?_) <;> (first | contradiction | ((try simp only [List.length_set, List.length_replicate, List.length_map, List.length_append, List.length_drop, List.length_take, List.length_cons, List.length_nil] at hb); (first | (exfalso; omega) | skip)))) | (refine brB_ndec (fun hb => ?_) (fun hb => ?_) <;> (first | contradiction | ((try simp only [List.length_set, List.length_replicate, List.length_map, List.length_append, List.length_drop, List.length_take, List.length_cons, List.length_nil] at hb); (first | (exfalso; omega) | skip)))) | (refine brB_split (fun hb => ?_) (fun hb => ?_) <;> (first | contradiction | exact absurd (hb.symm.trans (by assumption) : false = true) (by decide) | exact absurd (hb.symm.trans (by assumption) : true = false) (by decide) | skip))) <;> (conv => whnf)))
    · have hidx : n - m < (b.drop m).length := by rw [List.length_drop]; omega
      have hget : (b.drop m)[n - m] = b[n]'(by omega) := by rw [List.getElem_drop]; congr 1; omega
      refine ⟨n + 1, ⟨by omega, ?_⟩, by dsimp only; omega, ⟨by repeat' (first | exact trivial | exact rfl | refine And.intro ?_ ?_), by repeat' (first | exact trivial | exact rfl | refine And.intro ?_ ?_)⟩⟩
      have := tw_step (p := noNL) (b.drop m) (n - m) hidx hn2 (by rw [hget]; have := nat_ne (b := 10) hb; simpa [noNL] using this)
      omega
    · have hidx : n - m < (b.drop m).length := by rw [List.length_drop]; omega
      have hget : (b.drop m)[n - m] = b[n]'(by omega) := by rw [List.getElem_drop]; congr 1; omega
      have hf := fin (tw_stop _ _ hidx (by rw [hget]; have := nat_of_int_eq (b := 10) hb; simpa [noNL] using this))
      exact ⟨n, hf.1, hf.2, ⟨by repeat' (first | exact trivial | exact rfl | refine And.intro ?_ ?_), by repeat' (first | exact trivial | exact rfl | refine And.intro ?_ ?_)⟩⟩
    · have hf := fin (by omega)
      exact ⟨n, hf.1, hf.2, ⟨by repeat' (first | exact trivial | exact rfl | refine And.intro ?_ ?_), by repeat' (first | exact trivial | exact rfl | refine And.intro ?_ ?_)⟩⟩
  · rename_i h2
    exact .mk m hm fun h => ⟨by simpa using h2, nat_ne (b := 35) hb⟩
  · exact .mk m hm fun h => absurd h (by omega)
end Go.Proofs.Ytepebjhnefhciaa
