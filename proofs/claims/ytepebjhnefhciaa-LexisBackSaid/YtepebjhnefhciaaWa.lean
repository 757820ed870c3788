/-
  The walks through the reference's words: Integer, valid, skipped.
  Conditions: none.
-/
import Derived.Test.YtepebjhnefhciaaW9
namespace Go.Proofs.Ytepebjhnefhciaa
open Go.Proofs
set_option linter.unusedSimpArgs false
set_option maxRecDepth 10000
attribute [local irreducible] SemVC CallVC Tri Stuck

theorem intBody_long {m : List UInt8} (h : 18 < m.length) : intBody m = false := by
  cases m with
  | nil => rfl
  | cons d s =>
    have : decide (s.length < 18) = false := decide_eq_false (by simp at h; omega)
    simp [intBody, this]
theorem intBody_zero {m : List UInt8} {h : 0 < m.length} (h2 : m[0].toNat = 48) : intBody m = false := by
  cases m with
  | nil => rfl
  | cons d s => simp at h2; simp [intBody, h2]
theorem intBody_all {m : List UInt8} {h : 0 < m.length} (h1 : ¬ 18 < m.length) (h2 : ¬ m[0].toNat = 48) : intBody m = m.all digC := by
  cases m with
  | nil => simp at h
  | cons d s =>
    have : decide (s.length < 18) = true := decide_eq_true (by simp at h1; omega)
    simp at h2
    simp [intBody, h2, this]

set_option maxHeartbeats 2000000 in
theorem Integer_spec (l : List UInt8) : Tri Try.prog 36 [.d (.str l)] [] (fun r => r = .d (.bool (integerF l))) := by
  refine tri_of_body hty Try.func36 rfl (kp [0, 2, 3, 4, 6, 14, 31, 36, 43]) [] _ _ _ (by simp [Try.f36]) (by simp) ?_
  by_cases h0 : l = [48]
  · subst h0
    ((conv => whnf); repeat ((first | (intro hq; try simp only [List.length_set, List.length_replicate, List.length_map, List.length_append, List.length_drop, List.length_take, List.length_cons, List.length_nil] at hq) | (refine And.intro (by first | exact rfl | exact trivial | exact fresh_of (by with_unfolding_all exact rfl) | exact List.cons_ne_nil _ _ | exact leaf_of rfl | exact unb_sub _ _ _ | exact Nat.le_of_ble_eq_true rfl | exact notMem_of (by with_unfolding_all exact rfl) | omega | (rw [unb_map]) | exact byte_lt _ | (simp only [List.length_set, List.length_replicate, List.length_map, List.length_append, List.length_drop, List.length_take, List.length_cons, List.length_nil, Int.toNat_natCast]; omega) | (simp only [List.length_set, List.length_replicate, List.length_map, List.length_append, List.length_drop, List.length_take, List.length_cons, List.length_nil, Int.toNat_natCast] at *; omega)) ?_) | (refine Exists.intro _ (And.intro rfl ?_))); (conv => whnf)))
    rfl
  have hI : integerF l = intBody (cutMinus l) := by
    have : (l == [48]) = false := by simpa using h0
    simp only [integerF, this, Bool.false_or]
  by_cases hn : l = []
  · subst hn
    ((conv => whnf); repeat ((first | (intro hq; try simp only [List.length_set, List.length_replicate, List.length_map, List.length_append, List.length_drop, List.length_take, List.length_cons, List.length_nil] at hq) | (refine And.intro (by first | exact rfl | exact trivial | exact fresh_of (by with_unfolding_all exact rfl) | exact List.cons_ne_nil _ _ | exact leaf_of rfl | exact unb_sub _ _ _ | exact Nat.le_of_ble_eq_true rfl | exact notMem_of (by with_unfolding_all exact rfl) | omega | (rw [unb_map]) | exact byte_lt _ | (simp only [List.length_set, List.length_replicate, List.length_map, List.length_append, List.length_drop, List.length_take, List.length_cons, List.length_nil, Int.toNat_natCast]; omega) | (simp only [List.length_set, List.length_replicate, List.length_map, List.length_append, List.length_drop, List.length_take, List.length_cons, List.length_nil, Int.toNat_natCast] at *; omega)) ?_) | (refine Exists.intro _ (And.intro rfl ?_))); (conv => whnf)))
    rfl
  obtain ⟨c, r, hl⟩ := List.exists_cons_of_ne_nil hn
  have hlr : l.length = r.length + 1 := by rw [hl]; rfl
  have hl0 : l[Int.toNat 0]'(by omega) = c := by subst hl; rfl
  by_cases hc : c.toNat = 45
  · have hcm : cutMinus l = r := by simp [cutMinus, hc, hl]
    have hc2 : (((l[Int.toNat 0]'(by omega)).toNat : Nat) : Int) = 45 := by rw [hl0, hc]; rfl
    rw [hcm] at hI
    ((conv => whnf); repeat' ((first | (intro hq; try simp only [List.length_set, List.length_replicate, List.length_map, List.length_append, List.length_drop, List.length_take, List.length_cons, List.length_nil] at hq) | (refine And.intro (by first | exact rfl | exact trivial | exact fresh_of (by with_unfolding_all exact rfl) | exact List.cons_ne_nil _ _ | exact leaf_of rfl | exact unb_sub _ _ _ | exact Nat.le_of_ble_eq_true rfl | exact notMem_of (by with_unfolding_all exact rfl) | omega | (rw [unb_map]) | exact byte_lt _ | (simp only [List.length_set, List.length_replicate, List.length_map, List.length_append, List.length_drop, List.length_take, List.length_cons, List.length_nil, Int.toNat_natCast]; omega) | (simp only [List.length_set, List.length_replicate, List.length_map, List.length_append, List.length_drop, List.length_take, List.length_cons, List.length_nil, Int.toNat_natCast] at *; omega) | (show eqOK _ _ = true; kernel_rfl) | (rw [List.length_append]; exact rfl) | (simp only [List.length_map, List.length_append]; exact rfl)) ?_) | (refine Exists.intro _ (And.intro rfl ?_)) | (refine Exists.intro (show (_ : Nat) < List.length _ from by first | omega | (simp only [List.length_cons, List.length_nil]; omega) | simp) ?_) | (refine draw_rule hty (by kernel_rfl) (by kernel_rfl) ?_) | (refine brB_dec (fun hb => ?_) (fun hb => ?_) <;> (first | contradiction | ((try simp only [List.length_set, List.length_replicate, List.length_map, List.length_append, List.length_drop, List.length_take, List.length_cons, List.length_nil] at hb); (first | (exfalso; omega) | skip)))) | (refine brB_ndec (fun hb => ?_) (fun hb => ?_) <;> (first | contradiction | ((try simp only [List.length_set, List.length_replicate, List.length_map, List.length_append, List.length_drop, List.length_take, List.length_cons, List.length_nil] at hb); (first | (exfalso; omega) | skip)))) | (refine brB_split (fun hb => ?_) (fun hb => ?_) <;> (first | contradiction | exact absurd (hb.symm.trans (by assumption) : false = true) (by decide) | exact absurd (hb.symm.trans (by assumption) : true = false) (by decide) | skip))) <;> (conv => whnf)))
    · rw [hI, show r = [] from List.eq_nil_of_length_eq_zero (by omega)]; rfl
    · rw [hI, intBody_long (by omega)]; rfl
    · rw [hI, intBody_zero (h := by omega) (by
        subst hl
        exact nat_of_int_eq (b := 48) hb)]; rfl
    · obtain ⟨a, ha⟩ : ∃ a : Nat, a = 1 := ⟨1, rfl⟩
      have hall : integerF l = (l.drop a).all digC := by
        rw [hI, intBody_all (h := by omega) (by omega) (by
          subst hl
          exact nat_ne (b := 48) hb), ha, hl]; rfl
      rw [show (ofV (Value.int IntKind.i64 1)) = SV.d (D.int .i64 (a + 0 : Nat)) from by rw [ha]; rfl]
      refine loop_rule hty (fun k : Nat => ([(0, .d (.str l)), (4, .d (.int .i64 (a + k : Nat)))], [])) (fun k => k ≤ (l.drop a).length ∧ ((l.drop a).take k).all digC = true) (fun k => l.length - k) 0 (by simp) ⟨by repeat' (first | exact trivial | exact rfl | refine And.intro ?_ ?_), by repeat' (first | exact trivial | exact rfl | refine And.intro ?_ ?_)⟩ ?_
      rintro k ⟨hk, hk2⟩
      have hk' := hk
      rw [List.length_drop] at hk'
      ((conv => whnf); repeat' ((first | (intro hq; try simp only [List.length_set, List.length_replicate, List.length_map, List.length_append, List.length_drop, List.length_take, List.length_cons, List.length_nil] at hq) | (refine And.intro (by first | exact rfl | exact trivial | exact fresh_of (by with_unfolding_all exact rfl) | exact List.cons_ne_nil _ _ | exact leaf_of rfl | exact unb_sub _ _ _ | exact Nat.le_of_ble_eq_true rfl | exact notMem_of (by with_unfolding_all exact rfl) | omega | (rw [unb_map]) | exact byte_lt _ | (simp only [List.length_set, List.length_replicate, List.length_map, List.length_append, List.length_drop, List.length_take, List.length_cons, List.length_nil, Int.toNat_natCast]; omega) | (simp only [List.length_set, List.length_replicate, List.length_map, List.length_append, List.length_drop, List.length_take, List.length_cons, List.length_nil, Int.toNat_natCast] at *; omega) | (show eqOK _ _ = true; kernel_rfl) | (rw [List.length_append]; exact rfl) | (simp only [List.length_map, List.length_append]; exact rfl)) ?_) | (refine Exists.intro _ (And.intro rfl ?_)) | (refine Exists.intro (show (_ : Nat) < List.length _ from by first | omega | (simp only [List.length_cons, List.length_nil]; omega) | simp) ?_) | (refine call_tri [] (digit_spec _) trivial (fun s hs => ?_); subst hs) | (refine draw_rule hty (by kernel_rfl) (by kernel_rfl) ?_) | (refine brB_dec (fun hb => ?_) (fun hb => ?_) <;> (first | contradiction | ((try simp only [List.length_set, List.length_replicate, List.length_map, List.length_append, List.length_drop, List.length_take, List.length_cons, List.length_nil] at hb); (first | (exfalso; omega) | skip)))) | (refine brB_ndec (fun hb => ?_) (fun hb => ?_) <;> (first | contradiction | ((try simp only [List.length_set, List.length_replicate, List.length_map, List.length_append, List.length_drop, List.length_take, List.length_cons, List.length_nil] at hb); (first | (exfalso; omega) | skip)))) | (refine brB_split (fun hb => ?_) (fun hb => ?_) <;> (first | contradiction | exact absurd (hb.symm.trans (by assumption) : false = true) (by decide) | exact absurd (hb.symm.trans (by assumption) : true = false) (by decide) | skip))) <;> (conv => whnf)))
      · have h5 : k < (l.drop a).length := by rw [List.length_drop]; omega
        have hget : (l.drop a)[k] = l[a + k]'(by omega) := by rw [List.getElem_drop]
        rw [hall, all_stop h5 (by rw [hget]; have hb' : (!digC (l[a + k]'(by omega))) = true := hb; simpa using hb')]; rfl
      · have h5 : k < (l.drop a).length := by rw [List.length_drop]; omega
        have hget : (l.drop a)[k] = l[a + k]'(by omega) := by rw [List.getElem_drop]
        exact ⟨k + 1, ⟨h5, all_step h5 hk2 (by rw [hget]; have hb' : (!digC (l[a + k]'(by omega))) = false := hb; simpa using hb')⟩, by dsimp only; omega, ⟨by repeat' (first | exact trivial | exact rfl | refine And.intro ?_ ?_), by repeat' (first | exact trivial | exact rfl | refine And.intro ?_ ?_)⟩⟩
      · rw [hall, ← List.take_of_length_le (l := l.drop a) (i := k) (by rw [List.length_drop]; omega), hk2]; rfl
  · have hcm : cutMinus l = l := by simp [cutMinus, hc, hl]
    have hc2 : ¬ (((l[Int.toNat 0]'(by omega)).toNat : Nat) : Int) = 45 := by rw [hl0]; omega
    rw [hcm] at hI
    ((conv => whnf); repeat' ((first | (intro hq; try simp only [List.length_set, List.length_replicate, List.length_map, List.length_append, List.length_drop, List.length_take, List.length_cons, List.length_nil] at hq) | (refine And.intro (by first | exact rfl | exact trivial | exact fresh_of (by with_unfolding_all exact rfl) | exact List.cons_ne_nil _ _ | exact leaf_of rfl | exact unb_sub _ _ _ | exact Nat.le_of_ble_eq_true rfl | exact notMem_of (by with_unfolding_all exact rfl) | omega | (rw [unb_map]) | exact byte_lt _ | (simp only [List.length_set, List.length_replicate, List.length_map, List.length_append, List.length_drop, List.length_take, List.length_cons, List.length_nil, Int.toNat_natCast]; omega) | (simp only [List.length_set, List.length_replicate, List.length_map, List.length_append, List.length_drop, List.length_take, List.length_cons, List.length_nil, Int.toNat_natCast] at *; omega) | (show eqOK _ _ = true; kernel_rfl) | (rw [List.length_append]; exact rfl) | (simp only [List.length_map, List.length_append]; exact rfl)) ?_) | (refine Exists.intro _ (And.intro rfl ?_)) | (refine Exists.intro (show (_ : Nat) < List.length _ from by first | omega | (simp only [List.length_cons, List.length_nil]; omega) | simp) ?_) | (refine draw_rule hty (by kernel_rfl) (by kernel_rfl) ?_) | (refine brB_dec (fun hb => ?_) (fun hb => ?_) <;> (first | contradiction | ((try simp only [List.length_set, List.length_replicate, List.length_map, List.length_append, List.length_drop, List.length_take, List.length_cons, List.length_nil] at hb); (first | (exfalso; omega) | skip)))) | (refine brB_ndec (fun hb => ?_) (fun hb => ?_) <;> (first | contradiction | ((try simp only [List.length_set, List.length_replicate, List.length_map, List.length_append, List.length_drop, List.length_take, List.length_cons, List.length_nil] at hb); (first | (exfalso; omega) | skip)))) | (refine brB_split (fun hb => ?_) (fun hb => ?_) <;> (first | contradiction | exact absurd (hb.symm.trans (by assumption) : false = true) (by decide) | exact absurd (hb.symm.trans (by assumption) : true = false) (by decide) | skip))) <;> (conv => whnf)))
    · rw [hI, intBody_long (by omega)]; rfl
    · rw [hI, intBody_zero (h := by omega) (nat_of_int_eq (b := 48) hb)]; rfl
    · obtain ⟨a, ha⟩ : ∃ a : Nat, a = 0 := ⟨0, rfl⟩
      have hall : integerF l = (l.drop a).all digC := by
        rw [hI, intBody_all (h := by omega) (by omega) (nat_ne (b := 48) hb), ha]; rfl
      refine SemVC.sub (fr' := [(0, .d (.str l)), (4, .d (.int .i64 (a + 0 : Nat)))]) (hp' := []) (by subst ha; exact ⟨by repeat' (first | exact trivial | exact rfl | refine And.intro ?_ ?_), by repeat' (first | exact trivial | exact rfl | refine And.intro ?_ ?_)⟩) ?_
      refine loop_rule hty (fun k : Nat => ([(0, .d (.str l)), (4, .d (.int .i64 (a + k : Nat)))], [])) (fun k => k ≤ (l.drop a).length ∧ ((l.drop a).take k).all digC = true) (fun k => l.length - k) 0 (by simp) ⟨by repeat' (first | exact trivial | exact rfl | refine And.intro ?_ ?_), by repeat' (first | exact trivial | exact rfl | refine And.intro ?_ ?_)⟩ ?_
      rintro k ⟨hk, hk2⟩
      have hk' := hk
      rw [List.length_drop] at hk'
      ((conv => whnf); repeat' ((first | (intro hq; try simp only [List.length_set, List.length_replicate, List.length_map, List.length_append, List.length_drop, List.length_take, List.length_cons, List.length_nil] at hq) | (refine And.intro (by first | exact rfl | exact trivial | exact fresh_of (by with_unfolding_all exact rfl) | exact List.cons_ne_nil _ _ | exact leaf_of rfl | exact unb_sub _ _ _ | exact Nat.le_of_ble_eq_true rfl | exact notMem_of (by with_unfolding_all exact rfl) | omega | (rw [unb_map]) | exact byte_lt _ | (simp only [List.length_set, List.length_replicate, List.length_map, List.length_append, List.length_drop, List.length_take, List.length_cons, List.length_nil, Int.toNat_natCast]; omega) | (simp only [List.length_set, List.length_replicate, List.length_map, List.length_append, List.length_drop, List.length_take, List.length_cons, List.length_nil, Int.toNat_natCast] at *; omega) | (show eqOK _ _ = true; kernel_rfl) | (rw [List.length_append]; exact rfl) | (simp only [List.length_map, List.length_append]; exact rfl)) ?_) | (refine Exists.intro _ (And.intro rfl ?_)) | (refine Exists.intro (show (_ : Nat) < List.length _ from by first | omega | (simp only [List.length_cons, List.length_nil]; omega) | simp) ?_) | (refine call_tri [] (digit_spec _) trivial (fun s hs => ?_); subst hs) | (refine draw_rule hty (by kernel_rfl) (by kernel_rfl) ?_) | (refine brB_dec (fun hb => ?_) (fun hb => ?_) <;> (first | contradiction | ((try simp only [List.length_set, List.length_replicate, List.length_map, List.length_append, List.length_drop, List.length_take, List.length_cons, List.length_nil] at hb); (first | (exfalso; omega) | skip)))) | (refine brB_ndec (fun hb => ?_) (fun hb => ?_) <;> (first | contradiction | ((try simp only [List.length_set, List.length_replicate, List.length_map, List.length_append, List.length_drop, List.length_take, List.length_cons, List.length_nil] at hb); (first | (exfalso; omega) | skip)))) | (refine brB_split (fun hb => ?_) (fun hb => ?_) <;> (first | contradiction | exact absurd (hb.symm.trans (by assumption) : false = true) (by decide) | exact absurd (hb.symm.trans (by assumption) : true = false) (by decide) | skip))) <;> (conv => whnf)))
      · have h5 : k < (l.drop a).length := by rw [List.length_drop]; omega
        have hget : (l.drop a)[k] = l[a + k]'(by omega) := by rw [List.getElem_drop]
        rw [hall, all_stop h5 (by rw [hget]; have hb' : (!digC (l[a + k]'(by omega))) = true := hb; simpa using hb')]; rfl
      · have h5 : k < (l.drop a).length := by rw [List.length_drop]; omega
        have hget : (l.drop a)[k] = l[a + k]'(by omega) := by rw [List.getElem_drop]
        exact ⟨k + 1, ⟨h5, all_step h5 hk2 (by rw [hget]; have hb' : (!digC (l[a + k]'(by omega))) = false := hb; simpa using hb')⟩, by dsimp only; omega, ⟨by repeat' (first | exact trivial | exact rfl | refine And.intro ?_ ?_), by repeat' (first | exact trivial | exact rfl | refine And.intro ?_ ?_)⟩⟩
      · rw [hall, ← List.take_of_length_le (l := l.drop a) (i := k) (by rw [List.length_drop]; omega), hk2]; rfl

/-- May the token stand in a text that is joined? -/
def tokOK (t : GT) : Bool := decide (t.text ≠ []) && (decide ((scanF t.text).1 ≠ 0) && (decide (((scanF t.text).1 : Int) = t.kind) && decide ((scanF t.text).2 = t.text.length)))

theorem scan_kind (l : List UInt8) : (scanF l).1 ≤ 3 := by
  unfold scanF
  repeat' split
  all_goals simp

theorem tokOK_iff (t : GT) : tokOK t = true ↔ t.text ≠ [] ∧ t.kind ≠ 0 ∧ ∃ k : Nat, (k : Int) = t.kind ∧ scanF t.text = (k, t.text.length) := by
  simp only [tokOK, Bool.and_eq_true, decide_eq_true_eq]
  constructor
  · rintro ⟨h1, h2, h3, h4⟩
    exact ⟨h1, by omega, _, h3, by rw [← h4]⟩
  · rintro ⟨h1, h2, k, h3, h4⟩
    rw [h4]
    exact ⟨h1, by omega, h3, rfl⟩

theorem tokOK_kind {t : GT} {n : Nat} (hn : t.kind = n) (h0 : n ≠ 0) {b : Bool} (h : b = true ↔ t.text ≠ [] ∧ scanF t.text = (n, t.text.length)) : b = tokOK t := by
  rw [Bool.eq_iff_iff, h, tokOK_iff]
  constructor
  · rintro ⟨h1, h2⟩; exact ⟨h1, by omega, n, hn.symm, h2⟩
  · rintro ⟨h1, _, k, h3, h4⟩
    have : k = n := by omega
    subst this
    exact ⟨h1, h4⟩

def gV (t : GT) : SV := .d (.agg (gR t))

theorem valid_spec (t : GT) (h62 : t.text.length ≤ 4611686018427387904) : Tri Try.prog 29 [gV t] [] (fun r => r = .d (.bool (tokOK t))) := by
  refine tri_of_body hty Try.func29 rfl (kp [0, 1, 2, 4, 5, 10, 15]) [] _ _ _ (by simp [Try.f29]) (by simp) ?_
  ((conv => whnf); repeat' ((first | (intro hq; try simp only [List.length_set, List.length_replicate, List.length_map, List.length_append, List.length_drop, List.length_take, List.length_cons, List.length_nil] at hq) | (refine And.intro (by first | exact rfl | exact trivial | exact fresh_of (by with_unfolding_all exact rfl) | exact List.cons_ne_nil _ _ | exact leaf_of rfl | exact unb_sub _ _ _ | exact Nat.le_of_ble_eq_true rfl | exact notMem_of (by with_unfolding_all exact rfl) | omega | (rw [unb_map]) | exact byte_lt _ | (simp only [List.length_set, List.length_replicate, List.length_map, List.length_append, List.length_drop, List.length_take, List.length_cons, List.length_nil, Int.toNat_natCast]; omega) | (simp only [List.length_set, List.length_replicate, List.length_map, List.length_append, List.length_drop, List.length_take, List.length_cons, List.length_nil, Int.toNat_natCast] at *; omega) | (show eqOK _ _ = true; kernel_rfl) | (rw [List.length_append]; exact rfl) | (simp only [List.length_map, List.length_append]; exact rfl)) ?_) | (refine Exists.intro _ (And.intro rfl ?_)) | (refine Exists.intro (show (_ : Nat) < List.length _ from by first | omega | (simp only [List.length_cons, List.length_nil]; omega) | simp) ?_) | (refine call_tri [] (Word_spec _ h62) trivial (fun s hs => ?_); subst hs) | (refine call_tri [] (Integer_spec _) trivial (fun s hs => ?_); subst hs) | (refine call_tri [] (Sign_spec _) trivial (fun s hs => ?_); subst hs) | (refine draw_rule hty (by kernel_rfl) (by kernel_rfl) ?_) | (refine brB_dec (fun hb => ?_) (fun hb => ?_) <;> (first | contradiction | ((try simp only [List.length_set, List.length_replicate, List.length_map, List.length_append, List.length_drop, List.length_take, List.length_cons, List.length_nil] at hb); (first | (exfalso; omega) | skip)))) | (refine brB_ndec (fun hb => ?_) (fun hb => ?_) <;> (first | contradiction | ((try simp only [List.length_set, List.length_replicate, List.length_map, List.length_append, List.length_drop, List.length_take, List.length_cons, List.length_nil] at hb); (first | (exfalso; omega) | skip)))) | (refine brB_split (fun hb => ?_) (fun hb => ?_) <;> (first | contradiction | exact absurd (hb.symm.trans (by assumption) : false = true) (by decide) | exact absurd (hb.symm.trans (by assumption) : true = false) (by decide) | skip))) <;> (conv => whnf)))
  · exact bool_eq (tokOK_kind hb (by decide) (word_iff _))
  · exact bool_eq (tokOK_kind hb (by decide) (integer_iff _))
  · exact bool_eq (tokOK_kind hb (by decide) (sign_iff _))
  · rename_i a b
    have : tokOK t = false := by
      rw [Bool.eq_false_iff]
      intro h
      obtain ⟨_, h0, k, h1, h2⟩ := (tokOK_iff t).1 h
      have := scan_kind t.text
      rw [h2] at this
      simp only at this
      have h3 : ¬ t.kind = 3 := hb
      have h4 : ¬ t.kind = 2 := b
      have h5 : ¬ t.kind = 1 := a
      omega
    rw [this]; rfl
end Go.Proofs.Ytepebjhnefhciaa
