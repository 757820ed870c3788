/-
  The walks through Join and the reference's Join.
  Conditions: none.
-/
import Derived.Test.YtepebjhnefhciaaWd
namespace Go.Proofs.Ytepebjhnefhciaa
open Go.Proofs
set_option linter.unusedSimpArgs false
set_option maxRecDepth 10000
attribute [local irreducible] SemVC CallVC Tri Stuck

def joinB (l : List GT) : List UInt8 := (l.flatMap fun t => 32 :: t.text).drop 1

theorem joinB_zero (l : List GT) : joinB (l.take 0) = [] := rfl
theorem joinB_first (l : List GT) (h : 0 < l.length) : joinB (l.take 1) = l[0].text := by
  cases l with
  | nil => simp at h
  | cons a r => simp [joinB]
theorem joinB_snoc (l : List GT) (k : Nat) (h : k < l.length) (h0 : 0 < k) : joinB (l.take (k + 1)) = joinB (l.take k) ++ [32] ++ l[k].text := by
  cases l with
  | nil => simp at h
  | cons a r =>
    cases k with
    | zero => omega
    | succ k =>
      have hr : k < r.length := by simpa using h
      rw [List.take_succ_eq_append_getElem h, List.take_succ_cons]
      simp only [joinB, List.flatMap_append, List.flatMap_cons, List.flatMap_nil, List.cons_append, List.drop_succ_cons, List.drop_zero, List.append_nil, List.append_assoc, List.nil_append, List.getElem_cons_succ]

structure Small (l : List GT) : Prop where
  n : l.length ≤ 100000
  t : ∀ t ∈ l, t.text.length ≤ 100000

theorem joinB_len {l : List GT} (hs : Small l) : ∀ k, k ≤ l.length → (joinB (l.take k)).length ≤ k * 100001 := by
  intro k
  induction k with
  | zero => intro _; simp [joinB]
  | succ k ih =>
    intro h
    have h1 := ih (by omega)
    have h2 := hs.t l[k] (List.getElem_mem (by omega))
    by_cases h0 : k = 0
    · subst h0
      rw [joinB_first l (by omega)]; omega
    · rw [joinB_snoc l k (by omega) (by omega)]
      simp only [List.length_append, List.length_cons, List.length_nil]
      omega

def joinF (l : List GT) : List UInt8 × Int :=
  match l[l.length - 1]? with
  | none => ([], 1)
  | some e =>
    if e.kind = 4 ∧ e.text = [] then
      if (l.take (l.length - 1)).all tokOK = true then
        if 65536 < (joinB (l.take (l.length - 1))).length then ([], 2) else (joinB (l.take (l.length - 1)), 0)
      else ([], 1)
    else ([], 1)

theorem joinF_nil {l : List GT} (h : l.length = 0) : joinF l = ([], 1) := by
  have : l = [] := List.eq_nil_of_length_eq_zero h
  subst this; rfl
theorem joinF_end {l : List GT} (h : l.length - 1 < l.length) (he : ¬ (l[l.length - 1].kind = 4 ∧ l[l.length - 1].text = [])) : joinF l = ([], 1) := by
  unfold joinF; rw [List.getElem?_eq_getElem h]; simp only; rw [if_neg he]
theorem joinF_bad {l : List GT} {k : Nat} (h : k < l.length - 1) (hb : tokOK (l[k]'(by omega)) = false) : joinF l = ([], 1) := by
  unfold joinF; rw [List.getElem?_eq_getElem (by omega)]; simp only
  have : (l.take (l.length - 1)).all tokOK = false := by
    refine all_stop (k := k) (by rw [List.length_take]; omega) ?_
    rw [List.getElem_take]; exact hb
  split
  · rw [this]; rfl
  · rfl
theorem joinF_long {l : List GT} (h : l.length - 1 < l.length) (he : l[l.length - 1].kind = 4 ∧ l[l.length - 1].text = []) (ha : (l.take (l.length - 1)).all tokOK = true) (hl : 65536 < (joinB (l.take (l.length - 1))).length) : joinF l = ([], 2) := by
  unfold joinF; rw [List.getElem?_eq_getElem h]; simp only; rw [if_pos he, if_pos ha, if_pos hl]
theorem joinF_ok {l : List GT} (h : l.length - 1 < l.length) (he : l[l.length - 1].kind = 4 ∧ l[l.length - 1].text = []) (ha : (l.take (l.length - 1)).all tokOK = true) (hl : ¬ 65536 < (joinB (l.take (l.length - 1))).length) : joinF l = (joinB (l.take (l.length - 1)), 0) := by
  unfold joinF; rw [List.getElem?_eq_getElem h]; simp only; rw [if_pos he, if_pos ha, if_neg hl]

inductive JoinP (l : List GT) : SV → Prop
  | no (e : Int) (h : joinF l = ([], e)) (he : e = 1 ∨ e = 2) : JoinP l (.tup [.d .nil, .d (.int .i64 e)])
  | yes (b : List UInt8) (h : joinF l = (b, 0)) (hb : b.length ≤ 65536) : JoinP l (.tup [.d (bsv b), .d (.int .i64 0)])

theorem joinB_cons (l : List GT) (k : Nat) (h : k < l.length) : (joinB (l.take (k + 1))).map brow = (if 0 < k then (joinB (l.take k)).map brow ++ [brow 32] else []) ++ l[k].text.map brow := by
  by_cases h0 : 0 < k
  · rw [if_pos h0, joinB_snoc l k h h0]; simp
  · obtain rfl : k = 0 := by omega
    rw [if_neg h0, joinB_first l h]; rfl

theorem rjoin_spec (l : List GT) (hs : Small l) : Tri Try.prog 20 [.d (gsv l)] [] (JoinP l) := by
  have hsn := hs.n
  refine tri_of_body hty Try.func20 rfl (kp [0, 2, 3, 4, 5, 6, 27, 30, 38, 40, 53]) [] _ _ _ (by simp [Try.f20]) (by simp) ?_
  ((conv => whnf); repeat' ((first | (intro hq; (try simp only [List.length_set, List.length_replicate, List.length_map, List.length_append, List.length_drop, List.length_take, List.length_cons, List.length_nil] at hq); (try rewrite [List.length_map])) | (refine And.intro (by first | exact rfl | exact trivial | exact fresh_of (by with_unfolding_all exact rfl) | exact List.cons_ne_nil _ _ | exact leaf_of rfl | exact unb_sub _ _ _ | exact Nat.le_of_ble_eq_true rfl | exact notMem_of (by with_unfolding_all exact rfl) | omega | (rw [unb_map]) | exact byte_lt _ | (simp only [List.length_set, List.length_replicate, List.length_map, List.length_append, List.length_drop, List.length_take, List.length_cons, List.length_nil, Int.toNat_natCast]; omega) | (simp only [List.length_set, List.length_replicate, List.length_map, List.length_append, List.length_drop, List.length_take, List.length_cons, List.length_nil, Int.toNat_natCast] at *; omega) | (show eqOK _ _ = true; kernel_rfl) | (rw [List.length_append]; exact rfl) | (simp only [List.length_map, List.length_append]; exact rfl)) ?_) | (refine Exists.intro _ (And.intro rfl ?_)) | (refine Exists.intro (show (_ : Nat) < List.length _ from by first | omega | (simp only [List.length_cons, List.length_nil]; omega) | simp) ?_) | (refine ⟨_, row_at (by first | omega | (simp only [List.length_map]; omega)), ?_⟩) | (refine draw_rule hty (by kernel_rfl) (by kernel_rfl) ?_) | (refine brB_dec (fun hb => ?_) (fun hb => ?_) <;> (first | contradiction | ((try simp only [List.length_set, List.length_replicate, List.length_map, List.length_append, List.length_drop, List.length_take, List.length_cons, List.length_nil] at hb); (first | (exfalso; omega) | skip)))) | (refine brB_ndec (fun hb => ?_) (fun hb => ?_) <;> (first | contradiction | ((try simp only [List.length_set, List.length_replicate, List.length_map, List.length_append, List.length_drop, List.length_take, List.length_cons, List.length_nil] at hb); (first | (exfalso; omega) | skip)))) | (refine brB_split (fun hb => ?_) (fun hb => ?_) <;> (first | contradiction | exact absurd (hb.symm.trans (by assumption) : false = true) (by decide) | exact absurd (hb.symm.trans (by assumption) : true = false) (by decide) | skip))) <;> (conv => whnf)))
  · exact .no 1 (joinF_nil (by omega)) (.inl rfl)
  · have e : l[((l.length : Int) - 1).toNat]'(by omega) = l[l.length - 1]'(by omega) := by congr 1; omega
    exact .no 1 (joinF_end (by omega) (fun h => hb (by rw [e]; exact h.1))) (.inl rfl)
  · have e : l[((l.length : Int) - 1).toNat]'(by omega) = l[l.length - 1]'(by omega) := by congr 1; omega
    exact .no 1 (joinF_end (by omega) (fun h => hb (by rw [e]; exact h.2))) (.inl rfl)
  have hend : l[l.length - 1].kind = 4 ∧ l[l.length - 1].text = [] := by
    have e : l[((l.length : Int) - 1).toNat]'(by omega) = l[l.length - 1]'(by omega) := by congr 1; omega
    rw [← e]
    exact ⟨by assumption, by assumption⟩
  clear hb
  refine SemVC.own 5 5 5 1 rfl (fresh_of (by with_unfolding_all exact rfl)) ?_
  refine loop_rule hty (fun k : Nat => ([(0, .d (gsv l)), (4, .d (.int .i64 ((l.length : Int) - 1))), (5, .osl 5 1 ((joinB (l.take k)).map brow)), (6, .d (.int .i64 k))], [(5, .own 5 1 ((joinB (l.take k)).map brow).length)])) (fun k => k ≤ l.length - 1 ∧ (l.take k).all tokOK = true) (fun k => l.length - k) 0 (by simp) ⟨by repeat' (first | exact trivial | exact rfl | refine And.intro ?_ ?_), by repeat' (first | exact trivial | exact rfl | refine And.intro ?_ ?_)⟩ ?_
  rintro k ⟨hk, hk2⟩
  have hjl := joinB_len hs k (by omega)
  ((conv => whnf); repeat ((first | (intro hq; try simp only [List.length_set, List.length_replicate, List.length_map, List.length_append, List.length_drop, List.length_take, List.length_cons, List.length_nil] at hq) | (refine And.intro (by first | exact rfl | exact trivial | exact fresh_of (by with_unfolding_all exact rfl) | exact List.cons_ne_nil _ _ | exact leaf_of rfl | exact unb_sub _ _ _ | exact Nat.le_of_ble_eq_true rfl | exact notMem_of (by with_unfolding_all exact rfl) | omega | (rw [unb_map]) | exact byte_lt _ | (simp only [List.length_set, List.length_replicate, List.length_map, List.length_append, List.length_drop, List.length_take, List.length_cons, List.length_nil, Int.toNat_natCast]; omega) | (simp only [List.length_set, List.length_replicate, List.length_map, List.length_append, List.length_drop, List.length_take, List.length_cons, List.length_nil, Int.toNat_natCast] at *; omega)) ?_) | (refine Exists.intro _ (And.intro rfl ?_))); (conv => whnf)))
  refine brB_dec (fun h1 => ?_) (fun h1 => ?_)
  · have hkl : k < l.length := by omega
    have ht := hs.t l[k] (List.getElem_mem hkl)
    have hjc := joinB_cons l k hkl
    ((conv => whnf); repeat' ((first | (intro hq; (try simp only [List.length_set, List.length_replicate, List.length_map, List.length_append, List.length_drop, List.length_take, List.length_cons, List.length_nil] at hq); (try rewrite [List.length_map])) | (refine And.intro (by first | exact rfl | exact trivial | exact fresh_of (by with_unfolding_all exact rfl) | exact List.cons_ne_nil _ _ | exact leaf_of rfl | exact unb_sub _ _ _ | exact Nat.le_of_ble_eq_true rfl | exact notMem_of (by with_unfolding_all exact rfl) | omega | (rw [unb_map]) | exact byte_lt _ | (simp only [List.length_set, List.length_replicate, List.length_map, List.length_append, List.length_drop, List.length_take, List.length_cons, List.length_nil, Int.toNat_natCast]; omega) | (simp only [List.length_set, List.length_replicate, List.length_map, List.length_append, List.length_drop, List.length_take, List.length_cons, List.length_nil, Int.toNat_natCast] at *; omega) | (show eqOK _ _ = true; kernel_rfl) | (rw [List.length_append]; exact rfl) | (simp only [List.length_map, List.length_append]; exact rfl)) ?_) | (refine Exists.intro _ (And.intro rfl ?_)) | (refine Exists.intro (show (_ : Nat) < List.length _ from by first | omega | (simp only [List.length_cons, List.length_nil]; omega) | simp) ?_) | (refine ⟨_, row_at (by first | omega | (simp only [List.length_map]; omega)), ?_⟩) | (refine call_tri [] (valid_spec (l[k]'hkl) (by omega)) trivial (fun s hs => ?_); subst hs) | (refine draw_rule hty (by kernel_rfl) (by kernel_rfl) ?_) | (refine brB_dec (fun hb => ?_) (fun hb => ?_) <;> (first | contradiction | ((try simp only [List.length_set, List.length_replicate, List.length_map, List.length_append, List.length_drop, List.length_take, List.length_cons, List.length_nil] at hb); (first | (exfalso; omega) | skip)))) | (refine brB_ndec (fun hb => ?_) (fun hb => ?_) <;> (first | contradiction | ((try simp only [List.length_set, List.length_replicate, List.length_map, List.length_append, List.length_drop, List.length_take, List.length_cons, List.length_nil] at hb); (first | (exfalso; omega) | skip)))) | (refine brB_split (fun hb => ?_) (fun hb => ?_) <;> (first | contradiction | exact absurd (hb.symm.trans (by assumption) : false = true) (by decide) | exact absurd (hb.symm.trans (by assumption) : true = false) (by decide) | skip))) <;> (conv => whnf)))
    · exact .no 1 (joinF_bad (k := k) (by omega) (by simpa using hb)) (.inl rfl)
    all_goals
      refine ⟨k + 1, ⟨by omega, all_step hkl hk2 (by rename_i h7; simpa using h7)⟩, by dsimp only; omega, ?_⟩
    · rw [if_pos (by omega)] at hjc
      dsimp only
      rw [hjc]
      simp only [List.length_append, List.length_map]
      exact ⟨by repeat' (first | exact trivial | exact rfl | refine And.intro ?_ ?_), by repeat' (first | exact trivial | exact rfl | refine And.intro ?_ ?_)⟩
    · have h0 : k = 0 := by omega
      rw [if_neg (by omega)] at hjc
      have hz : List.map brow (joinB (l.take k)) = [] := by subst h0; rfl
      dsimp only
      rw [hjc, hz]
      simp only [List.nil_append, List.length_nil, Nat.zero_add, List.length_map]
      exact ⟨by repeat' (first | exact trivial | exact rfl | refine And.intro ?_ ?_), by repeat' (first | exact trivial | exact rfl | refine And.intro ?_ ?_)⟩
  · obtain rfl : k = l.length - 1 := by omega
    ((conv => whnf); repeat' ((first | (intro hq; (try simp only [List.length_set, List.length_replicate, List.length_map, List.length_append, List.length_drop, List.length_take, List.length_cons, List.length_nil] at hq); (try rewrite [List.length_map])) | (refine And.intro (by first | exact rfl | exact trivial | exact fresh_of (by with_unfolding_all exact rfl) | exact List.cons_ne_nil _ _ | exact leaf_of rfl | exact unb_sub _ _ _ | exact Nat.le_of_ble_eq_true rfl | exact notMem_of (by with_unfolding_all exact rfl) | omega | (rw [unb_map]) | exact byte_lt _ | (simp only [List.length_set, List.length_replicate, List.length_map, List.length_append, List.length_drop, List.length_take, List.length_cons, List.length_nil, Int.toNat_natCast]; omega) | (simp only [List.length_set, List.length_replicate, List.length_map, List.length_append, List.length_drop, List.length_take, List.length_cons, List.length_nil, Int.toNat_natCast] at *; omega) | (show eqOK _ _ = true; kernel_rfl) | (rw [List.length_append]; exact rfl) | (simp only [List.length_map, List.length_append]; exact rfl)) ?_) | (refine Exists.intro _ (And.intro rfl ?_)) | (refine Exists.intro (show (_ : Nat) < List.length _ from by first | omega | (simp only [List.length_cons, List.length_nil]; omega) | simp) ?_) | fail | (refine draw_rule hty (by kernel_rfl) (by kernel_rfl) ?_) | (refine brB_dec (fun hb => ?_) (fun hb => ?_) <;> (first | contradiction | ((try simp only [List.length_set, List.length_replicate, List.length_map, List.length_append, List.length_drop, List.length_take, List.length_cons, List.length_nil] at hb); (first | (exfalso; omega) | skip)))) | (refine brB_ndec (fun hb => ?_) (fun hb => ?_) <;> (first | contradiction | ((try simp only [List.length_set, List.length_replicate, List.length_map, List.length_append, List.length_drop, List.length_take, List.length_cons, List.length_nil] at hb); (first | (exfalso; omega) | skip)))) | (refine brB_split (fun hb => ?_) (fun hb => ?_) <;> (first | contradiction | exact absurd (hb.symm.trans (by assumption) : false = true) (by decide) | exact absurd (hb.symm.trans (by assumption) : true = false) (by decide) | skip))) <;> (conv => whnf)))
    · exact .no 2 (joinF_long (by omega) hend hk2 (by omega)) (.inr rfl)
    · exact .yes _ (joinF_ok (by omega) hend hk2 (by omega)) (by omega)

set_option maxHeartbeats 2000000 in
attribute [local irreducible] clsD clsT in
theorem join_spec (l : List GT) (hs : Small l) : Tri Try.prog 19 [.d (gsv l)] [] (JoinP l) := by
  have hsn := hs.n
  refine tri_of_body hty Try.func19 rfl (kp [0, 2, 3, 4, 5, 6, 7, 8, 9, 12, 26, 32, 33, 34, 35, 41, 63, 65, 76]) [] _ _ _ (by simp [Try.f19]) (by simp) ?_
  ((conv => whnf); repeat' ((first | (intro hq; (try simp only [List.length_set, List.length_replicate, List.length_map, List.length_append, List.length_drop, List.length_take, List.length_cons, List.length_nil] at hq); (try rewrite [List.length_map])) | (refine And.intro (by first | exact rfl | exact trivial | exact fresh_of (by with_unfolding_all exact rfl) | exact List.cons_ne_nil _ _ | exact leaf_of rfl | exact unb_sub _ _ _ | exact Nat.le_of_ble_eq_true rfl | exact notMem_of (by with_unfolding_all exact rfl) | omega | (rw [unb_map]) | exact byte_lt _ | (simp only [List.length_set, List.length_replicate, List.length_map, List.length_append, List.length_drop, List.length_take, List.length_cons, List.length_nil, Int.toNat_natCast]; omega) | (simp only [List.length_set, List.length_replicate, List.length_map, List.length_append, List.length_drop, List.length_take, List.length_cons, List.length_nil, Int.toNat_natCast] at *; omega) | (show eqOK _ _ = true; kernel_rfl) | (rw [List.length_append]; exact rfl) | (simp only [List.length_map, List.length_append]; exact rfl)) ?_) | (refine Exists.intro _ (And.intro rfl ?_)) | (refine Exists.intro (show (_ : Nat) < List.length _ from by first | omega | (simp only [List.length_cons, List.length_nil]; omega) | simp) ?_) | (refine ⟨_, row_at (by first | omega | (simp only [List.length_map]; omega)), ?_⟩) | (refine draw_rule hty (by kernel_rfl) (by kernel_rfl) ?_) | (refine brB_dec (fun hb => ?_) (fun hb => ?_) <;> (first | contradiction | ((try simp only [List.length_set, List.length_replicate, List.length_map, List.length_append, List.length_drop, List.length_take, List.length_cons, List.length_nil] at hb); (first | (exfalso; omega) | skip)))) | (refine brB_ndec (fun hb => ?_) (fun hb => ?_) <;> (first | contradiction | ((try simp only [List.length_set, List.length_replicate, List.length_map, List.length_append, List.length_drop, List.length_take, List.length_cons, List.length_nil] at hb); (first | (exfalso; omega) | skip)))) | (refine brB_split (fun hb => ?_) (fun hb => ?_) <;> (first | contradiction | exact absurd (hb.symm.trans (by assumption) : false = true) (by decide) | exact absurd (hb.symm.trans (by assumption) : true = false) (by decide) | skip))) <;> (conv => whnf)))
  · exact .no 1 (joinF_nil (by omega)) (.inl rfl)
  · have e : l[((l.length : Int) - 1).toNat]'(by omega) = l[l.length - 1]'(by omega) := by congr 1; omega
    exact .no 1 (joinF_end (by omega) (fun h => hb (by rw [e]; exact h.1))) (.inl rfl)
  · have e : l[((l.length : Int) - 1).toNat]'(by omega) = l[l.length - 1]'(by omega) := by congr 1; omega
    exact .no 1 (joinF_end (by omega) (fun h => hb (by rw [e]; exact h.2))) (.inl rfl)
  have hend : l[l.length - 1].kind = 4 ∧ l[l.length - 1].text = [] := by
    have e : l[((l.length : Int) - 1).toNat]'(by omega) = l[l.length - 1]'(by omega) := by congr 1; omega
    rw [← e]
    exact ⟨by assumption, by assumption⟩
  clear hb
  refine call_tri [] classes_spec trivial (fun s hs => ?_)
  subst hs
  ((conv => whnf); repeat ((first | (intro hq; try simp only [List.length_set, List.length_replicate, List.length_map, List.length_append, List.length_drop, List.length_take, List.length_cons, List.length_nil] at hq) | (refine And.intro (by first | exact rfl | exact trivial | exact fresh_of (by with_unfolding_all exact rfl) | exact List.cons_ne_nil _ _ | exact leaf_of rfl | exact unb_sub _ _ _ | exact Nat.le_of_ble_eq_true rfl | exact notMem_of (by with_unfolding_all exact rfl) | omega | (rw [unb_map]) | exact byte_lt _ | (simp only [List.length_set, List.length_replicate, List.length_map, List.length_append, List.length_drop, List.length_take, List.length_cons, List.length_nil, Int.toNat_natCast]; omega) | (simp only [List.length_set, List.length_replicate, List.length_map, List.length_append, List.length_drop, List.length_take, List.length_cons, List.length_nil, Int.toNat_natCast] at *; omega)) ?_) | (refine Exists.intro _ (And.intro rfl ?_))); (conv => whnf)))
  rw [clsT_def]
  refine ⟨clsT_len, by simp, clsT_leaf, ?_⟩
  rw [splice_clsT _ (by simp)]
  ((conv => whnf); repeat' ((first | (intro hq; (try simp only [List.length_set, List.length_replicate, List.length_map, List.length_append, List.length_drop, List.length_take, List.length_cons, List.length_nil] at hq); (try rewrite [List.length_map])) | (refine And.intro (by first | exact rfl | exact trivial | exact fresh_of (by with_unfolding_all exact rfl) | exact List.cons_ne_nil _ _ | exact leaf_of rfl | exact unb_sub _ _ _ | exact Nat.le_of_ble_eq_true rfl | exact notMem_of (by with_unfolding_all exact rfl) | omega | (rw [unb_map]) | exact byte_lt _ | (simp only [List.length_set, List.length_replicate, List.length_map, List.length_append, List.length_drop, List.length_take, List.length_cons, List.length_nil, Int.toNat_natCast]; omega) | (simp only [List.length_set, List.length_replicate, List.length_map, List.length_append, List.length_drop, List.length_take, List.length_cons, List.length_nil, Int.toNat_natCast] at *; omega) | (show eqOK _ _ = true; kernel_rfl) | (rw [List.length_append]; exact rfl) | (simp only [List.length_map, List.length_append]; exact rfl)) ?_) | (refine Exists.intro _ (And.intro rfl ?_)) | (refine Exists.intro (show (_ : Nat) < List.length _ from by first | omega | (simp only [List.length_cons, List.length_nil]; omega) | simp) ?_) | fail | (refine draw_rule hty (by kernel_rfl) (by kernel_rfl) ?_) | (refine brB_dec (fun hb => ?_) (fun hb => ?_) <;> (first | contradiction | ((try simp only [List.length_set, List.length_replicate, List.length_map, List.length_append, List.length_drop, List.length_take, List.length_cons, List.length_nil] at hb); (first | (exfalso; omega) | skip)))) | (refine brB_ndec (fun hb => ?_) (fun hb => ?_) <;> (first | contradiction | ((try simp only [List.length_set, List.length_replicate, List.length_map, List.length_append, List.length_drop, List.length_take, List.length_cons, List.length_nil] at hb); (first | (exfalso; omega) | skip)))) | (refine brB_split (fun hb => ?_) (fun hb => ?_) <;> (first | contradiction | exact absurd (hb.symm.trans (by assumption) : false = true) (by decide) | exact absurd (hb.symm.trans (by assumption) : true = false) (by decide) | skip))) <;> (conv => whnf)))
  refine SemVC.own 2 2 5 1 rfl (fresh_of (by with_unfolding_all exact rfl)) ?_
  have hrows : List.drop 0 (List.take ((l.length : Int) - 1).toNat (List.map gR l)) = (l.take (l.length - 1)).map gR := by
    rw [List.drop_zero, ← List.map_take, show ((l.length : Int) - 1).toNat = l.length - 1 from by omega]
  rw [hrows]
  have hlen : (List.map gR (l.take (l.length - 1))).length = l.length - 1 := by rw [List.length_map, List.length_take]; omega
  rw [hlen]
  refine loop_rule hty (fun k : Nat => ([(2, .osl 2 1 ((joinB (l.take k)).map brow)), (5, .ptr 5 0), (32, .d (gsv (l.take (l.length - 1)))), (33, .d (.int .i64 (l.length - 1 : Nat))), (34, .d (.int .i64 k))], [(2, .own 5 1 ((joinB (l.take k)).map brow).length), (5, .cells 47 clsT)])) (fun k => k ≤ l.length - 1 ∧ (l.take k).all tokOK = true) (fun k => l.length - k) 0 (by simp) ⟨by repeat' (first | exact trivial | exact rfl | refine And.intro ?_ ?_), by repeat' (first | exact trivial | exact rfl | refine And.intro ?_ ?_)⟩ ?_
  rintro k ⟨hk, hk2⟩
  have hjl := joinB_len hs k (by omega)
  ((conv => whnf); repeat ((first | (intro hq; try simp only [List.length_set, List.length_replicate, List.length_map, List.length_append, List.length_drop, List.length_take, List.length_cons, List.length_nil] at hq) | (refine And.intro (by first | exact rfl | exact trivial | exact fresh_of (by with_unfolding_all exact rfl) | exact List.cons_ne_nil _ _ | exact leaf_of rfl | exact unb_sub _ _ _ | exact Nat.le_of_ble_eq_true rfl | exact notMem_of (by with_unfolding_all exact rfl) | omega | (rw [unb_map]) | exact byte_lt _ | (simp only [List.length_set, List.length_replicate, List.length_map, List.length_append, List.length_drop, List.length_take, List.length_cons, List.length_nil, Int.toNat_natCast]; omega) | (simp only [List.length_set, List.length_replicate, List.length_map, List.length_append, List.length_drop, List.length_take, List.length_cons, List.length_nil, Int.toNat_natCast] at *; omega)) ?_) | (refine Exists.intro _ (And.intro rfl ?_))); (conv => whnf)))
  refine brB_dec (fun h1 => ?_) (fun h1 => ?_)
  · have hkl : k < l.length := by omega
    have ht := hs.t l[k] (List.getElem_mem hkl)
    have hjc := joinB_cons l k hkl
    have hkn : k < (l.take (l.length - 1)).length := by rw [List.length_take]; omega
    have hget : (l.take (l.length - 1))[k] = l[k] := List.getElem_take
    ((conv => whnf); repeat' ((first | (intro hq; (try simp only [List.length_set, List.length_replicate, List.length_map, List.length_append, List.length_drop, List.length_take, List.length_cons, List.length_nil] at hq); (try rewrite [List.length_map])) | (refine And.intro (by first | exact rfl | exact trivial | exact fresh_of (by with_unfolding_all exact rfl) | exact List.cons_ne_nil _ _ | exact leaf_of rfl | exact unb_sub _ _ _ | exact Nat.le_of_ble_eq_true rfl | exact notMem_of (by with_unfolding_all exact rfl) | omega | (rw [unb_map]) | exact byte_lt _ | (simp only [List.length_set, List.length_replicate, List.length_map, List.length_append, List.length_drop, List.length_take, List.length_cons, List.length_nil, Int.toNat_natCast]; omega) | (simp only [List.length_set, List.length_replicate, List.length_map, List.length_append, List.length_drop, List.length_take, List.length_cons, List.length_nil, Int.toNat_natCast] at *; omega) | (show eqOK _ _ = true; kernel_rfl) | (rw [List.length_append]; exact rfl) | (simp only [List.length_map, List.length_append]; exact rfl)) ?_) | (refine Exists.intro _ (And.intro rfl ?_)) | (refine Exists.intro (show (_ : Nat) < List.length _ from by first | omega | (simp only [List.length_cons, List.length_nil]; omega) | simp) ?_) | (refine ⟨_, row_at (by exact hkn), ?_⟩) | (refine And.intro (by rw [hlen]; omega) ?_) | (refine draw_rule hty (by kernel_rfl) (by kernel_rfl) ?_) | (refine brB_dec (fun hb => ?_) (fun hb => ?_) <;> (first | contradiction | ((try simp only [List.length_set, List.length_replicate, List.length_map, List.length_append, List.length_drop, List.length_take, List.length_cons, List.length_nil] at hb); (first | (exfalso; omega) | skip)))) | (refine brB_ndec (fun hb => ?_) (fun hb => ?_) <;> (first | contradiction | ((try simp only [List.length_set, List.length_replicate, List.length_map, List.length_append, List.length_drop, List.length_take, List.length_cons, List.length_nil] at hb); (first | (exfalso; omega) | skip)))) | (refine brB_split (fun hb => ?_) (fun hb => ?_) <;> (first | contradiction | exact absurd (hb.symm.trans (by assumption) : false = true) (by decide) | exact absurd (hb.symm.trans (by assumption) : true = false) (by decide) | skip))) <;> (conv => whnf)))
    all_goals
      have hget' : (l.take (l.length - 1))[((k : Nat) : Int).toNat]'(by exact hkn) = l[k] := hget
      rw [hget'] at hb
    · exact .no 1 (joinF_bad (k := k) (by omega) (by simp [tokOK, hb])) (.inl rfl)
    rw [hget']
    refine call_tri [(5, .cells 47 clsT)] ((scan_spec l[k].text hb (by omega)).at rfl clsT_ids (fun s h => by rw [h]; rfl) 5) (by exact ⟨rfl, trivial⟩) (fun s hs => ?_)
    subst hs
    have hTO : tokOK l[k] = (decide ((scanF l[k].text).1 ≠ 0) && (decide (((scanF l[k].text).1 : Int) = l[k].kind) && decide ((scanF l[k].text).2 = l[k].text.length))) := by
      rw [tokOK, show decide (l[k].text ≠ []) = true from decide_eq_true hb, Bool.true_and]
    generalize scanF l[k].text = S at hTO ⊢
    obtain ⟨j, n⟩ := S
    dsimp only at hTO ⊢
    have ht' : ((l.take (l.length - 1))[((k : Nat) : Int).toNat]'(by exact hkn)).text.length ≤ 100000 := by rw [hget']; exact ht
    have hbad : tokOK l[k] = false → JoinP l (.tup [.d .nil, .d (.int .i64 1)]) := fun h => .no 1 (joinF_bad (k := k) (by omega) h) (.inl rfl)
    ((conv => whnf); repeat' ((first | (intro hq; (try simp only [List.length_set, List.length_replicate, List.length_map, List.length_append, List.length_drop, List.length_take, List.length_cons, List.length_nil] at hq); (try rewrite [List.length_map])) | (refine And.intro (by first | exact rfl | exact trivial | exact fresh_of (by with_unfolding_all exact rfl) | exact List.cons_ne_nil _ _ | exact leaf_of rfl | exact unb_sub _ _ _ | exact Nat.le_of_ble_eq_true rfl | exact notMem_of (by with_unfolding_all exact rfl) | omega | (rw [unb_map]) | exact byte_lt _ | (simp only [List.length_set, List.length_replicate, List.length_map, List.length_append, List.length_drop, List.length_take, List.length_cons, List.length_nil, Int.toNat_natCast]; omega) | (simp only [List.length_set, List.length_replicate, List.length_map, List.length_append, List.length_drop, List.length_take, List.length_cons, List.length_nil, Int.toNat_natCast] at *; omega) | (show eqOK _ _ = true; kernel_rfl) | (rw [List.length_append]; exact rfl) | (simp only [List.length_map, List.length_append]; exact rfl)) ?_) | (refine Exists.intro _ (And.intro rfl ?_)) | (refine Exists.intro (show (_ : Nat) < List.length _ from by first | omega | (simp only [List.length_cons, List.length_nil]; omega) | simp) ?_) | fail | (refine draw_rule hty (by kernel_rfl) (by kernel_rfl) ?_) | (refine brB_dec (fun hb => ?_) (fun hb => ?_) <;> (first | contradiction | ((try simp only [List.length_set, List.length_replicate, List.length_map, List.length_append, List.length_drop, List.length_take, List.length_cons, List.length_nil] at hb); (first | (exfalso; omega) | skip)))) | (refine brB_ndec (fun hb => ?_) (fun hb => ?_) <;> (first | contradiction | ((try simp only [List.length_set, List.length_replicate, List.length_map, List.length_append, List.length_drop, List.length_take, List.length_cons, List.length_nil] at hb); (first | (exfalso; omega) | skip)))) | (refine brB_split (fun hb => ?_) (fun hb => ?_) <;> (first | contradiction | exact absurd (hb.symm.trans (by assumption) : false = true) (by decide) | exact absurd (hb.symm.trans (by assumption) : true = false) (by decide) | skip))) <;> (conv => whnf)))
    · exact hbad (by rw [hTO]; simp; omega)
    · exact hbad (by rw [hTO, show decide ((j : Int) = l[k].kind) = false from decide_eq_false hb]; simp)
    · exact hbad (by rw [hTO, show decide (n = l[k].text.length) = false from decide_eq_false (by omega)]; simp)
    all_goals
      have hok : tokOK l[k] = true := by
        rename_i a1 a2 a3
        rw [hTO, show decide (n = l[k].text.length) = true from decide_eq_true (by omega), show decide ((j : Int) = l[k].kind) = true from decide_eq_true a2]
        simp; omega
      refine ⟨k + 1, ⟨by omega, all_step hkl hk2 hok⟩, by dsimp only; omega, ?_⟩
    · rw [if_pos (by omega)] at hjc
      dsimp only
      rw [hjc]
      simp only [List.length_append, List.length_map]
      exact ⟨by repeat' (first | exact trivial | exact rfl | refine And.intro ?_ ?_), by repeat' (first | exact trivial | exact rfl | refine And.intro ?_ ?_)⟩
    · have h0 : k = 0 := by omega
      rw [if_neg (by omega)] at hjc
      have hz : List.map brow (joinB (l.take k)) = [] := by subst h0; rfl
      dsimp only
      rw [hjc, hz]
      simp only [List.nil_append, List.length_nil, Nat.zero_add, List.length_map]
      exact ⟨by repeat' (first | exact trivial | exact rfl | refine And.intro ?_ ?_), by repeat' (first | exact trivial | exact rfl | refine And.intro ?_ ?_)⟩
  · obtain rfl : k = l.length - 1 := by omega
    ((conv => whnf); repeat' ((first | (intro hq; (try simp only [List.length_set, List.length_replicate, List.length_map, List.length_append, List.length_drop, List.length_take, List.length_cons, List.length_nil] at hq); (try rewrite [List.length_map])) | (refine And.intro (by first | exact rfl | exact trivial | exact fresh_of (by with_unfolding_all exact rfl) | exact List.cons_ne_nil _ _ | exact leaf_of rfl | exact unb_sub _ _ _ | exact Nat.le_of_ble_eq_true rfl | exact notMem_of (by with_unfolding_all exact rfl) | omega | (rw [unb_map]) | exact byte_lt _ | (simp only [List.length_set, List.length_replicate, List.length_map, List.length_append, List.length_drop, List.length_take, List.length_cons, List.length_nil, Int.toNat_natCast]; omega) | (simp only [List.length_set, List.length_replicate, List.length_map, List.length_append, List.length_drop, List.length_take, List.length_cons, List.length_nil, Int.toNat_natCast] at *; omega) | (show eqOK _ _ = true; kernel_rfl) | (rw [List.length_append]; exact rfl) | (simp only [List.length_map, List.length_append]; exact rfl)) ?_) | (refine Exists.intro _ (And.intro rfl ?_)) | (refine Exists.intro (show (_ : Nat) < List.length _ from by first | omega | (simp only [List.length_cons, List.length_nil]; omega) | simp) ?_) | fail | (refine draw_rule hty (by kernel_rfl) (by kernel_rfl) ?_) | (refine brB_dec (fun hb => ?_) (fun hb => ?_) <;> (first | contradiction | ((try simp only [List.length_set, List.length_replicate, List.length_map, List.length_append, List.length_drop, List.length_take, List.length_cons, List.length_nil] at hb); (first | (exfalso; omega) | skip)))) | (refine brB_ndec (fun hb => ?_) (fun hb => ?_) <;> (first | contradiction | ((try simp only [List.length_set, List.length_replicate, List.length_map, List.length_append, List.length_drop, List.length_take, List.length_cons, List.length_nil] at hb); (first | (exfalso; omega) | skip)))) | (refine brB_split (fun hb => ?_) (fun hb => ?_) <;> (first | contradiction | exact absurd (hb.symm.trans (by assumption) : false = true) (by decide) | exact absurd (hb.symm.trans (by assumption) : true = false) (by decide) | skip))) <;> (conv => whnf)))
    · exact .no 2 (joinF_long (by omega) hend hk2 (by omega)) (.inr rfl)
    · exact .yes _ (joinF_ok (by omega) hend hk2 (by omega)) (by omega)
end Go.Proofs.Ytepebjhnefhciaa
