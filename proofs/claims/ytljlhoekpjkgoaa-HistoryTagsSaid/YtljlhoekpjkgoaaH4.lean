/-
  History: exists, head, parent, Find: the walks.
  Conditions: none.
-/
import Derived.Test.YtljlhoekpjkgoaaH3
import Derived.Test.YtljlhoekpjkgoaaSw
namespace Go.Proofs.Ytljlhoekpjkgoaa
open Go.Proofs
set_option linter.unusedSimpArgs false
set_option maxRecDepth 10000
attribute [local irreducible] SemVC CallVC Tri Stuck

def existsF (h : Hs) (no : Int) : Bool := decide (1 ≤ no) && decide (no ≤ h.commits.length)

set_option maxHeartbeats 1000000 in
theorem exists_spec (h : Hs) (no : Int) : Tri Try.prog 39 [.d (histD h), .d (.int .i64 no)] [] (fun r => r = .d (.bool (existsF h no))) := by
  refine tri_of_body hty Try.func39 rfl (kp [0, 1, 2, 4]) [] _ _ _ (by simp [Try.f39]) (by simp) ?_
  ((conv => whnf); repeat' ((first | (intro hq; (try simp only [List.length_set, List.length_replicate, List.length_map, List.length_append, List.length_drop, List.length_take, List.length_cons, List.length_nil] at hq); (try rewrite [List.length_map])) | (refine And.intro (by first | exact rfl | exact trivial | exact fresh_of (by with_unfolding_all exact rfl) | exact List.cons_ne_nil _ _ | exact leaf_of rfl | exact unb_sub _ _ _ | exact Nat.le_of_ble_eq_true rfl | exact notMem_of (by with_unfolding_all exact rfl) | omega | (rw [unb_map]) | exact byte_lt _ | (simp only [List.length_set, List.length_replicate, List.length_map, List.length_append, List.length_drop, List.length_take, List.length_cons, List.length_nil, Int.toNat_natCast]; omega) | (simp only [List.length_set, List.length_replicate, List.length_map, List.length_append, List.length_drop, List.length_take, List.length_cons, List.length_nil, Int.toNat_natCast] at *; omega) | (show eqOK _ _ = true; kernel_rfl) | (rw [List.length_append]; exact rfl) | (simp only [List.length_map, List.length_append]; exact rfl)) ?_) | (refine Exists.intro _ (And.intro rfl ?_)) | (refine Exists.intro (show (_ : Nat) < List.length _ from by first | omega | (simp only [List.length_cons, List.length_nil]; omega) | simp) ?_) | fail | (refine draw_rule hty (by kernel_rfl) (by kernel_rfl) ?_) | (refine brB_dec (fun hb => ?_) (fun hb => ?_) <;> (first | contradiction | ((try simp only [List.length_set, List.length_replicate, List.length_map, List.length_append, List.length_drop, List.length_take, List.length_cons, List.length_nil] at hb); (first | (exfalso; omega) | skip)))) | (refine brB_ndec (fun hb => ?_) (fun hb => ?_) <;> (first | contradiction | ((try simp only [List.length_set, List.length_replicate, List.length_map, List.length_append, List.length_drop, List.length_take, List.length_cons, List.length_nil] at hb); (first | (exfalso; omega) | skip)))) | (refine brB_split (fun hb => ?_) (fun hb => ?_) <;> (first | contradiction | exact absurd (hb.symm.trans (by assumption) : false = true) (by decide) | exact absurd (hb.symm.trans (by assumption) : true = false) (by decide) | skip))) <;> (conv => whnf)))
  · rw [existsF, show decide (1 ≤ no) = true from by simp; omega]; rfl
  · rw [existsF, show decide (1 ≤ no) = false from by simp; omega]; rfl

def noAt (l : List Rf) (t : List UInt8) : Int := match l[cntF l t]? with | some r => r.no | none => 0

theorem found_lt {l : List Rf} {t : List UInt8} (h : foundF l t = true) : cntF l t < l.length := by
  unfold foundF at h
  split at h
  · rename_i r hr; exact (List.getElem?_eq_some_iff.1 hr).1
  · cases h

theorem noAt_eq {l : List Rf} {t : List UInt8} (h : cntF l t < l.length) : noAt l t = l[cntF l t].no := by
  rw [noAt, List.getElem?_eq_getElem h]

def headF (h : Hs) (t : List UInt8) : Int := if foundF h.branches t = true then noAt h.branches t else if foundF h.tags t = true then noAt h.tags t else 0

set_option maxHeartbeats 1000000 in
theorem head_spec (h : Hs) (t : List UInt8) (hb : Sorted h.branches) (ht : Sorted h.tags) (hsz : h.branches.length ≤ 1000000 ∧ h.tags.length ≤ 1000000) : Tri Try.prog 27 [.d (histD h), .d (.str t)] [] (fun r => r = .d (.int .i64 (headF h t))) := by
  obtain ⟨hsz1, hsz2⟩ := hsz
  refine tri_of_body hty Try.func27 rfl (kp [0, 1, 2, 4, 5, 6, 7, 8, 16, 30]) [] _ _ _ (by simp [Try.f27]) (by simp) ?_
  ((conv => whnf); repeat ((first | (intro hq; try simp only [List.length_set, List.length_replicate, List.length_map, List.length_append, List.length_drop, List.length_take, List.length_cons, List.length_nil] at hq) | (refine And.intro (by first | exact rfl | exact trivial | exact fresh_of (by with_unfolding_all exact rfl) | exact List.cons_ne_nil _ _ | exact leaf_of rfl | exact unb_sub _ _ _ | exact Nat.le_of_ble_eq_true rfl | exact notMem_of (by with_unfolding_all exact rfl) | omega | (rw [unb_map]) | exact byte_lt _ | (simp only [List.length_set, List.length_replicate, List.length_map, List.length_append, List.length_drop, List.length_take, List.length_cons, List.length_nil, Int.toNat_natCast]; omega) | (simp only [List.length_set, List.length_replicate, List.length_map, List.length_append, List.length_drop, List.length_take, List.length_cons, List.length_nil, Int.toNat_natCast] at *; omega)) ?_) | (refine Exists.intro _ (And.intro rfl ?_))); (conv => whnf)))
  refine call_tri [] (locate_spec _ _ hb (by omega)) trivial (fun s hs => ?_)
  subst hs
  have hbl := cntF_le h.branches t
  have htl := cntF_le h.tags t
  ((conv => whnf); repeat ((first | (intro hq; try simp only [List.length_set, List.length_replicate, List.length_map, List.length_append, List.length_drop, List.length_take, List.length_cons, List.length_nil] at hq) | (refine And.intro (by first | exact rfl | exact trivial | exact fresh_of (by with_unfolding_all exact rfl) | exact List.cons_ne_nil _ _ | exact leaf_of rfl | exact unb_sub _ _ _ | exact Nat.le_of_ble_eq_true rfl | exact notMem_of (by with_unfolding_all exact rfl) | omega | (rw [unb_map]) | exact byte_lt _ | (simp only [List.length_set, List.length_replicate, List.length_map, List.length_append, List.length_drop, List.length_take, List.length_cons, List.length_nil, Int.toNat_natCast]; omega) | (simp only [List.length_set, List.length_replicate, List.length_map, List.length_append, List.length_drop, List.length_take, List.length_cons, List.length_nil, Int.toNat_natCast] at *; omega)) ?_) | (refine Exists.intro _ (And.intro rfl ?_))); (conv => whnf)))
  refine brB_split (fun h1 => ?_) (fun h1 => ?_)
  · have hlt := found_lt h1
    ((conv => whnf); repeat' ((first | (intro hq; (try simp only [List.length_set, List.length_replicate, List.length_map, List.length_append, List.length_drop, List.length_take, List.length_cons, List.length_nil] at hq); (try rewrite [List.length_map])) | (refine And.intro (by first | exact rfl | exact trivial | exact fresh_of (by with_unfolding_all exact rfl) | exact List.cons_ne_nil _ _ | exact leaf_of rfl | exact unb_sub _ _ _ | exact Nat.le_of_ble_eq_true rfl | exact notMem_of (by with_unfolding_all exact rfl) | omega | (rw [unb_map]) | exact byte_lt _ | (simp only [List.length_set, List.length_replicate, List.length_map, List.length_append, List.length_drop, List.length_take, List.length_cons, List.length_nil, Int.toNat_natCast]; omega) | (simp only [List.length_set, List.length_replicate, List.length_map, List.length_append, List.length_drop, List.length_take, List.length_cons, List.length_nil, Int.toNat_natCast] at *; omega) | (show eqOK _ _ = true; kernel_rfl) | (rw [List.length_append]; exact rfl) | (simp only [List.length_map, List.length_append]; exact rfl)) ?_) | (refine Exists.intro _ (And.intro rfl ?_)) | (refine Exists.intro (show (_ : Nat) < List.length _ from by first | omega | (simp only [List.length_cons, List.length_nil]; omega) | simp) ?_) | (refine ⟨_, row_at (by first | omega | (simp only [List.length_map]; omega)), ?_⟩) | (refine draw_rule hty (by kernel_rfl) (by kernel_rfl) ?_) | (refine brB_dec (fun hb => ?_) (fun hb => ?_) <;> (first | contradiction | ((try simp only [List.length_set, List.length_replicate, List.length_map, List.length_append, List.length_drop, List.length_take, List.length_cons, List.length_nil] at hb); (first | (exfalso; omega) | skip)))) | (refine brB_ndec (fun hb => ?_) (fun hb => ?_) <;> (first | contradiction | ((try simp only [List.length_set, List.length_replicate, List.length_map, List.length_append, List.length_drop, List.length_take, List.length_cons, List.length_nil] at hb); (first | (exfalso; omega) | skip)))) | (refine brB_split (fun hb => ?_) (fun hb => ?_) <;> (first | contradiction | exact absurd (hb.symm.trans (by assumption) : false = true) (by decide) | exact absurd (hb.symm.trans (by assumption) : true = false) (by decide) | skip))) <;> (conv => whnf)))
    rw [headF, if_pos h1, noAt_eq hlt]; rfl
  · ((conv => whnf); repeat ((first | (intro hq; try simp only [List.length_set, List.length_replicate, List.length_map, List.length_append, List.length_drop, List.length_take, List.length_cons, List.length_nil] at hq) | (refine And.intro (by first | exact rfl | exact trivial | exact fresh_of (by with_unfolding_all exact rfl) | exact List.cons_ne_nil _ _ | exact leaf_of rfl | exact unb_sub _ _ _ | exact Nat.le_of_ble_eq_true rfl | exact notMem_of (by with_unfolding_all exact rfl) | omega | (rw [unb_map]) | exact byte_lt _ | (simp only [List.length_set, List.length_replicate, List.length_map, List.length_append, List.length_drop, List.length_take, List.length_cons, List.length_nil, Int.toNat_natCast]; omega) | (simp only [List.length_set, List.length_replicate, List.length_map, List.length_append, List.length_drop, List.length_take, List.length_cons, List.length_nil, Int.toNat_natCast] at *; omega)) ?_) | (refine Exists.intro _ (And.intro rfl ?_))); (conv => whnf)))
    refine call_tri [] (locate_spec _ _ ht (by omega)) trivial (fun s hs => ?_)
    subst hs
    ((conv => whnf); repeat ((first | (intro hq; try simp only [List.length_set, List.length_replicate, List.length_map, List.length_append, List.length_drop, List.length_take, List.length_cons, List.length_nil] at hq) | (refine And.intro (by first | exact rfl | exact trivial | exact fresh_of (by with_unfolding_all exact rfl) | exact List.cons_ne_nil _ _ | exact leaf_of rfl | exact unb_sub _ _ _ | exact Nat.le_of_ble_eq_true rfl | exact notMem_of (by with_unfolding_all exact rfl) | omega | (rw [unb_map]) | exact byte_lt _ | (simp only [List.length_set, List.length_replicate, List.length_map, List.length_append, List.length_drop, List.length_take, List.length_cons, List.length_nil, Int.toNat_natCast]; omega) | (simp only [List.length_set, List.length_replicate, List.length_map, List.length_append, List.length_drop, List.length_take, List.length_cons, List.length_nil, Int.toNat_natCast] at *; omega)) ?_) | (refine Exists.intro _ (And.intro rfl ?_))); (conv => whnf)))
    refine brB_split (fun h2 => ?_) (fun h2 => ?_)
    · have hlt := found_lt h2
      ((conv => whnf); repeat' ((first | (intro hq; (try simp only [List.length_set, List.length_replicate, List.length_map, List.length_append, List.length_drop, List.length_take, List.length_cons, List.length_nil] at hq); (try rewrite [List.length_map])) | (refine And.intro (by first | exact rfl | exact trivial | exact fresh_of (by with_unfolding_all exact rfl) | exact List.cons_ne_nil _ _ | exact leaf_of rfl | exact unb_sub _ _ _ | exact Nat.le_of_ble_eq_true rfl | exact notMem_of (by with_unfolding_all exact rfl) | omega | (rw [unb_map]) | exact byte_lt _ | (simp only [List.length_set, List.length_replicate, List.length_map, List.length_append, List.length_drop, List.length_take, List.length_cons, List.length_nil, Int.toNat_natCast]; omega) | (simp only [List.length_set, List.length_replicate, List.length_map, List.length_append, List.length_drop, List.length_take, List.length_cons, List.length_nil, Int.toNat_natCast] at *; omega) | (show eqOK _ _ = true; kernel_rfl) | (rw [List.length_append]; exact rfl) | (simp only [List.length_map, List.length_append]; exact rfl)) ?_) | (refine Exists.intro _ (And.intro rfl ?_)) | (refine Exists.intro (show (_ : Nat) < List.length _ from by first | omega | (simp only [List.length_cons, List.length_nil]; omega) | simp) ?_) | (refine ⟨_, row_at (by first | omega | (simp only [List.length_map]; omega)), ?_⟩) | (refine draw_rule hty (by kernel_rfl) (by kernel_rfl) ?_) | (refine brB_dec (fun hb => ?_) (fun hb => ?_) <;> (first | contradiction | ((try simp only [List.length_set, List.length_replicate, List.length_map, List.length_append, List.length_drop, List.length_take, List.length_cons, List.length_nil] at hb); (first | (exfalso; omega) | skip)))) | (refine brB_ndec (fun hb => ?_) (fun hb => ?_) <;> (first | contradiction | ((try simp only [List.length_set, List.length_replicate, List.length_map, List.length_append, List.length_drop, List.length_take, List.length_cons, List.length_nil] at hb); (first | (exfalso; omega) | skip)))) | (refine brB_split (fun hb => ?_) (fun hb => ?_) <;> (first | contradiction | exact absurd (hb.symm.trans (by assumption) : false = true) (by decide) | exact absurd (hb.symm.trans (by assumption) : true = false) (by decide) | skip))) <;> (conv => whnf)))
      rw [headF, if_neg (by simp [h1]), if_pos h2, noAt_eq hlt]; rfl
    · ((conv => whnf); repeat' ((first | (intro hq; (try simp only [List.length_set, List.length_replicate, List.length_map, List.length_append, List.length_drop, List.length_take, List.length_cons, List.length_nil] at hq); (try rewrite [List.length_map])) | (refine And.intro (by first | exact rfl | exact trivial | exact fresh_of (by with_unfolding_all exact rfl) | exact List.cons_ne_nil _ _ | exact leaf_of rfl | exact unb_sub _ _ _ | exact Nat.le_of_ble_eq_true rfl | exact notMem_of (by with_unfolding_all exact rfl) | omega | (rw [unb_map]) | exact byte_lt _ | (simp only [List.length_set, List.length_replicate, List.length_map, List.length_append, List.length_drop, List.length_take, List.length_cons, List.length_nil, Int.toNat_natCast]; omega) | (simp only [List.length_set, List.length_replicate, List.length_map, List.length_append, List.length_drop, List.length_take, List.length_cons, List.length_nil, Int.toNat_natCast] at *; omega) | (show eqOK _ _ = true; kernel_rfl) | (rw [List.length_append]; exact rfl) | (simp only [List.length_map, List.length_append]; exact rfl)) ?_) | (refine Exists.intro _ (And.intro rfl ?_)) | (refine Exists.intro (show (_ : Nat) < List.length _ from by first | omega | (simp only [List.length_cons, List.length_nil]; omega) | simp) ?_) | fail | (refine draw_rule hty (by kernel_rfl) (by kernel_rfl) ?_) | (refine brB_dec (fun hb => ?_) (fun hb => ?_) <;> (first | contradiction | ((try simp only [List.length_set, List.length_replicate, List.length_map, List.length_append, List.length_drop, List.length_take, List.length_cons, List.length_nil] at hb); (first | (exfalso; omega) | skip)))) | (refine brB_ndec (fun hb => ?_) (fun hb => ?_) <;> (first | contradiction | ((try simp only [List.length_set, List.length_replicate, List.length_map, List.length_append, List.length_drop, List.length_take, List.length_cons, List.length_nil] at hb); (first | (exfalso; omega) | skip)))) | (refine brB_split (fun hb => ?_) (fun hb => ?_) <;> (first | contradiction | exact absurd (hb.symm.trans (by assumption) : false = true) (by decide) | exact absurd (hb.symm.trans (by assumption) : true = false) (by decide) | skip))) <;> (conv => whnf)))
      rw [headF, if_neg (by simp [h1]), if_neg (by simp [h2])]; rfl

theorem getD_lt {l : List Int} {i : Nat} (h : i < l.length) : l.getD i 0 = l[i] := by simp [List.getD, h]
theorem getD_ge {l : List Int} {i : Nat} (h : l.length ≤ i) : l.getD i 0 = 0 := by simp [List.getD, h]

def parentF (h : Hs) (no : Int) (i : Nat) : Int := if no = 0 then 0 else match h.commits[no.toNat - 1]? with | some c => c.parents.getD i 0 | none => 0

set_option maxHeartbeats 1000000 in
theorem parent_spec (h : Hs) (no : Int) (i : Nat) (hno : 0 ≤ no ∧ no ≤ h.commits.length) (hi : i < 100) (hsz : h.commits.length ≤ 1000000) : Tri Try.prog 29 [.d (histD h), .d (.int .i64 no), .d (.int .i64 i)] [] (fun r => r = .d (.int .i64 (parentF h no i))) := by
  obtain ⟨hno1, hno2⟩ := hno
  refine tri_of_body hty Try.func29 rfl (kp [0, 1, 2, 3, 6, 20]) [] _ _ _ (by simp [Try.f29]) (by simp) ?_
  ((conv => whnf); repeat' ((first | (intro hq; (try simp only [List.length_set, List.length_replicate, List.length_map, List.length_append, List.length_drop, List.length_take, List.length_cons, List.length_nil] at hq); (try rewrite [List.length_map])) | (refine And.intro (by first | exact rfl | exact trivial | exact fresh_of (by with_unfolding_all exact rfl) | exact List.cons_ne_nil _ _ | exact leaf_of rfl | exact unb_sub _ _ _ | exact Nat.le_of_ble_eq_true rfl | exact notMem_of (by with_unfolding_all exact rfl) | omega | (rw [unb_map]) | exact byte_lt _ | (simp only [List.length_set, List.length_replicate, List.length_map, List.length_append, List.length_drop, List.length_take, List.length_cons, List.length_nil, Int.toNat_natCast]; omega) | (simp only [List.length_set, List.length_replicate, List.length_map, List.length_append, List.length_drop, List.length_take, List.length_cons, List.length_nil, Int.toNat_natCast] at *; omega) | (show eqOK _ _ = true; kernel_rfl) | (rw [List.length_append]; exact rfl) | (simp only [List.length_map, List.length_append]; exact rfl)) ?_) | (refine Exists.intro _ (And.intro rfl ?_)) | (refine Exists.intro (show (_ : Nat) < List.length _ from by first | omega | (simp only [List.length_cons, List.length_nil]; omega) | simp) ?_) | (refine ⟨_, row_at (by first | omega | (simp only [List.length_map]; omega)), ?_⟩) | (refine draw_rule hty (by kernel_rfl) (by kernel_rfl) ?_) | (refine brB_dec (fun hb => ?_) (fun hb => ?_) <;> (first | contradiction | ((try simp only [List.length_set, List.length_replicate, List.length_map, List.length_append, List.length_drop, List.length_take, List.length_cons, List.length_nil] at hb); (first | (exfalso; omega) | skip)))) | (refine brB_ndec (fun hb => ?_) (fun hb => ?_) <;> (first | contradiction | ((try simp only [List.length_set, List.length_replicate, List.length_map, List.length_append, List.length_drop, List.length_take, List.length_cons, List.length_nil] at hb); (first | (exfalso; omega) | skip)))) | (refine brB_split (fun hb => ?_) (fun hb => ?_) <;> (first | contradiction | exact absurd (hb.symm.trans (by assumption) : false = true) (by decide) | exact absurd (hb.symm.trans (by assumption) : true = false) (by decide) | skip))) <;> (conv => whnf)))
  · rw [parentF, if_pos hb]; rfl
  · have e : h.commits[no.toNat - 1]? = some h.commits[(no - 1).toNat] := by rw [List.getElem?_eq_some_iff]; exact ⟨by omega, by congr 1; omega⟩
    rw [parentF, if_neg (by assumption), e]
    simp only []
    rw [getD_ge (by omega)]; rfl
  · have e : h.commits[no.toNat - 1]? = some h.commits[(no - 1).toNat] := by rw [List.getElem?_eq_some_iff]; exact ⟨by omega, by congr 1; omega⟩
    rw [parentF, if_neg (by assumption), e]
    simp only []
    rw [getD_lt (by omega)]; rfl

/-! ### what a valid history is -/

theorem comF_valid : ∀ (l : List Cm) (i : Nat), comF i l = 0 ↔ ∀ (k : Nat) (hk : k < l.length), l[k].no = i + k + 1 ∧ parF l[k].parents (i + k : Nat) = true ∧ msgF l[k].msg = true
  | [], i => by simp [comF]
  | c :: r, i => by
    simp only [comF]
    constructor
    · intro h
      split at h
      · omega
      · rename_i h1
        split at h
        · omega
        · rename_i h2
          have ih := (comF_valid r (i + 1)).1 h
          intro k hk
          cases k with
          | zero =>
            simp only [not_or, Bool.not_eq_false, ne_eq, Decidable.not_not] at h1 h2
            exact ⟨by simpa using h1.1, by simpa using h1.2, h2⟩
          | succ k =>
            have := ih k (by simpa using hk)
            simp only [List.getElem_cons_succ]
            exact ⟨by rw [this.1]; omega, by rw [← this.2.1]; congr 1; omega, this.2.2⟩
    · intro h
      have h0 := h 0 (by simp)
      simp only [List.getElem_cons_zero, Nat.add_zero] at h0
      rw [if_neg (by simp only [not_or, ne_eq, Decidable.not_not, Bool.not_eq_false]; exact ⟨by have := h0.1; omega, h0.2.1⟩), if_neg (by simp [h0.2.2])]
      refine (comF_valid r (i + 1)).2 fun k hk => ?_
      have := h (k + 1) (by simpa using hk)
      simp only [List.getElem_cons_succ] at this
      exact ⟨by rw [this.1]; omega, by rw [← this.2.1]; congr 1; omega, this.2.2⟩

theorem refsF_valid (n : Int) : ∀ (l : List Rf) (p : Option (List UInt8)), refsF n p l = 0 → ∀ r ∈ l, labelF r.name = true ∧ 1 ≤ r.no ∧ r.no ≤ n
  | [], p, _ => by simp
  | r :: l, p, h => by
    simp only [refsF] at h
    split at h
    · omega
    · split at h
      · omega
      · split at h
        · omega
        · rename_i h1 h2 h3
          intro x hx
          rcases List.mem_cons.1 hx with rfl | hx
          · exact ⟨by simpa using h1, by omega, by omega⟩
          · exact refsF_valid n l _ h x hx

structure Valid (h : Hs) : Prop where
  nc : h.commits.length ≤ 1024
  nl : h.branches.length + h.tags.length ≤ 256
  com : ∀ (k : Nat) (hk : k < h.commits.length), h.commits[k].no = k + 1 ∧ parF h.commits[k].parents k = true ∧ msgF h.commits[k].msg = true
  br : refsF h.commits.length none h.branches = 0
  tg : refsF h.commits.length none h.tags = 0
  dup : dupF h = false

theorem valid_iff (h : Hs) : checkF h = 0 ↔ Valid h := by
  constructor
  · intro hc
    unfold checkF at hc
    split at hc
    · omega
    · split at hc
      · omega
      · split at hc
        · omega
        · split at hc
          · omega
          · split at hc
            · omega
            · rename_i h1 h2 h3 h4 h5
              have h2' : comF 0 h.commits = 0 := by simpa using h2
              refine ⟨by omega, by omega, fun k hk => ?_, by simpa using h3, by simpa using h4, by simpa using h5⟩
              have := (comF_valid _ _).1 h2' k hk
              simp only [Nat.zero_add] at this
              exact ⟨by rw [this.1]; omega, this.2⟩
  · intro hv
    rw [checkF, if_neg (by have := hv.nc; have := hv.nl; omega), if_neg, if_neg (by simp [hv.br]), if_neg (by simp [hv.tg]), if_neg (by simp [hv.dup])]
    simp only [ne_eq, Decidable.not_not]
    refine (comF_valid _ _).2 fun k hk => ?_
    have := hv.com k hk
    simp only [Nat.zero_add]
    exact ⟨by rw [this.1]; omega, this.2⟩

theorem Valid.sb {h : Hs} (hv : Valid h) : Sorted h.branches := (refs_sorted _ _ _ hv.br).1
theorem Valid.st {h : Hs} (hv : Valid h) : Sorted h.tags := (refs_sorted _ _ _ hv.tg).1

theorem parF_mem {l : List Int} {n : Int} (h : parF l n = true) {p : Int} (hp : p ∈ l) : 1 ≤ p ∧ p ≤ n := by
  simp only [parF, Bool.and_eq_true, List.all_eq_true] at h
  have := h.1 p hp
  simpa [parC] using this

theorem Valid.parent {h : Hs} (hv : Valid h) {no : Int} (hno : 0 ≤ no ∧ no ≤ h.commits.length) (i : Nat) : 0 ≤ parentF h no i ∧ parentF h no i ≤ h.commits.length := by
  unfold parentF
  split
  · omega
  · rename_i h0
    rw [List.getElem?_eq_getElem (by omega)]
    simp only []
    by_cases hi : i < (h.commits[no.toNat - 1]'(by omega)).parents.length
    · rw [getD_lt hi]
      have := parF_mem (hv.com _ (by omega)).2.1 (List.getElem_mem hi)
      omega
    · rw [getD_ge (by omega)]; omega

theorem noAt_mem {l : List Rf} {t : List UInt8} (h : foundF l t = true) : ∃ r ∈ l, r.name = t ∧ noAt l t = r.no := by
  have hl := found_lt h
  refine ⟨l[cntF l t], List.getElem_mem hl, ?_, noAt_eq hl⟩
  unfold foundF at h
  rw [List.getElem?_eq_getElem hl] at h
  simp only [decide_eq_true_eq] at h
  exact (cmpB_zero _ _).1 h

theorem Valid.head {h : Hs} (hv : Valid h) (t : List UInt8) : 0 ≤ headF h t ∧ headF h t ≤ h.commits.length := by
  unfold headF
  split
  · rename_i h1
    obtain ⟨r, hr, _, e⟩ := noAt_mem h1
    have := refsF_valid _ _ _ hv.br r hr
    omega
  · split
    · rename_i h1
      obtain ⟨r, hr, _, e⟩ := noAt_mem h1
      have := refsF_valid _ _ _ hv.tg r hr
      omega
    · omega

/-! ### Find -/

def walkF (h : Hs) (no : Int) (s : List UInt8) : Option Int :=
  if _hs : s = [] then some no
  else if [94, 50].isPrefixOf s = true then walkF h (parentF h no 1) (s.drop 2)
  else if [94, 49].isPrefixOf s = true then walkF h (parentF h no 0) (s.drop 2)
  else if [94].isPrefixOf s = true then walkF h (parentF h no 0) (s.drop 1)
  else none
termination_by s.length
decreasing_by all_goals (have := List.length_pos_iff.2 _hs; simp only [List.length_drop]; omega)

def preF (s : List UInt8) : List UInt8 := if 0 ≤ Lib.indexByte s 94 then s.take (Lib.indexByte s 94).toNat else s
def sufF (s : List UInt8) : List UInt8 := if 0 ≤ Lib.indexByte s 94 then s.drop (Lib.indexByte s 94).toNat else []

def findF (h : Hs) (s : List UInt8) : Int × Int :=
  if checkF h ≠ 0 then (0, checkF h)
  else if labelF (preF s) = false then (0, 20)
  else match walkF h (headF h (preF s)) (sufF s) with
    | none => (0, 20)
    | some no => if no = 0 then (0, 290) else (no, 0)

theorem isPrefix_len {p s : List UInt8} (h : p.isPrefixOf s = true) : p.length ≤ s.length := (List.isPrefixOf_iff_prefix.1 h).length_le

theorem ff_of {b : Bool} (h : b = false) : ¬ b = true := by rw [h]; decide


set_option maxHeartbeats 4000000 in
theorem find_spec (h : Hs) (s : List UInt8) (hsz : h.branches.length ≤ 1000000 ∧ h.tags.length ≤ 1000000) : Tri Try.prog 11 [.d (histD h), .d (.str s)] [] (fun r => r = .tup [.d (.int .i64 (findF h s).1), .d (.int .i64 (findF h s).2)]) := by
  obtain ⟨F, hF⟩ : ∃ F, F = findF h s := ⟨_, rfl⟩
  rw [← hF]
  refine tri_of_body hty Try.func11 rfl (kp [0, 1, 2, 4, 5, 6, 7, 11, 16, 25, 29, 32, 40, 48, 57]) [] _ _ _ (by simp [Try.f11]) (by simp) ?_
  ((conv => whnf); repeat ((first | (intro hq; try simp only [List.length_set, List.length_replicate, List.length_map, List.length_append, List.length_drop, List.length_take, List.length_cons, List.length_nil] at hq) | (refine And.intro (by first | exact rfl | exact trivial | exact fresh_of (by with_unfolding_all exact rfl) | exact List.cons_ne_nil _ _ | exact leaf_of rfl | exact unb_sub _ _ _ | exact Nat.le_of_ble_eq_true rfl | exact notMem_of (by with_unfolding_all exact rfl) | omega | (rw [unb_map]) | exact byte_lt _ | (simp only [List.length_set, List.length_replicate, List.length_map, List.length_append, List.length_drop, List.length_take, List.length_cons, List.length_nil, Int.toNat_natCast]; omega) | (simp only [List.length_set, List.length_replicate, List.length_map, List.length_append, List.length_drop, List.length_take, List.length_cons, List.length_nil, Int.toNat_natCast] at *; omega)) ?_) | (refine Exists.intro _ (And.intro rfl ?_))); (conv => whnf)))
  refine sem_scope hty ?_
  ((conv => whnf); repeat ((first | (intro hq; try simp only [List.length_set, List.length_replicate, List.length_map, List.length_append, List.length_drop, List.length_take, List.length_cons, List.length_nil] at hq) | (refine And.intro (by first | exact rfl | exact trivial | exact fresh_of (by with_unfolding_all exact rfl) | exact List.cons_ne_nil _ _ | exact leaf_of rfl | exact unb_sub _ _ _ | exact Nat.le_of_ble_eq_true rfl | exact notMem_of (by with_unfolding_all exact rfl) | omega | (rw [unb_map]) | exact byte_lt _ | (simp only [List.length_set, List.length_replicate, List.length_map, List.length_append, List.length_drop, List.length_take, List.length_cons, List.length_nil, Int.toNat_natCast]; omega) | (simp only [List.length_set, List.length_replicate, List.length_map, List.length_append, List.length_drop, List.length_take, List.length_cons, List.length_nil, Int.toNat_natCast] at *; omega)) ?_) | (refine Exists.intro _ (And.intro rfl ?_))); (conv => whnf)))
  refine call_tri [] (check_spec _ hsz) trivial (fun s hs => ?_)
  subst hs
  ((conv => whnf); repeat ((first | (intro hq; try simp only [List.length_set, List.length_replicate, List.length_map, List.length_append, List.length_drop, List.length_take, List.length_cons, List.length_nil] at hq) | (refine And.intro (by first | exact rfl | exact trivial | exact fresh_of (by with_unfolding_all exact rfl) | exact List.cons_ne_nil _ _ | exact leaf_of rfl | exact unb_sub _ _ _ | exact Nat.le_of_ble_eq_true rfl | exact notMem_of (by with_unfolding_all exact rfl) | omega | (rw [unb_map]) | exact byte_lt _ | (simp only [List.length_set, List.length_replicate, List.length_map, List.length_append, List.length_drop, List.length_take, List.length_cons, List.length_nil, Int.toNat_natCast]; omega) | (simp only [List.length_set, List.length_replicate, List.length_map, List.length_append, List.length_drop, List.length_take, List.length_cons, List.length_nil, Int.toNat_natCast] at *; omega)) ?_) | (refine Exists.intro _ (And.intro rfl ?_))); (conv => whnf)))
  refine brB_ndec (fun h1 => ?_) (fun h1 => ?_)
  · ((conv => whnf); repeat' ((first | (intro hq; (try simp only [List.length_set, List.length_replicate, List.length_map, List.length_append, List.length_drop, List.length_take, List.length_cons, List.length_nil] at hq); (try rewrite [List.length_map])) | (refine And.intro (by first | exact rfl | exact trivial | exact fresh_of (by with_unfolding_all exact rfl) | exact List.cons_ne_nil _ _ | exact leaf_of rfl | exact unb_sub _ _ _ | exact Nat.le_of_ble_eq_true rfl | exact notMem_of (by with_unfolding_all exact rfl) | omega | (rw [unb_map]) | exact byte_lt _ | (simp only [List.length_set, List.length_replicate, List.length_map, List.length_append, List.length_drop, List.length_take, List.length_cons, List.length_nil, Int.toNat_natCast]; omega) | (simp only [List.length_set, List.length_replicate, List.length_map, List.length_append, List.length_drop, List.length_take, List.length_cons, List.length_nil, Int.toNat_natCast] at *; omega) | (show eqOK _ _ = true; kernel_rfl) | (rw [List.length_append]; exact rfl) | (simp only [List.length_map, List.length_append]; exact rfl)) ?_) | (refine Exists.intro _ (And.intro rfl ?_)) | (refine Exists.intro (show (_ : Nat) < List.length _ from by first | omega | (simp only [List.length_cons, List.length_nil]; omega) | simp) ?_) | fail | (refine draw_rule hty (by kernel_rfl) (by kernel_rfl) ?_) | (refine brB_dec (fun hb => ?_) (fun hb => ?_) <;> (first | contradiction | ((try simp only [List.length_set, List.length_replicate, List.length_map, List.length_append, List.length_drop, List.length_take, List.length_cons, List.length_nil] at hb); (first | (exfalso; omega) | skip)))) | (refine brB_ndec (fun hb => ?_) (fun hb => ?_) <;> (first | contradiction | ((try simp only [List.length_set, List.length_replicate, List.length_map, List.length_append, List.length_drop, List.length_take, List.length_cons, List.length_nil] at hb); (first | (exfalso; omega) | skip)))) | (refine brB_split (fun hb => ?_) (fun hb => ?_) <;> (first | contradiction | exact absurd (hb.symm.trans (by assumption) : false = true) (by decide) | exact absurd (hb.symm.trans (by assumption) : true = false) (by decide) | skip))) <;> (conv => whnf)))
    rw [hF, findF, if_pos h1]; rfl
  · have hc : checkF h = 0 := by simpa using h1
    have hv := (valid_iff h).1 hc
    have hnc := hv.nc
    ((conv => whnf); repeat ((first | (intro hq; try simp only [List.length_set, List.length_replicate, List.length_map, List.length_append, List.length_drop, List.length_take, List.length_cons, List.length_nil] at hq) | (refine And.intro (by first | exact rfl | exact trivial | exact fresh_of (by with_unfolding_all exact rfl) | exact List.cons_ne_nil _ _ | exact leaf_of rfl | exact unb_sub _ _ _ | exact Nat.le_of_ble_eq_true rfl | exact notMem_of (by with_unfolding_all exact rfl) | omega | (rw [unb_map]) | exact byte_lt _ | (simp only [List.length_set, List.length_replicate, List.length_map, List.length_append, List.length_drop, List.length_take, List.length_cons, List.length_nil, Int.toNat_natCast]; omega) | (simp only [List.length_set, List.length_replicate, List.length_map, List.length_append, List.length_drop, List.length_take, List.length_cons, List.length_nil, Int.toNat_natCast] at *; omega)) ?_) | (refine Exists.intro _ (And.intro rfl ?_))); (conv => whnf)))
    refine call_tri [] (indexByte_spec s 94) trivial (fun s hs => ?_)
    subst hs
    have hlt := indexByte_lt s 94
    have hge := Lib.indexByte_ge s 94
    ((conv => whnf); repeat' ((first | (intro hq; (try simp only [List.length_set, List.length_replicate, List.length_map, List.length_append, List.length_drop, List.length_take, List.length_cons, List.length_nil] at hq); (try rewrite [List.length_map])) | (refine And.intro (by first | exact rfl | exact trivial | exact fresh_of (by with_unfolding_all exact rfl) | exact List.cons_ne_nil _ _ | exact leaf_of rfl | exact unb_sub _ _ _ | exact Nat.le_of_ble_eq_true rfl | exact notMem_of (by with_unfolding_all exact rfl) | omega | (rw [unb_map]) | exact byte_lt _ | (simp only [List.length_set, List.length_replicate, List.length_map, List.length_append, List.length_drop, List.length_take, List.length_cons, List.length_nil, Int.toNat_natCast]; omega) | (simp only [List.length_set, List.length_replicate, List.length_map, List.length_append, List.length_drop, List.length_take, List.length_cons, List.length_nil, Int.toNat_natCast] at *; omega) | (show eqOK _ _ = true; kernel_rfl) | (rw [List.length_append]; exact rfl) | (simp only [List.length_map, List.length_append]; exact rfl)) ?_) | (refine Exists.intro _ (And.intro rfl ?_)) | (refine Exists.intro (show (_ : Nat) < List.length _ from by first | omega | (simp only [List.length_cons, List.length_nil]; omega) | simp) ?_) | fail | (refine draw_rule hty (by kernel_rfl) (by kernel_rfl) ?_) | (refine brB_dec (fun hb => ?_) (fun hb => ?_) <;> (first | contradiction | ((try simp only [List.length_set, List.length_replicate, List.length_map, List.length_append, List.length_drop, List.length_take, List.length_cons, List.length_nil] at hb); (first | (exfalso; omega) | skip)))) | (refine brB_ndec (fun hb => ?_) (fun hb => ?_) <;> (first | contradiction | ((try simp only [List.length_set, List.length_replicate, List.length_map, List.length_append, List.length_drop, List.length_take, List.length_cons, List.length_nil] at hb); (first | (exfalso; omega) | skip)))) | (refine brB_split (fun hb => ?_) (fun hb => ?_) <;> (first | contradiction | exact absurd (hb.symm.trans (by assumption) : false = true) (by decide) | exact absurd (hb.symm.trans (by assumption) : true = false) (by decide) | skip))) <;> (conv => whnf)))
    · have ep : preF s = List.drop 0 (List.take (Lib.indexByte s 94).toNat s) := by rw [preF, if_pos hb]; rfl
      have er : sufF s = List.drop (Lib.indexByte s 94).toNat (List.take s.length s) := by rw [sufF, if_pos hb, List.take_length]
      rw [← ep, ← er]
      refine call_tri [] (isLabel_spec _) trivial (fun s hs => ?_)
      subst hs
      clear hb hlt hge
      ((conv => whnf); repeat ((first | (intro hq; try simp only [List.length_set, List.length_replicate, List.length_map, List.length_append, List.length_drop, List.length_take, List.length_cons, List.length_nil] at hq) | (refine And.intro (by first | exact rfl | exact trivial | exact fresh_of (by with_unfolding_all exact rfl) | exact List.cons_ne_nil _ _ | exact leaf_of rfl | exact unb_sub _ _ _ | exact Nat.le_of_ble_eq_true rfl | exact notMem_of (by with_unfolding_all exact rfl) | omega | (rw [unb_map]) | exact byte_lt _ | (simp only [List.length_set, List.length_replicate, List.length_map, List.length_append, List.length_drop, List.length_take, List.length_cons, List.length_nil, Int.toNat_natCast]; omega) | (simp only [List.length_set, List.length_replicate, List.length_map, List.length_append, List.length_drop, List.length_take, List.length_cons, List.length_nil, Int.toNat_natCast] at *; omega)) ?_) | (refine Exists.intro _ (And.intro rfl ?_))); (conv => whnf)))
      refine brB_split (fun h2 => ?_) (fun h2 => ?_)
      · have h3 : labelF (preF s) = false := by simpa using h2
        ((conv => whnf); repeat' ((first | (intro hq; (try simp only [List.length_set, List.length_replicate, List.length_map, List.length_append, List.length_drop, List.length_take, List.length_cons, List.length_nil] at hq); (try rewrite [List.length_map])) | (refine And.intro (by first | exact rfl | exact trivial | exact fresh_of (by with_unfolding_all exact rfl) | exact List.cons_ne_nil _ _ | exact leaf_of rfl | exact unb_sub _ _ _ | exact Nat.le_of_ble_eq_true rfl | exact notMem_of (by with_unfolding_all exact rfl) | omega | (rw [unb_map]) | exact byte_lt _ | (simp only [List.length_set, List.length_replicate, List.length_map, List.length_append, List.length_drop, List.length_take, List.length_cons, List.length_nil, Int.toNat_natCast]; omega) | (simp only [List.length_set, List.length_replicate, List.length_map, List.length_append, List.length_drop, List.length_take, List.length_cons, List.length_nil, Int.toNat_natCast] at *; omega) | (show eqOK _ _ = true; kernel_rfl) | (rw [List.length_append]; exact rfl) | (simp only [List.length_map, List.length_append]; exact rfl)) ?_) | (refine Exists.intro _ (And.intro rfl ?_)) | (refine Exists.intro (show (_ : Nat) < List.length _ from by first | omega | (simp only [List.length_cons, List.length_nil]; omega) | simp) ?_) | fail | (refine draw_rule hty (by kernel_rfl) (by kernel_rfl) ?_) | (refine brB_dec (fun hb => ?_) (fun hb => ?_) <;> (first | contradiction | ((try simp only [List.length_set, List.length_replicate, List.length_map, List.length_append, List.length_drop, List.length_take, List.length_cons, List.length_nil] at hb); (first | (exfalso; omega) | skip)))) | (refine brB_ndec (fun hb => ?_) (fun hb => ?_) <;> (first | contradiction | ((try simp only [List.length_set, List.length_replicate, List.length_map, List.length_append, List.length_drop, List.length_take, List.length_cons, List.length_nil] at hb); (first | (exfalso; omega) | skip)))) | (refine brB_split (fun hb => ?_) (fun hb => ?_) <;> (first | contradiction | exact absurd (hb.symm.trans (by assumption) : false = true) (by decide) | exact absurd (hb.symm.trans (by assumption) : true = false) (by decide) | skip))) <;> (conv => whnf)))
        rw [hF, findF, if_neg (by simp [hc]), if_pos h3]; rfl
      · have h3 : labelF (preF s) = true := by simpa using h2
        have hF' : F = match walkF h (headF h (preF s)) (sufF s) with
          | none => (0, 20)
          | some no => if no = 0 then (0, 290) else (no, 0) := by rw [hF, findF, if_neg (by simp [hc]), if_neg (by simp [h3])]
        have hhd := hv.head (preF s)
        ((conv => whnf); repeat ((first | (intro hq; try simp only [List.length_set, List.length_replicate, List.length_map, List.length_append, List.length_drop, List.length_take, List.length_cons, List.length_nil] at hq) | (refine And.intro (by first | exact rfl | exact trivial | exact fresh_of (by with_unfolding_all exact rfl) | exact List.cons_ne_nil _ _ | exact leaf_of rfl | exact unb_sub _ _ _ | exact Nat.le_of_ble_eq_true rfl | exact notMem_of (by with_unfolding_all exact rfl) | omega | (rw [unb_map]) | exact byte_lt _ | (simp only [List.length_set, List.length_replicate, List.length_map, List.length_append, List.length_drop, List.length_take, List.length_cons, List.length_nil, Int.toNat_natCast]; omega) | (simp only [List.length_set, List.length_replicate, List.length_map, List.length_append, List.length_drop, List.length_take, List.length_cons, List.length_nil, Int.toNat_natCast] at *; omega)) ?_) | (refine Exists.intro _ (And.intro rfl ?_))); (conv => whnf)))
        refine call_tri [] (head_spec _ _ hv.sb hv.st hsz) trivial (fun s hs => ?_)
        subst hs
        ((conv => whnf); repeat ((first | (intro hq; try simp only [List.length_set, List.length_replicate, List.length_map, List.length_append, List.length_drop, List.length_take, List.length_cons, List.length_nil] at hq) | (refine And.intro (by first | exact rfl | exact trivial | exact fresh_of (by with_unfolding_all exact rfl) | exact List.cons_ne_nil _ _ | exact leaf_of rfl | exact unb_sub _ _ _ | exact Nat.le_of_ble_eq_true rfl | exact notMem_of (by with_unfolding_all exact rfl) | omega | (rw [unb_map]) | exact byte_lt _ | (simp only [List.length_set, List.length_replicate, List.length_map, List.length_append, List.length_drop, List.length_take, List.length_cons, List.length_nil, Int.toNat_natCast]; omega) | (simp only [List.length_set, List.length_replicate, List.length_map, List.length_append, List.length_drop, List.length_take, List.length_cons, List.length_nil, Int.toNat_natCast] at *; omega)) ?_) | (refine Exists.intro _ (And.intro rfl ?_))); (conv => whnf)))
        refine loop_rule hty (fun y : Int × List UInt8 => ([(2, .ptr 2 0), (4, .d (.int .i64 y.1)), (6, .d (.str y.2))], [(2, .cells 25 [.d (csv h.commits), .d (rsv h.branches), .d (rsv h.tags)])])) (fun y => (0 ≤ y.1 ∧ y.1 ≤ h.commits.length) ∧ walkF h (headF h (preF s)) (sufF s) = walkF h y.1 y.2) (fun y => y.2.length) (headF h (preF s), sufF s) ⟨hhd, rfl⟩ ⟨by repeat' (first | exact trivial | exact rfl | (rw [er]; exact rfl) | refine And.intro ?_ ?_), by repeat' (first | exact trivial | exact rfl | refine And.intro ?_ ?_)⟩ ?_
        rintro ⟨no, r⟩ ⟨hno, hw⟩
        dsimp only at hno hw
        rw [hw] at hF'
        have hw2 := walkF.eq_1 h no r
        clear ep er
        ((conv => whnf); repeat' ((first | (intro hq; (try simp only [List.length_set, List.length_replicate, List.length_map, List.length_append, List.length_drop, List.length_take, List.length_cons, List.length_nil] at hq); (try rewrite [List.length_map])) | (refine And.intro (by first | exact rfl | exact trivial | exact fresh_of (by with_unfolding_all exact rfl) | exact List.cons_ne_nil _ _ | exact leaf_of rfl | exact unb_sub _ _ _ | exact Nat.le_of_ble_eq_true rfl | exact notMem_of (by with_unfolding_all exact rfl) | omega | (rw [unb_map]) | exact byte_lt _ | (simp only [List.length_set, List.length_replicate, List.length_map, List.length_append, List.length_drop, List.length_take, List.length_cons, List.length_nil, Int.toNat_natCast]; omega) | (simp only [List.length_set, List.length_replicate, List.length_map, List.length_append, List.length_drop, List.length_take, List.length_cons, List.length_nil, Int.toNat_natCast] at *; omega) | (show eqOK _ _ = true; kernel_rfl) | (rw [List.length_append]; exact rfl) | (simp only [List.length_map, List.length_append]; exact rfl)) ?_) | (refine Exists.intro _ (And.intro rfl ?_)) | (refine Exists.intro (show (_ : Nat) < List.length _ from by first | omega | (simp only [List.length_cons, List.length_nil]; omega) | simp) ?_) | (refine call_tri [] (hasPrefix_spec _ _) trivial (fun s hs => ?_); subst hs) | (refine draw_rule hty (by kernel_rfl) (by kernel_rfl) ?_) | (refine brB_dec (fun hb => ?_) (fun hb => ?_) <;> (first | contradiction | ((try simp only [List.length_set, List.length_replicate, List.length_map, List.length_append, List.length_drop, List.length_take, List.length_cons, List.length_nil] at hb); (first | (exfalso; omega) | skip)))) | (refine brB_ndec (fun hb => ?_) (fun hb => ?_) <;> (first | contradiction | ((try simp only [List.length_set, List.length_replicate, List.length_map, List.length_append, List.length_drop, List.length_take, List.length_cons, List.length_nil] at hb); (first | (exfalso; omega) | skip)))) | (refine brB_split (fun hb => ?_) (fun hb => ?_) <;> (first | contradiction | exact absurd (hb.symm.trans (by assumption) : false = true) (by decide) | exact absurd (hb.symm.trans (by assumption) : true = false) (by decide) | skip))) <;> (conv => whnf)))
        · rename_i h4
          rw [dif_pos h4] at hw2
          rw [hw2] at hF'
          simp only [if_pos hb] at hF'
          rw [hF']; rfl
        · rename_i h4
          rw [dif_pos h4] at hw2
          rw [hw2] at hF'
          simp only [if_neg hb] at hF'
          rw [hF']; rfl
        · rename_i h4
          have hb' : [94, 50].isPrefixOf r = true := hb
          have hlen := isPrefix_len hb'
          simp only [List.length_cons, List.length_nil] at hlen
          refine ⟨.d (.int .i64 (parentF h no 1)), _, [], rfl, trivial, parent_spec h no 1 hno (by decide) (by omega), ?_⟩
          ((conv => whnf); repeat' ((first | (intro hq; (try simp only [List.length_set, List.length_replicate, List.length_map, List.length_append, List.length_drop, List.length_take, List.length_cons, List.length_nil] at hq); (try rewrite [List.length_map])) | (refine And.intro (by first | exact rfl | exact trivial | exact fresh_of (by with_unfolding_all exact rfl) | exact List.cons_ne_nil _ _ | exact leaf_of rfl | exact unb_sub _ _ _ | exact Nat.le_of_ble_eq_true rfl | exact notMem_of (by with_unfolding_all exact rfl) | omega | (rw [unb_map]) | exact byte_lt _ | (simp only [List.length_set, List.length_replicate, List.length_map, List.length_append, List.length_drop, List.length_take, List.length_cons, List.length_nil, Int.toNat_natCast]; omega) | (simp only [List.length_set, List.length_replicate, List.length_map, List.length_append, List.length_drop, List.length_take, List.length_cons, List.length_nil, Int.toNat_natCast] at *; omega) | (show eqOK _ _ = true; kernel_rfl) | (rw [List.length_append]; exact rfl) | (simp only [List.length_map, List.length_append]; exact rfl)) ?_) | (refine Exists.intro _ (And.intro rfl ?_)) | (refine Exists.intro (show (_ : Nat) < List.length _ from by first | omega | (simp only [List.length_cons, List.length_nil]; omega) | simp) ?_) | fail | (refine draw_rule hty (by kernel_rfl) (by kernel_rfl) ?_) | (refine brB_dec (fun hb => ?_) (fun hb => ?_) <;> (first | contradiction | ((try simp only [List.length_set, List.length_replicate, List.length_map, List.length_append, List.length_drop, List.length_take, List.length_cons, List.length_nil] at hb); (first | (exfalso; omega) | skip)))) | (refine brB_ndec (fun hb => ?_) (fun hb => ?_) <;> (first | contradiction | ((try simp only [List.length_set, List.length_replicate, List.length_map, List.length_append, List.length_drop, List.length_take, List.length_cons, List.length_nil] at hb); (first | (exfalso; omega) | skip)))) | (refine brB_split (fun hb => ?_) (fun hb => ?_) <;> (first | contradiction | exact absurd (hb.symm.trans (by assumption) : false = true) (by decide) | exact absurd (hb.symm.trans (by assumption) : true = false) (by decide) | skip))) <;> (conv => whnf)))
          rw [dif_neg h4, if_pos hb'] at hw2
          refine ⟨(parentF h no 1, r.drop 2), ⟨hv.parent hno 1, hw.trans hw2⟩, by simp only [List.length_drop]; omega, ?_⟩
          simp only [List.take_length]
          exact ⟨by repeat' (first | exact trivial | exact rfl | refine And.intro ?_ ?_), by repeat' (first | exact trivial | exact rfl | refine And.intro ?_ ?_)⟩
        · rename_i h4 h5
          have hb' : [94, 49].isPrefixOf r = true := hb
          have hlen := isPrefix_len hb'
          simp only [List.length_cons, List.length_nil] at hlen
          refine ⟨.d (.int .i64 (parentF h no 0)), _, [], rfl, trivial, parent_spec h no 0 hno (by decide) (by omega), ?_⟩
          ((conv => whnf); repeat' ((first | (intro hq; (try simp only [List.length_set, List.length_replicate, List.length_map, List.length_append, List.length_drop, List.length_take, List.length_cons, List.length_nil] at hq); (try rewrite [List.length_map])) | (refine And.intro (by first | exact rfl | exact trivial | exact fresh_of (by with_unfolding_all exact rfl) | exact List.cons_ne_nil _ _ | exact leaf_of rfl | exact unb_sub _ _ _ | exact Nat.le_of_ble_eq_true rfl | exact notMem_of (by with_unfolding_all exact rfl) | omega | (rw [unb_map]) | exact byte_lt _ | (simp only [List.length_set, List.length_replicate, List.length_map, List.length_append, List.length_drop, List.length_take, List.length_cons, List.length_nil, Int.toNat_natCast]; omega) | (simp only [List.length_set, List.length_replicate, List.length_map, List.length_append, List.length_drop, List.length_take, List.length_cons, List.length_nil, Int.toNat_natCast] at *; omega) | (show eqOK _ _ = true; kernel_rfl) | (rw [List.length_append]; exact rfl) | (simp only [List.length_map, List.length_append]; exact rfl)) ?_) | (refine Exists.intro _ (And.intro rfl ?_)) | (refine Exists.intro (show (_ : Nat) < List.length _ from by first | omega | (simp only [List.length_cons, List.length_nil]; omega) | simp) ?_) | fail | (refine draw_rule hty (by kernel_rfl) (by kernel_rfl) ?_) | (refine brB_dec (fun hb => ?_) (fun hb => ?_) <;> (first | contradiction | ((try simp only [List.length_set, List.length_replicate, List.length_map, List.length_append, List.length_drop, List.length_take, List.length_cons, List.length_nil] at hb); (first | (exfalso; omega) | skip)))) | (refine brB_ndec (fun hb => ?_) (fun hb => ?_) <;> (first | contradiction | ((try simp only [List.length_set, List.length_replicate, List.length_map, List.length_append, List.length_drop, List.length_take, List.length_cons, List.length_nil] at hb); (first | (exfalso; omega) | skip)))) | (refine brB_split (fun hb => ?_) (fun hb => ?_) <;> (first | contradiction | exact absurd (hb.symm.trans (by assumption) : false = true) (by decide) | exact absurd (hb.symm.trans (by assumption) : true = false) (by decide) | skip))) <;> (conv => whnf)))
          rw [dif_neg h4, if_neg (ff_of h5), if_pos hb'] at hw2
          refine ⟨(parentF h no 0, r.drop 2), ⟨hv.parent hno 0, hw.trans hw2⟩, by simp only [List.length_drop]; omega, ?_⟩
          simp only [List.take_length]
          exact ⟨by repeat' (first | exact trivial | exact rfl | refine And.intro ?_ ?_), by repeat' (first | exact trivial | exact rfl | refine And.intro ?_ ?_)⟩
        · rename_i h4 h5 h6
          have hb' : [94].isPrefixOf r = true := hb
          have hlen := isPrefix_len hb'
          simp only [List.length_cons, List.length_nil] at hlen
          refine ⟨.d (.int .i64 (parentF h no 0)), _, [], rfl, trivial, parent_spec h no 0 hno (by decide) (by omega), ?_⟩
          ((conv => whnf); repeat' ((first | (intro hq; (try simp only [List.length_set, List.length_replicate, List.length_map, List.length_append, List.length_drop, List.length_take, List.length_cons, List.length_nil] at hq); (try rewrite [List.length_map])) | (refine And.intro (by first | exact rfl | exact trivial | exact fresh_of (by with_unfolding_all exact rfl) | exact List.cons_ne_nil _ _ | exact leaf_of rfl | exact unb_sub _ _ _ | exact Nat.le_of_ble_eq_true rfl | exact notMem_of (by with_unfolding_all exact rfl) | omega | (rw [unb_map]) | exact byte_lt _ | (simp only [List.length_set, List.length_replicate, List.length_map, List.length_append, List.length_drop, List.length_take, List.length_cons, List.length_nil, Int.toNat_natCast]; omega) | (simp only [List.length_set, List.length_replicate, List.length_map, List.length_append, List.length_drop, List.length_take, List.length_cons, List.length_nil, Int.toNat_natCast] at *; omega) | (show eqOK _ _ = true; kernel_rfl) | (rw [List.length_append]; exact rfl) | (simp only [List.length_map, List.length_append]; exact rfl)) ?_) | (refine Exists.intro _ (And.intro rfl ?_)) | (refine Exists.intro (show (_ : Nat) < List.length _ from by first | omega | (simp only [List.length_cons, List.length_nil]; omega) | simp) ?_) | fail | (refine draw_rule hty (by kernel_rfl) (by kernel_rfl) ?_) | (refine brB_dec (fun hb => ?_) (fun hb => ?_) <;> (first | contradiction | ((try simp only [List.length_set, List.length_replicate, List.length_map, List.length_append, List.length_drop, List.length_take, List.length_cons, List.length_nil] at hb); (first | (exfalso; omega) | skip)))) | (refine brB_ndec (fun hb => ?_) (fun hb => ?_) <;> (first | contradiction | ((try simp only [List.length_set, List.length_replicate, List.length_map, List.length_append, List.length_drop, List.length_take, List.length_cons, List.length_nil] at hb); (first | (exfalso; omega) | skip)))) | (refine brB_split (fun hb => ?_) (fun hb => ?_) <;> (first | contradiction | exact absurd (hb.symm.trans (by assumption) : false = true) (by decide) | exact absurd (hb.symm.trans (by assumption) : true = false) (by decide) | skip))) <;> (conv => whnf)))
          rw [dif_neg h4, if_neg (ff_of h5), if_neg (ff_of h6), if_pos hb'] at hw2
          refine ⟨(parentF h no 0, r.drop 1), ⟨hv.parent hno 0, hw.trans hw2⟩, by simp only [List.length_drop]; omega, ?_⟩
          simp only [List.take_length]
          exact ⟨by repeat' (first | exact trivial | exact rfl | refine And.intro ?_ ?_), by repeat' (first | exact trivial | exact rfl | refine And.intro ?_ ?_)⟩
        · rename_i h4 h5 h6
          rw [dif_neg h4, if_neg (ff_of h5), if_neg (ff_of h6), if_neg (ff_of hb)] at hw2
          rw [hw2] at hF'
          rw [hF']; rfl
    · have ep : preF s = s := by rw [preF, if_neg hb]
      have er : sufF s = [] := by rw [sufF, if_neg hb]
      rw [← ep]
      refine call_tri [] (isLabel_spec _) trivial (fun s hs => ?_)
      subst hs
      clear hb hlt hge
      ((conv => whnf); repeat ((first | (intro hq; try simp only [List.length_set, List.length_replicate, List.length_map, List.length_append, List.length_drop, List.length_take, List.length_cons, List.length_nil] at hq) | (refine And.intro (by first | exact rfl | exact trivial | exact fresh_of (by with_unfolding_all exact rfl) | exact List.cons_ne_nil _ _ | exact leaf_of rfl | exact unb_sub _ _ _ | exact Nat.le_of_ble_eq_true rfl | exact notMem_of (by with_unfolding_all exact rfl) | omega | (rw [unb_map]) | exact byte_lt _ | (simp only [List.length_set, List.length_replicate, List.length_map, List.length_append, List.length_drop, List.length_take, List.length_cons, List.length_nil, Int.toNat_natCast]; omega) | (simp only [List.length_set, List.length_replicate, List.length_map, List.length_append, List.length_drop, List.length_take, List.length_cons, List.length_nil, Int.toNat_natCast] at *; omega)) ?_) | (refine Exists.intro _ (And.intro rfl ?_))); (conv => whnf)))
      refine brB_split (fun h2 => ?_) (fun h2 => ?_)
      · have h3 : labelF (preF s) = false := by simpa using h2
        ((conv => whnf); repeat' ((first | (intro hq; (try simp only [List.length_set, List.length_replicate, List.length_map, List.length_append, List.length_drop, List.length_take, List.length_cons, List.length_nil] at hq); (try rewrite [List.length_map])) | (refine And.intro (by first | exact rfl | exact trivial | exact fresh_of (by with_unfolding_all exact rfl) | exact List.cons_ne_nil _ _ | exact leaf_of rfl | exact unb_sub _ _ _ | exact Nat.le_of_ble_eq_true rfl | exact notMem_of (by with_unfolding_all exact rfl) | omega | (rw [unb_map]) | exact byte_lt _ | (simp only [List.length_set, List.length_replicate, List.length_map, List.length_append, List.length_drop, List.length_take, List.length_cons, List.length_nil, Int.toNat_natCast]; omega) | (simp only [List.length_set, List.length_replicate, List.length_map, List.length_append, List.length_drop, List.length_take, List.length_cons, List.length_nil, Int.toNat_natCast] at *; omega) | (show eqOK _ _ = true; kernel_rfl) | (rw [List.length_append]; exact rfl) | (simp only [List.length_map, List.length_append]; exact rfl)) ?_) | (refine Exists.intro _ (And.intro rfl ?_)) | (refine Exists.intro (show (_ : Nat) < List.length _ from by first | omega | (simp only [List.length_cons, List.length_nil]; omega) | simp) ?_) | fail | (refine draw_rule hty (by kernel_rfl) (by kernel_rfl) ?_) | (refine brB_dec (fun hb => ?_) (fun hb => ?_) <;> (first | contradiction | ((try simp only [List.length_set, List.length_replicate, List.length_map, List.length_append, List.length_drop, List.length_take, List.length_cons, List.length_nil] at hb); (first | (exfalso; omega) | skip)))) | (refine brB_ndec (fun hb => ?_) (fun hb => ?_) <;> (first | contradiction | ((try simp only [List.length_set, List.length_replicate, List.length_map, List.length_append, List.length_drop, List.length_take, List.length_cons, List.length_nil] at hb); (first | (exfalso; omega) | skip)))) | (refine brB_split (fun hb => ?_) (fun hb => ?_) <;> (first | contradiction | exact absurd (hb.symm.trans (by assumption) : false = true) (by decide) | exact absurd (hb.symm.trans (by assumption) : true = false) (by decide) | skip))) <;> (conv => whnf)))
        rw [hF, findF, if_neg (by simp [hc]), if_pos h3]; rfl
      · have h3 : labelF (preF s) = true := by simpa using h2
        have hF' : F = match walkF h (headF h (preF s)) (sufF s) with
          | none => (0, 20)
          | some no => if no = 0 then (0, 290) else (no, 0) := by rw [hF, findF, if_neg (by simp [hc]), if_neg (by simp [h3])]
        have hhd := hv.head (preF s)
        ((conv => whnf); repeat ((first | (intro hq; try simp only [List.length_set, List.length_replicate, List.length_map, List.length_append, List.length_drop, List.length_take, List.length_cons, List.length_nil] at hq) | (refine And.intro (by first | exact rfl | exact trivial | exact fresh_of (by with_unfolding_all exact rfl) | exact List.cons_ne_nil _ _ | exact leaf_of rfl | exact unb_sub _ _ _ | exact Nat.le_of_ble_eq_true rfl | exact notMem_of (by with_unfolding_all exact rfl) | omega | (rw [unb_map]) | exact byte_lt _ | (simp only [List.length_set, List.length_replicate, List.length_map, List.length_append, List.length_drop, List.length_take, List.length_cons, List.length_nil, Int.toNat_natCast]; omega) | (simp only [List.length_set, List.length_replicate, List.length_map, List.length_append, List.length_drop, List.length_take, List.length_cons, List.length_nil, Int.toNat_natCast] at *; omega)) ?_) | (refine Exists.intro _ (And.intro rfl ?_))); (conv => whnf)))
        refine call_tri [] (head_spec _ _ hv.sb hv.st hsz) trivial (fun s hs => ?_)
        subst hs
        ((conv => whnf); repeat ((first | (intro hq; try simp only [List.length_set, List.length_replicate, List.length_map, List.length_append, List.length_drop, List.length_take, List.length_cons, List.length_nil] at hq) | (refine And.intro (by first | exact rfl | exact trivial | exact fresh_of (by with_unfolding_all exact rfl) | exact List.cons_ne_nil _ _ | exact leaf_of rfl | exact unb_sub _ _ _ | exact Nat.le_of_ble_eq_true rfl | exact notMem_of (by with_unfolding_all exact rfl) | omega | (rw [unb_map]) | exact byte_lt _ | (simp only [List.length_set, List.length_replicate, List.length_map, List.length_append, List.length_drop, List.length_take, List.length_cons, List.length_nil, Int.toNat_natCast]; omega) | (simp only [List.length_set, List.length_replicate, List.length_map, List.length_append, List.length_drop, List.length_take, List.length_cons, List.length_nil, Int.toNat_natCast] at *; omega)) ?_) | (refine Exists.intro _ (And.intro rfl ?_))); (conv => whnf)))
        refine loop_rule hty (fun y : Int × List UInt8 => ([(2, .ptr 2 0), (4, .d (.int .i64 y.1)), (6, .d (.str y.2))], [(2, .cells 25 [.d (csv h.commits), .d (rsv h.branches), .d (rsv h.tags)])])) (fun y => (0 ≤ y.1 ∧ y.1 ≤ h.commits.length) ∧ walkF h (headF h (preF s)) (sufF s) = walkF h y.1 y.2) (fun y => y.2.length) (headF h (preF s), sufF s) ⟨hhd, rfl⟩ ⟨by repeat' (first | exact trivial | exact rfl | (rw [er]; exact rfl) | refine And.intro ?_ ?_), by repeat' (first | exact trivial | exact rfl | refine And.intro ?_ ?_)⟩ ?_
        rintro ⟨no, r⟩ ⟨hno, hw⟩
        dsimp only at hno hw
        rw [hw] at hF'
        have hw2 := walkF.eq_1 h no r
        clear ep er
        ((conv => whnf); repeat' ((first | (intro hq; (try simp only [List.length_set, List.length_replicate, List.length_map, List.length_append, List.length_drop, List.length_take, List.length_cons, List.length_nil] at hq); (try rewrite [List.length_map])) | (refine And.intro (by first | exact rfl | exact trivial | exact fresh_of (by with_unfolding_all exact rfl) | exact List.cons_ne_nil _ _ | exact leaf_of rfl | exact unb_sub _ _ _ | exact Nat.le_of_ble_eq_true rfl | exact notMem_of (by with_unfolding_all exact rfl) | omega | (rw [unb_map]) | exact byte_lt _ | (simp only [List.length_set, List.length_replicate, List.length_map, List.length_append, List.length_drop, List.length_take, List.length_cons, List.length_nil, Int.toNat_natCast]; omega) | (simp only [List.length_set, List.length_replicate, List.length_map, List.length_append, List.length_drop, List.length_take, List.length_cons, List.length_nil, Int.toNat_natCast] at *; omega) | (show eqOK _ _ = true; kernel_rfl) | (rw [List.length_append]; exact rfl) | (simp only [List.length_map, List.length_append]; exact rfl)) ?_) | (refine Exists.intro _ (And.intro rfl ?_)) | (refine Exists.intro (show (_ : Nat) < List.length _ from by first | omega | (simp only [List.length_cons, List.length_nil]; omega) | simp) ?_) | (refine call_tri [] (hasPrefix_spec _ _) trivial (fun s hs => ?_); subst hs) | (refine draw_rule hty (by kernel_rfl) (by kernel_rfl) ?_) | (refine brB_dec (fun hb => ?_) (fun hb => ?_) <;> (first | contradiction | ((try simp only [List.length_set, List.length_replicate, List.length_map, List.length_append, List.length_drop, List.length_take, List.length_cons, List.length_nil] at hb); (first | (exfalso; omega) | skip)))) | (refine brB_ndec (fun hb => ?_) (fun hb => ?_) <;> (first | contradiction | ((try simp only [List.length_set, List.length_replicate, List.length_map, List.length_append, List.length_drop, List.length_take, List.length_cons, List.length_nil] at hb); (first | (exfalso; omega) | skip)))) | (refine brB_split (fun hb => ?_) (fun hb => ?_) <;> (first | contradiction | exact absurd (hb.symm.trans (by assumption) : false = true) (by decide) | exact absurd (hb.symm.trans (by assumption) : true = false) (by decide) | skip))) <;> (conv => whnf)))
        · rename_i h4
          rw [dif_pos h4] at hw2
          rw [hw2] at hF'
          simp only [if_pos hb] at hF'
          rw [hF']; rfl
        · rename_i h4
          rw [dif_pos h4] at hw2
          rw [hw2] at hF'
          simp only [if_neg hb] at hF'
          rw [hF']; rfl
        · rename_i h4
          have hb' : [94, 50].isPrefixOf r = true := hb
          have hlen := isPrefix_len hb'
          simp only [List.length_cons, List.length_nil] at hlen
          refine ⟨.d (.int .i64 (parentF h no 1)), _, [], rfl, trivial, parent_spec h no 1 hno (by decide) (by omega), ?_⟩
          ((conv => whnf); repeat' ((first | (intro hq; (try simp only [List.length_set, List.length_replicate, List.length_map, List.length_append, List.length_drop, List.length_take, List.length_cons, List.length_nil] at hq); (try rewrite [List.length_map])) | (refine And.intro (by first | exact rfl | exact trivial | exact fresh_of (by with_unfolding_all exact rfl) | exact List.cons_ne_nil _ _ | exact leaf_of rfl | exact unb_sub _ _ _ | exact Nat.le_of_ble_eq_true rfl | exact notMem_of (by with_unfolding_all exact rfl) | omega | (rw [unb_map]) | exact byte_lt _ | (simp only [List.length_set, List.length_replicate, List.length_map, List.length_append, List.length_drop, List.length_take, List.length_cons, List.length_nil, Int.toNat_natCast]; omega) | (simp only [List.length_set, List.length_replicate, List.length_map, List.length_append, List.length_drop, List.length_take, List.length_cons, List.length_nil, Int.toNat_natCast] at *; omega) | (show eqOK _ _ = true; kernel_rfl) | (rw [List.length_append]; exact rfl) | (simp only [List.length_map, List.length_append]; exact rfl)) ?_) | (refine Exists.intro _ (And.intro rfl ?_)) | (refine Exists.intro (show (_ : Nat) < List.length _ from by first | omega | (simp only [List.length_cons, List.length_nil]; omega) | simp) ?_) | fail | (refine draw_rule hty (by kernel_rfl) (by kernel_rfl) ?_) | (refine brB_dec (fun hb => ?_) (fun hb => ?_) <;> (first | contradiction | ((try simp only [List.length_set, List.length_replicate, List.length_map, List.length_append, List.length_drop, List.length_take, List.length_cons, List.length_nil] at hb); (first | (exfalso; omega) | skip)))) | (refine brB_ndec (fun hb => ?_) (fun hb => ?_) <;> (first | contradiction | ((try simp only [List.length_set, List.length_replicate, List.length_map, List.length_append, List.length_drop, List.length_take, List.length_cons, List.length_nil] at hb); (first | (exfalso; omega) | skip)))) | (refine brB_split (fun hb => ?_) (fun hb => ?_) <;> (first | contradiction | exact absurd (hb.symm.trans (by assumption) : false = true) (by decide) | exact absurd (hb.symm.trans (by assumption) : true = false) (by decide) | skip))) <;> (conv => whnf)))
          rw [dif_neg h4, if_pos hb'] at hw2
          refine ⟨(parentF h no 1, r.drop 2), ⟨hv.parent hno 1, hw.trans hw2⟩, by simp only [List.length_drop]; omega, ?_⟩
          simp only [List.take_length]
          exact ⟨by repeat' (first | exact trivial | exact rfl | refine And.intro ?_ ?_), by repeat' (first | exact trivial | exact rfl | refine And.intro ?_ ?_)⟩
        · rename_i h4 h5
          have hb' : [94, 49].isPrefixOf r = true := hb
          have hlen := isPrefix_len hb'
          simp only [List.length_cons, List.length_nil] at hlen
          refine ⟨.d (.int .i64 (parentF h no 0)), _, [], rfl, trivial, parent_spec h no 0 hno (by decide) (by omega), ?_⟩
          ((conv => whnf); repeat' ((first | (intro hq; (try simp only [List.length_set, List.length_replicate, List.length_map, List.length_append, List.length_drop, List.length_take, List.length_cons, List.length_nil] at hq); (try rewrite [List.length_map])) | (refine And.intro (by first | exact rfl | exact trivial | exact fresh_of (by with_unfolding_all exact rfl) | exact List.cons_ne_nil _ _ | exact leaf_of rfl | exact unb_sub _ _ _ | exact Nat.le_of_ble_eq_true rfl | exact notMem_of (by with_unfolding_all exact rfl) | omega | (rw [unb_map]) | exact byte_lt _ | (simp only [List.length_set, List.length_replicate, List.length_map, List.length_append, List.length_drop, List.length_take, List.length_cons, List.length_nil, Int.toNat_natCast]; omega) | (simp only [List.length_set, List.length_replicate, List.length_map, List.length_append, List.length_drop, List.length_take, List.length_cons, List.length_nil, Int.toNat_natCast] at *; omega) | (show eqOK _ _ = true; kernel_rfl) | (rw [List.length_append]; exact rfl) | (simp only [List.length_map, List.length_append]; exact rfl)) ?_) | (refine Exists.intro _ (And.intro rfl ?_)) | (refine Exists.intro (show (_ : Nat) < List.length _ from by first | omega | (simp only [List.length_cons, List.length_nil]; omega) | simp) ?_) | fail | (refine draw_rule hty (by kernel_rfl) (by kernel_rfl) ?_) | (refine brB_dec (fun hb => ?_) (fun hb => ?_) <;> (first | contradiction | ((try simp only [List.length_set, List.length_replicate, List.length_map, List.length_append, List.length_drop, List.length_take, List.length_cons, List.length_nil] at hb); (first | (exfalso; omega) | skip)))) | (refine brB_ndec (fun hb => ?_) (fun hb => ?_) <;> (first | contradiction | ((try simp only [List.length_set, List.length_replicate, List.length_map, List.length_append, List.length_drop, List.length_take, List.length_cons, List.length_nil] at hb); (first | (exfalso; omega) | skip)))) | (refine brB_split (fun hb => ?_) (fun hb => ?_) <;> (first | contradiction | exact absurd (hb.symm.trans (by assumption) : false = true) (by decide) | exact absurd (hb.symm.trans (by assumption) : true = false) (by decide) | skip))) <;> (conv => whnf)))
          rw [dif_neg h4, if_neg (ff_of h5), if_pos hb'] at hw2
          refine ⟨(parentF h no 0, r.drop 2), ⟨hv.parent hno 0, hw.trans hw2⟩, by simp only [List.length_drop]; omega, ?_⟩
          simp only [List.take_length]
          exact ⟨by repeat' (first | exact trivial | exact rfl | refine And.intro ?_ ?_), by repeat' (first | exact trivial | exact rfl | refine And.intro ?_ ?_)⟩
        · rename_i h4 h5 h6
          have hb' : [94].isPrefixOf r = true := hb
          have hlen := isPrefix_len hb'
          simp only [List.length_cons, List.length_nil] at hlen
          refine ⟨.d (.int .i64 (parentF h no 0)), _, [], rfl, trivial, parent_spec h no 0 hno (by decide) (by omega), ?_⟩
          ((conv => whnf); repeat' ((first | (intro hq; (try simp only [List.length_set, List.length_replicate, List.length_map, List.length_append, List.length_drop, List.length_take, List.length_cons, List.length_nil] at hq); (try rewrite [List.length_map])) | (refine And.intro (by first | exact rfl | exact trivial | exact fresh_of (by with_unfolding_all exact rfl) | exact List.cons_ne_nil _ _ | exact leaf_of rfl | exact unb_sub _ _ _ | exact Nat.le_of_ble_eq_true rfl | exact notMem_of (by with_unfolding_all exact rfl) | omega | (rw [unb_map]) | exact byte_lt _ | (simp only [List.length_set, List.length_replicate, List.length_map, List.length_append, List.length_drop, List.length_take, List.length_cons, List.length_nil, Int.toNat_natCast]; omega) | (simp only [List.length_set, List.length_replicate, List.length_map, List.length_append, List.length_drop, List.length_take, List.length_cons, List.length_nil, Int.toNat_natCast] at *; omega) | (show eqOK _ _ = true; kernel_rfl) | (rw [List.length_append]; exact rfl) | (simp only [List.length_map, List.length_append]; exact rfl)) ?_) | (refine Exists.intro _ (And.intro rfl ?_)) | (refine Exists.intro (show (_ : Nat) < List.length _ from by first | omega | (simp only [List.length_cons, List.length_nil]; omega) | simp) ?_) | fail | (refine draw_rule hty (by kernel_rfl) (by kernel_rfl) ?_) | (refine brB_dec (fun hb => ?_) (fun hb => ?_) <;> (first | contradiction | ((try simp only [List.length_set, List.length_replicate, List.length_map, List.length_append, List.length_drop, List.length_take, List.length_cons, List.length_nil] at hb); (first | (exfalso; omega) | skip)))) | (refine brB_ndec (fun hb => ?_) (fun hb => ?_) <;> (first | contradiction | ((try simp only [List.length_set, List.length_replicate, List.length_map, List.length_append, List.length_drop, List.length_take, List.length_cons, List.length_nil] at hb); (first | (exfalso; omega) | skip)))) | (refine brB_split (fun hb => ?_) (fun hb => ?_) <;> (first | contradiction | exact absurd (hb.symm.trans (by assumption) : false = true) (by decide) | exact absurd (hb.symm.trans (by assumption) : true = false) (by decide) | skip))) <;> (conv => whnf)))
          rw [dif_neg h4, if_neg (ff_of h5), if_neg (ff_of h6), if_pos hb'] at hw2
          refine ⟨(parentF h no 0, r.drop 1), ⟨hv.parent hno 0, hw.trans hw2⟩, by simp only [List.length_drop]; omega, ?_⟩
          simp only [List.take_length]
          exact ⟨by repeat' (first | exact trivial | exact rfl | refine And.intro ?_ ?_), by repeat' (first | exact trivial | exact rfl | refine And.intro ?_ ?_)⟩
        · rename_i h4 h5 h6
          rw [dif_neg h4, if_neg (ff_of h5), if_neg (ff_of h6), if_neg (ff_of hb)] at hw2
          rw [hw2] at hF'
          rw [hF']; rfl
end Go.Proofs.Ytljlhoekpjkgoaa
