/-
  History: Check: the walk.
  Conditions: none.
-/
import Derived.Test.YtljlhoekpjkgoaaH2
namespace Go.Proofs.Ytljlhoekpjkgoaa
open Go.Proofs
set_option linter.unusedSimpArgs false
set_option maxRecDepth 10000
attribute [local irreducible] SemVC CallVC Tri Stuck

structure Cm where
  no : Int
  parents : List Int
  base : Nat → UInt8
  msg : List UInt8

structure Hs where
  commits : List Cm
  branches : List Rf
  tags : List Rf

def commitR (c : Cm) : List D := [.int .i64 c.no, isv c.parents, .int .u8 (c.base 0).toNat, .int .u8 (c.base 1).toNat, .int .u8 (c.base 2).toNat, .int .u8 (c.base 3).toNat, .int .u8 (c.base 4).toNat, .int .u8 (c.base 5).toNat, .int .u8 (c.base 6).toNat, .int .u8 (c.base 7).toNat, .int .u8 (c.base 8).toNat, .int .u8 (c.base 9).toNat, .int .u8 (c.base 10).toNat, .int .u8 (c.base 11).toNat, .int .u8 (c.base 12).toNat, .int .u8 (c.base 13).toNat, .int .u8 (c.base 14).toNat, .int .u8 (c.base 15).toNat, .int .u8 (c.base 16).toNat, .int .u8 (c.base 17).toNat, .int .u8 (c.base 18).toNat, .int .u8 (c.base 19).toNat, .int .u8 (c.base 20).toNat, .int .u8 (c.base 21).toNat, .int .u8 (c.base 22).toNat, .int .u8 (c.base 23).toNat, .int .u8 (c.base 24).toNat, .int .u8 (c.base 25).toNat, .int .u8 (c.base 26).toNat, .int .u8 (c.base 27).toNat, .int .u8 (c.base 28).toNat, .int .u8 (c.base 29).toNat, .int .u8 (c.base 30).toNat, .int .u8 (c.base 31).toNat, .str c.msg]
def csv (l : List Cm) : D := .sl 35 (l.map commitR)
def histL (h : Hs) : List D := [csv h.commits, rsv h.branches, rsv h.tags]
def histD (h : Hs) : D := .agg (histL h)

def comF : Nat → List Cm → Int
  | _, [] => 0
  | i, c :: r => if c.no ≠ i + 1 ∨ parF c.parents i = false then 290 else if msgF c.msg = false then 1 else comF (i + 1) r

theorem comF_step {l : List Cm} {k : Nat} (h : k < l.length) : comF k (l.drop k) = if l[k].no ≠ k + 1 ∨ parF l[k].parents k = false then 290 else if msgF l[k].msg = false then 1 else comF (k + 1) (l.drop (k + 1)) := by
  rw [List.drop_eq_getElem_cons h]
  simp only [comF]

def dupF (h : Hs) : Bool := h.branches.any fun b => foundF h.tags b.name

def checkF (h : Hs) : Int :=
  if 1024 < h.commits.length ∨ 256 < h.branches.length + h.tags.length then 2
  else if comF 0 h.commits ≠ 0 then comF 0 h.commits
  else if refsF h.commits.length none h.branches ≠ 0 then refsF h.commits.length none h.branches
  else if refsF h.commits.length none h.tags ≠ 0 then refsF h.commits.length none h.tags
  else if dupF h = true then 291 else 0

theorem refs_sorted (n : Int) : ∀ (l : List Rf) (p : Option (List UInt8)), refsF n p l = 0 → Sorted l ∧ ∀ q, p = some q → ∀ r ∈ l, cmpB q r.name < 0
  | [], p, _ => ⟨.nil, by simp⟩
  | r :: l, p, h => by
    simp only [refsF] at h
    split at h
    · omega
    · split at h
      · omega
      · split at h
        · omega
        · rename_i h3
          obtain ⟨i1, i2⟩ := refs_sorted n l (some r.name) h
          have hr := i2 r.name rfl
          refine ⟨List.pairwise_cons.2 ⟨hr, i1⟩, ?_⟩
          rintro q rfl x hx
          have hq : cmpB q r.name < 0 := by
            simp only [badPrev, decide_eq_true_eq] at h3
            have := cmpB_swap q r.name
            omega
          rcases List.mem_cons.1 hx with rfl | hx
          · exact hq
          · exact cmpB_trans _ _ _ hq (hr x hx)

theorem any_stop {α : Type} {p : α → Bool} {l : List α} {k : Nat} (h : k < l.length) (hp : p l[k] = true) : l.any p = true := List.any_eq_true.2 ⟨l[k], List.getElem_mem h, hp⟩
theorem any_step {α : Type} {p : α → Bool} {l : List α} {k : Nat} (h : k < l.length) (hk : (l.take k).any p = false) (hp : p l[k] = false) : (l.take (k + 1)).any p = false := by
  rw [List.take_succ_eq_append_getElem h, List.any_append, hk]; simp [hp]

set_option maxHeartbeats 4000000 in
theorem check_spec (h : Hs) (hsz : h.branches.length ≤ 1000000 ∧ h.tags.length ≤ 1000000) : Tri Try.prog 14 [.d (histD h)] [] (fun r => r = .d (.int .i64 (checkF h))) := by
  obtain ⟨hsz1, hsz2⟩ := hsz
  refine tri_of_body hty Try.func14 rfl (kp [0, 1, 2, 3, 4, 6, 8, 22, 24, 25, 26, 27, 42, 46, 55, 64, 67, 68, 69, 70, 81]) [] _ _ _ (by simp [Try.f14]) (by simp) ?_
  ((conv => whnf); repeat' ((first | (intro hq; (try simp only [List.length_set, List.length_replicate, List.length_map, List.length_append, List.length_drop, List.length_take, List.length_cons, List.length_nil] at hq); (try rewrite [List.length_map])) | (refine And.intro (by first | exact rfl | exact trivial | exact fresh_of (by with_unfolding_all exact rfl) | exact List.cons_ne_nil _ _ | exact leaf_of rfl | exact unb_sub _ _ _ | exact Nat.le_of_ble_eq_true rfl | exact notMem_of (by with_unfolding_all exact rfl) | omega | (rw [unb_map]) | exact byte_lt _ | (simp only [List.length_set, List.length_replicate, List.length_map, List.length_append, List.length_drop, List.length_take, List.length_cons, List.length_nil, Int.toNat_natCast]; omega) | (simp only [List.length_set, List.length_replicate, List.length_map, List.length_append, List.length_drop, List.length_take, List.length_cons, List.length_nil, Int.toNat_natCast] at *; omega) | (show eqOK _ _ = true; kernel_rfl) | (rw [List.length_append]; exact rfl) | (simp only [List.length_map, List.length_append]; exact rfl)) ?_) | (refine Exists.intro _ (And.intro rfl ?_)) | (refine Exists.intro (show (_ : Nat) < List.length _ from by first | omega | (simp only [List.length_cons, List.length_nil]; omega) | simp) ?_) | fail | (refine draw_rule hty (by kernel_rfl) (by kernel_rfl) ?_) | (refine brB_dec (fun hb => ?_) (fun hb => ?_) <;> (first | contradiction | ((try simp only [List.length_set, List.length_replicate, List.length_map, List.length_append, List.length_drop, List.length_take, List.length_cons, List.length_nil] at hb); (first | (exfalso; omega) | skip)))) | (refine brB_ndec (fun hb => ?_) (fun hb => ?_) <;> (first | contradiction | ((try simp only [List.length_set, List.length_replicate, List.length_map, List.length_append, List.length_drop, List.length_take, List.length_cons, List.length_nil] at hb); (first | (exfalso; omega) | skip)))) | (refine brB_split (fun hb => ?_) (fun hb => ?_) <;> (first | contradiction | exact absurd (hb.symm.trans (by assumption) : false = true) (by decide) | exact absurd (hb.symm.trans (by assumption) : true = false) (by decide) | skip))) <;> (conv => whnf)))
  · have e : checkF h = 2 := by rw [checkF, if_pos (.inl (by omega))]
    rw [e]; rfl
  · have e : checkF h = 2 := by rw [checkF, if_pos (.inr (by omega))]
    rw [e]; rfl
  rename_i hb1 _ _
  have hsm : ¬ (1024 < h.commits.length ∨ 256 < h.branches.length + h.tags.length) := by omega
  have hC : checkF h = if comF 0 h.commits ≠ 0 then comF 0 h.commits
  else if refsF h.commits.length none h.branches ≠ 0 then refsF h.commits.length none h.branches
  else if refsF h.commits.length none h.tags ≠ 0 then refsF h.commits.length none h.tags
  else if dupF h = true then 291 else 0 := by rw [checkF, if_neg hsm]
  clear hb hb1
  refine loop_rule hty (fun k : Nat => ([(1, .ptr 1 0), (24, .d (csv h.commits)), (25, .d (.int .i64 h.commits.length)), (26, .d (.int .i64 k))], [(1, .cells 25 [.d (csv h.commits), .d (rsv h.branches), .d (rsv h.tags)])])) (fun k => k ≤ h.commits.length ∧ comF 0 h.commits = comF k (h.commits.drop k)) (fun k => h.commits.length - k) 0 ⟨by simp, rfl⟩ ⟨by repeat' (first | exact trivial | exact rfl | (rw [List.length_map]; exact rfl) | refine And.intro ?_ ?_), by repeat' (first | exact trivial | exact rfl | refine And.intro ?_ ?_)⟩ ?_
  rintro k ⟨hk, hk2⟩
  ((conv => whnf); repeat ((first | (intro hq; try simp only [List.length_set, List.length_replicate, List.length_map, List.length_append, List.length_drop, List.length_take, List.length_cons, List.length_nil] at hq) | (refine And.intro (by first | exact rfl | exact trivial | exact fresh_of (by with_unfolding_all exact rfl) | exact List.cons_ne_nil _ _ | exact leaf_of rfl | exact unb_sub _ _ _ | exact Nat.le_of_ble_eq_true rfl | exact notMem_of (by with_unfolding_all exact rfl) | omega | (rw [unb_map]) | exact byte_lt _ | (simp only [List.length_set, List.length_replicate, List.length_map, List.length_append, List.length_drop, List.length_take, List.length_cons, List.length_nil, Int.toNat_natCast]; omega) | (simp only [List.length_set, List.length_replicate, List.length_map, List.length_append, List.length_drop, List.length_take, List.length_cons, List.length_nil, Int.toNat_natCast] at *; omega)) ?_) | (refine Exists.intro _ (And.intro rfl ?_))); (conv => whnf)))
  refine brB_dec (fun h1 => ?_) (fun h1 => ?_)
  · have hkl : (k : Int).toNat < h.commits.length := by omega
    have hst := comF_step (l := h.commits) (k := k) hkl
    rw [← hk2] at hst
    ((conv => whnf); repeat' ((first | (intro hq; (try simp only [List.length_set, List.length_replicate, List.length_map, List.length_append, List.length_drop, List.length_take, List.length_cons, List.length_nil] at hq); (try rewrite [List.length_map])) | (refine And.intro (by first | exact rfl | exact trivial | exact fresh_of (by with_unfolding_all exact rfl) | exact List.cons_ne_nil _ _ | exact leaf_of rfl | exact unb_sub _ _ _ | exact Nat.le_of_ble_eq_true rfl | exact notMem_of (by with_unfolding_all exact rfl) | omega | (rw [unb_map]) | exact byte_lt _ | (simp only [List.length_set, List.length_replicate, List.length_map, List.length_append, List.length_drop, List.length_take, List.length_cons, List.length_nil, Int.toNat_natCast]; omega) | (simp only [List.length_set, List.length_replicate, List.length_map, List.length_append, List.length_drop, List.length_take, List.length_cons, List.length_nil, Int.toNat_natCast] at *; omega) | (show eqOK _ _ = true; kernel_rfl) | (rw [List.length_append]; exact rfl) | (simp only [List.length_map, List.length_append]; exact rfl)) ?_) | (refine Exists.intro _ (And.intro rfl ?_)) | (refine Exists.intro (show (_ : Nat) < List.length _ from by first | omega | (simp only [List.length_cons, List.length_nil]; omega) | simp) ?_) | (refine ⟨_, row_at (by first | omega | (simp only [List.length_map]; omega)), ?_⟩) | (refine call_tri [] (areParents_spec _ _) trivial (fun s hs => ?_); subst hs) | (refine call_tri [] (isMessage_spec _) trivial (fun s hs => ?_); subst hs) | (refine draw_rule hty (by kernel_rfl) (by kernel_rfl) ?_) | (refine brB_dec (fun hb => ?_) (fun hb => ?_) <;> (first | contradiction | ((try simp only [List.length_set, List.length_replicate, List.length_map, List.length_append, List.length_drop, List.length_take, List.length_cons, List.length_nil] at hb); (first | (exfalso; omega) | skip)))) | (refine brB_ndec (fun hb => ?_) (fun hb => ?_) <;> (first | contradiction | ((try simp only [List.length_set, List.length_replicate, List.length_map, List.length_append, List.length_drop, List.length_take, List.length_cons, List.length_nil] at hb); (first | (exfalso; omega) | skip)))) | (refine brB_split (fun hb => ?_) (fun hb => ?_) <;> (first | contradiction | exact absurd (hb.symm.trans (by assumption) : false = true) (by decide) | exact absurd (hb.symm.trans (by assumption) : true = false) (by decide) | skip))) <;> (conv => whnf)))
    · have e : comF 0 h.commits = 290 := by rw [hst, if_pos (.inl hb)]
      rw [hC, e]; rfl
    · have e : comF 0 h.commits = 290 := by rw [hst, if_pos (.inr (by simpa using hb))]
      rw [hC, e]; rfl
    · rename_i h5 h6
      have e : comF 0 h.commits = 1 := by
        rw [hst, if_neg (fun q => q.elim (fun q => q h5) (fun q => by have h7 : parF h.commits[k].parents k = true := by simpa using h6
                                                                      rw [h7] at q; cases q)), if_pos (by simpa using hb)]
      rw [hC, e]; rfl
    · rename_i h5 h6
      rw [if_neg (fun q => q.elim (fun q => q h5) (fun q => by have h7 : parF h.commits[k].parents k = true := by simpa using h6
                                                               rw [h7] at q; cases q)), if_neg (by rw [show msgF h.commits[k].msg = true from by simpa using hb]; decide)] at hst
      exact ⟨k + 1, ⟨by omega, hst⟩, by dsimp only; omega, ⟨by repeat' (first | exact trivial | exact rfl | refine And.intro ?_ ?_), by repeat' (first | exact trivial | exact rfl | refine And.intro ?_ ?_)⟩⟩
  · obtain rfl : k = h.commits.length := by omega
    rw [List.drop_eq_nil_of_le (Nat.le_refl _)] at hk2
    have hk3 : comF 0 h.commits = 0 := hk2
    rw [if_neg (by omega)] at hC
    clear hk2 hk h1
    ((conv => whnf); repeat ((first | (intro hq; try simp only [List.length_set, List.length_replicate, List.length_map, List.length_append, List.length_drop, List.length_take, List.length_cons, List.length_nil] at hq) | (refine And.intro (by first | exact rfl | exact trivial | exact fresh_of (by with_unfolding_all exact rfl) | exact List.cons_ne_nil _ _ | exact leaf_of rfl | exact unb_sub _ _ _ | exact Nat.le_of_ble_eq_true rfl | exact notMem_of (by with_unfolding_all exact rfl) | omega | (rw [unb_map]) | exact byte_lt _ | (simp only [List.length_set, List.length_replicate, List.length_map, List.length_append, List.length_drop, List.length_take, List.length_cons, List.length_nil, Int.toNat_natCast]; omega) | (simp only [List.length_set, List.length_replicate, List.length_map, List.length_append, List.length_drop, List.length_take, List.length_cons, List.length_nil, Int.toNat_natCast] at *; omega)) ?_) | (refine Exists.intro _ (And.intro rfl ?_))); (conv => whnf)))
    refine call_tri [] (checkRefs_spec _ _) trivial (fun s hs => ?_)
    subst hs
    ((conv => whnf); repeat' ((first | (intro hq; (try simp only [List.length_set, List.length_replicate, List.length_map, List.length_append, List.length_drop, List.length_take, List.length_cons, List.length_nil] at hq); (try rewrite [List.length_map])) | (refine And.intro (by first | exact rfl | exact trivial | exact fresh_of (by with_unfolding_all exact rfl) | exact List.cons_ne_nil _ _ | exact leaf_of rfl | exact unb_sub _ _ _ | exact Nat.le_of_ble_eq_true rfl | exact notMem_of (by with_unfolding_all exact rfl) | omega | (rw [unb_map]) | exact byte_lt _ | (simp only [List.length_set, List.length_replicate, List.length_map, List.length_append, List.length_drop, List.length_take, List.length_cons, List.length_nil, Int.toNat_natCast]; omega) | (simp only [List.length_set, List.length_replicate, List.length_map, List.length_append, List.length_drop, List.length_take, List.length_cons, List.length_nil, Int.toNat_natCast] at *; omega) | (show eqOK _ _ = true; kernel_rfl) | (rw [List.length_append]; exact rfl) | (simp only [List.length_map, List.length_append]; exact rfl)) ?_) | (refine Exists.intro _ (And.intro rfl ?_)) | (refine Exists.intro (show (_ : Nat) < List.length _ from by first | omega | (simp only [List.length_cons, List.length_nil]; omega) | simp) ?_) | (refine call_tri [] (checkRefs_spec _ _) trivial (fun s hs => ?_); subst hs) | (refine draw_rule hty (by kernel_rfl) (by kernel_rfl) ?_) | (refine brB_dec (fun hb => ?_) (fun hb => ?_) <;> (first | contradiction | ((try simp only [List.length_set, List.length_replicate, List.length_map, List.length_append, List.length_drop, List.length_take, List.length_cons, List.length_nil] at hb); (first | (exfalso; omega) | skip)))) | (refine brB_ndec (fun hb => ?_) (fun hb => ?_) <;> (first | contradiction | ((try simp only [List.length_set, List.length_replicate, List.length_map, List.length_append, List.length_drop, List.length_take, List.length_cons, List.length_nil] at hb); (first | (exfalso; omega) | skip)))) | (refine brB_split (fun hb => ?_) (fun hb => ?_) <;> (first | contradiction | exact absurd (hb.symm.trans (by assumption) : false = true) (by decide) | exact absurd (hb.symm.trans (by assumption) : true = false) (by decide) | skip))) <;> (conv => whnf)))
    · rw [if_pos hb] at hC; rw [hC, List.length_map]; rfl
    · have h2 : refsF h.commits.length none h.branches = 0 := by assumption
      rw [if_neg (by simpa using h2), if_pos hb] at hC; rw [hC]; rfl
    · have h2 : refsF h.commits.length none h.branches = 0 := by assumption
      rw [if_neg (by simpa using h2), if_neg (by simpa using hb)] at hC
      have hs := (refs_sorted _ _ _ hb).1
      refine loop_rule hty (fun k : Nat => ([(1, .ptr 1 0), (67, .d (rsv h.branches)), (68, .d (.int .i64 h.branches.length)), (69, .d (.int .i64 k))], [(1, .cells 25 [.d (csv h.commits), .d (rsv h.branches), .d (rsv h.tags)])])) (fun k => k ≤ h.branches.length ∧ (h.branches.take k).any (fun b => foundF h.tags b.name) = false) (fun k => h.branches.length - k) 0 ⟨by simp, by simp⟩ ⟨by repeat' (first | exact trivial | exact rfl | (rw [List.length_map]; exact rfl) | refine And.intro ?_ ?_), by repeat' (first | exact trivial | exact rfl | refine And.intro ?_ ?_)⟩ ?_
      rintro k ⟨hk, hk2⟩
      ((conv => whnf); repeat' ((first | (intro hq; (try simp only [List.length_set, List.length_replicate, List.length_map, List.length_append, List.length_drop, List.length_take, List.length_cons, List.length_nil] at hq); (try rewrite [List.length_map])) | (refine And.intro (by first | exact rfl | exact trivial | exact fresh_of (by with_unfolding_all exact rfl) | exact List.cons_ne_nil _ _ | exact leaf_of rfl | exact unb_sub _ _ _ | exact Nat.le_of_ble_eq_true rfl | exact notMem_of (by with_unfolding_all exact rfl) | omega | (rw [unb_map]) | exact byte_lt _ | (simp only [List.length_set, List.length_replicate, List.length_map, List.length_append, List.length_drop, List.length_take, List.length_cons, List.length_nil, Int.toNat_natCast]; omega) | (simp only [List.length_set, List.length_replicate, List.length_map, List.length_append, List.length_drop, List.length_take, List.length_cons, List.length_nil, Int.toNat_natCast] at *; omega) | (show eqOK _ _ = true; kernel_rfl) | (rw [List.length_append]; exact rfl) | (simp only [List.length_map, List.length_append]; exact rfl)) ?_) | (refine Exists.intro _ (And.intro rfl ?_)) | (refine Exists.intro (show (_ : Nat) < List.length _ from by first | omega | (simp only [List.length_cons, List.length_nil]; omega) | simp) ?_) | (refine ⟨_, row_at (by first | omega | (simp only [List.length_map]; omega)), ?_⟩) | (refine call_tri [] (locate_spec _ _ hs (by omega)) trivial (fun s hs => ?_); subst hs) | (refine draw_rule hty (by kernel_rfl) (by kernel_rfl) ?_) | (refine brB_dec (fun hb => ?_) (fun hb => ?_) <;> (first | contradiction | ((try simp only [List.length_set, List.length_replicate, List.length_map, List.length_append, List.length_drop, List.length_take, List.length_cons, List.length_nil] at hb); (first | (exfalso; omega) | skip)))) | (refine brB_ndec (fun hb => ?_) (fun hb => ?_) <;> (first | contradiction | ((try simp only [List.length_set, List.length_replicate, List.length_map, List.length_append, List.length_drop, List.length_take, List.length_cons, List.length_nil] at hb); (first | (exfalso; omega) | skip)))) | (refine brB_split (fun hb => ?_) (fun hb => ?_) <;> (first | contradiction | exact absurd (hb.symm.trans (by assumption) : false = true) (by decide) | exact absurd (hb.symm.trans (by assumption) : true = false) (by decide) | skip))) <;> (conv => whnf)))
      · have hkl : k < h.branches.length := by omega
        have e : dupF h = true := any_stop (k := k) hkl hb
        rw [hC, if_pos e]; rfl
      · have hkl : k < h.branches.length := by omega
        exact ⟨k + 1, ⟨by omega, any_step hkl hk2 hb⟩, by dsimp only; omega, ⟨by repeat' (first | exact trivial | exact rfl | refine And.intro ?_ ?_), by repeat' (first | exact trivial | exact rfl | refine And.intro ?_ ?_)⟩⟩
      · rw [List.take_of_length_le (by omega)] at hk2
        have e : ¬ dupF h = true := by rw [dupF, hk2]; decide
        rw [hC, if_neg e]; rfl
end Go.Proofs.Ytljlhoekpjkgoaa
