/-
  History: lists of labels; the search for a label: the walks.
  Conditions: none.
-/
import Derived.Test.YtljlhoekpjkgoaaH1
import Derived.Test.YtljlhoekpjkgoaaG3
namespace Go.Proofs.Ytljlhoekpjkgoaa
open Go.Proofs
set_option linter.unusedSimpArgs false
set_option maxRecDepth 10000
attribute [local irreducible] SemVC CallVC Tri Stuck

structure Rf where
  name : List UInt8
  no : Int
  deriving DecidableEq, Repr

def refR (r : Rf) : List D := [.str r.name, .int .i64 r.no]
def rsv (l : List Rf) : D := .sl 2 (l.map refR)

def prevF (l : List Rf) (k : Nat) : Option (List UInt8) := match k with | 0 => none | k + 1 => (l[k]?).map (·.name)

def badPrev (p : Option (List UInt8)) (a : List UInt8) : Bool := match p with | some q => decide (cmpB a q ≤ 0) | none => false

def refsF (n : Int) : Option (List UInt8) → List Rf → Int
  | _, [] => 0
  | p, r :: t => if labelF r.name = false then 20 else if r.no < 1 ∨ n < r.no then 290 else if badPrev p r.name = true then 291 else refsF n (some r.name) t

theorem refsF_step {n : Int} {l : List Rf} {k : Nat} (h : k < l.length) : refsF n (prevF l k) (l.drop k) = if labelF l[k].name = false then 20 else if l[k].no < 1 ∨ n < l[k].no then 290 else if badPrev (prevF l k) l[k].name = true then 291 else refsF n (prevF l (k + 1)) (l.drop (k + 1)) := by
  have e : prevF l (k + 1) = some l[k].name := by simp only [prevF, List.getElem?_eq_getElem h, Option.map_some]
  generalize prevF l k = p
  rw [List.drop_eq_getElem_cons h, e]
  simp only [refsF]

theorem leq_iff (a b : List UInt8) : (Op.bytesLess a b || decide (a = b)) = decide (cmpB a b ≤ 0) := by
  rw [bytesLess_eq, Bool.eq_iff_iff]
  simp only [Bool.or_eq_true, decide_eq_true_eq]
  have h0 := cmpB_zero a b
  constructor
  · rintro (h | h)
    · omega
    · rw [h0.2 h]; omega
  · intro h
    by_cases e : cmpB a b = 0
    · exact .inr (h0.1 e)
    · left; omega

theorem checkRefs_spec (l : List Rf) (n : Int) : Tri Try.prog 38 [.d (rsv l), .d (.int .i64 n)] [] (fun r => r = .d (.int .i64 (refsF n none l))) := by
  refine tri_of_body hty Try.func38 rfl (kp [0, 1, 4, 5, 6, 7, 8, 9, 10, 17, 26, 39]) [] _ _ _ (by simp [Try.f38]) (by simp) ?_
  ((conv => whnf); repeat ((first | (intro hq; try simp only [List.length_set, List.length_replicate, List.length_map, List.length_append, List.length_drop, List.length_take, List.length_cons, List.length_nil] at hq) | (refine And.intro (by first | exact rfl | exact trivial | exact fresh_of (by with_unfolding_all exact rfl) | exact List.cons_ne_nil _ _ | exact leaf_of rfl | exact unb_sub _ _ _ | exact Nat.le_of_ble_eq_true rfl | exact notMem_of (by with_unfolding_all exact rfl) | omega | (rw [unb_map]) | exact byte_lt _ | (simp only [List.length_set, List.length_replicate, List.length_map, List.length_append, List.length_drop, List.length_take, List.length_cons, List.length_nil, Int.toNat_natCast]; omega) | (simp only [List.length_set, List.length_replicate, List.length_map, List.length_append, List.length_drop, List.length_take, List.length_cons, List.length_nil, Int.toNat_natCast] at *; omega)) ?_) | (refine Exists.intro _ (And.intro rfl ?_))); (conv => whnf)))
  refine loop_rule hty (fun k : Nat => ([(0, .d (rsv l)), (1, .d (.int .i64 n)), (7, .d (rsv l)), (8, .d (.int .i64 l.length)), (9, .d (.int .i64 k))], [])) (fun k => k ≤ l.length ∧ refsF n none l = refsF n (prevF l k) (l.drop k)) (fun k => l.length - k) 0 ⟨by simp, rfl⟩ ⟨by repeat' (first | exact trivial | exact rfl | (rw [List.length_map]; exact rfl) | refine And.intro ?_ ?_), trivial⟩ ?_
  rintro k ⟨hk, hk2⟩
  ((conv => whnf); repeat ((first | (intro hq; try simp only [List.length_set, List.length_replicate, List.length_map, List.length_append, List.length_drop, List.length_take, List.length_cons, List.length_nil] at hq) | (refine And.intro (by first | exact rfl | exact trivial | exact fresh_of (by with_unfolding_all exact rfl) | exact List.cons_ne_nil _ _ | exact leaf_of rfl | exact unb_sub _ _ _ | exact Nat.le_of_ble_eq_true rfl | exact notMem_of (by with_unfolding_all exact rfl) | omega | (rw [unb_map]) | exact byte_lt _ | (simp only [List.length_set, List.length_replicate, List.length_map, List.length_append, List.length_drop, List.length_take, List.length_cons, List.length_nil, Int.toNat_natCast]; omega) | (simp only [List.length_set, List.length_replicate, List.length_map, List.length_append, List.length_drop, List.length_take, List.length_cons, List.length_nil, Int.toNat_natCast] at *; omega)) ?_) | (refine Exists.intro _ (And.intro rfl ?_))); (conv => whnf)))
  refine brB_dec (fun h1 => ?_) (fun h1 => ?_)
  · have hkl : (k : Int).toNat < l.length := by omega
    have hst := refsF_step (n := n) (l := l) (k := k) hkl
    rw [← hk2] at hst
    have hprev : ∀ h0 : 0 < k, badPrev (prevF l k) (l[k]'hkl).name = decide (cmpB (l[(k : Int).toNat]'hkl).name (l[((k : Int) - 1).toNat]'(by omega)).name ≤ 0) := by
      intro h0
      obtain ⟨j, rfl⟩ : ∃ j, k = j + 1 := ⟨k - 1, by omega⟩
      have e : ((((j + 1 : Nat) : Int) - 1)).toNat = j := by omega
      simp only [prevF, badPrev, e, List.getElem?_eq_getElem (show j < l.length by have : ((j + 1 : Nat) : Int).toNat = j + 1 := rfl; omega), Option.map_some]
      rfl
    ((conv => whnf); repeat' ((first | (intro hq; (try simp only [List.length_set, List.length_replicate, List.length_map, List.length_append, List.length_drop, List.length_take, List.length_cons, List.length_nil] at hq); (try rewrite [List.length_map])) | (refine And.intro (by first | exact rfl | exact trivial | exact fresh_of (by with_unfolding_all exact rfl) | exact List.cons_ne_nil _ _ | exact leaf_of rfl | exact unb_sub _ _ _ | exact Nat.le_of_ble_eq_true rfl | exact notMem_of (by with_unfolding_all exact rfl) | omega | (rw [unb_map]) | exact byte_lt _ | (simp only [List.length_set, List.length_replicate, List.length_map, List.length_append, List.length_drop, List.length_take, List.length_cons, List.length_nil, Int.toNat_natCast]; omega) | (simp only [List.length_set, List.length_replicate, List.length_map, List.length_append, List.length_drop, List.length_take, List.length_cons, List.length_nil, Int.toNat_natCast] at *; omega) | (show eqOK _ _ = true; kernel_rfl) | (rw [List.length_append]; exact rfl) | (simp only [List.length_map, List.length_append]; exact rfl)) ?_) | (refine Exists.intro _ (And.intro rfl ?_)) | (refine Exists.intro (show (_ : Nat) < List.length _ from by first | omega | (simp only [List.length_cons, List.length_nil]; omega) | simp) ?_) | (refine ⟨_, row_at (by first | omega | (simp only [List.length_map]; omega)), ?_⟩) | (refine call_tri [] (isLabel_spec _) trivial (fun s hs => ?_); subst hs) | (refine draw_rule hty (by kernel_rfl) (by kernel_rfl) ?_) | (refine brB_dec (fun hb => ?_) (fun hb => ?_) <;> (first | contradiction | ((try simp only [List.length_set, List.length_replicate, List.length_map, List.length_append, List.length_drop, List.length_take, List.length_cons, List.length_nil] at hb); (first | (exfalso; omega) | skip)))) | (refine brB_ndec (fun hb => ?_) (fun hb => ?_) <;> (first | contradiction | ((try simp only [List.length_set, List.length_replicate, List.length_map, List.length_append, List.length_drop, List.length_take, List.length_cons, List.length_nil] at hb); (first | (exfalso; omega) | skip)))) | (refine brB_split (fun hb => ?_) (fun hb => ?_) <;> (first | contradiction | exact absurd (hb.symm.trans (by assumption) : false = true) (by decide) | exact absurd (hb.symm.trans (by assumption) : true = false) (by decide) | skip))) <;> (conv => whnf)))
    · have h9 : labelF l[k].name = false := by simpa using hb
      rw [hst, if_pos h9]; rfl
    · rename_i h8 
      have h9 : ¬ labelF l[k].name = false := by simpa using h8
      rw [hst, if_neg h9, if_pos (.inl hb)]; rfl
    · rename_i h8 h7
      have h9 : ¬ labelF l[k].name = false := by simpa using h8
      rw [hst, if_neg h9, if_pos (.inr hb)]; rfl
    · rename_i h8 h7 h6 h0
      have h9 : ¬ labelF l[k].name = false := by simpa using h8
      rw [leq_iff, ← hprev (by omega)] at hb
      rw [hst, if_neg h9, if_neg (fun h => h.elim h7 h6), if_pos hb]; rfl
    · rename_i h8 h7 h6 h0
      have h9 : ¬ labelF l[k].name = false := by simpa using h8
      rw [leq_iff, ← hprev (by omega)] at hb
      rw [if_neg h9, if_neg (fun h => h.elim h7 h6), if_neg (by rw [hb]; decide)] at hst
      exact ⟨k + 1, ⟨by omega, hst⟩, by dsimp only; omega, ⟨by repeat' (first | exact trivial | exact rfl | refine And.intro ?_ ?_), by repeat' (first | exact trivial | exact rfl | refine And.intro ?_ ?_)⟩⟩
    · rename_i h8 h7 h6
      have h9 : ¬ labelF l[k].name = false := by simpa using h8
      obtain rfl : k = 0 := by omega
      rw [if_neg h9, if_neg (fun h => h.elim h7 h6), if_neg (by simp [prevF, badPrev])] at hst
      exact ⟨0 + 1, ⟨by omega, hst⟩, by dsimp only; omega, ⟨by repeat' (first | exact trivial | exact rfl | refine And.intro ?_ ?_), by repeat' (first | exact trivial | exact rfl | refine And.intro ?_ ?_)⟩⟩
  · ((conv => whnf); repeat ((first | (intro hq; try simp only [List.length_set, List.length_replicate, List.length_map, List.length_append, List.length_drop, List.length_take, List.length_cons, List.length_nil] at hq) | (refine And.intro (by first | exact rfl | exact trivial | exact fresh_of (by with_unfolding_all exact rfl) | exact List.cons_ne_nil _ _ | exact leaf_of rfl | exact unb_sub _ _ _ | exact Nat.le_of_ble_eq_true rfl | exact notMem_of (by with_unfolding_all exact rfl) | omega | (rw [unb_map]) | exact byte_lt _ | (simp only [List.length_set, List.length_replicate, List.length_map, List.length_append, List.length_drop, List.length_take, List.length_cons, List.length_nil, Int.toNat_natCast]; omega) | (simp only [List.length_set, List.length_replicate, List.length_map, List.length_append, List.length_drop, List.length_take, List.length_cons, List.length_nil, Int.toNat_natCast] at *; omega)) ?_) | (refine Exists.intro _ (And.intro rfl ?_))); (conv => whnf)))
    obtain rfl : k = l.length := by omega
    rw [hk2, List.drop_eq_nil_of_le (by omega)]; rfl

/-! ### the search -/

def cntF (l : List Rf) (t : List UInt8) : Nat := (l.takeWhile fun r => decide (cmpB r.name t < 0)).length
def foundF (l : List Rf) (t : List UInt8) : Bool := match l[cntF l t]? with | some r => decide (cmpB r.name t = 0) | none => false
def Sorted (l : List Rf) : Prop := l.Pairwise fun a b => cmpB a.name b.name < 0

theorem cntF_le (l : List Rf) (t : List UInt8) : cntF l t ≤ l.length := (List.takeWhile_prefix _).length_le

theorem cntF_iff : ∀ {l : List Rf} (_ : Sorted l) (t : List UInt8) (i : Nat) (h : i < l.length), cmpB l[i].name t < 0 ↔ i < cntF l t
  | [], _, _, i, h => absurd h (by simp)
  | r :: l, hs, t, i, h => by
    obtain ⟨h1, h2⟩ := List.pairwise_cons.1 hs
    unfold cntF
    by_cases hr : cmpB r.name t < 0
    · rw [List.takeWhile_cons_of_pos (by simpa using hr), List.length_cons]
      cases i with
      | zero => simp [hr]
      | succ i =>
        have := cntF_iff h2 t i (by simpa using h)
        unfold cntF at this
        simp only [List.getElem_cons_succ]
        rw [this]; omega
    · rw [List.takeWhile_cons_of_neg (by simpa using hr)]
      simp only [List.length_nil, Nat.not_lt_zero, iff_false]
      cases i with
      | zero => exact hr
      | succ i =>
        simp only [List.getElem_cons_succ]
        intro hc
        exact hr (cmpB_trans _ _ _ (h1 _ (List.getElem_mem _)) hc)

theorem name_spec (r : Rf) : Tri Try.prog 32 [.d (.agg (refR r))] [] (fun s => s = .d (.str r.name)) := by
  refine tri_of_body hty Try.func32 rfl (kp [0, 1, 2]) [] _ _ _ (by simp [Try.f32]) (by simp) ?_
  ((conv => whnf); repeat' ((first | (intro hq; (try simp only [List.length_set, List.length_replicate, List.length_map, List.length_append, List.length_drop, List.length_take, List.length_cons, List.length_nil] at hq); (try rewrite [List.length_map])) | (refine And.intro (by first | exact rfl | exact trivial | exact fresh_of (by with_unfolding_all exact rfl) | exact List.cons_ne_nil _ _ | exact leaf_of rfl | exact unb_sub _ _ _ | exact Nat.le_of_ble_eq_true rfl | exact notMem_of (by with_unfolding_all exact rfl) | omega | (rw [unb_map]) | exact byte_lt _ | (simp only [List.length_set, List.length_replicate, List.length_map, List.length_append, List.length_drop, List.length_take, List.length_cons, List.length_nil, Int.toNat_natCast]; omega) | (simp only [List.length_set, List.length_replicate, List.length_map, List.length_append, List.length_drop, List.length_take, List.length_cons, List.length_nil, Int.toNat_natCast] at *; omega) | (show eqOK _ _ = true; kernel_rfl) | (rw [List.length_append]; exact rfl) | (simp only [List.length_map, List.length_append]; exact rfl)) ?_) | (refine Exists.intro _ (And.intro rfl ?_)) | (refine Exists.intro (show (_ : Nat) < List.length _ from by first | omega | (simp only [List.length_cons, List.length_nil]; omega) | simp) ?_) | fail | (refine draw_rule hty (by kernel_rfl) (by kernel_rfl) ?_) | (refine brB_dec (fun hb => ?_) (fun hb => ?_) <;> (first | contradiction | ((try simp only [List.length_set, List.length_replicate, List.length_map, List.length_append, List.length_drop, List.length_take, List.length_cons, List.length_nil] at hb); (first | (exfalso; omega) | skip)))) | (refine brB_ndec (fun hb => ?_) (fun hb => ?_) <;> (first | contradiction | ((try simp only [List.length_set, List.length_replicate, List.length_map, List.length_append, List.length_drop, List.length_take, List.length_cons, List.length_nil] at hb); (first | (exfalso; omega) | skip)))) | (refine brB_split (fun hb => ?_) (fun hb => ?_) <;> (first | contradiction | exact absurd (hb.symm.trans (by assumption) : false = true) (by decide) | exact absurd (hb.symm.trans (by assumption) : true = false) (by decide) | skip))) <;> (conv => whnf)))
  rfl

abbrev nameH : Hp := [(5, .cells 64 [.fn 32 [] []])]
abbrev cmpFn : SV := .fn 52 [] [.ptr 5 0]

theorem locate1_spec (r : Rf) (t : List UInt8) : Tri Try.prog 52 [.d (.agg (refR r)), .d (.str t), .ptr 5 0] nameH (fun s => s = .d (.int .i64 (cmpB r.name t))) := by
  refine tri_of_body hty Try.func52 rfl (kp [0, 1, 2, 3, 5]) [] _ _ _ (by simp [Try.f52]) (by simp) ?_
  ((conv => whnf); repeat' ((first | (intro hq; (try simp only [List.length_set, List.length_replicate, List.length_map, List.length_append, List.length_drop, List.length_take, List.length_cons, List.length_nil] at hq); (try rewrite [List.length_map])) | (refine And.intro (by first | exact rfl | exact trivial | exact fresh_of (by with_unfolding_all exact rfl) | exact List.cons_ne_nil _ _ | exact leaf_of rfl | exact unb_sub _ _ _ | exact Nat.le_of_ble_eq_true rfl | exact notMem_of (by with_unfolding_all exact rfl) | omega | (rw [unb_map]) | exact byte_lt _ | (simp only [List.length_set, List.length_replicate, List.length_map, List.length_append, List.length_drop, List.length_take, List.length_cons, List.length_nil, Int.toNat_natCast]; omega) | (simp only [List.length_set, List.length_replicate, List.length_map, List.length_append, List.length_drop, List.length_take, List.length_cons, List.length_nil, Int.toNat_natCast] at *; omega) | (show eqOK _ _ = true; kernel_rfl) | (rw [List.length_append]; exact rfl) | (simp only [List.length_map, List.length_append]; exact rfl)) ?_) | (refine Exists.intro _ (And.intro rfl ?_)) | (refine Exists.intro (show (_ : Nat) < List.length _ from by first | omega | (simp only [List.length_cons, List.length_nil]; omega) | simp) ?_) | (refine call_tri [] (name_spec r) trivial (fun s hs => ?_); subst hs) | (refine call_tri [] (strCompare_spec _ _) trivial (fun s hs => ?_); subst hs) | (refine draw_rule hty (by kernel_rfl) (by kernel_rfl) ?_) | (refine brB_dec (fun hb => ?_) (fun hb => ?_) <;> (first | contradiction | ((try simp only [List.length_set, List.length_replicate, List.length_map, List.length_append, List.length_drop, List.length_take, List.length_cons, List.length_nil] at hb); (first | (exfalso; omega) | skip)))) | (refine brB_ndec (fun hb => ?_) (fun hb => ?_) <;> (first | contradiction | ((try simp only [List.length_set, List.length_replicate, List.length_map, List.length_append, List.length_drop, List.length_take, List.length_cons, List.length_nil] at hb); (first | (exfalso; omega) | skip)))) | (refine brB_split (fun hb => ?_) (fun hb => ?_) <;> (first | contradiction | exact absurd (hb.symm.trans (by assumption) : false = true) (by decide) | exact absurd (hb.symm.trans (by assumption) : true = false) (by decide) | skip))) <;> (conv => whnf)))
  rfl

theorem half (i j : Nat) : Int.fdiv (IntKind.u64.wrap ((i : Int) + (j : Int))) (2 ^ min (Int.toNat 1) IntKind.u64.bits) = ((i + j) / 2 : Nat) ∨ 18446744073709551616 ≤ i + j := by
  by_cases h : i + j < 18446744073709551616
  · left
    have e : IntKind.u64.wrap ((i : Int) + (j : Int)) = ((i + j : Nat) : Int) := by
      rw [IntKind.wrap_u64]; omega
    rw [e]
    show Int.fdiv ((i + j : Nat) : Int) 2 = _
    rw [Int.fdiv_eq_ediv_of_nonneg _ (by omega)]
    omega
  · right; omega

theorem search_spec (l : List Rf) (t : List UInt8) (hs : Sorted l) (hl : l.length ≤ 4611686018427387904) : Tri Try.prog 51 [.d (rsv l), .d (.str t), cmpFn] nameH (fun s => s = .tup [.d (.int .i64 (cntF l t)), .d (.bool (foundF l t))]) := by
  refine tri_of_body hty Try.func51 rfl (kp [0, 1, 2, 6, 7, 8, 9, 10, 11, 17, 31]) [] _ _ _ (by simp [Try.f51]) (by simp) ?_
  ((conv => whnf); repeat ((first | (intro hq; try simp only [List.length_set, List.length_replicate, List.length_map, List.length_append, List.length_drop, List.length_take, List.length_cons, List.length_nil] at hq) | (refine And.intro (by first | exact rfl | exact trivial | exact fresh_of (by with_unfolding_all exact rfl) | exact List.cons_ne_nil _ _ | exact leaf_of rfl | exact unb_sub _ _ _ | exact Nat.le_of_ble_eq_true rfl | exact notMem_of (by with_unfolding_all exact rfl) | omega | (rw [unb_map]) | exact byte_lt _ | (simp only [List.length_set, List.length_replicate, List.length_map, List.length_append, List.length_drop, List.length_take, List.length_cons, List.length_nil, Int.toNat_natCast]; omega) | (simp only [List.length_set, List.length_replicate, List.length_map, List.length_append, List.length_drop, List.length_take, List.length_cons, List.length_nil, Int.toNat_natCast] at *; omega)) ?_) | (refine Exists.intro _ (And.intro rfl ?_))); (conv => whnf)))
  refine loop_rule hty (fun y : Nat × Nat => ([(0, .d (rsv l)), (1, .d (.str t)), (2, cmpFn), (8, .d (.int .i64 l.length)), (9, .d (.int .i64 y.1)), (10, .d (.int .i64 y.2))], [(5, .ro 64 [.fn 32 [] []])])) (fun y => y.1 ≤ cntF l t ∧ cntF l t ≤ y.2 ∧ y.2 ≤ l.length) (fun y => y.2 - y.1) (0, l.length) ⟨by simp, cntF_le l t, by simp⟩ ⟨by repeat' (first | exact trivial | exact rfl | (rw [List.length_map]; exact rfl) | refine And.intro ?_ ?_), by repeat' (first | exact trivial | exact rfl | refine And.intro ?_ ?_)⟩ ?_
  rintro ⟨i, j⟩ ⟨h1, h2, h3⟩
  dsimp only at h1 h2 h3 ⊢
  have hh := (half i j).resolve_right (by omega)
  have hh2 : IntKind.i64.wrap (Int.fdiv (IntKind.u64.wrap ((i : Int) + (j : Int))) (2 ^ min (Int.toNat 1) IntKind.u64.bits)) = (((i + j) / 2 : Nat) : Int) := by
    rw [hh, IntKind.wrap_i64]; omega
  ((conv => whnf); repeat ((first | (intro hq; try simp only [List.length_set, List.length_replicate, List.length_map, List.length_append, List.length_drop, List.length_take, List.length_cons, List.length_nil] at hq) | (refine And.intro (by first | exact rfl | exact trivial | exact fresh_of (by with_unfolding_all exact rfl) | exact List.cons_ne_nil _ _ | exact leaf_of rfl | exact unb_sub _ _ _ | exact Nat.le_of_ble_eq_true rfl | exact notMem_of (by with_unfolding_all exact rfl) | omega | (rw [unb_map]) | exact byte_lt _ | (simp only [List.length_set, List.length_replicate, List.length_map, List.length_append, List.length_drop, List.length_take, List.length_cons, List.length_nil, Int.toNat_natCast]; omega) | (simp only [List.length_set, List.length_replicate, List.length_map, List.length_append, List.length_drop, List.length_take, List.length_cons, List.length_nil, Int.toNat_natCast] at *; omega)) ?_) | (refine Exists.intro _ (And.intro rfl ?_))); (conv => whnf)))
  refine brB_dec (fun hij => ?_) (fun hij => ?_)
  · obtain ⟨m, hm⟩ : ∃ m, m = (i + j) / 2 := ⟨_, rfl⟩
    have hm1 : i ≤ m ∧ m < j := by omega
    have hmi := cntF_iff hs t m (by omega)
    ((conv => whnf); repeat ((first | (intro hq; try simp only [List.length_set, List.length_replicate, List.length_map, List.length_append, List.length_drop, List.length_take, List.length_cons, List.length_nil] at hq) | (refine And.intro (by first | exact rfl | exact trivial | exact fresh_of (by with_unfolding_all exact rfl) | exact List.cons_ne_nil _ _ | exact leaf_of rfl | exact unb_sub _ _ _ | exact Nat.le_of_ble_eq_true rfl | exact notMem_of (by with_unfolding_all exact rfl) | omega | (rw [unb_map]) | exact byte_lt _ | (simp only [List.length_set, List.length_replicate, List.length_map, List.length_append, List.length_drop, List.length_take, List.length_cons, List.length_nil, Int.toNat_natCast]; omega) | (simp only [List.length_set, List.length_replicate, List.length_map, List.length_append, List.length_drop, List.length_take, List.length_cons, List.length_nil, Int.toNat_natCast] at *; omega)) ?_) | (refine Exists.intro _ (And.intro rfl ?_))); (conv => whnf)))
    rw [hh2, ← hm]
    ((conv => whnf); repeat ((first | (intro hq; try simp only [List.length_set, List.length_replicate, List.length_map, List.length_append, List.length_drop, List.length_take, List.length_cons, List.length_nil] at hq) | (refine And.intro (by first | exact rfl | exact trivial | exact fresh_of (by with_unfolding_all exact rfl) | exact List.cons_ne_nil _ _ | exact leaf_of rfl | exact unb_sub _ _ _ | exact Nat.le_of_ble_eq_true rfl | exact notMem_of (by with_unfolding_all exact rfl) | omega | (rw [unb_map]) | exact byte_lt _ | (simp only [List.length_set, List.length_replicate, List.length_map, List.length_append, List.length_drop, List.length_take, List.length_cons, List.length_nil, Int.toNat_natCast]; omega) | (simp only [List.length_set, List.length_replicate, List.length_map, List.length_append, List.length_drop, List.length_take, List.length_cons, List.length_nil, Int.toNat_natCast] at *; omega)) ?_) | (refine Exists.intro _ (And.intro rfl ?_))); (conv => whnf)))
    (refine ⟨_, row_at (by first | omega | (simp only [List.length_map]; omega)), ?_⟩)
    ((conv => whnf); repeat ((first | (intro hq; try simp only [List.length_set, List.length_replicate, List.length_map, List.length_append, List.length_drop, List.length_take, List.length_cons, List.length_nil] at hq) | (refine And.intro (by first | exact rfl | exact trivial | exact fresh_of (by with_unfolding_all exact rfl) | exact List.cons_ne_nil _ _ | exact leaf_of rfl | exact unb_sub _ _ _ | exact Nat.le_of_ble_eq_true rfl | exact notMem_of (by with_unfolding_all exact rfl) | omega | (rw [unb_map]) | exact byte_lt _ | (simp only [List.length_set, List.length_replicate, List.length_map, List.length_append, List.length_drop, List.length_take, List.length_cons, List.length_nil, Int.toNat_natCast]; omega) | (simp only [List.length_set, List.length_replicate, List.length_map, List.length_append, List.length_drop, List.length_take, List.length_cons, List.length_nil, Int.toNat_natCast] at *; omega)) ?_) | (refine Exists.intro _ (And.intro rfl ?_))); (conv => whnf)))
    refine call_tri [(5, .ro 64 [.fn 32 [] []])] (Tri.ro1 (locate1_spec _ t)) ⟨rfl, trivial⟩ (fun s hs => ?_)
    subst hs
    ((conv => whnf); repeat' ((first | (intro hq; (try simp only [List.length_set, List.length_replicate, List.length_map, List.length_append, List.length_drop, List.length_take, List.length_cons, List.length_nil] at hq); (try rewrite [List.length_map])) | (refine And.intro (by first | exact rfl | exact trivial | exact fresh_of (by with_unfolding_all exact rfl) | exact List.cons_ne_nil _ _ | exact leaf_of rfl | exact unb_sub _ _ _ | exact Nat.le_of_ble_eq_true rfl | exact notMem_of (by with_unfolding_all exact rfl) | omega | (rw [unb_map]) | exact byte_lt _ | (simp only [List.length_set, List.length_replicate, List.length_map, List.length_append, List.length_drop, List.length_take, List.length_cons, List.length_nil, Int.toNat_natCast]; omega) | (simp only [List.length_set, List.length_replicate, List.length_map, List.length_append, List.length_drop, List.length_take, List.length_cons, List.length_nil, Int.toNat_natCast] at *; omega) | (show eqOK _ _ = true; kernel_rfl) | (rw [List.length_append]; exact rfl) | (simp only [List.length_map, List.length_append]; exact rfl)) ?_) | (refine Exists.intro _ (And.intro rfl ?_)) | (refine Exists.intro (show (_ : Nat) < List.length _ from by first | omega | (simp only [List.length_cons, List.length_nil]; omega) | simp) ?_) | fail | (refine draw_rule hty (by kernel_rfl) (by kernel_rfl) ?_) | (refine brB_dec (fun hb => ?_) (fun hb => ?_) <;> (first | contradiction | ((try simp only [List.length_set, List.length_replicate, List.length_map, List.length_append, List.length_drop, List.length_take, List.length_cons, List.length_nil] at hb); (first | (exfalso; omega) | skip)))) | (refine brB_ndec (fun hb => ?_) (fun hb => ?_) <;> (first | contradiction | ((try simp only [List.length_set, List.length_replicate, List.length_map, List.length_append, List.length_drop, List.length_take, List.length_cons, List.length_nil] at hb); (first | (exfalso; omega) | skip)))) | (refine brB_split (fun hb => ?_) (fun hb => ?_) <;> (first | contradiction | exact absurd (hb.symm.trans (by assumption) : false = true) (by decide) | exact absurd (hb.symm.trans (by assumption) : true = false) (by decide) | skip))) <;> (conv => whnf)))
    · have h9 : m < cntF l t := hmi.1 hb
      exact ⟨(m + 1, j), ⟨by dsimp only; omega, h2, h3⟩, by dsimp only; omega, ⟨by repeat' (first | exact trivial | exact rfl | refine And.intro ?_ ?_), by repeat' (first | exact trivial | exact rfl | refine And.intro ?_ ?_)⟩⟩
    · have h9 : ¬ m < cntF l t := fun h => hb (hmi.2 h)
      exact ⟨(i, m), ⟨h1, by dsimp only; omega, by dsimp only; omega⟩, by dsimp only; omega, ⟨by repeat' (first | exact trivial | exact rfl | refine And.intro ?_ ?_), by repeat' (first | exact trivial | exact rfl | refine And.intro ?_ ?_)⟩⟩
  · obtain rfl : i = j := by omega
    have hc : cntF l t = i := by omega
    ((conv => whnf); repeat' ((first | (intro hq; (try simp only [List.length_set, List.length_replicate, List.length_map, List.length_append, List.length_drop, List.length_take, List.length_cons, List.length_nil] at hq); (try rewrite [List.length_map])) | (refine And.intro (by first | exact rfl | exact trivial | exact fresh_of (by with_unfolding_all exact rfl) | exact List.cons_ne_nil _ _ | exact leaf_of rfl | exact unb_sub _ _ _ | exact Nat.le_of_ble_eq_true rfl | exact notMem_of (by with_unfolding_all exact rfl) | omega | (rw [unb_map]) | exact byte_lt _ | (simp only [List.length_set, List.length_replicate, List.length_map, List.length_append, List.length_drop, List.length_take, List.length_cons, List.length_nil, Int.toNat_natCast]; omega) | (simp only [List.length_set, List.length_replicate, List.length_map, List.length_append, List.length_drop, List.length_take, List.length_cons, List.length_nil, Int.toNat_natCast] at *; omega) | (show eqOK _ _ = true; kernel_rfl) | (rw [List.length_append]; exact rfl) | (simp only [List.length_map, List.length_append]; exact rfl)) ?_) | (refine Exists.intro _ (And.intro rfl ?_)) | (refine Exists.intro (show (_ : Nat) < List.length _ from by first | omega | (simp only [List.length_cons, List.length_nil]; omega) | simp) ?_) | (refine ⟨_, row_at (by first | omega | (simp only [List.length_map]; omega)), ?_⟩) | (refine call_tri [(5, .ro 64 [.fn 32 [] []])] (Tri.ro1 (locate1_spec _ t)) ⟨rfl, trivial⟩ (fun s hs => ?_); subst hs) | (refine draw_rule hty (by kernel_rfl) (by kernel_rfl) ?_) | (refine brB_dec (fun hb => ?_) (fun hb => ?_) <;> (first | contradiction | ((try simp only [List.length_set, List.length_replicate, List.length_map, List.length_append, List.length_drop, List.length_take, List.length_cons, List.length_nil] at hb); (first | (exfalso; omega) | skip)))) | (refine brB_ndec (fun hb => ?_) (fun hb => ?_) <;> (first | contradiction | ((try simp only [List.length_set, List.length_replicate, List.length_map, List.length_append, List.length_drop, List.length_take, List.length_cons, List.length_nil] at hb); (first | (exfalso; omega) | skip)))) | (refine brB_split (fun hb => ?_) (fun hb => ?_) <;> (first | contradiction | exact absurd (hb.symm.trans (by assumption) : false = true) (by decide) | exact absurd (hb.symm.trans (by assumption) : true = false) (by decide) | skip))) <;> (conv => whnf)))
    · rw [foundF, hc, List.getElem?_eq_getElem (by omega)]; rfl
    · rw [foundF, hc, List.getElem?_eq_none (by omega)]; rfl

theorem locate_spec (l : List Rf) (t : List UInt8) (hs : Sorted l) (hl : l.length ≤ 4611686018427387904) : Tri Try.prog 31 [.d (rsv l), .d (.str t), .fn 32 [] []] [] (fun s => s = .tup [.d (.int .i64 (cntF l t)), .d (.bool (foundF l t))]) := by
  refine tri_of_body hty Try.func31 rfl (kp [0, 1, 2, 5, 6, 7]) [] _ _ _ (by simp [Try.f31]) (by simp) ?_
  ((conv => whnf); repeat ((first | (intro hq; try simp only [List.length_set, List.length_replicate, List.length_map, List.length_append, List.length_drop, List.length_take, List.length_cons, List.length_nil] at hq) | (refine And.intro (by first | exact rfl | exact trivial | exact fresh_of (by with_unfolding_all exact rfl) | exact List.cons_ne_nil _ _ | exact leaf_of rfl | exact unb_sub _ _ _ | exact Nat.le_of_ble_eq_true rfl | exact notMem_of (by with_unfolding_all exact rfl) | omega | (rw [unb_map]) | exact byte_lt _ | (simp only [List.length_set, List.length_replicate, List.length_map, List.length_append, List.length_drop, List.length_take, List.length_cons, List.length_nil, Int.toNat_natCast]; omega) | (simp only [List.length_set, List.length_replicate, List.length_map, List.length_append, List.length_drop, List.length_take, List.length_cons, List.length_nil, Int.toNat_natCast] at *; omega)) ?_) | (refine Exists.intro _ (And.intro rfl ?_))); (conv => whnf)))
  refine call_tri nameH (search_spec l t hs hl) ⟨rfl, trivial⟩ (fun s hs => ?_)
  subst hs
  ((conv => whnf); repeat ((first | (intro hq; try simp only [List.length_set, List.length_replicate, List.length_map, List.length_append, List.length_drop, List.length_take, List.length_cons, List.length_nil] at hq) | (refine And.intro (by first | exact rfl | exact trivial | exact fresh_of (by with_unfolding_all exact rfl) | exact List.cons_ne_nil _ _ | exact leaf_of rfl | exact unb_sub _ _ _ | exact Nat.le_of_ble_eq_true rfl | exact notMem_of (by with_unfolding_all exact rfl) | omega | (rw [unb_map]) | exact byte_lt _ | (simp only [List.length_set, List.length_replicate, List.length_map, List.length_append, List.length_drop, List.length_take, List.length_cons, List.length_nil, Int.toNat_natCast]; omega) | (simp only [List.length_set, List.length_replicate, List.length_map, List.length_append, List.length_drop, List.length_take, List.length_cons, List.length_nil, Int.toNat_natCast] at *; omega)) ?_) | (refine Exists.intro _ (And.intro rfl ?_))); (conv => whnf)))
  rfl
end Go.Proofs.Ytljlhoekpjkgoaa
