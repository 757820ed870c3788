/-
  The walk through classes.
  Conditions: none.
-/
import Derived.Test.YtepebjhnefhciaaW2
namespace Go.Proofs.Ytepebjhnefhciaa
open Go.Proofs
set_option linter.unusedSimpArgs false
set_option maxRecDepth 10000
attribute [local irreducible] SemVC CallVC Tri Stuck

def bt (f : Nat → Int) : List SV := (List.range 256).map fun i => .d (.int .u8 (f i))
theorem bt_len (f : Nat → Int) : (bt f).length = 256 := by simp [bt]
theorem bt_set (f : Nat → Int) (i : Nat) (v : Int) : (bt f).set i (.d (.int .u8 v)) = bt (fun j => if j = i then v else f j) := by
  apply List.ext_getElem?
  intro j
  simp only [bt, List.getElem?_set, List.length_map, List.length_range, List.getElem?_map, List.getElem?_range]
  by_cases h : i = j
  · subst h
    by_cases hl : i < 256 <;> simp [hl]
  · simp [h, Ne.symm h]
    by_cases hl : j < 256 <;> simp [hl, Ne.symm h]
theorem bt_congr {f g : Nat → Int} (h : ∀ i, i < 256 → f i = g i) : bt f = bt g := by
  simp only [bt, List.map_inj_left, List.mem_range]
  intro a ha
  rw [h a ha]

theorem byte_lt' (c : UInt8) : 0 + (c.toNat : Int).toNat * 1 < 256 := by have := c.toNat_lt; omega

theorem zero_bt : (List.replicate 256 (D.int .u8 0)).map SV.d = bt (fun _ => 0) := by
  apply List.ext_getElem?
  intro j
  simp only [bt, List.map_replicate, List.getElem?_replicate, List.getElem?_map, List.getElem?_range]
  by_cases hl : j < 256 <;> simp [hl]

theorem bt_lt (f : Nat → Int) {i : Nat} (h : i < 256) : 0 + i * 1 < (bt f).length := by rw [bt_len]; omega
theorem bt_lt1 (f : Nat → Int) (a : Nat) (s : SV) {i : Nat} (h : i < 256) : 0 + i * 1 < ((bt f).set a s).length := by rw [List.length_set, bt_len]; omega
theorem bt_lt2 (f : Nat → Int) (a : Nat) (s : SV) (b : Nat) (r : SV) {i : Nat} (h : i < 256) : 0 + i * 1 < (((bt f).set a s).set b r).length := by rw [List.length_set, List.length_set, bt_len]; omega

def ws : List UInt8 := [32, 9, 10, 13]
def sg : List UInt8 := [40, 41, 91, 93, 123, 125, 44, 46, 60, 61, 124, 63]
def F1 (k : Nat) (i : Nat) : Int := if ((ws.take k).map UInt8.toNat).contains i then 1 else 0
def F2 (c : Nat) (i : Nat) : Int := if (97 ≤ i ∧ i < c) ∨ (65 ≤ i ∧ i + 32 < c) then 3 else F1 4 i
def F3 (c : Nat) (i : Nat) : Int := if 48 ≤ i ∧ i < c then 4 else F2 123 i
def F4 (k : Nat) (i : Nat) : Int := if ((sg.take k).map UInt8.toNat).contains i then 6 else F3 58 i

theorem take_map_contains {l : List UInt8} {k : Nat} (h : k < l.length) (i : Nat) : ((l.take (k + 1)).map UInt8.toNat).contains i = (((l.take k).map UInt8.toNat).contains i || decide (i = l[k].toNat)) := by
  rw [List.take_succ_eq_append_getElem h, List.map_append, List.contains_eq_any_beq, List.contains_eq_any_beq, List.any_append]
  simp [Bool.beq_eq_decide_eq]

theorem contains_step {l : List UInt8} {k : Nat} (h : k < l.length) (v : Int) (g : Nat → Int) (i : Nat) :
    (if i = 0 + (l[k].toNat : Int).toNat * 1 then v else if ((l.take k).map UInt8.toNat).contains i then v else g i) = if ((l.take (k + 1)).map UInt8.toNat).contains i then v else g i := by
  rw [take_map_contains h, Int.toNat_natCast, Nat.zero_add, Nat.mul_one]
  by_cases e : i = l[k].toNat
  · simp [e]
  · simp only [if_neg e, decide_eq_false e, Bool.or_false]

theorem F1_step {k : Nat} (h : k < ws.length) : (bt (F1 k)).set (0 + (ws[k].toNat : Int).toNat * 1) (.d (.int .u8 1)) = bt (F1 (k + 1)) := by
  rw [bt_set]
  exact bt_congr fun i _ => contains_step h 1 (fun _ => 0) i

theorem F4_step {k : Nat} (h : k < sg.length) : (bt (F4 k)).set (0 + (sg[k].toNat : Int).toNat * 1) (.d (.int .u8 6)) = bt (F4 (k + 1)) := by
  rw [bt_set]
  exact bt_congr fun i _ => contains_step h 6 (F3 58) i

theorem F2_step {c : Nat} (h : 97 ≤ c) (h2 : c ≤ 122) (a b : Nat) (ha : a = c) (hb : b = c - 32) : ((bt (F2 c)).set a (.d (.int .u8 3))).set b (.d (.int .u8 3)) = bt (F2 (c + 1)) := by
  subst ha hb
  rw [bt_set, bt_set]
  refine bt_congr fun i _ => ?_
  simp only [F2]
  split
  · rw [if_pos (by omega)]
  · split
    · rw [if_pos (by omega)]
    · split
      · rw [if_pos (by omega)]
      · rw [if_neg (by omega)]

theorem F3_step {c : Nat} (h : 48 ≤ c) (a : Nat) (ha : a = c) : (bt (F3 c)).set a (.d (.int .u8 4)) = bt (F3 (c + 1)) := by
  subst ha
  rw [bt_set]
  refine bt_congr fun i _ => ?_
  simp only [F3]
  split
  · rw [if_pos (by omega)]
  · split
    · rw [if_pos (by omega)]
    · rw [if_neg (by omega)]

def F5 (i : Nat) : Int := if i = 45 then 5 else if i = 35 then 2 else if i = 95 then 3 else F4 12 i
theorem F5_eq : (((bt (F4 12)).set 95 (.d (.int .u8 3))).set 35 (.d (.int .u8 2))).set 45 (.d (.int .u8 5)) = clsT := by
  rw [bt_set, bt_set, bt_set]
  refine (bt_congr (g := cls) ?_).trans (by simp [bt, clsT, clsD])
  decide
theorem allD_map_d : ∀ l : List D, allD (l.map .d) = some l
  | [] => rfl
  | x :: r => by simp [allD, allD_map_d r]
theorem mkAgg_clsT : mkAgg (List.take 256 (List.drop 0 clsT)) = .d (.agg clsD) := by
  rw [List.drop_zero, List.take_of_length_le (by rw [clsT_len]; exact Nat.le_refl _), mkAgg, clsT, allD_map_d]
theorem splice_clsT (X : List SV) (h : X.length = 256) : splice X 0 clsT = clsT := by
  simp [splice, clsT_len, h]

attribute [local irreducible] clsD clsT in
theorem classes_spec : Tri Try.prog 24 [] [] (fun s => s = .d (.agg clsD)) := by
  refine tri_of_body hty Try.func24 rfl (kp [0, 2, 3, 4, 6, 8, 9, 10, 11, 18, 28, 34, 35, 36, 37]) [] _ _ _ (by simp [Try.f24]) (by simp) ?_
  (conv => whnf)
  ((conv => whnf); repeat ((first | (intro hq; try simp only [List.length_set, List.length_replicate, List.length_map, List.length_append, List.length_drop, List.length_take, List.length_cons, List.length_nil] at hq) | (refine And.intro (by first | exact rfl | exact trivial | exact fresh_of (by with_unfolding_all exact rfl) | exact List.cons_ne_nil _ _ | exact leaf_of rfl | exact unb_sub _ _ _ | exact Nat.le_of_ble_eq_true rfl | exact notMem_of (by with_unfolding_all exact rfl) | omega | (rw [unb_map]) | exact byte_lt _ | (simp only [List.length_set, List.length_replicate, List.length_map, List.length_append, List.length_drop, List.length_take, List.length_cons, List.length_nil, Int.toNat_natCast]; omega) | (simp only [List.length_set, List.length_replicate, List.length_map, List.length_append, List.length_drop, List.length_take, List.length_cons, List.length_nil, Int.toNat_natCast] at *; omega)) ?_) | (refine Exists.intro _ (And.intro rfl ?_))); (conv => whnf)))
  refine loop_rule hty (fun k : Nat => ([(0, .ptr 0 0), (8, .d (bsv ws)), (9, .d (.int .i64 4)), (10, .d (.int .i64 k))], [(0, .cells 47 (bt (F1 k)))])) (fun k => k ≤ 4) (fun k => 4 - k) 0 (by simp) ⟨by repeat' (first | exact trivial | exact rfl | refine And.intro ?_ ?_), by
    refine And.intro ?_ trivial
    exact congrArg (fun x => some (HObj.cells 47 x)) zero_bt⟩ ?_
  intro k hk
  ((conv => whnf); repeat ((first | (intro hq; try simp only [List.length_set, List.length_replicate, List.length_map, List.length_append, List.length_drop, List.length_take, List.length_cons, List.length_nil] at hq) | (refine And.intro (by first | exact rfl | exact trivial | exact fresh_of (by with_unfolding_all exact rfl) | exact List.cons_ne_nil _ _ | exact leaf_of rfl | exact unb_sub _ _ _ | exact Nat.le_of_ble_eq_true rfl | exact notMem_of (by with_unfolding_all exact rfl) | omega | (rw [unb_map]) | exact byte_lt _ | (simp only [List.length_set, List.length_replicate, List.length_map, List.length_append, List.length_drop, List.length_take, List.length_cons, List.length_nil, Int.toNat_natCast]; omega) | (simp only [List.length_set, List.length_replicate, List.length_map, List.length_append, List.length_drop, List.length_take, List.length_cons, List.length_nil, Int.toNat_natCast] at *; omega)) ?_) | (refine Exists.intro _ (And.intro rfl ?_))); (conv => whnf)))
  refine brB_dec (fun h1 => ?_) (fun h1 => ?_)
  · have h1' : k < 4 := by omega
    ((conv => whnf); repeat ((first | (refine ⟨_, row_at (l := ws) (by exact h1'), ?_⟩) | (refine And.intro (by exact h1') ?_) | (refine And.intro (by rw [bt_len]; exact byte_lt' _) ?_) | (intro hq; try simp only [List.length_set, List.length_replicate, List.length_map, List.length_append, List.length_drop, List.length_take, List.length_cons, List.length_nil] at hq) | (refine And.intro (by first | exact rfl | exact trivial | exact fresh_of (by with_unfolding_all exact rfl) | exact List.cons_ne_nil _ _ | exact leaf_of rfl | exact unb_sub _ _ _ | exact Nat.le_of_ble_eq_true rfl | exact notMem_of (by with_unfolding_all exact rfl) | omega | (rw [unb_map]) | exact byte_lt _ | (simp only [List.length_set, List.length_replicate, List.length_map, List.length_append, List.length_drop, List.length_take, List.length_cons, List.length_nil, Int.toNat_natCast]; omega) | (simp only [List.length_set, List.length_replicate, List.length_map, List.length_append, List.length_drop, List.length_take, List.length_cons, List.length_nil, Int.toNat_natCast] at *; omega)) ?_) | (refine Exists.intro _ (And.intro rfl ?_))); (conv => whnf)))
    refine ⟨k + 1, by omega, by dsimp only; omega, by repeat' (first | exact trivial | exact rfl | refine And.intro ?_ ?_), ?_⟩
    refine And.intro ?_ trivial
    exact congrArg (fun x => some (HObj.cells 47 x)) (F1_step h1')
  obtain rfl : k = 4 := by omega
  clear h1 hk
  ((conv => whnf); repeat ((first | (intro hq; try simp only [List.length_set, List.length_replicate, List.length_map, List.length_append, List.length_drop, List.length_take, List.length_cons, List.length_nil] at hq) | (refine And.intro (by first | exact rfl | exact trivial | exact fresh_of (by with_unfolding_all exact rfl) | exact List.cons_ne_nil _ _ | exact leaf_of rfl | exact unb_sub _ _ _ | exact Nat.le_of_ble_eq_true rfl | exact notMem_of (by with_unfolding_all exact rfl) | omega | (rw [unb_map]) | exact byte_lt _ | (simp only [List.length_set, List.length_replicate, List.length_map, List.length_append, List.length_drop, List.length_take, List.length_cons, List.length_nil, Int.toNat_natCast]; omega) | (simp only [List.length_set, List.length_replicate, List.length_map, List.length_append, List.length_drop, List.length_take, List.length_cons, List.length_nil, Int.toNat_natCast] at *; omega)) ?_) | (refine Exists.intro _ (And.intro rfl ?_))); (conv => whnf)))
  refine loop_rule hty (fun k : Nat => ([(0, .ptr 0 0), (3, .d (.int .i32 k))], [(0, .cells 47 (bt (F2 k)))])) (fun k => 97 ≤ k ∧ k ≤ 123) (fun k => 123 - k) 97 (by simp) ⟨by repeat' (first | exact trivial | exact rfl | refine And.intro ?_ ?_), by
    refine And.intro ?_ trivial
    exact congrArg (fun x => some (HObj.cells 47 x)) (bt_congr (by decide))⟩ ?_
  intro k hk
  ((conv => whnf); repeat ((first | (intro hq; try simp only [List.length_set, List.length_replicate, List.length_map, List.length_append, List.length_drop, List.length_take, List.length_cons, List.length_nil] at hq) | (refine And.intro (by first | exact rfl | exact trivial | exact fresh_of (by with_unfolding_all exact rfl) | exact List.cons_ne_nil _ _ | exact leaf_of rfl | exact unb_sub _ _ _ | exact Nat.le_of_ble_eq_true rfl | exact notMem_of (by with_unfolding_all exact rfl) | omega | (rw [unb_map]) | exact byte_lt _ | (simp only [List.length_set, List.length_replicate, List.length_map, List.length_append, List.length_drop, List.length_take, List.length_cons, List.length_nil, Int.toNat_natCast]; omega) | (simp only [List.length_set, List.length_replicate, List.length_map, List.length_append, List.length_drop, List.length_take, List.length_cons, List.length_nil, Int.toNat_natCast] at *; omega)) ?_) | (refine Exists.intro _ (And.intro rfl ?_))); (conv => whnf)))
  refine brB_dec (fun h1 => ?_) (fun h1 => ?_)
  · have h1' : k ≤ 122 := by omega
    ((conv => whnf); repeat ((first | (refine And.intro (bt_lt _ (by omega)) ?_) | (refine And.intro (bt_lt1 _ _ _ (by omega)) ?_) | (intro hq; try simp only [List.length_set, List.length_replicate, List.length_map, List.length_append, List.length_drop, List.length_take, List.length_cons, List.length_nil] at hq) | (refine And.intro (by first | exact rfl | exact trivial | exact fresh_of (by with_unfolding_all exact rfl) | exact List.cons_ne_nil _ _ | exact leaf_of rfl | exact unb_sub _ _ _ | exact Nat.le_of_ble_eq_true rfl | exact notMem_of (by with_unfolding_all exact rfl) | omega | (rw [unb_map]) | exact byte_lt _ | (simp only [List.length_set, List.length_replicate, List.length_map, List.length_append, List.length_drop, List.length_take, List.length_cons, List.length_nil, Int.toNat_natCast]; omega) | (simp only [List.length_set, List.length_replicate, List.length_map, List.length_append, List.length_drop, List.length_take, List.length_cons, List.length_nil, Int.toNat_natCast] at *; omega)) ?_) | (refine Exists.intro _ (And.intro rfl ?_))); (conv => whnf)))
    refine ⟨k + 1, by omega, by dsimp only; omega, by repeat' (first | exact trivial | exact rfl | refine And.intro ?_ ?_), ?_⟩
    refine And.intro ?_ trivial
    exact congrArg (fun x => some (HObj.cells 47 x)) (F2_step (by omega) h1' _ _ (show 0 + (k : Int).toNat * 1 = k by omega) (show 0 + ((k : Int) - 97 + 65).toNat * 1 = k - 32 by omega))
  obtain rfl : k = 123 := by omega
  clear h1 hk
  ((conv => whnf); repeat ((first | (intro hq; try simp only [List.length_set, List.length_replicate, List.length_map, List.length_append, List.length_drop, List.length_take, List.length_cons, List.length_nil] at hq) | (refine And.intro (by first | exact rfl | exact trivial | exact fresh_of (by with_unfolding_all exact rfl) | exact List.cons_ne_nil _ _ | exact leaf_of rfl | exact unb_sub _ _ _ | exact Nat.le_of_ble_eq_true rfl | exact notMem_of (by with_unfolding_all exact rfl) | omega | (rw [unb_map]) | exact byte_lt _ | (simp only [List.length_set, List.length_replicate, List.length_map, List.length_append, List.length_drop, List.length_take, List.length_cons, List.length_nil, Int.toNat_natCast]; omega) | (simp only [List.length_set, List.length_replicate, List.length_map, List.length_append, List.length_drop, List.length_take, List.length_cons, List.length_nil, Int.toNat_natCast] at *; omega)) ?_) | (refine Exists.intro _ (And.intro rfl ?_))); (conv => whnf)))
  refine loop_rule hty (fun k : Nat => ([(0, .ptr 0 0), (4, .d (.int .i32 k))], [(0, .cells 47 (bt (F3 k)))])) (fun k => 48 ≤ k ∧ k ≤ 58) (fun k => 58 - k) 48 (by simp) ⟨by repeat' (first | exact trivial | exact rfl | refine And.intro ?_ ?_), by
    refine And.intro ?_ trivial
    exact congrArg (fun x => some (HObj.cells 47 x)) (bt_congr (by decide))⟩ ?_
  intro k hk
  ((conv => whnf); repeat ((first | (intro hq; try simp only [List.length_set, List.length_replicate, List.length_map, List.length_append, List.length_drop, List.length_take, List.length_cons, List.length_nil] at hq) | (refine And.intro (by first | exact rfl | exact trivial | exact fresh_of (by with_unfolding_all exact rfl) | exact List.cons_ne_nil _ _ | exact leaf_of rfl | exact unb_sub _ _ _ | exact Nat.le_of_ble_eq_true rfl | exact notMem_of (by with_unfolding_all exact rfl) | omega | (rw [unb_map]) | exact byte_lt _ | (simp only [List.length_set, List.length_replicate, List.length_map, List.length_append, List.length_drop, List.length_take, List.length_cons, List.length_nil, Int.toNat_natCast]; omega) | (simp only [List.length_set, List.length_replicate, List.length_map, List.length_append, List.length_drop, List.length_take, List.length_cons, List.length_nil, Int.toNat_natCast] at *; omega)) ?_) | (refine Exists.intro _ (And.intro rfl ?_))); (conv => whnf)))
  refine brB_dec (fun h1 => ?_) (fun h1 => ?_)
  · have h1' : k ≤ 57 := by omega
    ((conv => whnf); repeat ((first | (refine And.intro (bt_lt _ (by omega)) ?_) | (intro hq; try simp only [List.length_set, List.length_replicate, List.length_map, List.length_append, List.length_drop, List.length_take, List.length_cons, List.length_nil] at hq) | (refine And.intro (by first | exact rfl | exact trivial | exact fresh_of (by with_unfolding_all exact rfl) | exact List.cons_ne_nil _ _ | exact leaf_of rfl | exact unb_sub _ _ _ | exact Nat.le_of_ble_eq_true rfl | exact notMem_of (by with_unfolding_all exact rfl) | omega | (rw [unb_map]) | exact byte_lt _ | (simp only [List.length_set, List.length_replicate, List.length_map, List.length_append, List.length_drop, List.length_take, List.length_cons, List.length_nil, Int.toNat_natCast]; omega) | (simp only [List.length_set, List.length_replicate, List.length_map, List.length_append, List.length_drop, List.length_take, List.length_cons, List.length_nil, Int.toNat_natCast] at *; omega)) ?_) | (refine Exists.intro _ (And.intro rfl ?_))); (conv => whnf)))
    refine ⟨k + 1, by omega, by dsimp only; omega, by repeat' (first | exact trivial | exact rfl | refine And.intro ?_ ?_), ?_⟩
    refine And.intro ?_ trivial
    exact congrArg (fun x => some (HObj.cells 47 x)) (F3_step (by omega) _ (show 0 + (k : Int).toNat * 1 = k by omega))
  obtain rfl : k = 58 := by omega
  clear h1 hk
  ((conv => whnf); repeat ((first | (intro hq; try simp only [List.length_set, List.length_replicate, List.length_map, List.length_append, List.length_drop, List.length_take, List.length_cons, List.length_nil] at hq) | (refine And.intro (by first | exact rfl | exact trivial | exact fresh_of (by with_unfolding_all exact rfl) | exact List.cons_ne_nil _ _ | exact leaf_of rfl | exact unb_sub _ _ _ | exact Nat.le_of_ble_eq_true rfl | exact notMem_of (by with_unfolding_all exact rfl) | omega | (rw [unb_map]) | exact byte_lt _ | (simp only [List.length_set, List.length_replicate, List.length_map, List.length_append, List.length_drop, List.length_take, List.length_cons, List.length_nil, Int.toNat_natCast]; omega) | (simp only [List.length_set, List.length_replicate, List.length_map, List.length_append, List.length_drop, List.length_take, List.length_cons, List.length_nil, Int.toNat_natCast] at *; omega)) ?_) | (refine Exists.intro _ (And.intro rfl ?_))); (conv => whnf)))
  refine loop_rule hty (fun k : Nat => ([(0, .ptr 0 0), (34, .d (bsv sg)), (35, .d (.int .i64 12)), (36, .d (.int .i64 k))], [(0, .cells 47 (bt (F4 k)))])) (fun k => k ≤ 12) (fun k => 12 - k) 0 (by simp) ⟨by repeat' (first | exact trivial | exact rfl | refine And.intro ?_ ?_), by
    refine And.intro ?_ trivial
    exact congrArg (fun x => some (HObj.cells 47 x)) (bt_congr (by decide))⟩ ?_
  intro k hk
  ((conv => whnf); repeat ((first | (intro hq; try simp only [List.length_set, List.length_replicate, List.length_map, List.length_append, List.length_drop, List.length_take, List.length_cons, List.length_nil] at hq) | (refine And.intro (by first | exact rfl | exact trivial | exact fresh_of (by with_unfolding_all exact rfl) | exact List.cons_ne_nil _ _ | exact leaf_of rfl | exact unb_sub _ _ _ | exact Nat.le_of_ble_eq_true rfl | exact notMem_of (by with_unfolding_all exact rfl) | omega | (rw [unb_map]) | exact byte_lt _ | (simp only [List.length_set, List.length_replicate, List.length_map, List.length_append, List.length_drop, List.length_take, List.length_cons, List.length_nil, Int.toNat_natCast]; omega) | (simp only [List.length_set, List.length_replicate, List.length_map, List.length_append, List.length_drop, List.length_take, List.length_cons, List.length_nil, Int.toNat_natCast] at *; omega)) ?_) | (refine Exists.intro _ (And.intro rfl ?_))); (conv => whnf)))
  refine brB_dec (fun h1 => ?_) (fun h1 => ?_)
  · have h1' : k < 12 := by omega
    ((conv => whnf); repeat ((first | (refine ⟨_, row_at (l := sg) (by exact h1'), ?_⟩) | (refine And.intro (by exact h1') ?_) | (refine And.intro (by rw [bt_len]; exact byte_lt' _) ?_) | (intro hq; try simp only [List.length_set, List.length_replicate, List.length_map, List.length_append, List.length_drop, List.length_take, List.length_cons, List.length_nil] at hq) | (refine And.intro (by first | exact rfl | exact trivial | exact fresh_of (by with_unfolding_all exact rfl) | exact List.cons_ne_nil _ _ | exact leaf_of rfl | exact unb_sub _ _ _ | exact Nat.le_of_ble_eq_true rfl | exact notMem_of (by with_unfolding_all exact rfl) | omega | (rw [unb_map]) | exact byte_lt _ | (simp only [List.length_set, List.length_replicate, List.length_map, List.length_append, List.length_drop, List.length_take, List.length_cons, List.length_nil, Int.toNat_natCast]; omega) | (simp only [List.length_set, List.length_replicate, List.length_map, List.length_append, List.length_drop, List.length_take, List.length_cons, List.length_nil, Int.toNat_natCast] at *; omega)) ?_) | (refine Exists.intro _ (And.intro rfl ?_))); (conv => whnf)))
    refine ⟨k + 1, by omega, by dsimp only; omega, by repeat' (first | exact trivial | exact rfl | refine And.intro ?_ ?_), ?_⟩
    refine And.intro ?_ trivial
    exact congrArg (fun x => some (HObj.cells 47 x)) (F4_step h1')
  obtain rfl : k = 12 := by omega
  clear h1 hk
  ((conv => whnf); repeat ((first | (refine And.intro (bt_lt _ (by omega)) ?_) | (refine And.intro (bt_lt1 _ _ _ (by omega)) ?_) | (refine And.intro (bt_lt2 _ _ _ _ _ (by omega)) ?_) | (intro hq; try simp only [List.length_set, List.length_replicate, List.length_map, List.length_append, List.length_drop, List.length_take, List.length_cons, List.length_nil] at hq) | (refine And.intro (by first | exact rfl | exact trivial | exact fresh_of (by with_unfolding_all exact rfl) | exact List.cons_ne_nil _ _ |  exact notMem_of (by with_unfolding_all exact rfl) | omega | (rw [unb_map]) | exact byte_lt _ | (simp only [List.length_set, List.length_replicate, List.length_map, List.length_append, List.length_drop, List.length_take, List.length_cons, List.length_nil, Int.toNat_natCast]; omega) | (simp only [List.length_set, List.length_replicate, List.length_map, List.length_append, List.length_drop, List.length_take, List.length_cons, List.length_nil, Int.toNat_natCast] at *; omega)) ?_) | (refine Exists.intro _ (And.intro rfl ?_))); (conv => whnf)))
  generalize hX : List.set (List.set (List.set (bt (F4 12)) _ _) _ _) _ _ = X
  have hX2 : X = clsT := by rw [← hX]; exact F5_eq
  clear hX
  subst hX2
  refine And.intro (show 0 + 256 ≤ clsT.length by simp [clsT_len]) ?_
  rw [show mkAgg (List.take _ (List.drop 0 clsT)) = .d (.agg clsD) from mkAgg_clsT]
  (conv => whnf)
  simp only [clsT_def]
  refine And.intro clsT_len (And.intro (show 0 + 256 ≤ clsT.length by simp [clsT_len]) (And.intro clsT_leaf ?_))
  rw [show splice clsT 0 clsT = clsT from splice_clsT clsT clsT_len]
  ((conv => whnf); repeat ((first | (intro hq; try simp only [List.length_set, List.length_replicate, List.length_map, List.length_append, List.length_drop, List.length_take, List.length_cons, List.length_nil] at hq) | (refine And.intro (by first | exact rfl | exact trivial | exact fresh_of (by with_unfolding_all exact rfl) | exact List.cons_ne_nil _ _ |  exact notMem_of (by with_unfolding_all exact rfl) | omega | (rw [unb_map]) | exact byte_lt _ | (simp only [List.length_set, List.length_replicate, List.length_map, List.length_append, List.length_drop, List.length_take, List.length_cons, List.length_nil, Int.toNat_natCast]; omega) | (simp only [List.length_set, List.length_replicate, List.length_map, List.length_append, List.length_drop, List.length_take, List.length_cons, List.length_nil, Int.toNat_natCast] at *; omega)) ?_) | (refine Exists.intro _ (And.intro rfl ?_))); (conv => whnf)))
  refine And.intro (show 0 + 256 ≤ clsT.length by simp [clsT_len]) ?_
  rw [show mkAgg (List.take _ (List.drop 0 clsT)) = .d (.agg clsD) from mkAgg_clsT]
  ((conv => whnf); repeat ((first | (intro hq; try simp only [List.length_set, List.length_replicate, List.length_map, List.length_append, List.length_drop, List.length_take, List.length_cons, List.length_nil] at hq) | (refine And.intro (by first | exact rfl | exact trivial | exact fresh_of (by with_unfolding_all exact rfl) | exact List.cons_ne_nil _ _ |  exact notMem_of (by with_unfolding_all exact rfl) | omega | (rw [unb_map]) | exact byte_lt _ | (simp only [List.length_set, List.length_replicate, List.length_map, List.length_append, List.length_drop, List.length_take, List.length_cons, List.length_nil, Int.toNat_natCast]; omega) | (simp only [List.length_set, List.length_replicate, List.length_map, List.length_append, List.length_drop, List.length_take, List.length_cons, List.length_nil, Int.toNat_natCast] at *; omega)) ?_) | (refine Exists.intro _ (And.intro rfl ?_))); (conv => whnf)))
  exact rfl
end Go.Proofs.Ytepebjhnefhciaa
