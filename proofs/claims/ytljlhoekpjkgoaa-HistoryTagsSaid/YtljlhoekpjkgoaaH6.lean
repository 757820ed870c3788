/-
  slices.Reverse on numbers.
  Conditions: none.
-/
import Derived.Test.YtljlhoekpjkgoaaH5
namespace Go.Proofs.Ytljlhoekpjkgoaa
open Go.Proofs
set_option linter.unusedSimpArgs false
set_option maxRecDepth 10000
attribute [local irreducible] SemVC CallVC Tri Stuck YVC

structure RevI (l : List Int) (i : Nat) (rows : List Int) : Prop where
  len : rows.length = l.length
  at_ : ∀ (k : Nat) (h : k < l.length), rows[k]'(by omega) = if k < i ∨ l.length ≤ k + i then l[l.length - 1 - k]'(by omega) else l[k]

theorem RevI.zero (l : List Int) : RevI l 0 l := ⟨rfl, fun k h => by rw [if_neg (by omega)]⟩

theorem RevI.step {l rows : List Int} {i : Nat} (h : RevI l i rows) (hi : 2 * i + 1 < l.length) (x y : Int) (hx : x = l[l.length - 1 - i]'(by omega)) (hy : y = l[i]'(by omega)) : RevI l (i + 1) ((rows.set i x).set (l.length - 1 - i) y) := by
  have hl := h.len
  refine ⟨by simp [h.len], fun k hk => ?_⟩
  rw [List.getElem_set, List.getElem_set]
  by_cases h1 : l.length - 1 - i = k
  · rw [if_pos h1, if_pos (by omega), hy]; congr 1; omega
  · rw [if_neg h1]
    by_cases h2 : i = k
    · rw [if_pos h2, if_pos (by omega), hx]; congr 1; omega
    · rw [if_neg h2, h.at_ k hk]
      by_cases h3 : k < i ∨ l.length ≤ k + i
      · rw [if_pos h3, if_pos (by omega)]
      · rw [if_neg h3, if_neg (by omega)]

theorem RevI.done {l rows : List Int} {i : Nat} (h : RevI l i rows) (hi : l.length ≤ 2 * i + 1) : rows = l.reverse := by
  have hl := h.len
  refine List.ext_getElem (by simp [h.len]) fun k h1 h2 => ?_
  rw [List.getElem_reverse, h.at_ k (by omega)]
  by_cases h3 : k < i ∨ l.length ≤ k + i
  · rw [if_pos h3]
  · rw [if_neg h3]; congr 1; omega

theorem RevI.mid {l rows : List Int} {i k : Nat} (h : RevI l i rows) (h1 : i ≤ k) (h2 : k + i < l.length) : rows[k]'(by have := h.len; omega) = l[k]'(by omega) := by
  rw [h.at_ k (by omega), if_neg (by omega)]

set_option maxHeartbeats 4000000 in
theorem rev120 (l : List Int) (cap : Nat) (rest : Hp) {pin : List Nat} {fr : Fr} {K : SV → Hp → Prop} (hl : l.length ≤ 1000000)
    (fin : K (oneOf []) ((120, .mrow 3 1 cap (l.reverse.map intR)) :: rest)) :
    CallVC Try.prog pin fr ((120, .mrow 3 1 cap (l.map intR)) :: rest) 41 [.mw 120 1 l.length] K := by
  refine call_inline hty Try.func41 rfl (kp [0, 2, 3, 9]) 500 (by simp [Try.f41]) ?_
  ((conv => whnf); repeat ((first | (intro hq; try simp only [List.length_set, List.length_replicate, List.length_map, List.length_append, List.length_drop, List.length_take, List.length_cons, List.length_nil] at hq) | (refine And.intro (by first | exact rfl | exact trivial | exact fresh_of (by with_unfolding_all exact rfl) | exact List.cons_ne_nil _ _ | exact leaf_of rfl | exact unb_sub _ _ _ | exact Nat.le_of_ble_eq_true rfl | exact notMem_of (by with_unfolding_all exact rfl) | omega | (rw [unb_map]) | exact byte_lt _ | (simp only [List.length_set, List.length_replicate, List.length_map, List.length_append, List.length_drop, List.length_take, List.length_cons, List.length_nil, Int.toNat_natCast]; omega) | (simp only [List.length_set, List.length_replicate, List.length_map, List.length_append, List.length_drop, List.length_take, List.length_cons, List.length_nil, Int.toNat_natCast] at *; omega)) ?_) | (refine Exists.intro _ (And.intro rfl ?_))); (conv => whnf)))
  refine loop_eq hty (fun y : Nat × List Int => ([(0, .mw 120 1 l.length), (2, .d (.int .i64 y.1)), (3, .d (.int .i64 (l.length - 1 - y.1)))], (120, .mrow 3 1 cap (y.2.map intR)) :: rest)) (fun y => y.1 ≤ l.length ∧ RevI l y.1 y.2) (fun y => l.length - y.1) (0, l) ⟨Nat.zero_le _, .zero l⟩ (by repeat' (first | exact trivial | exact rfl | exact wkInt (by dsimp only; omega) | refine And.intro ?_ ?_)) rfl ?_
  rintro ⟨i, rows⟩ ⟨hi, hR⟩
  dsimp only at hi hR
  have hlen := hR.len
  ((conv => whnf); repeat ((first | (intro hq; try simp only [List.length_set, List.length_replicate, List.length_map, List.length_append, List.length_drop, List.length_take, List.length_cons, List.length_nil] at hq) | (refine And.intro (by first | exact rfl | exact trivial | exact fresh_of (by with_unfolding_all exact rfl) | exact List.cons_ne_nil _ _ | exact leaf_of rfl | exact unb_sub _ _ _ | exact Nat.le_of_ble_eq_true rfl | exact notMem_of (by with_unfolding_all exact rfl) | omega | (rw [unb_map]) | exact byte_lt _ | (simp only [List.length_set, List.length_replicate, List.length_map, List.length_append, List.length_drop, List.length_take, List.length_cons, List.length_nil, Int.toNat_natCast]; omega) | (simp only [List.length_set, List.length_replicate, List.length_map, List.length_append, List.length_drop, List.length_take, List.length_cons, List.length_nil, Int.toNat_natCast] at *; omega)) ?_) | (refine Exists.intro _ (And.intro rfl ?_))); (conv => whnf)))
  refine brB_dec (fun h1 => ?_) (fun h1 => ?_)
  · dsimp only at h1
    (conv => whnf)
    refine ord_rule hty [0, 1, 2, 3, 4, 5, 6, 7, 8, 9, 10, 11, 12, 13, 14, 15] (by kernel_rfl) (by kernel_rfl) ?_
    ((conv => whnf); repeat' ((first | (intro hq; (try simp only [List.length_set, List.length_replicate, List.length_map, List.length_append, List.length_drop, List.length_take, List.length_cons, List.length_nil] at hq); (try rewrite [List.length_map])) | (refine And.intro (by first | exact rfl | exact trivial | exact fresh_of (by with_unfolding_all exact rfl) | exact List.cons_ne_nil _ _ | exact leaf_of rfl | exact unb_sub _ _ _ | exact Nat.le_of_ble_eq_true rfl | exact notMem_of (by with_unfolding_all exact rfl) | omega | (rw [unb_map]) | exact byte_lt _ | (simp only [List.length_set, List.length_replicate, List.length_map, List.length_append, List.length_drop, List.length_take, List.length_cons, List.length_nil, Int.toNat_natCast]; omega) | (simp only [List.length_set, List.length_replicate, List.length_map, List.length_append, List.length_drop, List.length_take, List.length_cons, List.length_nil, Int.toNat_natCast] at *; omega) | (show eqOK _ _ = true; kernel_rfl) | (rw [List.length_append]; exact rfl) | (simp only [List.length_map, List.length_append]; exact rfl)) ?_) | (refine Exists.intro _ (And.intro rfl ?_)) | (refine Exists.intro (show (_ : Nat) < List.length _ from by first | omega | (simp only [List.length_cons, List.length_nil]; omega) | simp) ?_) | (refine ⟨_, row_at (by first | omega | (simp only [List.length_map]; omega)), ?_⟩) | (refine draw_rule hty (by kernel_rfl) (by kernel_rfl) ?_) | (refine brB_dec (fun hb => ?_) (fun hb => ?_) <;> (first | contradiction | ((try simp only [List.length_set, List.length_replicate, List.length_map, List.length_append, List.length_drop, List.length_take, List.length_cons, List.length_nil] at hb); (first | (exfalso; omega) | skip)))) | (refine brB_ndec (fun hb => ?_) (fun hb => ?_) <;> (first | contradiction | ((try simp only [List.length_set, List.length_replicate, List.length_map, List.length_append, List.length_drop, List.length_take, List.length_cons, List.length_nil] at hb); (first | (exfalso; omega) | skip)))) | (refine brB_split (fun hb => ?_) (fun hb => ?_) <;> (first | contradiction | exact absurd (hb.symm.trans (by assumption) : false = true) (by decide) | exact absurd (hb.symm.trans (by assumption) : true = false) (by decide) | skip))) <;> (conv => whnf)))
    refine ⟨_, List.getElem?_eq_getElem (by simp only [List.length_set, List.length_map]; omega), ?_⟩
    ((conv => whnf); repeat' ((first | (intro hq; (try simp only [List.length_set, List.length_replicate, List.length_map, List.length_append, List.length_drop, List.length_take, List.length_cons, List.length_nil] at hq); (try rewrite [List.length_map])) | (refine And.intro (by first | exact rfl | exact trivial | exact fresh_of (by with_unfolding_all exact rfl) | exact List.cons_ne_nil _ _ | exact leaf_of rfl | exact unb_sub _ _ _ | exact Nat.le_of_ble_eq_true rfl | exact notMem_of (by with_unfolding_all exact rfl) | omega | (rw [unb_map]) | exact byte_lt _ | (simp only [List.length_set, List.length_replicate, List.length_map, List.length_append, List.length_drop, List.length_take, List.length_cons, List.length_nil, Int.toNat_natCast]; omega) | (simp only [List.length_set, List.length_replicate, List.length_map, List.length_append, List.length_drop, List.length_take, List.length_cons, List.length_nil, Int.toNat_natCast] at *; omega) | (show eqOK _ _ = true; kernel_rfl) | (rw [List.length_append]; exact rfl) | (simp only [List.length_map, List.length_append]; exact rfl)) ?_) | (refine Exists.intro _ (And.intro rfl ?_)) | (refine Exists.intro (show (_ : Nat) < List.length _ from by first | omega | (simp only [List.length_cons, List.length_nil]; omega) | simp) ?_) | (refine ⟨_, row_at (by first | omega | (simp only [List.length_map]; omega)), ?_⟩) | (refine draw_rule hty (by kernel_rfl) (by kernel_rfl) ?_) | (refine brB_dec (fun hb => ?_) (fun hb => ?_) <;> (first | contradiction | ((try simp only [List.length_set, List.length_replicate, List.length_map, List.length_append, List.length_drop, List.length_take, List.length_cons, List.length_nil] at hb); (first | (exfalso; omega) | skip)))) | (refine brB_ndec (fun hb => ?_) (fun hb => ?_) <;> (first | contradiction | ((try simp only [List.length_set, List.length_replicate, List.length_map, List.length_append, List.length_drop, List.length_take, List.length_cons, List.length_nil] at hb); (first | (exfalso; omega) | skip)))) | (refine brB_split (fun hb => ?_) (fun hb => ?_) <;> (first | contradiction | exact absurd (hb.symm.trans (by assumption) : false = true) (by decide) | exact absurd (hb.symm.trans (by assumption) : true = false) (by decide) | skip))) <;> (conv => whnf)))
    have e1 : ((l.length : Int) - 1 - (i : Int)).toNat = l.length - 1 - i := by omega
    refine ⟨(i + 1, (rows.set i (rows[l.length - 1 - i]'(by omega))).set (l.length - 1 - i) (rows[i]'(by omega))), ⟨by dsimp only; omega, hR.step (by omega) _ _ (hR.mid (by omega) (by omega)) (hR.mid (by omega) (by omega))⟩, by dsimp only; omega, by repeat' (first | exact trivial | exact rfl | exact wkInt (by dsimp only; omega) | refine And.intro ?_ ?_), ?_⟩
    simp only [e1, Int.toNat_natCast, List.map_set]
    rfl
  · dsimp only at h1
    rw [hR.done (by omega)]
    exact fin
end Go.Proofs.Ytljlhoekpjkgoaa
