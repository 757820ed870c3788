/-
  Terms: Vocabulary. Steps of roles, plainly: those of axioms, the maps that hold them, and the graph of their numbers. Layer 6: check, and what is exempt. Layer 6: the maps of steps. Terms: the vocabulary, plainly: whose names it holds.
  Conditions: none.
-/
import Derived.Test.YtnemengadjimcaaGreatDoorMAo
import Derived.Test.YtnemengadjimcaaGreatDoorMAp
import Derived.Test.YtnemengadjimcaaGreatDoorMTcq
import Derived.Test.YtnemengadjimcaaGreatDoorMPh
import Derived.Test.YtnemengadjimcaaGreatDoorMBp
set_option linter.unnecessarySimpa false
set_option linter.unusedSectionVars false
set_option linter.unusedSimpArgs false
set_option linter.unusedVariables false
set_option maxHeartbeats 8000000
namespace Go.Proofs.YtnemengadjimcaaGreatDoor
open Go.Proofs
set_option maxRecDepth 10000
attribute [local irreducible] SemVC CallVC Tri Stuck YVC GenP GenVC
def firstA : List Ax → Int
 | [] => 0
 | x :: r => if axiomE x ≠ 0 then axiomE x else firstA r
theorem empty_size {c : Cn} (h : emptyF c = true) : sizeF c = 1 := by
 unfold emptyF at h
 simp only [Bool.and_eq_true, decide_eq_true_eq] at h
 rw [sizeF_sum, h.2.2.2.2]; rfl
theorem useAt_most {k : Int} (h : 1 ≤ k ∧ k ≤ 9) : (useAt k).most ≤ 4 := by
 have : k = 1 ∨ k = 2 ∨ k = 3 ∨ k = 4 ∨ k = 5 ∨ k = 6 ∨ k = 7 ∨ k = 8 ∨ k = 9 := by omega
 rcases this with h | h | h | h | h | h | h | h | h <;> rw [h] <;> decide
theorem axiomE_bnd {x : Ax} (h : axiomE x = 0) : sizeF x.left ≤ 64 ∧ sizeF x.right ≤ 64 ∧ x.roles.length ≤ 4 := by
 obtain ⟨hk, hl, hr⟩ := axiomE_ok h
 have hm := useAt_most hk
 unfold axiomE at h
 split at h
 ·simp at h
 ·rename_i hs
  have hs : shapedF x = true := by simpa using hs
  unfold shapedF at hs
  rw [if_neg (by omega)] at hs
  generalize useAt x.kind = u at *
  unfold shapedU at hs
  simp only [Bool.and_eq_true, Bool.or_eq_true, decide_eq_true_eq] at hs
  refine ⟨?_, ?_, ?_⟩
  ·cases hu : u.left
   ·have : emptyF x.left = true := by simp_all
    rw [empty_size this]; omega
   ·exact (conceptE_ok (hl hu)).1
  ·cases hu : u.right
   ·have : emptyF x.right = true := by simp_all
    rw [empty_size this]; omega
   ·exact (conceptE_ok (hr hu)).1
  ·omega
theorem firstA_err : ∀ {l : List Ax} {j : Nat} (h : j < l.length), (∀ x ∈ l.take j, axiomE x = 0) → ¬ axiomE l[j] = 0 → firstA l = axiomE l[j]
 | x :: r, 0, _, _, he => by
  have he : axiomE x ≠ 0 := he
  rw [firstA, if_pos he]; rfl
 | x :: r, j + 1, h, hz, he => by
  have h0 : axiomE x = 0 := hz x (by simp)
  rw [firstA, if_neg (by simpa using h0)]
  exact firstA_err (by simpa using h) (fun y hy => hz y (by simp [hy])) he
theorem firstA_ok : ∀ {l : List Ax}, (∀ x ∈ l, axiomE x = 0) → firstA l = 0
 | [], _ => rfl
 | x :: r, h => by
  rw [firstA, if_neg (by simpa using h x (by simp))]
  exact firstA_ok fun y hy => h y (by simp [hy])
theorem axR_rows {l : List Ax} {j : Nat} (h : j < l.length) : (l.map axR)[(j : Int).toNat]? = some (axR l[j]) := by
 rw [Int.toNat_natCast, List.getElem?_map, List.getElem?_eq_getElem h]; rfl
end Go.Proofs.YtnemengadjimcaaGreatDoor
namespace Go.Proofs.YtnemengadjimcaaGreatDoor
open Go.Proofs
def rolN (x : Ax) (i : Nat) : Str := (x.roles[i]?).getD []
def manyR (x : Ax) : Nat := x.roles.countP fun r => decide (r = x.role)
def exemptB (x : Ax) (i : Nat) : Bool :=
 decide (rolN x i = x.role) && ((decide (manyR x = 1) && (decide (i = 0) || decide (i + 1 = x.roles.length))) || (decide (manyR x = 2) && decide (x.roles.length = 2)))
def chainS (x : Ax) (l : List Nat) : List Stp := l.flatMap fun i => if exemptB x i then [] else [(rolN x i, x.role, true)]
def stepsA (x : Ax) : List Stp :=
 if x.kind = 5 then (if rolN x 0 = x.role then [] else [(rolN x 0, x.role, false)])
 else if x.kind = 6 then chainS x (List.range x.roles.length) else []
def stepsL (l : List Ax) : List Stp := l.flatMap stepsA
theorem chainS_len (x : Ax) (l : List Nat) : (chainS x l).length ≤ l.length := by
 induction l with
 | nil => simp [chainS]
 | cons i r ih =>
  have e : chainS x (i :: r) = (if exemptB x i then [] else [(rolN x i, x.role, true)]) ++ chainS x r := rfl
  rw [e, List.length_append, List.length_cons]
  split <;> simp <;> omega
theorem stepsA_len (x : Ax) (h : x.roles.length ≤ 4) : (stepsA x).length ≤ 4 := by
 unfold stepsA
 split
 ·split <;> simp
 ·split
  ·have := chainS_len x (List.range x.roles.length)
   rw [List.length_range] at this
   omega
  ·simp
theorem stepsL_len : ∀ (l : List Ax), (∀ x ∈ l, x.roles.length ≤ 4) → (stepsL l).length ≤ 4 * l.length
 | [], _ => by simp [stepsL]
 | x :: r, h => by
  have h1 := stepsA_len x (h x (by simp))
  have h2 := stepsL_len r fun y hy => h y (List.mem_cons_of_mem _ hy)
  have e : stepsL (x :: r) = stepsA x ++ stepsL r := rfl
  rw [e, List.length_append, List.length_cons]; omega
theorem stepsL_take {l : List Ax} {j : Nat} (h : j < l.length) : stepsL (l.take (j + 1)) = stepsL (l.take j) ++ stepsA l[j] := by
 rw [List.take_succ_eq_append_getElem h]
 unfold stepsL
 rw [List.flatMap_append]; simp
theorem chainS_snoc (x : Ax) (k : Nat) : chainS x (List.range (k + 1)) = chainS x (List.range k) ++ (if exemptB x k then [] else [(rolN x k, x.role, true)]) := by
 rw [List.range_succ]
 unfold chainS
 rw [List.flatMap_append]; simp
abbrev Inn := List (Str × Bool) × (List Nat × Nat)
def entB (l : List (Str × Bool)) : List (Str × SV) := l.map fun p => (p.1, .d (.bool p.2))
def inO (x : Inn) : HObj := .ext (mapX strD (entB x.1) x.2.1 x.2.2)
def entO : Nat → List (Str × Inn) → List (Str × SV)
 | _, [] => []
 | n, (k, _) :: r => (k, .xv (1000 + n) mapV) :: entO (n + 1) r
def hpO : Nat → List (Str × Inn) → Hp
 | _, [] => []
 | n, (_, x) :: r => (1000 + n, inO x) :: hpO (n + 1) r
def posO (k : Str) : List (Str × Inn) → Option Nat
 | [] => none
 | (k', _) :: r => if k = k' then some 0 else (posO k r).map (· + 1)
theorem posO_some {k : Str} : ∀ {M : List (Str × Inn)} {i : Nat}, posO k M = some i → ∃ x, M[i]? = some (k, x)
 | (k', x) :: r, i, h => by
  rw [posO] at h
  split at h
  ·rename_i e
   cases h
   exact ⟨x, by rw [e]; rfl⟩
  ·cases hp : posO k r with
   | none => rw [hp] at h; cases h
   | some j =>
    rw [hp] at h
    cases h
    obtain ⟨y, hy⟩ := posO_some hp
    exact ⟨y, by simpa using hy⟩
theorem posO_none {k : Str} : ∀ {M : List (Str × Inn)}, posO k M = none ↔ k ∉ M.map (·.1)
 | [] => by simp [posO]
 | (k', x) :: r => by
  rw [posO]
  split
  ·rename_i e; simp [e]
  ·rename_i e
   rw [Option.map_eq_none_iff, posO_none]
   simp [e]
theorem mget_entO (k : Str) : ∀ (n : Nat) (M : List (Str × Inn)), mget (entO n M) k = (posO k M).map fun i => SV.xv (1000 + (n + i)) mapV
 | _, [] => rfl
 | n, (k', x) :: r => by
  rw [entO, mget, posO]
  split
  ·rfl
  ·rw [mget_entO k (n + 1) r]
   cases posO k r with
   | none => rfl
   | some i => simp [Nat.add_comm, Nat.add_left_comm]
theorem entO_len : ∀ (n : Nat) (M : List (Str × Inn)), (entO n M).length = M.length
 | _, [] => rfl
 | n, (k, x) :: r => by rw [entO, List.length_cons, List.length_cons, entO_len]
theorem entO_keys : ∀ (n : Nat) (M : List (Str × Inn)), (entO n M).map (·.1) = M.map (·.1)
 | _, [] => rfl
 | n, (k, x) :: r => by rw [entO, List.map_cons, List.map_cons, entO_keys]
theorem entO_lt : ∀ (n : Nat) (M : List (Str × Inn)), ∀ k ∈ idsE (entO n M), 1000 + n ≤ k ∧ k < 1000 + n + M.length
 | _, [], k, h => by simp [entO, idsE] at h
 | n, (a, x) :: r, k, h => by
  have e : idsE (entO n ((a, x) :: r)) = [1000 + n] ++ idsE (entO (n + 1) r) := rfl
  rw [e] at h
  rw [List.length_cons]
  rcases List.mem_append.1 h with h | h
  ·simp at h; omega
  ·have := entO_lt (n + 1) r k h; omega
theorem mset_entO {k : Str} : ∀ (n : Nat) (M : List (Str × Inn)) (x : Inn), posO k M = none → mset (entO n M) k (.xv (1000 + (n + M.length)) mapV) = entO n (M ++ [(k, x)])
 | _, [], _, _ => rfl
 | n, (k', y) :: r, x, h => by
  rw [posO] at h
  split at h
  ·cases h
  ·rename_i e
   rw [Option.map_eq_none_iff] at h
   rw [entO, mset, if_neg e, List.cons_append, entO, List.length_cons, show n + (r.length + 1) = n + 1 + r.length by omega, mset_entO (n + 1) r x h]
theorem entO_set : ∀ (n : Nat) (M : List (Str × Inn)) (i : Nat) (k : Str) (x y : Inn), M[i]? = some (k, x) → entO n (M.set i (k, y)) = entO n M
 | _, [], _, _, _, _, h => by cases h
 | n, (k', z) :: r, 0, k, x, y, h => by
  simp at h
  obtain ⟨rfl, rfl⟩ := h
  rfl
 | n, (k', z) :: r, i + 1, k, x, y, h => by
  rw [List.set_cons_succ, entO, entO, entO_set (n + 1) r i k x y (by simpa using h)]
theorem hpO_get : ∀ (n : Nat) (M : List (Str × Inn)) (i : Nat) (p : Str × Inn) (rest : Hp), M[i]? = some p → getH (hpO n M ++ rest) (1000 + (n + i)) = some (inO p.2)
 | _, [], _, _, _, h => by cases h
 | n, (k, x) :: r, 0, p, rest, h => by
  simp at h; subst h
  rw [hpO, List.cons_append, Nat.add_zero]
  exact getH_eq
 | n, (k, x) :: r, i + 1, p, rest, h => by
  rw [hpO, List.cons_append]
  refine getH_ne ?_ (by omega)
  rw [show n + (i + 1) = n + 1 + i by omega]
  exact hpO_get (n + 1) r i p rest (by simpa using h)
theorem hpO_out : ∀ (n : Nat) (M : List (Str × Inn)) (d : Nat) (rest : Hp), (d < 1000 + n ∨ 1000 + n + M.length ≤ d) → getH (hpO n M ++ rest) d = getH rest d
 | _, [], _, _, _ => rfl
 | n, (k, x) :: r, d, rest, h => by
  rw [hpO, List.cons_append]
  refine getH_ne (hpO_out (n + 1) r d rest ?_) ?_
  ·rw [List.length_cons] at h; omega
  ·rw [List.length_cons] at h; omega
theorem hpO_set : ∀ (n : Nat) (M : List (Str × Inn)) (i : Nat) (k : Str) (y : Inn) (rest : Hp), i < M.length → setH (hpO n M ++ rest) (1000 + (n + i)) (inO y) = hpO n (M.set i (k, y)) ++ rest
 | _, [], _, _, _, _, h => by simp at h
 | n, (k', z) :: r, 0, k, y, rest, h => by
  rw [List.set_cons_zero, hpO, hpO, List.cons_append, Nat.add_zero n, setH_eq]; rfl
 | n, (k', z) :: r, i + 1, k, y, rest, h => by
  rw [List.set_cons_succ, hpO, hpO, List.cons_append, setH_ne (by omega), show n + (i + 1) = n + 1 + i by omega, hpO_set (n + 1) r i k y rest (by simpa using h)]; rfl
theorem hpO_snoc : ∀ (n : Nat) (M : List (Str × Inn)) (k : Str) (x : Inn), hpO n (M ++ [(k, x)]) = hpO n M ++ [(1000 + (n + M.length), inO x)]
 | _, [], _, _ => rfl
 | n, (k', z) :: r, k, x => by
  rw [List.cons_append, hpO, hpO, hpO_snoc (n + 1) r k x, List.length_cons, show n + (r.length + 1) = n + 1 + r.length by omega]; rfl
theorem hpO_mem : ∀ (n : Nat) (M : List (Str × Inn)) (p : Nat × HObj), p ∈ hpO n M → ∃ i q, M[i]? = some q ∧ p = (1000 + (n + i), inO q.2)
 | _, [], _, h => by simp [hpO] at h
 | n, (k, x) :: r, p, h => by
  rw [hpO] at h
  rcases List.mem_cons.1 h with rfl | h
  ·exact ⟨0, _, rfl, rfl⟩
  ·obtain ⟨i, q, h1, rfl⟩ := hpO_mem (n + 1) r p h
   exact ⟨i + 1, q, by simpa using h1, by rw [show n + (i + 1) = n + 1 + i by omega]⟩
theorem idsE_entB (l : List (Str × Bool)) : idsE (entB l) = [] := by
 induction l with
 | nil => rfl
 | cons p r ih => simpa [entB, idsE, SV.ids] using ih
theorem inO_ids (x : Inn) : (inO x).ids = [] := idsE_entB x.1
theorem hpO_ids (n : Nat) (M : List (Str × Inn)) : ∀ k ∈ idsH (hpO n M), 1000 + n ≤ k ∧ k < 1000 + n + M.length := by
 intro k hk
 simp only [idsH, List.mem_flatMap, List.mem_cons] at hk
 obtain ⟨p, hp, hk⟩ := hk
 obtain ⟨i, q, h1, rfl⟩ := hpO_mem n M p hp
 have hi := (List.getElem?_eq_some_iff.1 h1).1
 rcases hk with rfl | hk
 ·dsimp only; omega
 ·dsimp only at hk
  rw [inO_ids] at hk; cases hk
theorem idsH_app (a b : Hp) : idsH (a ++ b) = idsH a ++ idsH b := List.flatMap_append
def ME (M : List (Str × Inn)) (a b : Str) (t : Bool) : Prop := ∃ (i : Nat) (x : Inn), M[i]? = some (a, x) ∧ mget x.1 b = some t
def addN2 (x : Inn) (s : Str) (t : Bool) (g : List Nat × Nat) : Inn := (mset x.1 s (((mget x.1 s).getD false) || t), g)
structure MInv (T : List Stp) (M : List (Str × Inn)) : Prop where
 nd : (M.map (·.1)).Nodup
 le : M.length ≤ T.length
 lei : ∀ p ∈ M, p.2.1.length ≤ T.length
 sound : ∀ a b t, ME M a b t → ∃ t', (a, b, t') ∈ T ∧ (t = true → t' = true)
 full : ∀ a b t, (a, b, t) ∈ T → ∃ t', ME M a b t' ∧ (t = true → t' = true)
theorem MInv.nil : MInv [] [] where
 nd := .nil
 le := Nat.le_refl _
 lei := by simp
 sound := by
  rintro a b t ⟨i, x, h, _⟩
  cases h
 full := by simp
theorem mget_mset {β : Type} (l : List (Str × β)) (k k' : Str) (v : β) : mget (mset l k v) k' = if k' = k then some v else mget l k' := by
 induction l with
 | nil => rfl
 | cons p r ih =>
  obtain ⟨q, w⟩ := p
  rw [mset]
  by_cases h : k = q
  ·subst h
   rw [if_pos rfl, mget, mget]
   split <;> rfl
  ·rw [if_neg h, mget, mget, ih]
   by_cases h2 : k' = q
   ·subst h2
    rw [if_pos rfl, if_pos rfl, if_neg (Ne.symm h)]
   ·rw [if_neg h2, if_neg h2]
theorem mset_len {β : Type} (l : List (Str × β)) (k : Str) (v : β) : (mset l k v).length ≤ l.length + 1 := by
 induction l with
 | nil => simp [mset]
 | cons p r ih =>
  obtain ⟨q, w⟩ := p
  rw [mset]
  split
  ·simp
  ·simp only [List.length_cons]; omega
theorem nodup_at {M : List (Str × Inn)} (h : (M.map (·.1)).Nodup) {i j : Nat} {a : Str} {x y : Inn} (hi : M[i]? = some (a, x)) (hj : M[j]? = some (a, y)) : i = j := by
 have h1 : (M.map (·.1))[i]? = some a := by rw [List.getElem?_map, hi]; rfl
 have h2 : (M.map (·.1))[j]? = some a := by rw [List.getElem?_map, hj]; rfl
 obtain ⟨l1, e1⟩ := List.getElem?_eq_some_iff.1 h1
 obtain ⟨l2, e2⟩ := List.getElem?_eq_some_iff.1 h2
 exact (List.getElem_inj h).1 (e1.trans e2.symm)
theorem or_imp (a b : Bool) : (b = true → (a || b) = true) := by cases a <;> cases b <;> decide
theorem MInv.new {T : List Stp} {M : List (Str × Inn)} (h : MInv T M) {r s : Str} (t : Bool) (g : List Nat × Nat) (hr : posO r M = none) : MInv (T ++ [(r, s, t)]) (M ++ [(r, ([(s, t)], g))]) := by
 have hr' := posO_none.1 hr
 have hME : ∀ a b u, ME (M ++ [(r, ([(s, t)], g))]) a b u ↔ ME M a b u ∨ (a = r ∧ b = s ∧ u = t) := by
  intro a b u
  constructor
  ·rintro ⟨i, x, h1, h2⟩
   rw [List.getElem?_append] at h1
   split at h1
   ·exact .inl ⟨i, x, h1, h2⟩
   ·rename_i hi
    have hl := (List.getElem?_eq_some_iff.1 h1).1
    simp only [List.length_singleton] at hl
    rw [show i - M.length = 0 by omega] at h1
    simp at h1
    obtain ⟨rfl, rfl⟩ := h1
    simp only [mget] at h2
    split at h2
    ·rename_i e
     cases h2
     exact .inr ⟨rfl, e, rfl⟩
    ·cases h2
  ·rintro (⟨i, x, h1, h2⟩ | ⟨rfl, rfl, rfl⟩)
   ·have hi := (List.getElem?_eq_some_iff.1 h1).1
    exact ⟨i, x, by rw [List.getElem?_append_left hi]; exact h1, h2⟩
   ·exact ⟨M.length, ([(b, u)], g), by simp, by simp [mget]⟩
 refine ⟨?_, by simp; exact h.le, ?_, ?_, ?_⟩
 ·rw [List.map_append, List.nodup_append]
  refine ⟨h.nd, by simp, fun a ha b hb => ?_⟩
  simp at hb
  subst hb
  exact fun e => hr' (e ▸ ha)
 ·intro p hp
  rw [List.length_append, List.length_singleton]
  rcases List.mem_append.1 hp with hp | hp
  ·have := h.lei p hp; omega
  ·simp at hp; subst hp; simp
 ·intro a b u hu
  rcases (hME a b u).1 hu with hu | ⟨rfl, rfl, rfl⟩
  ·obtain ⟨t', h1, h2⟩ := h.sound a b u hu
   exact ⟨t', List.mem_append_left _ h1, h2⟩
  ·exact ⟨u, by simp, id⟩
 ·intro a b u hu
  rcases List.mem_append.1 hu with hu | hu
  ·obtain ⟨t', h1, h2⟩ := h.full a b u hu
   exact ⟨t', (hME a b t').2 (.inl h1), h2⟩
  ·simp at hu
   obtain ⟨rfl, rfl, rfl⟩ := hu
   exact ⟨u, (hME _ _ _).2 (.inr ⟨rfl, rfl, rfl⟩), id⟩
theorem MInv.upd {T : List Stp} {M : List (Str × Inn)} (h : MInv T M) {r s : Str} (t : Bool) (g : List Nat × Nat) {i : Nat} {x : Inn} (hi : M[i]? = some (r, x)) : MInv (T ++ [(r, s, t)]) (M.set i (r, addN2 x s t g)) := by
 have hil := (List.getElem?_eq_some_iff.1 hi).1
 have hkeys : (M.set i (r, addN2 x s t g)).map (·.1) = M.map (·.1) := by
  rw [List.map_set]
  apply List.ext_getElem?
  intro j
  rw [List.getElem?_set]
  split
  ·rename_i e
   subst e
   rw [List.length_map, if_pos hil, List.getElem?_map, hi]; rfl
  ·rfl
 have hME : ∀ a b u, ME (M.set i (r, addN2 x s t g)) a b u ↔ (a = r ∧ b = s ∧ u = (((mget x.1 s).getD false) || t)) ∨ (¬ (a = r ∧ b = s) ∧ ME M a b u) := by
  intro a b u
  constructor
  ·rintro ⟨j, y, h1, h2⟩
   rw [List.getElem?_set] at h1
   split at h1
   ·rename_i e
    subst e
    try rw [if_pos hil] at h1
    simp at h1
    obtain ⟨rfl, rfl⟩ := h1
    rw [addN2, mget_mset] at h2
    split at h2
    ·rename_i e
     cases h2
     exact .inl ⟨rfl, e, rfl⟩
    ·rename_i e
     exact .inr ⟨fun h => e h.2, i, x, hi, h2⟩
   ·rename_i e
    refine .inr ⟨fun h' => ?_, j, y, h1, h2⟩
    obtain ⟨rfl, _⟩ := h'
    exact e (nodup_at h.nd hi h1)
  ·rintro (⟨rfl, rfl, rfl⟩ | ⟨hn, j, y, h1, h2⟩)
   ·exact ⟨i, _, by rw [List.getElem?_set_self hil], by rw [addN2, mget_mset, if_pos rfl]⟩
   ·by_cases e : i = j
    ·subst e
     rw [hi] at h1
     simp at h1
     obtain ⟨rfl, rfl⟩ := h1
     refine ⟨i, _, by rw [List.getElem?_set_self hil], ?_⟩
     rw [addN2, mget_mset, if_neg fun e => hn ⟨rfl, e⟩]
     exact h2
    ·exact ⟨j, y, by rw [List.getElem?_set_ne e]; exact h1, h2⟩
 refine ⟨by rw [hkeys]; exact h.nd, by rw [List.length_set, List.length_append]; have := h.le; omega, ?_, ?_, ?_⟩
 ·intro p hp
  rw [List.length_append, List.length_singleton]
  rcases List.mem_or_eq_of_mem_set hp with hp | rfl
  ·have := h.lei p hp; omega
  ·have h1 := h.lei _ (List.mem_of_getElem? hi)
   have h2 := mset_len x.1 s (((mget x.1 s).getD false) || t)
   show (mset x.1 s _).length ≤ _
   dsimp only at h1
   omega
 ·intro a b u hu
  rcases (hME a b u).1 hu with ⟨rfl, rfl, rfl⟩ | ⟨hn, hu⟩
  ·cases hx : mget x.1 b with
   | none => exact ⟨t, by simp, by simp⟩
   | some v =>
    obtain ⟨t', h1, h2⟩ := h.sound a b v ⟨i, x, hi, hx⟩
    cases t with
    | true => exact ⟨true, by simp, by simp⟩
    | false => exact ⟨t', List.mem_append_left _ h1, by simpa using h2⟩
  ·obtain ⟨t', h1, h2⟩ := h.sound a b u hu
   exact ⟨t', List.mem_append_left _ h1, h2⟩
 ·intro a b u hu
  rcases List.mem_append.1 hu with hu | hu
  ·obtain ⟨t', ⟨j, y, h1, h3⟩, h2⟩ := h.full a b u hu
   by_cases e : a = r ∧ b = s
   ·obtain ⟨rfl, rfl⟩ := e
    have hj := nodup_at h.nd hi h1
    subst hj
    rw [hi] at h1
    simp at h1
    subst h1
    refine ⟨_, (hME _ _ _).2 (.inl ⟨rfl, rfl, rfl⟩), fun hu => ?_⟩
    rw [h3]
    simp [h2 hu]
   ·exact ⟨t', (hME _ _ _).2 (.inr ⟨e, j, y, h1, h3⟩), h2⟩
  ·simp at hu
   obtain ⟨rfl, rfl, rfl⟩ := hu
   exact ⟨_, (hME _ _ _).2 (.inl ⟨rfl, rfl, rfl⟩), or_imp _ _⟩
theorem MInv.circ {T : List Stp} {M : List (Str × Inn)} (h : MInv T M) : Circ (ET T) ↔ Circ (ME M) :=
 ⟨Circ.mono fun a b t => h.full a b t, Circ.mono fun a b t => h.sound a b t⟩
structure GOk (M : List (Str × Inn)) (R : List Str) (G : Adj) : Prop where
 len : G.length = R.length
 nd : R.Nodup
 mem : ∀ a, a ∈ R ↔ a ∈ M.map (·.1)
 sound : ∀ i j t, EG G i j t → j < R.length ∧ ∃ a b, R[i]? = some a ∧ R[j]? = some b ∧ ME M a b t
 full : ∀ i j t a b, R[i]? = some a → R[j]? = some b → ME M a b t → EG G i j t
theorem GOk.circ {M : List (Str × Inn)} {R : List Str} {G : Adj} (h : GOk M R G) : Circ (ME M) ↔ Circ (EG G) := by
 have key : ∀ {a b : Str} {t : Bool}, ME M a b t → a ∈ R := by
  rintro a b t ⟨i, x, h1, _⟩
  exact (h.mem a).2 (List.mem_map.2 ⟨_, List.mem_of_getElem? h1, rfl⟩)
 have at_ : ∀ {a : Str}, a ∈ R → R[R.idxOf a]? = some a := by
  intro a ha
  have hl := List.idxOf_lt_length_of_mem ha
  rw [List.getElem?_eq_getElem hl, List.getElem_idxOf hl]
 constructor
 ·intro hc
  refine Circ.map (fun a => R.idxOf a) ?_ hc.dom
  rintro a b t ⟨h1, c, u, h2⟩
  exact h.full _ _ t a b (at_ (key h1)) (at_ (key h2)) h1
 ·refine Circ.map (fun i => (R[i]?).getD []) ?_
  intro i j t he
  obtain ⟨_, a, b, h1, h2, h3⟩ := h.sound i j t he
  show ME M ((R[i]?).getD []) ((R[j]?).getD []) t
  rw [h1, h2]
  exact h3
open Classical in
noncomputable def rolesE (l : List Ax) : Int := if firstA l ≠ 0 then firstA l else if Circ (ET (stepsL l)) then 60 else 0
end Go.Proofs.YtnemengadjimcaaGreatDoor
namespace Go.Proofs.YtnemengadjimcaaGreatDoor
open Go.Proofs
set_option maxRecDepth 10000
attribute [local irreducible] SemVC CallVC Tri Stuck YVC GenP GenVC
theorem rlCheck_spec (l : List Ax) : Tri Tryz.prog 87 [.d (.sl 16 (l.map axR))] NG (fun r => r = .d (.int .i64 (firstA l))) := by
 refine Tri.len 0 rfl fun hlen => ?_
 rw [List.length_map] at hlen
 refine tri_of_bodyF false [4] hty Tryz.func87 rfl (kp [0, 2, 4, 5, 6, 7, 8, 9, 15]) [] _ _ _ (by simp [Tryz.f87]) (by decide) ?_
 ((conv => whnf); repeat ((first | (intro hq; try simp only [lnS] at hq) | refine sI ?_ | refine .intro _ (.intro rfl ?_)); (conv => whnf)))
 refine loop_rule hty (fun j : Nat => ([(2, .d (.int .i64 0)), (6, .d (.sl 16 (l.map axR))), (7, .d (.int .i64 l.length)), (8, .d (.int .i64 j))], NG)) (fun j => j ≤ l.length ∧ ∀ x ∈ l.take j, axiomE x = 0) (fun j => l.length - j) 0 ⟨by omega, by simp⟩ ⟨by repeat' (first | exact trivial | exact rfl | (rw [List.length_map]; exact rfl) | refine And.intro ?_ ?_), ⟨rfl, rfl, trivial⟩⟩ ?_
 rintro j ⟨hj, hz⟩
 ((conv => whnf); repeat ((first | (intro hq; try simp only [lnS] at hq) | refine sI ?_ | refine .intro _ (.intro rfl ?_)); (conv => whnf)))
 refine brB_dec (fun h1 => ?_) (fun h1 => ?_)
 ·have hjl : j < l.length := by omega
  have hrow := axR_rows hjl
  have hc := checkAxiom_spec l[j]
  have herr := firstA_err hjl hz
  have hz2 : axiomE l[j] = 0 → ∀ x ∈ l.take (j + 1), axiomE x = 0 := fun h2 x hx => by
   rw [List.take_succ_eq_append_getElem hjl] at hx
   rcases List.mem_append.1 hx with hx | hx
   ·exact hz x hx
   ·simp at hx; subst hx; exact h2
  generalize axiomE l[j] = e at *
  generalize l[j] = x at *
  ((conv => whnf); repeat ((first | (refine ⟨_, hrow, ?_⟩) | (refine call_tri NG hc ⟨rfl, rfl, trivial⟩ (fun r hs => ?_); subst hs) | (intro hq; try simp only [lnS] at hq) | refine sI ?_ | refine .intro _ (.intro rfl ?_)); (conv => whnf)))
  refine brB_ndec (fun h2 => ?_) (fun h2 => ?_)
  ·rw [herr h2]
   ((conv => whnf); repeat' ((first | (intro hq; (try simp only [lnS] at hq); (try rewrite [List.length_map])) | refine sJ ?_ | refine .intro _ (.intro rfl ?_) | (refine .intro (show (_ : Nat) < List.length _ from by first | omega | (simp only [lnS]; omega) | simp) ?_) | fail | refine draw_rule hty (by kernel_rfl) (by kernel_rfl) ?_ | ((first | refine brB_dec ?_ ?_ | refine brB_ndec ?_ ?_) <;> intro hb <;> (first | contradiction | ((try simp only [lnS] at hb); try (exfalso; omega)))) | (refine brB_split ?_ ?_ <;> intro hb <;> (first | contradiction | exact bT hb (by assumption) | exact bF hb (by assumption) | skip))) <;> (conv => whnf)))
   rfl
  ·((conv => whnf); repeat' ((first | (intro hq; (try simp only [lnS] at hq); (try rewrite [List.length_map])) | refine sJ ?_ | refine .intro _ (.intro rfl ?_) | (refine .intro (show (_ : Nat) < List.length _ from by first | omega | (simp only [lnS]; omega) | simp) ?_) | fail | refine draw_rule hty (by kernel_rfl) (by kernel_rfl) ?_ | ((first | refine brB_dec ?_ ?_ | refine brB_ndec ?_ ?_) <;> intro hb <;> (first | contradiction | ((try simp only [lnS] at hb); try (exfalso; omega)))) | (refine brB_split ?_ ?_ <;> intro hb <;> (first | contradiction | exact bT hb (by assumption) | exact bF hb (by assumption) | skip))) <;> (conv => whnf)))
   exact ⟨j + 1, ⟨by omega, hz2 (by simpa using h2)⟩, by dsimp only; omega, ⟨by repeat' (first | exact trivial | exact rfl | refine And.intro ?_ ?_), ⟨rfl, rfl, trivial⟩⟩⟩
 ·have hjl : j = l.length := by omega
  subst hjl
  rw [List.take_length] at hz
  rw [firstA_ok hz]
  ((conv => whnf); repeat' ((first | (intro hq; (try simp only [lnS] at hq); (try rewrite [List.length_map])) | refine sJ ?_ | refine .intro _ (.intro rfl ?_) | (refine .intro (show (_ : Nat) < List.length _ from by first | omega | (simp only [lnS]; omega) | simp) ?_) | fail | refine draw_rule hty (by kernel_rfl) (by kernel_rfl) ?_ | ((first | refine brB_dec ?_ ?_ | refine brB_ndec ?_ ?_) <;> intro hb <;> (first | contradiction | ((try simp only [lnS] at hb); try (exfalso; omega)))) | (refine brB_split ?_ ?_ <;> intro hb <;> (first | contradiction | exact bT hb (by assumption) | exact bF hb (by assumption) | skip))) <;> (conv => whnf)))
  rfl
theorem manyR_take (x : Ax) {j : Nat} (h : j < x.roles.length) : (x.roles.take (j + 1)).countP (fun r => decide (r = x.role)) = (x.roles.take j).countP (fun r => decide (r = x.role)) + (if x.roles[j] = x.role then 1 else 0) := by
 rw [List.take_succ_eq_append_getElem h, List.countP_append, List.countP_singleton]
 simp
theorem strR_at {l : List (List UInt8)} {i : Nat} (h : i < l.length) : (l.map strR)[((i : Nat) : Int).toNat]? = some (strR l[i]) := by
 rw [Int.toNat_natCast, List.getElem?_map, List.getElem?_eq_getElem h]; rfl
theorem rolN_at {x : Ax} {i : Nat} (h : i < x.roles.length) : rolN x i = x.roles[i] := by
 rw [rolN, List.getElem?_eq_getElem h]; rfl
theorem exempt_spec (x : Ax) (i : Nat) (hi : i < x.roles.length) (hl : x.roles.length ≤ 1000000) : Tri Tryz.prog 134 [.d (.agg (axR x)), .d (.int .i64 i)] [] (fun r => r = .d (.bool (exemptB x i))) := by
 have hrow := strR_at hi
 have hr := rolN_at hi
 have hx : ∀ c : Nat, manyR x = c → ∀ b, exemptB x i = b → exemptB x i = b := fun _ _ _ h => h
 refine tri_of_bodyF false [2] hty Tryz.func134 rfl (kp [0, 1, 2, 4, 5, 6, 8, 16, 21, 22, 23, 24, 30]) [] _ _ _ (by simp [Tryz.f134]) (by simp) ?_
 ((conv => whnf); repeat ((first | (intro hq; try simp only [lnS] at hq) | refine sI ?_ | refine .intro _ (.intro rfl ?_)); (conv => whnf)))
 refine draw_rule hty (by kernel_rfl) (by kernel_rfl) ?_
 ((conv => whnf); repeat ((first | (refine ⟨_, hrow, ?_⟩) | (intro hq; try simp only [lnS] at hq) | refine sI ?_ | refine .intro _ (.intro rfl ?_)); (conv => whnf)))
 refine brB_ndec (fun h1 => ?_) (fun h1 => ?_)
 ·have hv : exemptB x i = false := by unfold exemptB; rw [hr]; simp [h1]
  rw [hv]
  ((conv => whnf); repeat' ((first | (intro hq; (try simp only [lnS] at hq); (try rewrite [List.length_map])) | refine sJ ?_ | refine .intro _ (.intro rfl ?_) | (refine .intro (show (_ : Nat) < List.length _ from by first | omega | (simp only [lnS]; omega) | simp) ?_) | fail | refine draw_rule hty (by kernel_rfl) (by kernel_rfl) ?_ | ((first | refine brB_dec ?_ ?_ | refine brB_ndec ?_ ?_) <;> intro hb <;> (first | contradiction | ((try simp only [lnS] at hb); try (exfalso; omega)))) | (refine brB_split ?_ ?_ <;> intro hb <;> (first | contradiction | exact bT hb (by assumption) | exact bF hb (by assumption) | skip))) <;> (conv => whnf)))
  rfl
 ·have h1 : x.roles[i] = x.role := by simpa using h1
  ((conv => whnf); repeat ((first | (intro hq; try simp only [lnS] at hq) | refine sI ?_ | refine .intro _ (.intro rfl ?_)); (conv => whnf)))
  refine loop_rule hty (fun j : Nat => ([(1, .d (.int .i64 i)), (2, .ea 16 [axR x] 0 0), (5, .d (.int .i64 x.roles.length)), (6, .d (.int .i64 ((x.roles.take j).countP fun r => decide (r = x.role) : Nat))), (21, .d (.sl 1 (x.roles.map strR))), (22, .d (.int .i64 x.roles.length)), (23, .d (.int .i64 j))], [])) (fun j => j ≤ x.roles.length) (fun j => x.roles.length - j) 0 (by omega) ⟨by repeat' (first | exact trivial | exact rfl | (rw [List.length_map]; exact rfl) | refine And.intro ?_ ?_), trivial⟩ ?_
  rintro j hj
  ((conv => whnf); repeat ((first | (intro hq; try simp only [lnS] at hq) | refine sI ?_ | refine .intro _ (.intro rfl ?_)); (conv => whnf)))
  refine brB_dec (fun h2 => ?_) (fun h2 => ?_)
  ·have hjl : j < x.roles.length := by omega
   have hrow2 := strR_at hjl
   have hm := manyR_take x hjl
   have hcl := List.countP_le_length (p := fun r => decide (r = x.role)) (l := x.roles.take j)
   rw [List.length_take] at hcl
   generalize (x.roles.take j).countP (fun r => decide (r = x.role)) = c at *
   ((conv => whnf); repeat ((first | (refine ⟨_, hrow2, ?_⟩) | (intro hq; try simp only [lnS] at hq) | refine sI ?_ | refine .intro _ (.intro rfl ?_)); (conv => whnf)))
   refine brB_dec (fun h3 => ?_) (fun h3 => ?_)
   ·rw [if_pos h3] at hm
    ((conv => whnf); repeat' ((first | (intro hq; (try simp only [lnS] at hq); (try rewrite [List.length_map])) | refine sJ ?_ | refine .intro _ (.intro rfl ?_) | (refine .intro (show (_ : Nat) < List.length _ from by first | omega | (simp only [lnS]; omega) | simp) ?_) | fail | refine draw_rule hty (by kernel_rfl) (by kernel_rfl) ?_ | ((first | refine brB_dec ?_ ?_ | refine brB_ndec ?_ ?_) <;> intro hb <;> (first | contradiction | ((try simp only [lnS] at hb); try (exfalso; omega)))) | (refine brB_split ?_ ?_ <;> intro hb <;> (first | contradiction | exact bT hb (by assumption) | exact bF hb (by assumption) | skip))) <;> (conv => whnf)))
    refine ⟨j + 1, by omega, by dsimp only; omega, ⟨?_, trivial⟩⟩
    dsimp only
    rw [hm]
    exact by repeat' (first | exact trivial | exact rfl | refine And.intro ?_ ?_)
   ·rw [if_neg h3] at hm
    ((conv => whnf); repeat' ((first | (intro hq; (try simp only [lnS] at hq); (try rewrite [List.length_map])) | refine sJ ?_ | refine .intro _ (.intro rfl ?_) | (refine .intro (show (_ : Nat) < List.length _ from by first | omega | (simp only [lnS]; omega) | simp) ?_) | fail | refine draw_rule hty (by kernel_rfl) (by kernel_rfl) ?_ | ((first | refine brB_dec ?_ ?_ | refine brB_ndec ?_ ?_) <;> intro hb <;> (first | contradiction | ((try simp only [lnS] at hb); try (exfalso; omega)))) | (refine brB_split ?_ ?_ <;> intro hb <;> (first | contradiction | exact bT hb (by assumption) | exact bF hb (by assumption) | skip))) <;> (conv => whnf)))
    refine ⟨j + 1, by omega, by dsimp only; omega, ⟨?_, trivial⟩⟩
    dsimp only
    rw [hm]
    exact by repeat' (first | exact trivial | exact rfl | refine And.intro ?_ ?_)
  ·have hjl : j = x.roles.length := by omega
   subst hjl
   rw [List.take_length]
   have hm : x.roles.countP (fun r => decide (r = x.role)) = manyR x := rfl
   rw [hm]
   have hcl := List.countP_le_length (p := fun r => decide (r = x.role)) (l := x.roles)
   rw [hm] at hcl
   have hv : exemptB x i = ((decide (manyR x = 1) && (decide (i = 0) || decide (i + 1 = x.roles.length))) || (decide (manyR x = 2) && decide (x.roles.length = 2))) := by
    unfold exemptB; rw [hr, h1]; simp
   rw [hv]
   generalize manyR x = c at *
   clear hx hv
   ((conv => whnf); repeat' ((first | (intro hq; (try simp only [lnS] at hq); (try rewrite [List.length_map])) | refine sJ ?_ | refine .intro _ (.intro rfl ?_) | (refine .intro (show (_ : Nat) < List.length _ from by first | omega | (simp only [lnS]; omega) | simp) ?_) | fail | refine draw_rule hty (by kernel_rfl) (by kernel_rfl) ?_ | ((first | refine brB_dec ?_ ?_ | refine brB_ndec ?_ ?_) <;> intro hb <;> (first | contradiction | ((try simp only [lnS] at hb); try (exfalso; omega)))) | (refine brB_split ?_ ?_ <;> intro hb <;> (first | contradiction | exact bT hb (by assumption) | exact bF hb (by assumption) | skip))) <;> (conv => whnf)))
   all_goals (refine bool_eq ?_; rw [Bool.eq_iff_iff]; simp only [Bool.or_eq_true, Bool.and_eq_true, decide_eq_true_eq, Bool.false_eq_true, true_iff, false_iff]; omega)
end Go.Proofs.YtnemengadjimcaaGreatDoor
namespace Go.Proofs.YtnemengadjimcaaGreatDoor
open Go.Proofs
set_option maxRecDepth 10000
attribute [local irreducible] SemVC CallVC Tri Stuck YVC GenP GenVC
def stH (M : List (Str × Inn)) (g : List Nat × Nat) (hp0 : Hp) : Hp := (23, .cells 117 [.xv 33 mapV]) :: (33, .ext (mapX strD (entO 0 M) g.1 g.2)) :: (hpO 0 M ++ hp0)
structure FarH (hp0 : Hp) : Prop where
 lo : ∀ k ∈ idsH hp0, 80 ≤ k ∧ k < 100
 s : subH hp0 hp0
theorem stH_sub {M : List (Str × Inn)} {g : List Nat × Nat} {hp0 : Hp} (F : FarH hp0) : subH (stH M g hp0) (stH M g hp0) := by
 refine subH_iff fun p hp => ?_
 unfold stH at hp ⊢
 rcases List.mem_cons.1 hp with rfl | hp
 ·exact getH_eq
 ·rcases List.mem_cons.1 hp with rfl | hp
  ·exact getH_ne getH_eq (show 23 ≠ 33 by decide)
  ·rcases List.mem_append.1 hp with hp | hp
   ·obtain ⟨i, q, h1, rfl⟩ := hpO_mem 0 M p hp
    exact getH_ne (getH_ne (hpO_get 0 M i q hp0 h1) (by omega)) (by omega)
   ·have h1 := F.lo p.1 (key_ids hp)
    refine getH_ne (getH_ne ?_ (by omega)) (by omega)
    rw [hpO_out 0 M p.1 hp0 (.inl (by omega))]
    exact subH_mem F.s p hp
theorem stH_ids (M : List (Str × Inn)) (g : List Nat × Nat) (hp0 : Hp) (F : FarH hp0) (k : Nat) (hk : k ∈ idsH (stH M g hp0)) : k = 23 ∨ k = 33 ∨ (80 ≤ k ∧ k < 100) ∨ (1000 ≤ k ∧ k < 1000 + M.length) := by
 unfold stH at hk
 rw [idsH_cons, idsH_cons, idsH_app] at hk
 simp only [List.mem_append, List.mem_cons] at hk
 rcases hk with (h | h) | (h | h) | h | h
 ·exact .inl h
 ·have : k ∈ ([33] : List Nat) := h
  simp at this; exact .inr (.inl this)
 ·exact .inr (.inl h)
 ·have h : k ∈ idsE (entO 0 M) := h
  have := entO_lt 0 M k h
  omega
 ·have := hpO_ids 0 M k h; omega
 ·have := F.lo k h; omega
theorem posO_snoc {k : Str} {x : Inn} : ∀ {M : List (Str × Inn)}, posO k M = none → posO k (M ++ [(k, x)]) = some M.length
 | [], _ => by simp [posO]
 | (k', y) :: r, h => by
  rw [posO] at h
  split at h
  ·cases h
  ·rename_i e
   rw [Option.map_eq_none_iff] at h
   rw [List.cons_append, posO, if_neg e, posO_snoc h]; rfl
theorem entO_inn {k : Str} {x y : Inn} : ∀ (n : Nat) (M : List (Str × Inn)), entO n (M ++ [(k, x)]) = entO n (M ++ [(k, y)])
 | _, [] => rfl
 | n, (k', z) :: r => by rw [List.cons_append, List.cons_append, entO, entO, entO_inn (n + 1) r]
theorem mget_entB (s : Str) : ∀ l : List (Str × Bool), mget (entB l) s = (mget l s).map fun b => SV.d (.bool b)
 | [] => rfl
 | (k, b) :: r => by
  show mget ((k, SV.d (.bool b)) :: entB r) s = _
  rw [mget, mget, mget_entB s r]
  split <;> rfl
theorem mset_entB (s : Str) (v : Bool) : ∀ l : List (Str × Bool), mset (entB l) s (.d (.bool v)) = entB (mset l s v)
 | [] => rfl
 | (k, b) :: r => by
  show mset ((k, SV.d (.bool b)) :: entB r) s _ = _
  rw [mset, mset, mset_entB s v r]
  split <;> rfl
theorem look_entB (o : Option Bool) : lookRes false (o.map fun b => SV.d (.bool b)) (.d (.bool false)) = .d (.bool (o.getD false)) := by cases o <;> rfl
theorem stH_new {M : List (Str × Inn)} {r : Str} {x : Inn} {g : List Nat × Nat} {hp0 : Hp} (F : FarH hp0) : subH (stH (M ++ [(r, x)]) g hp0) ((1000 + (0 + M.length), inO x) :: (23, .cells 117 [.xv 33 mapV]) :: (33, .ext (mapX strD (entO 0 (M ++ [(r, x)])) g.1 g.2)) :: (hpO 0 M ++ hp0)) := by
 refine subH_iff fun p hp => ?_
 unfold stH at hp
 rcases List.mem_cons.1 hp with rfl | hp
 ·exact getH_ne getH_eq (show 1000 + (0 + M.length) ≠ 23 by omega)
 ·rcases List.mem_cons.1 hp with rfl | hp
  ·exact getH_ne (getH_ne getH_eq (show 23 ≠ 33 by decide)) (show 1000 + (0 + M.length) ≠ 33 by omega)
  ·rcases List.mem_append.1 hp with hp | hp
   ·rw [hpO_snoc] at hp
    rcases List.mem_append.1 hp with hp | hp
    ·obtain ⟨i, q, h1, rfl⟩ := hpO_mem 0 M p hp
     have hi := (List.getElem?_eq_some_iff.1 h1).1
     exact getH_ne (getH_ne (getH_ne (hpO_get 0 M i q hp0 h1) (show 33 ≠ 1000 + (0 + i) by omega)) (show 23 ≠ 1000 + (0 + i) by omega)) (show 1000 + (0 + M.length) ≠ 1000 + (0 + i) by omega)
    ·simp only [List.mem_singleton] at hp
     subst hp
     exact getH_eq
   ·have h1 := F.lo p.1 (key_ids hp)
    refine getH_ne (getH_ne (getH_ne ?_ (by omega)) (by omega)) (by omega)
    rw [hpO_out 0 M p.1 hp0 (.inl (by omega))]
    exact subH_mem F.s p hp
theorem add_call (M : List (Str × Inn)) (g : List Nat × Nat) (r s : Str) (t : Bool) (hp0 : Hp) (F : FarH hp0) {pin : List Nat} {fr : Fr} {K : SV → Hp → Prop} (hp1 : ∀ k, 1000 ≤ k → k ∉ pin) (hf : ∀ k, 1000 ≤ k → k ∉ idsF fr)
  (hk : ∀ M' g', (∀ T, MInv T M → MInv (T ++ [(r, s, t)]) M') → K (oneOf []) (stH M' g' hp0)) :
  CallVC Tryz.prog pin fr (stH M g hp0) 133 [.d (.str r), .d (.str s), .d (.bool t), .ptr 23 0] K := by
 refine CallVC.weak ?_
 refine call_inlineF false [] hty Tryz.func133 rfl (kp [0, 1, 2, 3, 10]) 40 (by simp [Tryz.f133]) ?_
 cases hpos : posO r M with
 | none =>
  have hm := mget_entO r 0 M
  rw [hpos] at hm
  have hm2 : mget (entO 0 (M ++ [(r, (([], ([], 0)) : Inn))])) r = some (.xv (1000 + (0 + M.length)) mapV) := by
   rw [mget_entO, posO_snoc hpos]; rfl
  unfold stH
  ((conv => whnf); repeat ((first | (intro hq; try simp only [lnS] at hq) | refine sI ?_ | refine .intro _ (.intro rfl ?_)); (conv => whnf)))
  refine lookup_map (id := 33) (ents := entO 0 M) (k := r) (bs := g.1) (clock := g.2) rfl rfl (keyT_str rfl) rfl rfl rfl rfl ?_
  rw [hm]
  ((conv => whnf); repeat ((first | (intro hq; try simp only [lnS] at hq) | refine sI ?_ | refine .intro _ (.intro rfl ?_)); (conv => whnf)))
  refine bin_nilmap rfl rfl true rfl (.inr ⟨rfl, rfl⟩) rfl ?_
  ((conv => whnf); repeat ((first | (intro hq; try simp only [lnS] at hq) | refine sI ?_ | refine .intro _ (.intro rfl ?_)); (conv => whnf)))
  refine make_map rfl rfl strD (1000 + (0 + M.length)) ⟨?_, ?_, ?_⟩ ?_
  ·rw [List.mem_append]; exact fun h => h.elim (hp1 _ (by omega)) (hf _ (by omega))
  ·simp [idsF_nil, idsF_cons, SV.ids]; omega
  ·intro h
   have := stH_ids M g hp0 F _ h
   omega
  ((conv => whnf); repeat ((first | (intro hq; try simp only [lnS] at hq) | refine sI ?_ | refine .intro _ (.intro rfl ?_)); (conv => whnf)))
  refine update_map (id := 33) (ents := entO 0 M) (k := r) (.inl rfl) rfl (keyT_str rfl) rfl (getH_ne (getH_ne getH_eq (by decide)) (by omega)) rfl rfl (fun bs ck => ?_)
  rw [setH_ne (by omega), setH_ne (by decide), setH_eq, mset_entO 0 M ([], ([], 0)) hpos]
  generalize hE : entO 0 (M ++ [(r, (([], ([], 0)) : Inn))]) = EE at *
  ((conv => whnf); repeat ((first | (intro hq; try simp only [lnS] at hq) | refine sI ?_ | refine .intro _ (.intro rfl ?_)); (conv => whnf)))
  rw [getH_ne getH_eq (by omega)]
  ((conv => whnf); repeat ((first | (intro hq; try simp only [lnS] at hq) | refine sI ?_ | refine .intro _ (.intro rfl ?_)); (conv => whnf)))
  refine lookup_map (id := 33) (ents := EE) (k := r) (bs := bs) (clock := ck) rfl rfl (keyT_str rfl) rfl rfl (getH_ne (getH_ne getH_eq (by decide)) (by omega)) rfl ?_
  rw [hm2]
  ((conv => whnf); repeat ((first | (intro hq; try simp only [lnS] at hq) | refine sI ?_ | refine .intro _ (.intro rfl ?_)); (conv => whnf)))
  rw [getH_ne getH_eq (by omega)]
  ((conv => whnf); repeat ((first | (intro hq; try simp only [lnS] at hq) | refine sI ?_ | refine .intro _ (.intro rfl ?_)); (conv => whnf)))
  refine lookup_map (id := 33) (ents := EE) (k := r) (bs := bs) (clock := ck) rfl rfl (keyT_str rfl) rfl rfl (getH_ne (getH_ne getH_eq (by decide)) (by omega)) rfl ?_
  rw [hm2]
  ((conv => whnf); repeat ((first | (intro hq; try simp only [lnS] at hq) | refine sI ?_ | refine .intro _ (.intro rfl ?_)); (conv => whnf)))
  refine lookup_map (id := 1000 + (0 + M.length)) (ents := []) (k := s) (bs := []) (clock := 0) rfl rfl (keyT_str rfl) rfl rfl getH_eq rfl ?_
  ((conv => whnf); repeat ((first | (intro hq; try simp only [lnS] at hq) | refine sI ?_ | refine .intro _ (.intro rfl ?_)); (conv => whnf)))
  refine update_map (id := 1000 + (0 + M.length)) (ents := []) (k := s) (.inl rfl) rfl (keyT_str rfl) rfl getH_eq rfl rfl (fun bs2 ck2 => ?_)
  rw [setH_eq]
  ((conv => whnf); repeat ((first | (intro hq; try simp only [lnS] at hq) | refine sI ?_ | refine .intro _ (.intro rfl ?_)); (conv => whnf)))
  have hE2 : EE = entO 0 (M ++ [(r, (([(s, t)], (bs2, ck2)) : Inn))]) := by rw [← hE]; exact entO_inn 0 M
  subst hE2
  exact ⟨_, stH_new F, hk _ (bs, ck) (fun T h => h.new t (bs2, ck2) hpos)⟩
 | some i =>
  obtain ⟨x, hi⟩ := posO_some hpos
  have hil := (List.getElem?_eq_some_iff.1 hi).1
  have hm := mget_entO r 0 M
  rw [hpos] at hm
  have hgi := hpO_get 0 M i _ hp0 hi
  have hse := fun y => hpO_set 0 M i r y hp0 hil
  have hes := fun y => entO_set 0 M i r x y hi
  have hl := look_entB (mget x.1 s)
  rw [← mget_entB] at hl
  have hadd : ∀ v bs ck, v = ((mget x.1 s).getD false || t) → HObj.ext (mapX strD (mset (entB x.1) s (.d (.bool v))) bs ck) = inO (addN2 x s t (bs, ck)) := fun v bs ck h => by
   rw [mset_entB, h]; rfl
  generalize (mget x.1 s).getD false = old at *
  unfold stH
  ((conv => whnf); repeat ((first | (intro hq; try simp only [lnS] at hq) | refine sI ?_ | refine .intro _ (.intro rfl ?_)); (conv => whnf)))
  refine lookup_map (id := 33) (ents := entO 0 M) (k := r) (bs := g.1) (clock := g.2) rfl rfl (keyT_str rfl) rfl rfl rfl rfl ?_
  rw [hm]
  ((conv => whnf); repeat ((first | (intro hq; try simp only [lnS] at hq) | refine sI ?_ | refine .intro _ (.intro rfl ?_)); (conv => whnf)))
  refine bin_nilmap rfl rfl false rfl (.inl ⟨_, rfl, rfl⟩) rfl ?_
  ((conv => whnf); repeat ((first | (intro hq; try simp only [lnS] at hq) | refine sI ?_ | refine .intro _ (.intro rfl ?_)); (conv => whnf)))
  refine lookup_map (id := 33) (ents := entO 0 M) (k := r) (bs := g.1) (clock := g.2) rfl rfl (keyT_str rfl) rfl rfl rfl rfl ?_
  rw [hm]
  ((conv => whnf); repeat ((first | (intro hq; try simp only [lnS] at hq) | refine sI ?_ | refine .intro _ (.intro rfl ?_)); (conv => whnf)))
  refine lookup_map (id := 33) (ents := entO 0 M) (k := r) (bs := g.1) (clock := g.2) rfl rfl (keyT_str rfl) rfl rfl rfl rfl ?_
  rw [hm]
  ((conv => whnf); repeat ((first | (intro hq; try simp only [lnS] at hq) | refine sI ?_ | refine .intro _ (.intro rfl ?_)); (conv => whnf)))
  refine lookup_map (id := 1000 + (0 + i)) (ents := entB x.1) (k := s) (bs := x.2.1) (clock := x.2.2) rfl rfl (keyT_str rfl) rfl rfl (getH_ne (getH_ne hgi (by omega)) (by omega)) rfl ?_
  rw [show ofV (Value.bool false) = SV.d (.bool false) from rfl, hl]
  have fin : ∀ v, v = (old || t) → ∀ bs ck, ∃ hp'', subH hp'' (setH ((23, .cells 117 [.xv 33 mapV]) :: (33, .ext (mapX strD (entO 0 M) g.1 g.2)) :: (hpO 0 M ++ hp0)) (1000 + (0 + i)) (.ext (mapX strD (mset (entB x.1) s (.d (.bool v))) bs ck))) ∧ K (oneOf []) hp'' := by
   intro v hv bs ck
   rw [hadd v bs ck hv, setH_ne (by omega), setH_ne (by omega), hse, ← hes (addN2 x s t (bs, ck))]
   exact ⟨_, stH_sub F, hk _ g (fun T h => h.upd t (bs, ck) hi)⟩
  cases old
  ·((conv => whnf); repeat ((first | (intro hq; try simp only [lnS] at hq) | refine sI ?_ | refine .intro _ (.intro rfl ?_)); (conv => whnf)))
   refine update_map (id := 1000 + (0 + i)) (ents := entB x.1) (k := s) (.inl rfl) rfl (keyT_str rfl) rfl (getH_ne (getH_ne hgi (by omega)) (by omega)) rfl rfl (fun bs2 ck2 => ?_)
   ((conv => whnf); repeat ((first | (intro hq; try simp only [lnS] at hq) | refine sI ?_ | refine .intro _ (.intro rfl ?_)); (conv => whnf)))
   exact fin t (by simp) bs2 ck2
  ·((conv => whnf); repeat ((first | (intro hq; try simp only [lnS] at hq) | refine sI ?_ | refine .intro _ (.intro rfl ?_)); (conv => whnf)))
   refine update_map (id := 1000 + (0 + i)) (ents := entB x.1) (k := s) (.inl rfl) rfl (keyT_str rfl) rfl (getH_ne (getH_ne hgi (by omega)) (by omega)) rfl rfl (fun bs2 ck2 => ?_)
   ((conv => whnf); repeat ((first | (intro hq; try simp only [lnS] at hq) | refine sI ?_ | refine .intro _ (.intro rfl ?_)); (conv => whnf)))
   exact fin true (by simp) bs2 ck2
end Go.Proofs.YtnemengadjimcaaGreatDoor
namespace Go.Proofs.YtnemengadjimcaaGreatDoor
open Go.Proofs
def hasK (k : Int) (c : Cn) (s : List UInt8) : Prop := ∃ n ∈ nodes c, n.kind = k ∧ n.name = s
def axA (x : Ax) (s : List UInt8) : Prop := hasK 3 x.left s ∨ hasK 3 x.right s
def axB (x : Ax) (s : List UInt8) : Prop := hasK 6 x.left s ∨ hasK 6 x.right s ∨ s ∈ x.roles ∨ x.role = s
def axC (x : Ax) (s : List UInt8) : Prop := hasK 7 x.left s ∨ hasK 7 x.right s
def axD (x : Ax) (s : List UInt8) : Prop := hasK 4 x.left s ∨ hasK 4 x.right s ∨ x.a = s ∨ x.b = s
end Go.Proofs.YtnemengadjimcaaGreatDoor
