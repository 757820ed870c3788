/-
  Rename: other names in concepts and axioms, plainly. Terms: order, repetition and grouping of parts do not change the canonical form (plainly). Terms: the reference's order, Strings, Size and Compare. The walk through the reference's keyword.
  Conditions: none.
-/
import Derived.Test.YtnemengadjimcaaGreatDoorMA1
import Derived.Test.YtnemengadjimcaaGreatDoorMQf
import Derived.Test.YtnemengadjimcaaGreatDoorMAc
import Derived.Test.YtnemengadjimcaaGreatDoorMG2
set_option linter.unnecessarySimpa false
set_option linter.unusedSectionVars false
set_option linter.unusedSimpArgs false
set_option linter.unusedVariables false
namespace Go.Proofs.YtnemengadjimcaaGreatDoor
open Go.Proofs
def renN (g : Int → List UInt8 → List UInt8) (k : Int) (n : List UInt8) : List UInt8 :=
 if k = 3 then g 1 n else if k = 6 then g 2 n else if k = 7 then g 3 n else if k = 4 then g 4 n else n
mutual
def renC (g : Int → List UInt8 → List UInt8) : Cn → Cn
 | .mk k n lo hi ps => .mk k (renN g k n) lo hi (renL g ps)
def renL (g : Int → List UInt8 → List UInt8) : List Cn → List Cn
 | [] => []
 | c :: r => renC g c :: renL g r
end
theorem renL_map (g : Int → List UInt8 → List UInt8) : ∀ l, renL g l = l.map (renC g)
 | [] => rfl
 | c :: r => by rw [renL, renL_map g r]; rfl
theorem renC_eq (g : Int → List UInt8 → List UInt8) (c : Cn) : renC g c = .mk c.kind (renN g c.kind c.name) c.lo c.hi (c.parts.map (renC g)) := by
 cases c; rw [renC, renL_map]; rfl
theorem renC_kind (g : Int → List UInt8 → List UInt8) (c : Cn) : (renC g c).kind = c.kind := by rw [renC_eq]; rfl
theorem renC_parts (g : Int → List UInt8 → List UInt8) (c : Cn) : (renC g c).parts = c.parts.map (renC g) := by rw [renC_eq]; rfl
theorem renC_name (g : Int → List UInt8 → List UInt8) (c : Cn) : (renC g c).name = renN g c.kind c.name := by rw [renC_eq]; rfl
def renX (g : Int → List UInt8 → List UInt8) (x : Ax) : Ax := { x with left := renC g x.left, right := renC g x.right, roles := x.roles.map (g 2), role := g 2 x.role, a := g 4 x.a, b := g 4 x.b }
end Go.Proofs.YtnemengadjimcaaGreatDoor
namespace Go.Proofs.YtnemengadjimcaaGreatDoor
open Go.Proofs
theorem conjS_err (s : List Cn) : (conjS s).2 = 0 ∨ (conjS s).2 = 2 := by
 unfold conjS
 split
 ·exact .inl rfl
 ·split
  ·exact .inl rfl
  ·split
   ·exact .inl rfl
   ·split
    ·exact .inr rfl
    ·exact .inl rfl
theorem tidyC_err : ∀ c : Cn, (tidyC c).2 = 0 ∨ (tidyC c).2 = 2 := by
 refine Cn.ind ?_
 intro c ih
 rw [tidyC_eq]
 split
 ·cases hps : c.parts with
  | nil => exact .inl rfl
  | cons p r =>
   simp only [List.map_cons, someF]
   have := ih p (by rw [hps]; simp)
   split
   ·exact this
   ·exact .inl rfl
 ·split
  ·unfold meetF
   split
   ·rename_i r hr
    have h1 := List.mem_of_find?_eq_some hr
    obtain ⟨p, hp, rfl⟩ := List.mem_map.1 h1
    exact ih p hp
   ·exact conjS_err _
  ·exact .inl rfl
def flatT (l : List Cn) : List Cn := (l.map tidyC).flatMap fun r => partsF r.1
theorem mem_flatT {x : Cn} {l : List Cn} : x ∈ flatT l ↔ ∃ p ∈ l, x ∈ partsF (tidyC p).1 := by
 unfold flatT
 rw [List.mem_flatMap]
 constructor
 ·rintro ⟨r, hr, hx⟩
  obtain ⟨p, hp, rfl⟩ := List.mem_map.1 hr
  exact ⟨p, hp, hx⟩
 ·rintro ⟨p, hp, hx⟩
  exact ⟨_, List.mem_map_of_mem hp, hx⟩
theorem meet_bad {l : List Cn} (h : ∃ p ∈ l, (tidyC p).2 ≠ 0) : meetF (l.map tidyC) = (c0, 2) := by
 unfold meetF
 split
 ·rename_i r hr
  have h1 := List.mem_of_find?_eq_some hr
  have h2 := List.find?_some hr
  obtain ⟨p, hp, rfl⟩ := List.mem_map.1 h1
  simp only [decide_eq_true_eq] at h2
  rw [(tidyC_err p).resolve_left h2]
 ·rename_i hn
  obtain ⟨p, hp, h⟩ := h
  have := List.find?_eq_none.1 hn (tidyC p) (List.mem_map_of_mem hp)
  simp only [decide_eq_true_eq, ne_eq, Classical.not_not] at this
  exact absurd this h
theorem meet_ok {l : List Cn} (h : ∀ p ∈ l, (tidyC p).2 = 0) : meetF (l.map tidyC) = conjS (setC (flatT l)) := by
 unfold meetF
 split
 ·rename_i r hr
  have h1 := List.mem_of_find?_eq_some hr
  have h2 := List.find?_some hr
  obtain ⟨p, hp, rfl⟩ := List.mem_map.1 h1
  simp only [decide_eq_true_eq] at h2
  exact absurd (h p hp) h2
 ·rfl
theorem meet_zero {l : List Cn} (h : (meetF (l.map tidyC)).2 = 0) : ∀ p ∈ l, (tidyC p).2 = 0 := fun p hp => Classical.byContradiction fun h' => by
 rw [meet_bad ⟨p, hp, h'⟩] at h
 exact absurd h (by decide)
theorem flat_tidy : ∀ c : Cn, (tidyC c).2 = 0 → ∀ m ∈ partsF (tidyC c).1, m.kind ≠ 1 ∧ m.kind ≠ 5 := by
 refine Cn.ind ?_
 intro c ih h0
 have self : ∀ x : Cn, x.kind ≠ 5 → ∀ m ∈ partsF x, m.kind ≠ 1 ∧ m.kind ≠ 5 := fun x h5 m hm => by
  unfold partsF at hm
  split at hm
  ·simp at hm
  ·rename_i h1
   have hm : m ∈ [x] := by simpa only [if_neg h5] using hm
   simp only [List.mem_singleton] at hm
   subst hm
   exact ⟨h1, h5⟩
 rw [tidyC_eq] at h0 ⊢
 split
 ·rename_i h6
  rw [if_pos h6] at h0
  cases hps : c.parts with
  | nil => exact self _ (by show (0 : Int) ≠ 5; decide)
  | cons p r =>
   rw [hps] at h0
   simp only [List.map_cons, someF] at h0 ⊢
   split
   ·rename_i hb
    rw [if_pos hb] at h0
    have h2 : (tidyC p).1.kind = 2 := by rcases hb with hb | hb; exact absurd h0 hb; exact hb
    exact self _ (by rw [h2]; decide)
   ·exact self _ (by show (6 : Int) ≠ 5; decide)
 ·rename_i h6
  rw [if_neg h6] at h0
  split
  ·rename_i h5
   rw [if_pos h5] at h0
   have hz := meet_zero h0
   rw [meet_ok hz] at h0 ⊢
   have hS : ∀ m ∈ setC (flatT c.parts), m.kind ≠ 1 ∧ m.kind ≠ 5 := fun m hm => by
    rw [mem_setC, mem_flatT] at hm
    obtain ⟨p, hp, hm⟩ := hm
    exact ih p hp (hz p hp) m hm
   generalize setC (flatT c.parts) = s at h0 hS ⊢
   unfold conjS at h0 ⊢
   split
   ·rename_i t ht
    have := List.find?_some ht
    simp only [decide_eq_true_eq] at this
    exact self _ (by show t.kind ≠ 5; rw [this]; decide)
   ·rename_i hn
    rw [hn] at h0
    simp only at h0
    split
    ·exact self _ (by show (1 : Int) ≠ 5; decide)
    ·rename_i e0
     rw [if_neg e0] at h0
     split
     ·rename_i e1
      match s, e1, hS with
      | [x], _, hS => exact self x (hS x (by simp)).2
     ·rename_i e1
      rw [if_neg e1] at h0
      split
      ·rename_i e2; rw [if_pos e2] at h0; exact absurd h0 (by decide)
      ·intro m hm
       rw [show partsF (.mk 5 [] 0 0 s) = s from rfl] at hm
       exact hS m hm
  ·rename_i h5; exact self c h5
theorem bottom_eq {c : Cn} (h : Okn c) (hk : c.kind = 2) : c = .mk 2 [] 0 0 [] := by
 have hf := ((okn_iff c).1 h).1
 rw [fieldsE_at hk (by decide), fieldsN_zero rfl] at hf
 obtain ⟨⟨_, h2, h3⟩, ⟨h4, h5⟩, _⟩ := hf
 obtain ⟨k, n, lo, hi, ps⟩ := c
 have q1 : k = 2 := hk
 have q2 : (ps.length : Int) ≤ 0 := h2
 have q3 : n = [] := h3 rfl
 have q4 : lo = 0 := h4
 have q5 : hi = 0 := h5
 have q6 : ps = [] := List.eq_nil_of_length_eq_zero (by omega)
 rw [q1, q3, q4, q5, q6]
theorem partsF_okn {c m : Cn} (h : Okn c) (hm : m ∈ partsF c) : Okn m := by
 unfold partsF at hm
 split at hm
 ·simp at hm
 ·split at hm
  ·exact ((okn_iff c).1 h).2 m hm
  ·simp only [List.mem_singleton] at hm; subst hm; exact h
theorem conjS_bot {s : List Cn} (hs : ∀ m ∈ s, Okn m) (h : ∃ t ∈ s, t.kind = 2) : conjS s = (.mk 2 [] 0 0 [], 0) := by
 unfold conjS
 split
 ·rename_i t ht
  have h1 := List.find?_some ht
  simp only [decide_eq_true_eq] at h1
  rw [bottom_eq (hs t (List.mem_of_find?_eq_some ht)) h1]
 ·rename_i hn
  obtain ⟨t, ht, hk⟩ := h
  have := List.find?_eq_none.1 hn t ht
  simp only [decide_eq_true_eq] at this
  exact absurd hk this
end Go.Proofs.YtnemengadjimcaaGreatDoor
namespace Go.Proofs.YtnemengadjimcaaGreatDoor
open Go.Proofs
set_option maxRecDepth 10000
attribute [local irreducible] SemVC CallVC Tri Stuck YVC GenP GenVC
end Go.Proofs.YtnemengadjimcaaGreatDoor
namespace Go.Proofs.YtnemengadjimcaaGreatDoor
open Go.Proofs
set_option maxRecDepth 10000
attribute [local irreducible] SemVC CallVC Tri Stuck
end Go.Proofs.YtnemengadjimcaaGreatDoor
