/-
  Terms: the reference's Depth, shape, named, walk, CheckConcept. Rename: other names in concepts, plainly; tidying and renaming.
  Conditions: none.
-/
import Derived.Test.YtnemengadjimcaaGreatDoorMGr
import Derived.Test.YtnemengadjimcaaGreatDoorMG4
set_option linter.unnecessarySimpa false
set_option linter.unusedSectionVars false
set_option linter.unusedSimpArgs false
set_option linter.unusedVariables false
namespace Go.Proofs.YtnemengadjimcaaGreatDoor
open Go.Proofs
set_option maxRecDepth 10000
attribute [local irreducible] SemVC CallVC Tri Stuck YVC GenP GenVC
def shapeF (c : Cn) : Bool :=
 if c.kind = 1 ∨ c.kind = 2 then decide (c.lo = 0) && (decide (c.hi = 0) && (decide (c.name = []) && decide (c.parts.length = 0)))
 else if c.kind = 3 ∨ c.kind = 4 then decide (c.lo = 0) && (decide (c.hi = 0) && decide (c.parts.length = 0))
 else if c.kind = 5 then decide (c.lo = 0) && (decide (c.hi = 0) && (decide (c.name = []) && (decide (2 ≤ c.parts.length) && decide (c.parts.length ≤ 8))))
 else if c.kind = 6 then decide (c.lo = 0) && (decide (c.hi = 0) && decide (c.parts.length = 1))
 else if c.kind = 7 then decide (c.parts.length = 0) && (decide (-1099511627776 ≤ c.lo) && (decide (c.lo ≤ c.hi) && decide (c.hi ≤ 1099511627776)))
 else false
def namedC (c : Cn) : Bool := if c.kind = 3 ∨ c.kind = 6 ∨ c.kind = 7 then plainF c.name else if c.kind = 4 then nameF c.name else true
theorem fieldsE_ref (c : Cn) : fieldsE c = if shapeF c = false then 21 else if namedC c = false then 20 else 0 := by
 by_cases h : c.kind < 1 ∨ 7 < c.kind
 ·have e : shapeF c = false := by
   unfold shapeF
   rw [if_neg (by omega), if_neg (by omega), if_neg (by omega), if_neg (by omega), if_neg (by omega)]
  rw [e, if_pos rfl, fieldsE, if_pos h]
 ·have hk : c.kind = 1 ∨ c.kind = 2 ∨ c.kind = 3 ∨ c.kind = 4 ∨ c.kind = 5 ∨ c.kind = 6 ∨ c.kind = 7 := by omega
  have hE : fieldsE c = fieldsN (needAt c.kind) c := by rw [fieldsE, if_neg h]
  rw [hE]
  clear hE h
  have n1 : needAt 1 = ⟨0, 0, 0, false⟩ := rfl
  have n2 : needAt 2 = ⟨0, 0, 0, false⟩ := rfl
  have n3 : needAt 3 = ⟨1, 0, 0, false⟩ := rfl
  have n4 : needAt 4 = ⟨2, 0, 0, false⟩ := rfl
  have n5 : needAt 5 = ⟨0, 2, 8, false⟩ := rfl
  have n6 : needAt 6 = ⟨1, 1, 1, false⟩ := rfl
  have n7 : needAt 7 = ⟨1, 0, 0, true⟩ := rfl
  unfold shapeF namedC fieldsN nameE nameF
  generalize c.parts.length = m
  rcases hk with hk | hk | hk | hk | hk | hk | hk <;> rw [hk] <;> simp only [n1, n2, n3, n4, n5, n6, n7]
  all_goals
   cases plainF c.name <;> cases resF c.name <;> simp
   all_goals (repeat' split) <;> simp_all <;> omega
end Go.Proofs.YtnemengadjimcaaGreatDoor
namespace Go.Proofs.YtnemengadjimcaaGreatDoor
open Go.Proofs
structure RenOK (g : Int → List UInt8 → List UInt8) : Prop where
 plain : ∀ k s, plainF s = true → plainF (g k s) = true
 name : ∀ k s, nameF s = true → nameF (g k s) = true
theorem shapeF_mk (k : Int) (n : List UInt8) (lo hi : Int) (ps : List Cn) : shapeF (.mk k n lo hi ps) =
 if k = 1 ∨ k = 2 then decide (lo = 0) && (decide (hi = 0) && (decide (n = []) && decide (ps.length = 0)))
 else if k = 3 ∨ k = 4 then decide (lo = 0) && (decide (hi = 0) && decide (ps.length = 0))
 else if k = 5 then decide (lo = 0) && (decide (hi = 0) && (decide (n = []) && (decide (2 ≤ ps.length) && decide (ps.length ≤ 8))))
 else if k = 6 then decide (lo = 0) && (decide (hi = 0) && decide (ps.length = 1))
 else if k = 7 then decide (ps.length = 0) && (decide (-1099511627776 ≤ lo) && (decide (lo ≤ hi) && decide (hi ≤ 1099511627776)))
 else false := rfl
theorem namedC_mk (k : Int) (n : List UInt8) (lo hi : Int) (ps : List Cn) : namedC (.mk k n lo hi ps) = if k = 3 ∨ k = 6 ∨ k = 7 then plainF n else if k = 4 then nameF n else true := rfl
theorem renC_fields {g : Int → List UInt8 → List UInt8} (hg : RenOK g) {c : Cn} (h : fieldsE c = 0) : fieldsE (renC g c) = 0 := by
 rw [fieldsE_ref] at h ⊢
 have h1 : shapeF c = true := by
  cases e : shapeF c
  ·rw [e, if_pos rfl] at h; cases h
  ·rfl
 rw [h1, if_neg (by decide)] at h
 have h2 : namedC c = true := by
  cases e : namedC c
  ·rw [e, if_pos rfl] at h; cases h
  ·rfl
 have s1 : shapeF (renC g c) = true := by
  rw [renC_eq]
  obtain ⟨k, n, lo, hi, ps⟩ := c
  show shapeF (.mk k (renN g k n) lo hi (ps.map (renC g))) = true
  rw [shapeF_mk] at h1 ⊢
  simp only [List.length_map, renN] at h1 ⊢
  by_cases k1 : k = 1
  ·subst k1; simpa using h1
  by_cases k2 : k = 2
  ·subst k2; simpa using h1
  by_cases k3 : k = 3
  ·subst k3; simpa using h1
  by_cases k4 : k = 4
  ·subst k4; simpa using h1
  by_cases k5 : k = 5
  ·subst k5; simpa using h1
  by_cases k6 : k = 6
  ·subst k6; simpa using h1
  by_cases k7 : k = 7
  ·subst k7; simpa using h1
  simp [k1, k2, k3, k4, k5, k6, k7] at h1
 have s2 : namedC (renC g c) = true := by
  rw [renC_eq]
  obtain ⟨k, n, lo, hi, ps⟩ := c
  show namedC (.mk k (renN g k n) lo hi (ps.map (renC g))) = true
  rw [namedC_mk] at h2 ⊢
  simp only [renN] at h2 ⊢
  by_cases k3 : k = 3
  ·subst k3
   have h2 : plainF n = true := by simpa using h2
   simpa using hg.plain _ _ h2
  by_cases k6 : k = 6
  ·subst k6
   have h2 : plainF n = true := by simpa using h2
   simpa using hg.plain _ _ h2
  by_cases k7 : k = 7
  ·subst k7
   have h2 : plainF n = true := by simpa using h2
   simpa using hg.plain _ _ h2
  by_cases k4 : k = 4
  ·subst k4
   have h2 : nameF n = true := by simpa using h2
   simpa using hg.name _ _ h2
  simp [k3, k4, k6, k7]
 rw [s1, s2]; simp
theorem renC_okn {g : Int → List UInt8 → List UInt8} (hg : RenOK g) : ∀ c : Cn, Okn c → Okn (renC g c) := by
 refine Cn.ind ?_
 intro c ih h
 rw [okn_iff] at h ⊢
 refine ⟨renC_fields hg h.1, fun p hp => ?_⟩
 rw [renC_parts] at hp
 obtain ⟨q, hq, rfl⟩ := List.mem_map.1 hp
 exact ih q hq (h.2 q hq)
theorem renC_size (g : Int → List UInt8 → List UInt8) : ∀ c : Cn, sizeF (renC g c) = sizeF c := by
 refine Cn.ind ?_
 intro c ih
 rw [sizeF_sum, sizeF_sum, renC_parts]
 congr 1
 revert ih
 generalize c.parts = l
 induction l with
 | nil => intro _; rfl
 | cons x r ihr =>
  intro ih
  rw [List.map_cons, sumN_cons, sumN_cons, ih x (by simp), ihr fun q hq => ih q (by simp [hq])]
theorem renC_depth (g : Int → List UInt8 → List UInt8) : ∀ c : Cn, depthF (renC g c) = depthF c := by
 refine Cn.ind ?_
 intro c ih
 rw [depthF_eq, depthF_eq, renC_parts]
 revert ih
 generalize c.parts = l
 induction l with
 | nil => intro _; rfl
 | cons x r ihr =>
  intro ih
  rw [List.map_cons, depthL, depthL, ih x (by simp), ihr fun q hq => ih q (by simp [hq])]
theorem renC_concept {g : Int → List UInt8 → List UInt8} (hg : RenOK g) {c : Cn} (h : conceptE c = 0) : conceptE (renC g c) = 0 := by
 obtain ⟨h1, h2, h3⟩ := (conceptE_iff c).1 h
 exact (conceptE_iff _).2 ⟨by rw [renC_depth]; exact h1, by rw [renC_size]; exact h2, renC_okn hg c h3⟩
mutual
def botF : Cn → Bool
 | .mk k _ _ _ ps => if k = 2 then true else if k = 5 ∨ k = 6 then botL ps else false
def botL : List Cn → Bool
 | [] => false
 | c :: r => botF c || botL r
end
theorem botL_iff : ∀ l, botL l = true ↔ ∃ p ∈ l, botF p = true
 | [] => by simp [botL]
 | c :: r => by rw [botL, Bool.or_eq_true, botL_iff r]; simp
theorem botF_eq (c : Cn) : botF c = if c.kind = 2 then true else if c.kind = 5 ∨ c.kind = 6 then botL c.parts else false := by cases c; rw [botF]; rfl
theorem renC_bot (g : Int → List UInt8 → List UInt8) : ∀ c : Cn, botF (renC g c) = botF c := by
 refine Cn.ind ?_
 intro c ih
 rw [botF_eq, botF_eq, renC_kind, renC_parts]
 have : botL (c.parts.map (renC g)) = botL c.parts := by
  rw [Bool.eq_iff_iff, botL_iff, botL_iff]
  constructor
  ·rintro ⟨p, hp, h⟩
   obtain ⟨q, hq, rfl⟩ := List.mem_map.1 hp
   exact ⟨q, hq, by rw [← ih q hq]; exact h⟩
  ·rintro ⟨q, hq, h⟩
   exact ⟨_, List.mem_map_of_mem hq, by rw [ih q hq]; exact h⟩
 rw [this]
theorem conjS_ok {s : List Cn} (hb : ∀ t ∈ s, t.kind ≠ 2) (h0 : (conjS s).2 = 0) : (s = [] ∧ (conjS s).1 = topC) ∨ (∃ x, s = [x] ∧ (conjS s).1 = x) ∨ ((conjS s).1 = .mk 5 [] 0 0 s ∧ 2 ≤ s.length ∧ s.length ≤ 8) := by
 have hn : s.find? (fun t => decide (t.kind = 2)) = none := List.find?_eq_none.2 fun t ht hk => hb t ht (by simpa using hk)
 unfold conjS at h0 ⊢
 rw [hn] at h0 ⊢
 simp only at h0 ⊢
 split
 ·rename_i e; exact .inl ⟨List.eq_nil_of_length_eq_zero e, rfl⟩
 ·rename_i e0
  rw [if_neg e0] at h0
  split
  ·rename_i e1
   obtain ⟨x, rfl⟩ := List.length_eq_one_iff.1 e1
   exact .inr (.inl ⟨x, rfl, rfl⟩)
  ·rename_i e1
   rw [if_neg e1] at h0
   split
   ·rename_i e2; rw [if_pos e2] at h0; cases h0
   ·exact .inr (.inr ⟨rfl, by omega, by omega⟩)
theorem conjS_short {s : List Cn} (h : s.length ≤ 8) : (conjS s).2 = 0 := by
 unfold conjS
 split
 ·rfl
 ·split
  ·rfl
  ·split
   ·rfl
   ·rw [if_neg (by omega)]
theorem tidy_and {c : Cn} (hk : c.kind = 5) : tidyC c = meetF (c.parts.map tidyC) := by rw [tidyC_eq, if_neg (by omega), if_pos hk]
theorem tidy_self {c : Cn} (h5 : c.kind ≠ 5) (h6 : c.kind ≠ 6) : tidyC c = (c, 0) := by rw [tidyC_eq, if_neg h6, if_neg h5]
theorem tidy_some {c p : Cn} (hk : c.kind = 6) (hp : c.parts = [p]) : tidyC c = if (tidyC p).2 ≠ 0 ∨ (tidyC p).1.kind = 2 then tidyC p else (.mk 6 c.name 0 0 [(tidyC p).1], 0) := by
 rw [tidyC_eq, if_pos hk, hp]; rfl
theorem okn_part {c : Cn} (h : Okn c) (hk : c.kind = 6) : ∃ p, c.parts = [p] ∧ Okn p := by
 have hf := ((okn_iff c).1 h).1
 rw [fieldsE_at hk (by decide), fieldsN_zero rfl] at hf
 have h1 : (1 : Int) ≤ (c.parts.length : Int) := hf.1.1
 have h2 : (c.parts.length : Int) ≤ 1 := hf.1.2.1
 obtain ⟨p, hp⟩ := List.length_eq_one_iff.1 (show c.parts.length = 1 by omega)
 exact ⟨p, hp, ((okn_iff c).1 h).2 p (by rw [hp]; simp)⟩
theorem parts_nobot {c : Cn} (h0 : (tidyC c).2 = 0) (hk : (tidyC c).1.kind ≠ 2) : ∀ m ∈ partsF (tidyC c).1, m.kind ≠ 2 := by
 have self : ∀ x : Cn, x.kind ≠ 2 → x.kind ≠ 5 → ∀ m ∈ partsF x, m.kind ≠ 2 := fun x h2 h5 m hm => by
  unfold partsF at hm
  split at hm
  ·simp at hm
  ·have hm : m ∈ [x] := by simpa only [if_neg h5] using hm
   simp only [List.mem_singleton] at hm
   subst hm; exact h2
 by_cases h5 : c.kind = 5
 ·rw [tidy_and h5] at h0 hk ⊢
  have hz := meet_zero h0
  rw [meet_ok hz] at h0 hk ⊢
  have hfl : ∀ m ∈ setC (flatT c.parts), m.kind ≠ 1 ∧ m.kind ≠ 5 := fun m hm => by
   rw [mem_setC, mem_flatT] at hm
   obtain ⟨p, hp, hm⟩ := hm
   exact flat_tidy p (hz p hp) m hm
  generalize setC (flatT c.parts) = s at h0 hk hfl ⊢
  by_cases hb : ∃ t ∈ s, t.kind = 2
  ·exfalso
   unfold conjS at hk
   split at hk
   ·rename_i t ht
    have := List.find?_some ht
    simp only [decide_eq_true_eq] at this
    exact hk this
   ·rename_i hn
    obtain ⟨t, ht, e⟩ := hb
    have := List.find?_eq_none.1 hn t ht
    simp [e] at this
  ·have hb : ∀ t ∈ s, t.kind ≠ 2 := fun t ht e => hb ⟨t, ht, e⟩
   rcases conjS_ok hb h0 with ⟨rfl, e⟩ | ⟨x, rfl, e⟩ | ⟨e, _⟩ <;> rw [e]
   ·exact self _ (by show (1 : Int) ≠ 2; decide) (by show (1 : Int) ≠ 5; decide)
   ·exact self _ (hb x (by simp)) (hfl x (by simp)).2
   ·intro m hm
    rw [show partsF (.mk 5 [] 0 0 s) = s from rfl] at hm
    exact hb m hm
 ·by_cases h6 : c.kind = 6
  ·refine self _ hk ?_
   rw [tidyC_eq, if_pos h6] at h0 hk ⊢
   cases hp : c.parts with
   | nil => show (0 : Int) ≠ 5; decide
   | cons p r =>
    rw [hp] at h0 hk
    simp only [List.map_cons, someF] at h0 hk ⊢
    split
    ·rename_i hb
     rw [if_pos hb] at h0 hk
     exfalso
     rcases hb with hb | hb
     ·exact hb h0
     ·exact hk hb
    ·show (6 : Int) ≠ 5; decide
  ·rw [tidy_self h5 h6] at hk ⊢
   exact self _ hk h5
theorem parts_and {c : Cn} (h5 : c.kind = 5) (h0 : (tidyC c).2 = 0) (hk : (tidyC c).1.kind ≠ 2) (x : Cn) : x ∈ partsF (tidyC c).1 ↔ ∃ p ∈ c.parts, x ∈ partsF (tidyC p).1 := by
 have hnb := parts_nobot h0 hk
 rw [tidy_and h5] at h0 hk hnb ⊢
 have hz := meet_zero h0
 rw [meet_ok hz] at h0 hk hnb ⊢
 rw [← mem_flatT, ← mem_setC (l := flatT c.parts)]
 have hfl : ∀ m ∈ setC (flatT c.parts), m.kind ≠ 1 ∧ m.kind ≠ 5 := fun m hm => by
  rw [mem_setC, mem_flatT] at hm
  obtain ⟨p, hp, hm⟩ := hm
  exact flat_tidy p (hz p hp) m hm
 generalize setC (flatT c.parts) = s at h0 hk hnb hfl ⊢
 have hb : ∀ t ∈ s, t.kind ≠ 2 := fun t ht e => by
  unfold conjS at hk
  split at hk
  ·rename_i t ht
   have := List.find?_some ht
   simp only [decide_eq_true_eq] at this
   exact hk this
  ·rename_i hn
   have := List.find?_eq_none.1 hn t ht
   simp [e] at this
 rcases conjS_ok hb h0 with ⟨rfl, e⟩ | ⟨y, rfl, e⟩ | ⟨e, _⟩ <;> rw [e]
 ·simp [partsF, topC, Cn.kind]
 ·have := hfl y (by simp)
  unfold partsF
  rw [if_neg this.1, if_neg this.2]
 ·rfl
theorem tidy_bot : ∀ c : Cn, Okn c → (tidyC c).2 = 0 → ((tidyC c).1.kind = 2 ↔ botF c = true) := by
 refine Cn.ind ?_
 intro c ih hok h0
 have hp := ((okn_iff c).1 hok).2
 rw [botF_eq]
 by_cases h5 : c.kind = 5
 ·rw [if_neg (by omega), if_pos (.inl h5), botL_iff]
  have h0' := h0
  rw [tidy_and h5] at h0'
  have hz := meet_zero h0'
  constructor
  ·intro hk
   refine Classical.byContradiction fun hn => ?_
   have hn : ∀ p ∈ c.parts, (tidyC p).1.kind ≠ 2 := fun p hpm e => hn ⟨p, hpm, (ih p hpm (hp p hpm) (hz p hpm)).1 e⟩
   rw [tidy_and h5, meet_ok hz] at hk
   rw [meet_ok hz] at h0'
   have hb : ∀ t ∈ setC (flatT c.parts), t.kind ≠ 2 := fun t ht => by
    rw [mem_setC, mem_flatT] at ht
    obtain ⟨p, hpm, ht⟩ := ht
    exact parts_nobot (hz p hpm) (hn p hpm) t ht
   rcases conjS_ok hb h0' with ⟨e1, e⟩ | ⟨y, e1, e⟩ | ⟨e, _⟩ <;> rw [e] at hk
   ·exact absurd hk (by show (1 : Int) ≠ 2; decide)
   ·exact hb y (by rw [e1]; simp) hk
   ·exact absurd hk (by show (5 : Int) ≠ 2; decide)
  ·rintro ⟨p, hpm, hb⟩
   have hk := (ih p hpm (hp p hpm) (hz p hpm)).2 hb
   rw [tidy_and h5, meet_ok hz]
   have e := conjS_bot (s := setC (flatT c.parts)) (fun m hm => by
    rw [mem_setC, mem_flatT] at hm
    obtain ⟨q, hq, hm⟩ := hm
    exact partsF_okn (tidy_keep q (hp q hq) (hz q hq)).ok hm) ⟨(tidyC p).1, by
     rw [mem_setC, mem_flatT]
     refine ⟨p, hpm, ?_⟩
     unfold partsF
     rw [if_neg (by omega), if_neg (by omega)]; simp, hk⟩
   rw [e]; rfl
 ·by_cases h6 : c.kind = 6
  ·obtain ⟨p, hps, hpo⟩ := okn_part hok h6
   have hpm : p ∈ c.parts := by rw [hps]; simp
   rw [if_neg (by omega), if_pos (.inr h6), hps]
   have h0' := h0
   rw [tidy_some h6 hps] at h0' ⊢
   have hl : botL [p] = botF p := by simp [botL]
   rw [hl]
   split
   ·rename_i hb
    rw [if_pos hb] at h0'
    exact ih p hpm hpo h0'
   ·rename_i hb
    have h1 : (tidyC p).2 = 0 := by omega
    rw [← ih p hpm hpo h1]
    constructor
    ·intro e; exact absurd e (by show (6 : Int) ≠ 2; decide)
    ·intro e; exact absurd (.inr e) hb
  ·rw [tidy_self h5 h6]
   split
   ·rename_i h2; simp [h2]
   ·rename_i h2
    rw [if_neg (by omega)]
    simp [h2]
theorem tidy_ren {g : Int → List UInt8 → List UInt8} (hg : RenOK g) : ∀ c : Cn, Okn c → (tidyC c).2 = 0 → (tidyC (renC g c)).2 = 0 ∧ tidyC (renC g (tidyC c).1) = tidyC (renC g c) := by
 refine Cn.ind ?_
 intro c ih hok h0
 have hp := ((okn_iff c).1 hok).2
 have hbotr : renC g (.mk 2 [] 0 0 []) = .mk 2 [] 0 0 [] := by rw [renC_eq]; rfl
 by_cases h5 : c.kind = 5
 ·have h0' := h0
  rw [tidy_and h5] at h0'
  have hz := meet_zero h0'
  have hrz : ∀ p ∈ c.parts, (tidyC (renC g p)).2 = 0 := fun p hpm => (ih p hpm (hp p hpm) (hz p hpm)).1
  have hre : ∀ p ∈ c.parts, tidyC (renC g (tidyC p).1) = tidyC (renC g p) := fun p hpm => (ih p hpm (hp p hpm) (hz p hpm)).2
  have hr5 : (renC g c).kind = 5 := by rw [renC_kind]; exact h5
  have hzr : ∀ p ∈ (renC g c).parts, (tidyC p).2 = 0 := fun q hq => by
   rw [renC_parts] at hq
   obtain ⟨p, hpm, rfl⟩ := List.mem_map.1 hq
   exact hrz p hpm
  have hR : tidyC (renC g c) = conjS (setC (flatT (renC g c).parts)) := by rw [tidy_and hr5, meet_ok hzr]
  have hC : tidyC c = conjS (setC (flatT c.parts)) := by rw [tidy_and h5, meet_ok hz]
  by_cases hb : (tidyC c).1.kind = 2
  ·have hcb := (tidy_bot c hok h0).1 hb
   have e1 : (tidyC c).1 = .mk 2 [] 0 0 [] := bottom_eq (tidy_keep c hok h0).ok hb
   -- a part is empty
   rw [botF_eq, if_neg (by omega), if_pos (.inl h5), botL_iff] at hcb
   obtain ⟨p, hpm, hpb⟩ := hcb
   have hk : (tidyC (renC g p)).1.kind = 2 := (tidy_bot _ (renC_okn hg p (hp p hpm)) (hrz p hpm)).2 (by rw [renC_bot]; exact hpb)
   have e2 : tidyC (renC g c) = (.mk 2 [] 0 0 [], 0) := by
    rw [hR]
    refine conjS_bot (fun m hm => ?_) ⟨(tidyC (renC g p)).1, ?_, hk⟩
    ·rw [mem_setC, mem_flatT] at hm
     obtain ⟨q, hq, hm⟩ := hm
     have hq' := hq
     rw [renC_parts] at hq
     obtain ⟨q0, hq0, rfl⟩ := List.mem_map.1 hq
     exact partsF_okn (tidy_keep _ (renC_okn hg q0 (hp q0 hq0)) (hrz q0 hq0)).ok hm
    ·rw [mem_setC, mem_flatT]
     refine ⟨renC g p, by rw [renC_parts]; exact List.mem_map_of_mem hpm, ?_⟩
     unfold partsF
     rw [if_neg (by omega), if_neg (by omega)]; simp
   rw [e2, e1, hbotr]
   exact ⟨rfl, tidy_self (by show (2 : Int) ≠ 5; decide) (by show (2 : Int) ≠ 6; decide)⟩
  ·-- no part is empty
   have hnb : ∀ p ∈ c.parts, (tidyC p).1.kind ≠ 2 := fun p hpm e => hb ((tidy_bot c hok h0).2 (by
    rw [botF_eq, if_neg (by omega), if_pos (.inl h5), botL_iff]
    exact ⟨p, hpm, (tidy_bot p (hp p hpm) (hz p hpm)).1 e⟩))
   have hnr : ∀ p ∈ c.parts, (tidyC (renC g p)).1.kind ≠ 2 := fun p hpm e => by
    have h1 := (tidy_bot _ (renC_okn hg p (hp p hpm)) (hrz p hpm)).1 e
    rw [renC_bot] at h1
    exact hnb p hpm ((tidy_bot p (hp p hpm) (hz p hpm)).2 h1)
   obtain ⟨S, hS⟩ : ∃ S, S = setC (flatT c.parts) := ⟨_, rfl⟩
   have hSm : ∀ x, x ∈ S ↔ ∃ p ∈ c.parts, x ∈ partsF (tidyC p).1 := fun x => by rw [hS, mem_setC, mem_flatT]
   have hSb : ∀ t ∈ S, t.kind ≠ 2 := fun t ht => by
    obtain ⟨p, hpm, ht⟩ := (hSm t).1 ht
    exact parts_nobot (hz p hpm) (hnb p hpm) t ht
   have hSk : ∀ t ∈ S, t.kind ≠ 1 ∧ t.kind ≠ 5 := fun t ht => by
    obtain ⟨p, hpm, ht⟩ := (hSm t).1 ht
    exact flat_tidy p (hz p hpm) t ht
   -- the parts of the forms, renamed
   have hpart : ∀ p ∈ c.parts, (∀ q ∈ partsF (tidyC p).1, (tidyC (renC g q)).2 = 0) ∧ ∀ x, x ∈ partsF (tidyC (renC g p)).1 ↔ ∃ q ∈ partsF (tidyC p).1, x ∈ partsF (tidyC (renC g q)).1 := by
    intro p hpm
    have e := hre p hpm
    have z := hrz p hpm
    have nb := hnr p hpm
    rw [← e] at z nb ⊢
    generalize (tidyC p).1 = t at z nb ⊢
    unfold partsF
    by_cases h1 : t.kind = 1
    ·rw [if_pos h1]
     refine ⟨by simp, fun x => ?_⟩
     rw [tidy_self (by rw [renC_kind]; omega) (by rw [renC_kind]; omega), if_pos (by rw [renC_kind]; exact h1)]
     simp
    ·rw [if_neg h1]
     by_cases ht5 : t.kind = 5
     ·rw [if_pos ht5]
      have hr5 : (renC g t).kind = 5 := by rw [renC_kind]; exact ht5
      have z' := z
      rw [tidy_and hr5] at z'
      have hz' := meet_zero z'
      rw [renC_parts] at hz'
      refine ⟨fun q hq => hz' _ (List.mem_map_of_mem hq), fun x => ?_⟩
      have := parts_and hr5 z nb x
      unfold partsF at this
      rw [this, renC_parts]
      constructor
      ·rintro ⟨q, hq, hx⟩
       obtain ⟨q0, hq0, rfl⟩ := List.mem_map.1 hq
       exact ⟨q0, hq0, hx⟩
      ·rintro ⟨q, hq, hx⟩
       exact ⟨_, List.mem_map_of_mem hq, hx⟩
     ·rw [if_neg ht5]
      refine ⟨fun q hq => ?_, fun x => ?_⟩
      ·simp only [List.mem_singleton] at hq
       subst hq; exact z
      ·simp
   have hSz : ∀ q ∈ S, (tidyC (renC g q)).2 = 0 := fun q hq => by
    obtain ⟨p, hpm, hq⟩ := (hSm q).1 hq
    exact (hpart p hpm).1 q hq
   have hU : ∀ x, x ∈ flatT (renC g c).parts ↔ x ∈ flatT (S.map (renC g)) := fun x => by
    rw [mem_flatT, mem_flatT, renC_parts]
    constructor
    ·rintro ⟨p, hpm, hx⟩
     obtain ⟨p0, hp0, rfl⟩ := List.mem_map.1 hpm
     obtain ⟨q, hq, hx⟩ := ((hpart p0 hp0).2 x).1 hx
     exact ⟨renC g q, List.mem_map_of_mem ((hSm q).2 ⟨p0, hp0, hq⟩), hx⟩
    ·rintro ⟨q, hq, hx⟩
     obtain ⟨q0, hq0, rfl⟩ := List.mem_map.1 hq
     obtain ⟨p0, hp0, hq1⟩ := (hSm q0).1 hq0
     exact ⟨renC g p0, List.mem_map_of_mem hp0, ((hpart p0 hp0).2 x).2 ⟨q0, hq1, hx⟩⟩
   have hRS : tidyC (renC g c) = conjS (setC (flatT (S.map (renC g)))) := by rw [hR, setC_congr hU]
   -- each stands for one
   have hone : ∀ q ∈ S, partsF (tidyC (renC g q)).1 = [(tidyC (renC g q)).1] := fun q hq => by
    have hk := hSk q hq
    have hk2 := hSb q hq
    have z := hSz q hq
    by_cases h6 : q.kind = 6
    ·have hr6 : (renC g q).kind = 6 := by rw [renC_kind]; exact h6
     have : (tidyC (renC g q)).1.kind = 6 ∨ (tidyC (renC g q)).1.kind = 2 ∨ (tidyC (renC g q)).1.kind = 0 := by
      rw [tidyC_eq, if_pos hr6] at z ⊢
      cases hps : (renC g q).parts with
      | nil => exact .inr (.inr rfl)
      | cons u r =>
       rw [hps] at z
       simp only [List.map_cons, someF] at z ⊢
       split
       ·rename_i hb2
        rw [if_pos hb2] at z
        rcases hb2 with hb2 | hb2
        ·exact absurd z hb2
        ·exact .inr (.inl hb2)
       ·exact .inl rfl
     unfold partsF
     rw [if_neg (by omega), if_neg (by omega)]
    ·rw [tidy_self (by rw [renC_kind]; exact hk.2) (by rw [renC_kind]; exact h6)]
     unfold partsF
     rw [if_neg (by rw [renC_kind]; exact hk.1), if_neg (by rw [renC_kind]; exact hk.2)]
   have hlen : (setC (flatT (S.map (renC g)))).length ≤ S.length := by
    have h1 : ∀ x ∈ setC (flatT (S.map (renC g))), x ∈ S.map fun q => (tidyC (renC g q)).1 := fun x hx => by
     rw [mem_setC, mem_flatT] at hx
     obtain ⟨q, hq, hx⟩ := hx
     obtain ⟨q0, hq0, rfl⟩ := List.mem_map.1 hq
     rw [hone q0 hq0, List.mem_singleton] at hx
     exact List.mem_map.2 ⟨q0, hq0, hx.symm⟩
    have := List.Nodup.length_le_of_subset (str_nodup (str_setC _)) h1
    rwa [List.length_map] at this
   rw [hC, ← hS] at h0
   have hcS : (tidyC c).1 = (conjS S).1 := by rw [hC, ← hS]
   rw [hcS, hRS]
   rcases conjS_ok hSb h0 with ⟨e1, e⟩ | ⟨x, e1, e⟩ | ⟨e, l2, l8⟩
   ·rw [e, e1]
    refine ⟨conjS_short (by show (0 : Nat) ≤ 8; decide), ?_⟩
    rw [renC_eq]; rfl
   ·rw [e, e1]
    rw [e1] at hlen
    simp only [List.length_cons, List.length_nil] at hlen
    refine ⟨conjS_short (by omega), ?_⟩
    have hx : x ∈ S := by rw [e1]; simp
    have z := hSz x hx
    have e3 : flatT ([x].map (renC g)) = [(tidyC (renC g x)).1] := by
     have := hone x hx
     simp [flatT, this]
    rw [e3]
    have e4 : setC [(tidyC (renC g x)).1] = [(tidyC (renC g x)).1] := setC_self (by simp [StrC])
    rw [e4]
    unfold conjS
    rw [show tidyC (renC g x) = ((tidyC (renC g x)).1, 0) from Prod.ext rfl z]
    split
    ·rename_i t ht
     have := List.mem_of_find?_eq_some ht
     simp only [List.mem_singleton] at this
     rw [this]
    ·rfl
   ·rw [e]
    refine ⟨conjS_short (by omega), ?_⟩
    rw [tidy_and (by rw [renC_kind]; rfl), renC_parts]
    show meetF ((S.map (renC g)).map tidyC) = _
    refine meet_ok fun q hq => ?_
    obtain ⟨q0, hq0, rfl⟩ := List.mem_map.1 hq
    exact hSz q0 hq0
 ·by_cases h6 : c.kind = 6
  ·obtain ⟨p, hps, hpo⟩ := okn_part hok h6
   have hpm : p ∈ c.parts := by rw [hps]; simp
   have hr6 : (renC g c).kind = 6 := by rw [renC_kind]; exact h6
   have hrp : (renC g c).parts = [renC g p] := by rw [renC_parts, hps]; rfl
   have h0' := h0
   rw [tidy_some h6 hps] at h0'
   have hpz : (tidyC p).2 = 0 := by
    refine Classical.byContradiction fun hn => ?_
    rw [if_pos (.inl hn)] at h0'
    exact hn h0'
   obtain ⟨i1, i2⟩ := ih p hpm hpo hpz
   have hz2 : (tidyC (renC g c)).2 = 0 := by
    rw [tidy_some hr6 hrp]
    split
    ·exact i1
    ·rfl
   refine ⟨hz2, ?_⟩
   rw [tidy_some h6 hps]
   split
   ·rename_i hb
    have hk : (tidyC p).1.kind = 2 := hb.resolve_left (by omega)
    rw [i2, tidy_some hr6 hrp, if_pos]
    right
    rw [← i2, bottom_eq (tidy_keep p hpo hpz).ok hk, hbotr, tidy_self (by show (2 : Int) ≠ 5; decide) (by show (2 : Int) ≠ 6; decide)]
    rfl
   ·rename_i hb
    have e1 : renC g (.mk 6 c.name 0 0 [(tidyC p).1]) = .mk 6 (renN g 6 c.name) 0 0 [renC g (tidyC p).1] := by rw [renC_eq]; rfl
    rw [e1, tidy_some (p := renC g (tidyC p).1) rfl rfl, i2, tidy_some hr6 hrp, renC_name, h6]
    rfl
  ·rw [tidy_self h5 h6, tidy_self (by rw [renC_kind]; exact h5) (by rw [renC_kind]; exact h6)]
   exact ⟨rfl, rfl⟩
end Go.Proofs.YtnemengadjimcaaGreatDoor
