/-
  Terms: tidying keeps a concept valid and adds no names.
  Conditions: none.
-/
import Derived.Test.YtkbmlchceiglfaaGreatDoorMBr
import Derived.Test.YtkbmlchceiglfaaGreatDoorMAo
namespace Go.Proofs.YtkbmlchceiglfaaGreatDoor
set_option linter.unnecessarySimpa false
set_option linter.unusedSectionVars false
set_option linter.unusedSimpArgs false
set_option linter.unusedVariables false
open Go.Proofs

def Okn (c : Cn) : Prop := ∀ x ∈ nodes c, fieldsE x = 0

theorem mem_nodesL {x : Cn} : ∀ {l : List Cn}, x ∈ nodesL l ↔ ∃ p ∈ l, x ∈ nodes p
  | [] => by simp [nodesL]
  | c :: r => by rw [nodesL, List.mem_append, mem_nodesL]; simp

theorem okn_iff (c : Cn) : Okn c ↔ fieldsE c = 0 ∧ ∀ p ∈ c.parts, Okn p := by
  unfold Okn
  rw [nodes_eq]
  constructor
  · intro h
    exact ⟨h c (by simp), fun p hp x hx => h x (List.mem_cons_of_mem _ (mem_nodesL.2 ⟨p, hp, hx⟩))⟩
  · rintro ⟨h1, h2⟩ x hx
    rcases List.mem_cons.1 hx with rfl | hx
    · exact h1
    · obtain ⟨p, hp, hx⟩ := mem_nodesL.1 hx
      exact h2 p hp x hx

theorem hasK_iff (k : Int) (c : Cn) (s : List UInt8) : hasK k c s ↔ (c.kind = k ∧ c.name = s) ∨ ∃ p ∈ c.parts, hasK k p s := by
  unfold hasK
  rw [nodes_eq]
  constructor
  · rintro ⟨n, hn, h⟩
    rcases List.mem_cons.1 hn with rfl | hn
    · exact .inl h
    · obtain ⟨p, hp, hx⟩ := mem_nodesL.1 hn
      exact .inr ⟨p, hp, n, hx, h⟩
  · rintro (h | ⟨p, hp, n, hn, h⟩)
    · exact ⟨c, by simp, h⟩
    · exact ⟨n, List.mem_cons_of_mem _ (mem_nodesL.2 ⟨p, hp, hn⟩), h⟩

theorem depthL_mem {p : Cn} : ∀ {l : List Cn}, p ∈ l → depthF p + 1 ≤ depthL l
  | c :: r, h => by
    rw [depthL]
    rcases List.mem_cons.1 h with rfl | h
    · omega
    · have := depthL_mem h; omega

theorem depthL_le {n : Nat} : ∀ {l : List Cn}, (∀ p ∈ l, depthF p + 1 ≤ n) → depthL l ≤ n
  | [], _ => by simp [depthL]
  | c :: r, h => by
    rw [depthL]
    have h1 := h c (by simp)
    have h2 := depthL_le fun p hp => h p (List.mem_cons_of_mem _ hp)
    omega

theorem bareL_iff : ∀ (l : List Cn), bareL l = true ↔ ∃ p ∈ l, bareF p = true
  | [] => by simp [bareL]
  | c :: r => by
    rw [bareL]
    have := bareL_iff r
    split <;> simp_all
theorem bareF_eq' (c : Cn) : bareF c = if c.kind = 4 then true else if c.kind = 5 then bareL c.parts else false := by cases c; rw [bareF]; rfl

/-- A concept's names are among another's. -/
def NamesIn (t c : Cn) : Prop := ∀ k s, k ≠ 1 → k ≠ 5 → hasK k t s → hasK k c s

/-- What tidying keeps. -/
structure Keep (c t : Cn) : Prop where
  ok : Okn t
  dep : depthF t ≤ depthF c
  nam : NamesIn t c
  bare : bareF t = true → bareF c = true

theorem fields_top : fieldsE topC = 0 := by decide
theorem fields_conj {s : List Cn} (h1 : 2 ≤ s.length) (h2 : s.length ≤ 8) : fieldsE (.mk 5 [] 0 0 s) = 0 := by
  unfold fieldsE
  rw [if_neg (by simp [Cn.kind])]
  show fieldsN ⟨0, 2, 8, false⟩ (.mk 5 [] 0 0 s) = 0
  unfold fieldsN nameE
  simp [Cn.parts, Cn.name, Cn.lo, Cn.hi]
  omega

/-- A part of a conjunction, as it stands in the tidied one. -/
structure Part (c m : Cn) : Prop where
  ok : Okn m
  dep : depthF m + 1 ≤ depthF c
  nam : NamesIn m c
  bare : bareF m = true → bareF c = true

theorem Part.keep {c m : Cn} (h : Part c m) : Keep c m := ⟨h.ok, by have := h.dep; omega, h.nam, h.bare⟩

theorem conjS_keep {c : Cn} {s : List Cn} (h : ∀ m ∈ s, Part c m) (h0 : (conjS s).2 = 0) (hk : c.kind = 5) : Keep c (conjS s).1 := by
  unfold conjS at h0 ⊢
  split
  · rename_i t ht
    exact (h t (List.mem_of_find?_eq_some ht)).keep
  · rename_i hn
    rw [hn] at h0
    simp only at h0
    split
    · refine ⟨(okn_iff _).2 ⟨fields_top, fun p hp => by simp [topC, Cn.parts] at hp⟩, by rw [depthF_eq]; simp [topC, Cn.parts, depthL], fun k s h1 h2 hh => ?_, fun hb => ?_⟩
      · rw [hasK_iff] at hh
        rcases hh with ⟨e, _⟩ | ⟨p, hp, _⟩
        · exact absurd e.symm h1
        · simp [topC, Cn.parts] at hp
      · rw [bareF_eq'] at hb; simp [topC, Cn.kind] at hb
    · rename_i e0
      rw [if_neg e0] at h0
      split
      · rename_i e1
        match s, e1 with
        | [x], _ => exact (h x (by simp)).keep
      · rename_i e1
        rw [if_neg e1] at h0
        split
        · rename_i e2; rw [if_pos e2] at h0; simp at h0
        · rename_i e2
          refine ⟨(okn_iff _).2 ⟨fields_conj (by omega) (by omega), fun p hp => (h p hp).ok⟩, ?_, fun k n h1 h2 hh => ?_, fun hb => ?_⟩
          · show depthF (.mk 5 [] 0 0 s) ≤ _
            rw [depthF]; exact depthL_le fun p hp => (h p hp).dep
          · rw [hasK_iff] at hh
            rcases hh with ⟨e, _⟩ | ⟨p, hp, hh⟩
            · exact absurd e.symm h2
            · exact (h p hp).nam k n h1 h2 hh
          · rw [bareF_eq'] at hb
            simp only [Cn.kind, Cn.parts] at hb
            have hb : bareL s = true := by simpa using hb
            obtain ⟨p, hp, hb⟩ := (bareL_iff _).1 hb
            exact (h p hp).bare hb

theorem fieldsN_zero {n : Need} {c : Cn} (hn : n.nums = false) : fieldsN n c = 0 ↔ (n.least ≤ c.parts.length ∧ (c.parts.length : Int) ≤ n.most ∧ (n.name = 0 → c.name = [])) ∧ (c.lo = 0 ∧ c.hi = 0) ∧ nameE n c.name = 0 := by
  unfold fieldsN
  split
  · rename_i h
    constructor
    · intro h; exact absurd h (by decide)
    · rintro ⟨⟨h1, h2, h3⟩, _⟩
      rcases h with h | h | ⟨h, h'⟩
      · omega
      · omega
      · exact absurd (h3 h) h'
  · rename_i h
    rw [if_neg (by rw [hn]; decide)]
    have h1 : n.least ≤ c.parts.length ∧ (c.parts.length : Int) ≤ n.most ∧ (n.name = 0 → c.name = []) := by
      refine ⟨by omega, by omega, fun h0 => ?_⟩
      by_cases h2 : c.name = []
      · exact h2
      · exact absurd (.inr (.inr ⟨h0, h2⟩)) h
    split
    · rename_i h2
      constructor
      · intro h; exact absurd h (by decide)
      · rintro ⟨_, ⟨h3, h4⟩, _⟩
        omega
    · rename_i h2
      exact ⟨fun h => ⟨h1, by omega, h⟩, fun h => h.2.2⟩

theorem fieldsE_at {c : Cn} {k : Int} (hk : c.kind = k) (h : 1 ≤ k ∧ k ≤ 7) : fieldsE c = fieldsN (needAt k) c := by
  unfold fieldsE
  rw [if_neg (by omega), hk]

theorem fields_some {c r : Cn} (hk : c.kind = 6) (h : fieldsE c = 0) : fieldsE (.mk 6 c.name 0 0 [r]) = 0 := by
  rw [fieldsE_at hk (by decide), fieldsN_zero rfl] at h
  rw [fieldsE_at (k := 6) rfl (by decide), fieldsN_zero rfl]
  exact ⟨⟨show (1 : Int) ≤ ((1 : Nat) : Int) by decide, show ((1 : Nat) : Int) ≤ 1 by decide, fun h0 => absurd h0 (by decide)⟩, ⟨rfl, rfl⟩, h.2.2⟩

theorem tidy_keep : ∀ c : Cn, Okn c → (tidyC c).2 = 0 → Keep c (tidyC c).1 := by
  refine Cn.ind ?_
  intro c ih hok h0
  obtain ⟨hf, hp⟩ := (okn_iff c).1 hok
  have self : Keep c c := ⟨hok, Nat.le_refl _, fun _ _ _ _ h => h, id⟩
  rw [tidyC_eq] at h0 ⊢
  split
  · rename_i h6
    rw [if_pos h6] at h0
    cases hps : c.parts with
    | nil =>
      exfalso
      rw [fieldsE_at h6 (by decide), fieldsN_zero rfl, hps] at hf
      have h1 : (1 : Int) ≤ ([] : List Cn).length := hf.1.1
      simp at h1
    | cons p r =>
      rw [hps] at h0
      simp only [List.map_cons, someF] at h0 ⊢
      have hpm : p ∈ c.parts := by rw [hps]; simp
      have hd : depthF p + 1 ≤ depthF c := by rw [depthF_eq c]; exact depthL_mem hpm
      have hnm : NamesIn p c := fun k s _ _ h => (hasK_iff k c s).2 (.inr ⟨p, hpm, h⟩)
      split
      · rename_i hb
        rw [if_pos hb] at h0
        have hk := ih p hpm (hp p hpm) h0
        have h2 : (tidyC p).1.kind = 2 := by rcases hb with hb | hb; exact absurd h0 hb; exact hb
        exact ⟨hk.ok, by have := hk.dep; omega, fun k s h1 h2 hh => hnm k s h1 h2 (hk.nam k s h1 h2 hh), fun hb => by rw [bareF_eq', h2] at hb; simp at hb⟩
      · rename_i hb
        have hk := ih p hpm (hp p hpm) (by omega)
        refine ⟨(okn_iff _).2 ⟨?_, fun q hq => ?_⟩, ?_, fun k s h1 h2 hh => ?_, fun hb => ?_⟩
        · exact fields_some h6 hf
        · simp [Cn.parts] at hq; subst hq; exact hk.ok
        · rw [depthF, depthL, depthL]
          have := hk.dep; omega
        · rw [hasK_iff] at hh
          rcases hh with ⟨e1, e2⟩ | ⟨q, hq, hh⟩
          · exact (hasK_iff k c s).2 (.inl ⟨h6.trans e1, e2⟩)
          · simp [Cn.parts] at hq; subst hq
            exact hnm k s h1 h2 (hk.nam k s h1 h2 hh)
        · rw [bareF_eq'] at hb; simp [Cn.kind] at hb
  · rename_i h6
    rw [if_neg h6] at h0
    split
    · rename_i h5
      rw [if_pos h5] at h0
      unfold meetF at h0 ⊢
      split
      · rename_i r hr
        rw [hr] at h0
        have := List.find?_some hr
        simp at this h0
        exact absurd h0 this
      · rename_i hn
        rw [hn] at h0
        simp only at h0
        have hz : ∀ p ∈ c.parts, (tidyC p).2 = 0 := fun p hp => by
          have := List.find?_eq_none.1 hn (tidyC p) (List.mem_map_of_mem hp)
          simpa using this
        refine conjS_keep (fun m hm => ?_) h0 h5
        rw [mem_setC, List.mem_flatMap] at hm
        obtain ⟨r, hr, hm⟩ := hm
        obtain ⟨p, hpm, rfl⟩ := List.mem_map.1 hr
        have hk := ih p hpm (hp p hpm) (hz p hpm)
        have hd : depthF p + 1 ≤ depthF c := by rw [depthF_eq c]; exact depthL_mem hpm
        have hnm : NamesIn p c := fun k s _ _ h => (hasK_iff k c s).2 (.inr ⟨p, hpm, h⟩)
        have hbr : bareF p = true → bareF c = true := fun h => by
          rw [bareF_eq', if_neg (by omega), if_pos h5]
          exact (bareL_iff _).2 ⟨p, hpm, h⟩
        unfold partsF at hm
        split at hm
        · simp at hm
        · split at hm
          · rename_i k5
            have hokm := ((okn_iff _).1 hk.ok).2 m hm
            have hdm : depthF m + 1 ≤ depthF (tidyC p).1 := by rw [depthF_eq (tidyC p).1]; exact depthL_mem hm
            refine ⟨hokm, by have := hk.dep; omega, fun k s h1 h2 hh => hnm k s h1 h2 (hk.nam k s h1 h2 ((hasK_iff _ _ _).2 (.inr ⟨m, hm, hh⟩))), fun hb => hbr (hk.bare ?_)⟩
            rw [bareF_eq', if_neg (by omega), if_pos k5]
            exact (bareL_iff _).2 ⟨m, hm, hb⟩
          · simp at hm; subst hm
            exact ⟨hk.ok, by have := hk.dep; omega, fun k s h1 h2 hh => hnm k s h1 h2 (hk.nam k s h1 h2 hh), fun hb => hbr (hk.bare hb)⟩
    · exact self
end Go.Proofs.YtkbmlchceiglfaaGreatDoor
