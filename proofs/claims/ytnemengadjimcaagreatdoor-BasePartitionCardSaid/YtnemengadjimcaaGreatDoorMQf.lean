/-
  Terms: tidying keeps a concept valid and adds no names. Terms: what a valid concept and a valid axiom are; tidying keeps axioms valid. Terms: tidying keeps an axiom valid and adds no names; the names of valid axioms are names. Layer 6: the maps of the steps of axioms.
  Conditions: none.
-/
import Derived.Test.YtnemengadjimcaaGreatDoorMBr
import Derived.Test.YtnemengadjimcaaGreatDoorMAo
import Derived.Test.YtnemengadjimcaaGreatDoorMBp
set_option linter.unnecessarySimpa false
set_option linter.unusedSectionVars false
set_option linter.unusedSimpArgs false
set_option linter.unusedVariables false
set_option maxHeartbeats 16000000
namespace Go.Proofs.YtnemengadjimcaaGreatDoor
open Go.Proofs
def Okn (c : Cn) : Prop := ∀ x ∈ nodes c, fieldsE x = 0
theorem mem_nodesL {x : Cn} : ∀ {l : List Cn}, x ∈ nodesL l ↔ ∃ p ∈ l, x ∈ nodes p
 | [] => by simp [nodesL]
 | c :: r => by rw [nodesL, List.mem_append, mem_nodesL]; simp
theorem okn_iff (c : Cn) : Okn c ↔ fieldsE c = 0 ∧ ∀ p ∈ c.parts, Okn p := by
 unfold Okn
 rw [nodes_eq]
 constructor
 ·intro h
  exact ⟨h c (by simp), fun p hp x hx => h x (List.mem_cons_of_mem _ (mem_nodesL.2 ⟨p, hp, hx⟩))⟩
 ·rintro ⟨h1, h2⟩ x hx
  rcases List.mem_cons.1 hx with rfl | hx
  ·exact h1
  ·obtain ⟨p, hp, hx⟩ := mem_nodesL.1 hx
   exact h2 p hp x hx
theorem hasK_iff (k : Int) (c : Cn) (s : List UInt8) : hasK k c s ↔ (c.kind = k ∧ c.name = s) ∨ ∃ p ∈ c.parts, hasK k p s := by
 unfold hasK
 rw [nodes_eq]
 constructor
 ·rintro ⟨n, hn, h⟩
  rcases List.mem_cons.1 hn with rfl | hn
  ·exact .inl h
  ·obtain ⟨p, hp, hx⟩ := mem_nodesL.1 hn
   exact .inr ⟨p, hp, n, hx, h⟩
 ·rintro (h | ⟨p, hp, n, hn, h⟩)
  ·exact ⟨c, by simp, h⟩
  ·exact ⟨n, List.mem_cons_of_mem _ (mem_nodesL.2 ⟨p, hp, hn⟩), h⟩
theorem depthL_mem {p : Cn} : ∀ {l : List Cn}, p ∈ l → depthF p + 1 ≤ depthL l
 | c :: r, h => by
  rw [depthL]
  rcases List.mem_cons.1 h with rfl | h
  ·omega
  ·have := depthL_mem h; omega
theorem depthL_le {n : Nat} : ∀ {l : List Cn}, (∀ p ∈ l, depthF p + 1 ≤ n) → depthL l ≤ n
 | [], _ => by simp [depthL]
 | c :: r, h => by
  rw [depthL]
  have h1 := h c (by simp)
  have h2 := depthL_le fun p hp => h p (List.mem_cons_of_mem _ hp)
  omega
theorem bareL_iff : ∀ (l : List Cn), bareL l = true ↔ ∃ p ∈ l, bareF p = true
 | [] => by simp [bareL]
 | c :: r => by
  rw [bareL]
  have := bareL_iff r
  split <;> simp_all
theorem bareF_eq' (c : Cn) : bareF c = if c.kind = 4 then true else if c.kind = 5 then bareL c.parts else false := by cases c; rw [bareF]; rfl
def NamesIn (t c : Cn) : Prop := ∀ k s, k ≠ 1 → k ≠ 5 → hasK k t s → hasK k c s
structure Keep (c t : Cn) : Prop where
 ok : Okn t
 dep : depthF t ≤ depthF c
 nam : NamesIn t c
 bare : bareF t = true → bareF c = true
theorem fields_top : fieldsE topC = 0 := by decide
theorem fields_conj {s : List Cn} (h1 : 2 ≤ s.length) (h2 : s.length ≤ 8) : fieldsE (.mk 5 [] 0 0 s) = 0 := by
 unfold fieldsE
 rw [if_neg (by simp [Cn.kind])]
 show fieldsN ⟨0, 2, 8, false⟩ (.mk 5 [] 0 0 s) = 0
 unfold fieldsN nameE
 simp [Cn.parts, Cn.name, Cn.lo, Cn.hi]
 omega
structure Part (c m : Cn) : Prop where
 ok : Okn m
 dep : depthF m + 1 ≤ depthF c
 nam : NamesIn m c
 bare : bareF m = true → bareF c = true
theorem Part.keep {c m : Cn} (h : Part c m) : Keep c m := ⟨h.ok, by have := h.dep; omega, h.nam, h.bare⟩
theorem conjS_keep {c : Cn} {s : List Cn} (h : ∀ m ∈ s, Part c m) (h0 : (conjS s).2 = 0) (hk : c.kind = 5) : Keep c (conjS s).1 := by
 unfold conjS at h0 ⊢
 split
 ·rename_i t ht
  exact (h t (List.mem_of_find?_eq_some ht)).keep
 ·rename_i hn
  rw [hn] at h0
  simp only at h0
  split
  ·refine ⟨(okn_iff _).2 ⟨fields_top, fun p hp => by simp [topC, Cn.parts] at hp⟩, by rw [depthF_eq]; simp [topC, Cn.parts, depthL], fun k s h1 h2 hh => ?_, fun hb => ?_⟩
   ·rw [hasK_iff] at hh
    rcases hh with ⟨e, _⟩ | ⟨p, hp, _⟩
    ·exact absurd e.symm h1
    ·simp [topC, Cn.parts] at hp
   ·rw [bareF_eq'] at hb; simp [topC, Cn.kind] at hb
  ·rename_i e0
   rw [if_neg e0] at h0
   split
   ·rename_i e1
    match s, e1 with
    | [x], _ => exact (h x (by simp)).keep
   ·rename_i e1
    rw [if_neg e1] at h0
    split
    ·rename_i e2; rw [if_pos e2] at h0; simp at h0
    ·rename_i e2
     refine ⟨(okn_iff _).2 ⟨fields_conj (by omega) (by omega), fun p hp => (h p hp).ok⟩, ?_, fun k n h1 h2 hh => ?_, fun hb => ?_⟩
     ·show depthF (.mk 5 [] 0 0 s) ≤ _
      rw [depthF]; exact depthL_le fun p hp => (h p hp).dep
     ·rw [hasK_iff] at hh
      rcases hh with ⟨e, _⟩ | ⟨p, hp, hh⟩
      ·exact absurd e.symm h2
      ·exact (h p hp).nam k n h1 h2 hh
     ·rw [bareF_eq'] at hb
      simp only [Cn.kind, Cn.parts] at hb
      have hb : bareL s = true := by simpa using hb
      obtain ⟨p, hp, hb⟩ := (bareL_iff _).1 hb
      exact (h p hp).bare hb
theorem fieldsN_zero {n : Need} {c : Cn} (hn : n.nums = false) : fieldsN n c = 0 ↔ (n.least ≤ c.parts.length ∧ (c.parts.length : Int) ≤ n.most ∧ (n.name = 0 → c.name = [])) ∧ (c.lo = 0 ∧ c.hi = 0) ∧ nameE n c.name = 0 := by
 unfold fieldsN
 split
 ·rename_i h
  constructor
  ·intro h; exact absurd h (by decide)
  ·rintro ⟨⟨h1, h2, h3⟩, _⟩
   rcases h with h | h | ⟨h, h'⟩
   ·omega
   ·omega
   ·exact absurd (h3 h) h'
 ·rename_i h
  rw [if_neg (by rw [hn]; decide)]
  have h1 : n.least ≤ c.parts.length ∧ (c.parts.length : Int) ≤ n.most ∧ (n.name = 0 → c.name = []) := by
   refine ⟨by omega, by omega, fun h0 => ?_⟩
   by_cases h2 : c.name = []
   ·exact h2
   ·exact absurd (.inr (.inr ⟨h0, h2⟩)) h
  split
  ·rename_i h2
   constructor
   ·intro h; exact absurd h (by decide)
   ·rintro ⟨_, ⟨h3, h4⟩, _⟩
    omega
  ·rename_i h2
   exact ⟨fun h => ⟨h1, by omega, h⟩, fun h => h.2.2⟩
theorem fieldsE_at {c : Cn} {k : Int} (hk : c.kind = k) (h : 1 ≤ k ∧ k ≤ 7) : fieldsE c = fieldsN (needAt k) c := by
 unfold fieldsE
 rw [if_neg (by omega), hk]
theorem fields_some {c r : Cn} (hk : c.kind = 6) (h : fieldsE c = 0) : fieldsE (.mk 6 c.name 0 0 [r]) = 0 := by
 rw [fieldsE_at hk (by decide), fieldsN_zero rfl] at h
 rw [fieldsE_at (k := 6) rfl (by decide), fieldsN_zero rfl]
 exact ⟨⟨show (1 : Int) ≤ ((1 : Nat) : Int) by decide, show ((1 : Nat) : Int) ≤ 1 by decide, fun h0 => absurd h0 (by decide)⟩, ⟨rfl, rfl⟩, h.2.2⟩
theorem tidy_keep : ∀ c : Cn, Okn c → (tidyC c).2 = 0 → Keep c (tidyC c).1 := by
 refine Cn.ind ?_
 intro c ih hok h0
 obtain ⟨hf, hp⟩ := (okn_iff c).1 hok
 have self : Keep c c := ⟨hok, Nat.le_refl _, fun _ _ _ _ h => h, id⟩
 rw [tidyC_eq] at h0 ⊢
 split
 ·rename_i h6
  rw [if_pos h6] at h0
  cases hps : c.parts with
  | nil =>
   exfalso
   rw [fieldsE_at h6 (by decide), fieldsN_zero rfl, hps] at hf
   have h1 : (1 : Int) ≤ ([] : List Cn).length := hf.1.1
   simp at h1
  | cons p r =>
   rw [hps] at h0
   simp only [List.map_cons, someF] at h0 ⊢
   have hpm : p ∈ c.parts := by rw [hps]; simp
   have hd : depthF p + 1 ≤ depthF c := by rw [depthF_eq c]; exact depthL_mem hpm
   have hnm : NamesIn p c := fun k s _ _ h => (hasK_iff k c s).2 (.inr ⟨p, hpm, h⟩)
   split
   ·rename_i hb
    rw [if_pos hb] at h0
    have hk := ih p hpm (hp p hpm) h0
    have h2 : (tidyC p).1.kind = 2 := by rcases hb with hb | hb; exact absurd h0 hb; exact hb
    exact ⟨hk.ok, by have := hk.dep; omega, fun k s h1 h2 hh => hnm k s h1 h2 (hk.nam k s h1 h2 hh), fun hb => by rw [bareF_eq', h2] at hb; simp at hb⟩
   ·rename_i hb
    have hk := ih p hpm (hp p hpm) (by omega)
    refine ⟨(okn_iff _).2 ⟨?_, fun q hq => ?_⟩, ?_, fun k s h1 h2 hh => ?_, fun hb => ?_⟩
    ·exact fields_some h6 hf
    ·simp [Cn.parts] at hq; subst hq; exact hk.ok
    ·rw [depthF, depthL, depthL]
     have := hk.dep; omega
    ·rw [hasK_iff] at hh
     rcases hh with ⟨e1, e2⟩ | ⟨q, hq, hh⟩
     ·exact (hasK_iff k c s).2 (.inl ⟨h6.trans e1, e2⟩)
     ·simp [Cn.parts] at hq; subst hq
      exact hnm k s h1 h2 (hk.nam k s h1 h2 hh)
    ·rw [bareF_eq'] at hb; simp [Cn.kind] at hb
 ·rename_i h6
  rw [if_neg h6] at h0
  split
  ·rename_i h5
   rw [if_pos h5] at h0
   unfold meetF at h0 ⊢
   split
   ·rename_i r hr
    rw [hr] at h0
    have := List.find?_some hr
    simp at this h0
    exact absurd h0 this
   ·rename_i hn
    rw [hn] at h0
    simp only at h0
    have hz : ∀ p ∈ c.parts, (tidyC p).2 = 0 := fun p hp => by
     have := List.find?_eq_none.1 hn (tidyC p) (List.mem_map_of_mem hp)
     simpa using this
    refine conjS_keep (fun m hm => ?_) h0 h5
    rw [mem_setC, List.mem_flatMap] at hm
    obtain ⟨r, hr, hm⟩ := hm
    obtain ⟨p, hpm, rfl⟩ := List.mem_map.1 hr
    have hk := ih p hpm (hp p hpm) (hz p hpm)
    have hd : depthF p + 1 ≤ depthF c := by rw [depthF_eq c]; exact depthL_mem hpm
    have hnm : NamesIn p c := fun k s _ _ h => (hasK_iff k c s).2 (.inr ⟨p, hpm, h⟩)
    have hbr : bareF p = true → bareF c = true := fun h => by
     rw [bareF_eq', if_neg (by omega), if_pos h5]
     exact (bareL_iff _).2 ⟨p, hpm, h⟩
    unfold partsF at hm
    split at hm
    ·simp at hm
    ·split at hm
     ·rename_i k5
      have hokm := ((okn_iff _).1 hk.ok).2 m hm
      have hdm : depthF m + 1 ≤ depthF (tidyC p).1 := by rw [depthF_eq (tidyC p).1]; exact depthL_mem hm
      refine ⟨hokm, by have := hk.dep; omega, fun k s h1 h2 hh => hnm k s h1 h2 (hk.nam k s h1 h2 ((hasK_iff _ _ _).2 (.inr ⟨m, hm, hh⟩))), fun hb => hbr (hk.bare ?_)⟩
      rw [bareF_eq', if_neg (by omega), if_pos k5]
      exact (bareL_iff _).2 ⟨m, hm, hb⟩
     ·simp at hm; subst hm
      exact ⟨hk.ok, by have := hk.dep; omega, fun k s h1 h2 hh => hnm k s h1 h2 (hk.nam k s h1 h2 hh), fun hb => hbr (hk.bare hb)⟩
  ·exact self
end Go.Proofs.YtnemengadjimcaaGreatDoor
namespace Go.Proofs.YtnemengadjimcaaGreatDoor
open Go.Proofs
theorem firstE_iff : ∀ (l : List Cn), firstE l = 0 ↔ ∀ x ∈ l, fieldsE x = 0 := fun l =>
 ⟨fun h => firstE_zero h, fun h => by have := firstE_skip l [] h; rw [List.append_nil] at this; rw [this]; rfl⟩
mutual
theorem fitsF_iff : ∀ (c : Cn) (d n : Int), ((fitsF c d n).1 = true ↔ d + depthF c ≤ 8 ∧ n + sizeF c ≤ 64)
 | .mk k s lo hi ps, d, n => by
  have e : sizeF (.mk k s lo hi ps) = sumN ps + 1 := sizeF_sum _
  rw [fitsF, depthF, e]
  split
  ·rename_i h
   simp only [Bool.false_eq_true, false_iff]
   omega
  ·rename_i h
   rw [fitsL_iff ps d (n + 1) (by omega) (by omega)]
   omega
theorem fitsL_iff : ∀ (l : List Cn) (d n : Int), d ≤ 8 → n ≤ 64 → ((fitsL l d n).1 = true ↔ d + depthL l ≤ 8 ∧ n + sumN l ≤ 64)
 | [], d, n, hd, hn => by
  rw [fitsL, depthL, sumN_nil]
  simp only [true_iff]
  omega
 | c :: r, d, n, hd, hn => by
  have h1 := fitsF_iff c (d + 1) n
  have h2 := fitsF_size c (d + 1) n
  rw [fitsL, depthL, sumN_cons]
  split
  ·rename_i hb
   rw [hb] at h1
   have h1 := h1.1 rfl
   rw [h2 hb, fitsL_iff r d _ hd (by omega)]
   omega
  ·rename_i hb
   have h1 : ¬ (d + 1 + depthF c ≤ 8 ∧ n + sizeF c ≤ 64) := fun h => hb (h1.2 h)
   simp only [Bool.false_eq_true, false_iff]
   omega
end
theorem conceptE_iff (c : Cn) : conceptE c = 0 ↔ depthF c ≤ 8 ∧ sizeF c ≤ 64 ∧ Okn c := by
 have h := fitsF_iff c 0 0
 unfold conceptE
 split
 ·rename_i hf
  rw [hf] at h
  constructor
  ·intro h; exact absurd h (by decide)
  ·rintro ⟨h1, h2, _⟩
   exact absurd (h.2 ⟨by omega, by omega⟩) (by decide)
 ·rename_i hf
  have hf : (fitsF c 0 0).1 = true := by simpa using hf
  have h1 := h.1 hf
  rw [firstE_iff]
  exact ⟨fun h => ⟨by omega, by omega, h⟩, fun h => h.2.2⟩
theorem concept_tidy {c : Cn} (h : conceptE c = 0) (h0 : (tidyC c).2 = 0) : conceptE (tidyC c).1 = 0 ∧ NamesIn (tidyC c).1 c ∧ (bareF (tidyC c).1 = true → bareF c = true) := by
 obtain ⟨h1, h2, h3⟩ := (conceptE_iff c).1 h
 have hk := tidy_keep c h3 h0
 have hs := tidyC_size c
 exact ⟨(conceptE_iff _).2 ⟨by have := hk.dep; omega, by omega, hk.ok⟩, hk.nam, hk.bare⟩
theorem empty_eq {c : Cn} (h : emptyF c = true) : c = c0 := by
 obtain ⟨k, n, lo, hi, ps⟩ := c
 have h : (decide (k = 0) && (decide (n = []) && (decide (lo = 0) && (decide (hi = 0) && decide (ps = []))))) = true := h
 simp only [Bool.and_eq_true, decide_eq_true_eq] at h
 obtain ⟨rfl, rfl, rfl, rfl, rfl⟩ := h
 rfl
end Go.Proofs.YtnemengadjimcaaGreatDoor
namespace Go.Proofs.YtnemengadjimcaaGreatDoor
open Go.Proofs
structure AxOk (u : Use) (x : Ax) : Prop where
 kind : 1 ≤ x.kind ∧ x.kind ≤ 9
 shaped : shapedU u x = true
 named : namedF u x = true
 left : u.left = true → conceptE x.left = 0
 right : u.right = true → conceptE x.right = 0
 bare : bareE x = false
theorem axiomE_iff (x : Ax) : axiomE x = 0 ↔ AxOk (useAt x.kind) x := by
 unfold axiomE shapedF
 split
 ·rename_i h
  rw [if_pos rfl]
  constructor
  ·intro h; exact absurd h (by decide)
  ·intro h'
   have hk := h'.kind
   omega
 ·rename_i h
  by_cases hs : shapedU (useAt x.kind) x = false
  ·rw [if_pos hs]
   constructor
   ·intro h; exact absurd h (by decide)
   ·intro h'; rw [h'.shaped] at hs; exact absurd hs (by decide)
  rw [if_neg hs]
  have hs : shapedU (useAt x.kind) x = true := by simpa using hs
  unfold axiomU
  split
  ·rename_i hn
   constructor
   ·intro h; exact absurd h (by decide)
   ·intro h'; rw [h'.named] at hn; exact absurd hn (by decide)
  ·rename_i hn
   have hn : namedF (useAt x.kind) x = true := by simpa using hn
   split
   ·rename_i h1
    exact ⟨fun h => absurd h h1.2, fun h' => absurd (h'.left h1.1) h1.2⟩
   ·rename_i h1
    have h1 : (useAt x.kind).left = true → conceptE x.left = 0 := fun h2 => Classical.byContradiction fun h3 => h1 ⟨h2, h3⟩
    split
    ·rename_i h2
     exact ⟨fun h => absurd h h2.2, fun h' => absurd (h'.right h2.1) h2.2⟩
    ·rename_i h2
     have h2 : (useAt x.kind).right = true → conceptE x.right = 0 := fun h3 => Classical.byContradiction fun h4 => h2 ⟨h3, h4⟩
     split
     ·rename_i hb
      constructor
      ·intro h; exact absurd h (by decide)
      ·intro h'; rw [h'.bare] at hb; exact absurd hb (by decide)
     ·rename_i hb
      exact ⟨fun _ => ⟨by omega, hs, hn, h1, h2, by simpa using hb⟩, fun _ => rfl⟩
structure SideOk (b : Bool) (c t : Cn) : Prop where
 ok : b = true → conceptE t = 0
 nam : NamesIn t c
 bare : bareF t = true → bareF c = true
 same : b = false → t = c
theorem side_ok {b : Bool} {c : Cn} (h : b = true → conceptE c = 0) (h0 : (sideF b c).2 = 0) : SideOk b c (sideF b c).1 := by
 unfold sideF at h0 ⊢
 cases b with
 | false => exact ⟨fun h => absurd h (by decide), fun _ _ _ _ h => h, id, fun _ => rfl⟩
 | true =>
  rw [if_pos rfl] at h0 ⊢
  obtain ⟨h1, h2, h3⟩ := concept_tidy (h rfl) h0
  exact ⟨fun _ => h1, h2, h3, fun h => absurd h (by decide)⟩
structure SubX (t x : Ax) : Prop where
 a : ∀ s, axA t s → axA x s
 b : ∀ s, axB t s → axB x s
 c : ∀ s, axC t s → axC x s
 d : ∀ s, axD t s → axD x s
theorem sub_same {x : Ax} {l r : Cn} (hl : NamesIn l x.left) (hr : NamesIn r x.right) : SubX { x with left := l, right := r } x := by
 have h : ∀ k s, k ≠ 1 → k ≠ 5 → hasK k l s ∨ hasK k r s → hasK k x.left s ∨ hasK k x.right s := fun k s h1 h2 h => h.imp (hl k s h1 h2) (hr k s h1 h2)
 refine ⟨fun s hs => h 3 s (by decide) (by decide) hs, fun s hs => ?_, fun s hs => h 7 s (by decide) (by decide) hs, fun s hs => ?_⟩
 ·have hs : hasK 6 l s ∨ hasK 6 r s ∨ s ∈ x.roles ∨ x.role = s := hs
  rcases hs with hs | hs | hs
  ·exact .inl (hl 6 s (by decide) (by decide) hs)
  ·exact .inr (.inl (hr 6 s (by decide) (by decide) hs))
  ·exact .inr (.inr hs)
 ·have hs : hasK 4 l s ∨ hasK 4 r s ∨ x.a = s ∨ x.b = s := hs
  rcases hs with hs | hs | hs
  ·exact .inl (hl 4 s (by decide) (by decide) hs)
  ·exact .inr (.inl (hr 4 s (by decide) (by decide) hs))
  ·exact .inr (.inr hs)
theorem sub_swap {x : Ax} {l r : Cn} (hl : NamesIn l x.left) (hr : NamesIn r x.right) : SubX { x with left := r, right := l } x := by
 have h : ∀ k s, k ≠ 1 → k ≠ 5 → hasK k r s ∨ hasK k l s → hasK k x.left s ∨ hasK k x.right s := fun k s h1 h2 h => h.symm.imp (hl k s h1 h2) (hr k s h1 h2)
 refine ⟨fun s hs => h 3 s (by decide) (by decide) hs, fun s hs => ?_, fun s hs => h 7 s (by decide) (by decide) hs, fun s hs => ?_⟩
 ·have hs : hasK 6 r s ∨ hasK 6 l s ∨ s ∈ x.roles ∨ x.role = s := hs
  rcases hs with hs | hs | hs
  ·exact .inr (.inl (hr 6 s (by decide) (by decide) hs))
  ·exact .inl (hl 6 s (by decide) (by decide) hs)
  ·exact .inr (.inr hs)
 ·have hs : hasK 4 r s ∨ hasK 4 l s ∨ x.a = s ∨ x.b = s := hs
  rcases hs with hs | hs | hs
  ·exact .inr (.inl (hr 4 s (by decide) (by decide) hs))
  ·exact .inl (hl 4 s (by decide) (by decide) hs)
  ·exact .inr (.inr hs)
theorem shaped_new {u : Use} {x : Ax} {l r : Cn} (h : shapedU u x = true) (hl : u.left = true ∨ l = x.left) (hr : u.right = true ∨ r = x.right) : shapedU u { x with left := l, right := r } = true := by
 have h : ((u.left || emptyF x.left) && ((u.right || emptyF x.right) && ((u.role || decide (x.role = [])) && ((u.a || decide (x.a = [])) && ((u.b || decide (x.b = [])) && (decide (u.least ≤ x.roles.length) && decide ((x.roles.length : Int) ≤ u.most))))))) = true := h
 show ((u.left || emptyF l) && ((u.right || emptyF r) && ((u.role || decide (x.role = [])) && ((u.a || decide (x.a = [])) && ((u.b || decide (x.b = [])) && (decide (u.least ≤ x.roles.length) && decide ((x.roles.length : Int) ≤ u.most))))))) = true
 rw [Bool.and_eq_true, Bool.and_eq_true] at h
 rw [Bool.and_eq_true, Bool.and_eq_true]
 refine ⟨?_, ?_, h.2.2⟩
 ·rcases hl with hl | rfl
  ·rw [hl]; rfl
  ·exact h.1
 ·rcases hr with hr | rfl
  ·rw [hr]; rfl
  ·exact h.2.1
theorem bareE_new {x : Ax} {l r : Cn} (h : bareE x = false) (hl : bareF l = true → bareF x.left = true) (hr : bareF r = true → bareF x.right = true) : bareE { x with left := l, right := r } = false := by
 have h : (if x.kind = 2 then (bareF x.left || bareF x.right) else if x.kind = 1 ∨ x.kind = 4 ∨ x.kind = 8 then bareF x.right else false) = false := h
 show (if x.kind = 2 then (bareF l || bareF r) else if x.kind = 1 ∨ x.kind = 4 ∨ x.kind = 8 then bareF r else false) = false
 revert h hl hr
 cases bareF l <;> cases bareF r <;> cases bareF x.left <;> cases bareF x.right <;> split <;> (try split) <;> simp
theorem bareE_swap {x : Ax} {l r : Cn} (hk : x.kind = 2 ∨ x.kind = 3) (h : bareE x = false) (hl : bareF l = true → bareF x.left = true) (hr : bareF r = true → bareF x.right = true) : bareE { x with left := r, right := l } = false := by
 have h : (if x.kind = 2 then (bareF x.left || bareF x.right) else if x.kind = 1 ∨ x.kind = 4 ∨ x.kind = 8 then bareF x.right else false) = false := h
 show (if x.kind = 2 then (bareF r || bareF l) else if x.kind = 1 ∨ x.kind = 4 ∨ x.kind = 8 then bareF l else false) = false
 rcases hk with hk | hk
 ·rw [if_pos hk] at h ⊢
  revert h hl hr
  cases bareF l <;> cases bareF r <;> cases bareF x.left <;> cases bareF x.right <;> simp
 ·rw [if_neg (by omega), if_neg (by omega)]
theorem axiom_tidy {x : Ax} (h0 : (tidyA x).2 = 0) : axiomE x = 0 ∧ axiomE (tidyA x).1 = 0 ∧ SubX (tidyA x).1 x := by
 have hE : axiomE x = 0 := by
  unfold tidyA at h0
  split at h0
  ·exact h0
  ·rename_i h; exact Classical.byContradiction fun h' => h h'
 refine ⟨hE, ?_⟩
 have ho := (axiomE_iff x).1 hE
 have hA : tidyA x = tidyU (useAt x.kind) x := by unfold tidyA; rw [if_neg (by omega)]
 rw [hA] at h0 ⊢
 have huse : x.kind = 2 ∨ x.kind = 3 → (useAt x.kind).left = true ∧ (useAt x.kind).right = true := by
  rintro (h | h) <;> rw [h] <;> exact ⟨rfl, rfl⟩
 rw [axiomE_iff]
 generalize hl : sideF (useAt x.kind).left x.left = L
 generalize hr : sideF (useAt x.kind).right x.right = R
 unfold tidyU at h0 ⊢
 rw [hl, hr] at h0 ⊢
 split at h0
 ·rename_i h; exact absurd h0 h
 ·rename_i hl0
  split at h0
  ·rename_i h; exact absurd h0 h
  ·rename_i hr0
   have sl : SideOk (useAt x.kind).left x.left L.1 := by rw [← hl]; exact side_ok ho.left (by rw [hl]; omega)
   have sr : SideOk (useAt x.kind).right x.right R.1 := by rw [← hr]; exact side_ok ho.right (by rw [hr]; omega)
   rw [if_neg hl0, if_neg hr0]
   split
   ·rename_i hs
    obtain ⟨u1, u2⟩ := huse hs.1
    refine ⟨⟨ho.kind, shaped_new ho.shaped (.inl u1) (.inl u2), ho.named, fun _ => sr.ok u2, fun _ => sl.ok u1, bareE_swap hs.1 ho.bare sl.bare sr.bare⟩, sub_swap sl.nam sr.nam⟩
   ·have e1 : (useAt x.kind).left = true ∨ L.1 = x.left := by cases hb : (useAt x.kind).left with
     | true => exact .inl rfl
     | false => exact .inr (sl.same hb)
    have e2 : (useAt x.kind).right = true ∨ R.1 = x.right := by cases hb : (useAt x.kind).right with
     | true => exact .inl rfl
     | false => exact .inr (sr.same hb)
    exact ⟨⟨ho.kind, shaped_new ho.shaped e1 e2, ho.named, sl.ok, sr.ok, bareE_new ho.bare sl.bare sr.bare⟩, sub_same sl.nam sr.nam⟩
end Go.Proofs.YtnemengadjimcaaGreatDoor
namespace Go.Proofs.YtnemengadjimcaaGreatDoor
open Go.Proofs
set_option maxRecDepth 10000
attribute [local irreducible] SemVC CallVC Tri Stuck YVC GenP GenVC
def mpH (M : List (Str × Inn)) (g : List Nat × Nat) (hp0 : Hp) : Hp := (33, .ext (mapX strD (entO 0 M) g.1 g.2)) :: (hpO 0 M ++ hp0)
theorem mpH_sub {M : List (Str × Inn)} {g : List Nat × Nat} {hp0 : Hp} (F : FarH hp0) : subH (mpH M g hp0) (stH M g hp0) := (stH_sub F).2
theorem role5 {x : Ax} (h : axiomE x = 0) (hk : x.kind = 5) : 0 < x.roles.length := by
 have h1 := ((axiomE_iff x).1 h).shaped
 rw [hk] at h1
 unfold shapedU at h1
 simp only [Bool.and_eq_true, decide_eq_true_eq] at h1
 have h2 := h1.2.2.2.2.2.1
 have e : (useAt 5).least = 1 := rfl
 omega
theorem steps_call (l : List Ax) (hv : ∀ x ∈ l, axiomE x = 0) (hn : l.length ≤ 1000000) (hp0 : Hp) (F : FarH hp0) {pin : List Nat} {fr : Fr} {K : SV → Hp → Prop} (hp1 : ∀ k, 1000 ≤ k ∨ k = 23 ∨ k = 33 ∨ k = 26 → k ∉ pin) (hf : ∀ k, 1000 ≤ k ∨ k = 23 ∨ k = 33 ∨ k = 26 → k ∉ idsF fr)
  (hk : ∀ M g, MInv (stepsL l) M → K (.xv 33 mapV) (mpH M g hp0)) :
  CallVC Tryz.prog pin fr hp0 89 [.d (.sl 16 (l.map axR))] K := by
 have hF : ∀ k, k = 23 ∨ k = 33 → k ∉ idsH hp0 := fun k hk h => by have := F.lo k h; omega
 refine CallVC.weak ?_
 refine call_inlineF false [6] hty Tryz.func89 rfl (kp [0, 2, 3, 4, 6, 7, 8, 11, 12, 13, 14, 18, 19, 27, 36, 39, 40, 41, 42, 49]) 20 (by simp [Tryz.f89]) ?_
 ((conv => whnf); repeat ((first | (intro hq; try simp only [lnS] at hq) | refine sI ?_ | refine .intro _ (.intro rfl ?_)); (conv => whnf)))
 refine make_map rfl rfl strD 33 ⟨?_, ?_, hF _ (.inr rfl)⟩ ?_
 ·rw [List.mem_append]; exact fun h => h.elim (hp1 _ (.inr (.inr (.inl rfl)))) (hf _ (.inr (.inr (.inl rfl))))
 ·simp [idsF_nil, idsF_cons, SV.ids, argFr, ids_ofV]
 ((conv => whnf); repeat ((first | (refine And.intro (show fresh 23 _ _ _ from ⟨fun h => (List.mem_append.1 h).elim (hp1 _ (.inr (.inl rfl))) (hf _ (.inr (.inl rfl))), by simp [idsF_nil, idsF_cons, SV.ids, argFr, ids_ofV], fun h => by rw [idsH_cons] at h; exact (List.mem_append.1 h).elim (fun h => by simp [HObj.ids, mapX, idsE] at h) (hF _ (.inl rfl))⟩) ?_) | (intro hq; try simp only [lnS] at hq) | refine sI ?_ | refine .intro _ (.intro rfl ?_)); (conv => whnf)))
 rw [List.length_map]
 refine loop_eq hty (fun y : Nat × List (Str × Inn) × (List Nat × Nat) => ([(3, .ptr 23 0), (4, .fn 133 [] [.ptr 23 0]), (11, .d (.sl 16 (l.map axR))), (12, .d (.int .i64 l.length)), (13, .d (.int .i64 y.1))], stH y.2.1 y.2.2 hp0)) (fun y => y.1 ≤ l.length ∧ MInv (stepsL (l.take y.1)) y.2.1) (fun y => l.length - y.1) (0, [], ([], 0)) ⟨by dsimp only; omega, MInv.nil⟩ (by repeat' (first | exact trivial | exact rfl | refine And.intro ?_ ?_)) rfl ?_
 rintro ⟨j, M, g⟩ ⟨hj, hM⟩
 dsimp only at hj hM
 have hp1' : ∀ k, 1000 ≤ k → k ∉ pin ++ idsF fr := fun k h => by rw [List.mem_append]; exact fun q => q.elim (hp1 k (.inl h)) (hf k (.inl h))
 ((conv => whnf); repeat ((first | (intro hq; try simp only [lnS] at hq) | refine sI ?_ | refine .intro _ (.intro rfl ?_)); (conv => whnf)))
 refine brB_dec (fun h1 => ?_) (fun h1 => ?_)
 ·have hjl : j < l.length := by dsimp only at h1; omega
  have hrow := axR_rows hjl
  have hst := stepsL_take hjl
  have hok := hv _ (List.getElem_mem hjl)
  have h4 := (axiomE_bnd hok).2.2
  have h5 := role5 hok
  generalize l[j] = x at *
  have fr26 : ∀ fr' : Fr, 26 ∉ idsF fr' → fresh 26 (pin ++ idsF fr) fr' (stH M g hp0) := fun fr' h => ⟨fun h => (List.mem_append.1 h).elim (hp1 _ (by simp)) (hf _ (by simp)), h, fun h => by have := stH_ids M g hp0 F _ h; omega⟩
  have nm26 : 26 ∉ idsH (stH M g hp0) := fun h => by have := stH_ids M g hp0 F _ h; omega
  ((conv => whnf); repeat ((first | (refine ⟨_, hrow, ?_⟩) | (refine And.intro nm26 ?_) | (refine And.intro (fr26 _ (by simp [idsF_nil, idsF_cons, SV.ids, SV.idsL])) ?_) | (intro hq; try simp only [lnS] at hq) | refine sI ?_ | refine .intro _ (.intro rfl ?_)); (conv => whnf)))
  refine brB_dec (fun h2 => ?_) (fun h2 => ?_)
  ·have hl0 := h5 h2
   have hrow0 : (x.roles.map strR)[(0 : Int).toNat]? = some (strR x.roles[0]) := strR_at hl0
   have hr0 := rolN_at hl0
   ((conv => whnf); repeat ((first | (intro hq; try simp only [lnS] at hq) | refine sI ?_ | refine .intro _ (.intro rfl ?_)); (conv => whnf)))
   refine draw_rule hty (by kernel_rfl) (by kernel_rfl) ?_
   ((conv => whnf); repeat ((first | (refine ⟨_, hrow0, ?_⟩) | (intro hq; try simp only [lnS] at hq) | refine sI ?_ | refine .intro _ (.intro rfl ?_)); (conv => whnf)))
   refine brB_ndec (fun h3 => ?_) (fun h3 => ?_)
   ·have hsa : stepsA x = [(x.roles[0], x.role, false)] := by
     unfold stepsA
     rw [if_pos h2, hr0, if_neg h3]
    (conv => whnf)
    (refine tree2_rule (id := 9) hty (.first 0 (.first 1 (.first 2 (.first 3 (.first 4 (.first 5 (.first 6 (.alt 7 .done .stop)))))))) (by kernel_rfl) (by kernel_rfl) ?_)
    ((conv => whnf); repeat ((first | (refine ⟨_, hrow0, ?_⟩) | (intro hq; try simp only [lnS] at hq) | refine sI ?_ | refine .intro _ (.intro rfl ?_)); (conv => whnf)))
    refine And.intro ?_ (by exact trivial)
    ((conv => whnf); repeat ((first | (intro hq; try simp only [lnS] at hq) | refine sI ?_ | refine .intro _ (.intro rfl ?_)); (conv => whnf)))
    refine add_call M g x.roles[0] x.role false hp0 F hp1' (fun k hk => by simp [idsF_nil, idsF_cons, SV.ids, SV.idsL]; omega) (fun M' g' hM' => ?_)
    ((conv => whnf); repeat ((first | (intro hq; try simp only [lnS] at hq) | refine sI ?_ | refine .intro _ (.intro rfl ?_)); (conv => whnf)))
    exact ⟨(j + 1, M', g'), ⟨by omega, by dsimp only; rw [hst, hsa]; exact hM' _ hM⟩, by dsimp only; omega, by repeat' (first | exact trivial | exact rfl | refine And.intro ?_ ?_), rfl⟩
   ·have hsa : stepsA x = [] := by
     unfold stepsA
     rw [if_pos h2, hr0, if_pos h3]
    ((conv => whnf); repeat' ((first | (intro hq; (try simp only [lnS] at hq); (try rewrite [List.length_map])) | refine sJ ?_ | refine .intro _ (.intro rfl ?_) | (refine .intro (show (_ : Nat) < List.length _ from by first | omega | (simp only [lnS]; omega) | simp) ?_) | fail | refine draw_rule hty (by kernel_rfl) (by kernel_rfl) ?_ | ((first | refine brB_dec ?_ ?_ | refine brB_ndec ?_ ?_) <;> intro hb <;> (first | contradiction | ((try simp only [lnS] at hb); try (exfalso; omega)))) | (refine brB_split ?_ ?_ <;> intro hb <;> (first | contradiction | exact bT hb (by assumption) | exact bF hb (by assumption) | skip))) <;> (conv => whnf)))
    rw [hsa, List.append_nil] at hst
    refine ⟨(j + 1, M, g), ⟨by omega, by rw [hst]; exact hM⟩, by dsimp only; omega, by repeat' (first | exact trivial | exact rfl | refine And.intro ?_ ?_), rfl⟩
  ·((conv => whnf); repeat ((first | (intro hq; try simp only [lnS] at hq) | refine sI ?_ | refine .intro _ (.intro rfl ?_)); (conv => whnf)))
   refine brB_dec (fun h3 => ?_) (fun h3 => ?_)
   ·have hsa : stepsA x = chainS x (List.range x.roles.length) := by
     unfold stepsA
     rw [if_neg h2, if_pos h3]
    ((conv => whnf); repeat ((first | (intro hq; try simp only [lnS] at hq) | refine sI ?_ | refine .intro _ (.intro rfl ?_)); (conv => whnf)))
    rw [List.length_map]
    refine loop_eq hty (fun y : Nat × List (Str × Inn) × (List Nat × Nat) => ([(3, .ptr 23 0), (4, .fn 133 [] [.ptr 23 0]), (6, .ea 16 [axR x] 0 0), (11, .d (.sl 16 (l.map axR))), (12, .d (.int .i64 l.length)), (13, .d (.int .i64 j)), (39, .d (.sl 1 (x.roles.map strR))), (40, .d (.int .i64 x.roles.length)), (41, .d (.int .i64 y.1))], stH y.2.1 y.2.2 hp0)) (fun y => y.1 ≤ x.roles.length ∧ MInv (stepsL (l.take j) ++ chainS x (List.range y.1)) y.2.1) (fun y => x.roles.length - y.1) (0, M, g) ⟨by dsimp only; omega, by simpa [chainS] using hM⟩ (by repeat' (first | exact trivial | exact rfl | refine And.intro ?_ ?_)) rfl ?_
    rintro ⟨k, M2, g2⟩ ⟨hk2, hM2⟩
    dsimp only at hk2 hM2
    ((conv => whnf); repeat ((first | (intro hq; try simp only [lnS] at hq) | refine sI ?_ | refine .intro _ (.intro rfl ?_)); (conv => whnf)))
    refine brB_dec (fun h5 => ?_) (fun h5 => ?_)
    ·have hkl : k < x.roles.length := by dsimp only at h5; omega
     have hrow2 := strR_at hkl
     have hrk := rolN_at hkl
     have hex := exempt_spec x k hkl (by omega)
     have hcs := chainS_snoc x k
     rw [hrk] at hcs
     generalize exemptB x k = b at *
     ((conv => whnf); repeat ((first | (refine ⟨_, hrow2, ?_⟩) | (refine call_tri [] hex trivial (fun r hs => ?_); subst hs) | (intro hq; try simp only [lnS] at hq) | refine sI ?_ | refine .intro _ (.intro rfl ?_)); (conv => whnf)))
     cases b
     ·rw [if_neg (by decide)] at hcs
      ((conv => whnf); repeat ((first | (intro hq; try simp only [lnS] at hq) | refine sI ?_ | refine .intro _ (.intro rfl ?_)); (conv => whnf)))
      refine add_call M2 g2 x.roles[k] x.role true hp0 F hp1' (fun k hk => by simp [idsF_nil, idsF_cons, SV.ids, SV.idsL]; omega) (fun M' g' hM' => ?_)
      ((conv => whnf); repeat ((first | (intro hq; try simp only [lnS] at hq) | refine sI ?_ | refine .intro _ (.intro rfl ?_)); (conv => whnf)))
      exact ⟨(k + 1, M', g'), ⟨by dsimp only; omega, by dsimp only; rw [hcs, ← List.append_assoc]; exact hM' _ hM2⟩, by dsimp only; omega, by repeat' (first | exact trivial | exact rfl | refine And.intro ?_ ?_), rfl⟩
     ·rw [if_pos rfl, List.append_nil] at hcs
      ((conv => whnf); repeat' ((first | (intro hq; (try simp only [lnS] at hq); (try rewrite [List.length_map])) | refine sJ ?_ | refine .intro _ (.intro rfl ?_) | (refine .intro (show (_ : Nat) < List.length _ from by first | omega | (simp only [lnS]; omega) | simp) ?_) | fail | refine draw_rule hty (by kernel_rfl) (by kernel_rfl) ?_ | ((first | refine brB_dec ?_ ?_ | refine brB_ndec ?_ ?_) <;> intro hb <;> (first | contradiction | ((try simp only [lnS] at hb); try (exfalso; omega)))) | (refine brB_split ?_ ?_ <;> intro hb <;> (first | contradiction | exact bT hb (by assumption) | exact bF hb (by assumption) | skip))) <;> (conv => whnf)))
      exact ⟨(k + 1, M2, g2), ⟨by dsimp only; omega, by dsimp only; rw [hcs]; exact hM2⟩, by dsimp only; omega, by repeat' (first | exact trivial | exact rfl | refine And.intro ?_ ?_), rfl⟩
    ·have hkl : k = x.roles.length := by dsimp only at h5; omega
     subst hkl
     rw [← hsa, ← hst] at hM2
     ((conv => whnf); repeat' ((first | (intro hq; (try simp only [lnS] at hq); (try rewrite [List.length_map])) | refine sJ ?_ | refine .intro _ (.intro rfl ?_) | (refine .intro (show (_ : Nat) < List.length _ from by first | omega | (simp only [lnS]; omega) | simp) ?_) | fail | refine draw_rule hty (by kernel_rfl) (by kernel_rfl) ?_ | ((first | refine brB_dec ?_ ?_ | refine brB_ndec ?_ ?_) <;> intro hb <;> (first | contradiction | ((try simp only [lnS] at hb); try (exfalso; omega)))) | (refine brB_split ?_ ?_ <;> intro hb <;> (first | contradiction | exact bT hb (by assumption) | exact bF hb (by assumption) | skip))) <;> (conv => whnf)))
     exact ⟨(j + 1, M2, g2), ⟨by dsimp only; omega, hM2⟩, by dsimp only; omega, by repeat' (first | exact trivial | exact rfl | refine And.intro ?_ ?_), rfl⟩
   ·have hsa : stepsA x = [] := by
     unfold stepsA
     rw [if_neg h2, if_neg h3]
    ((conv => whnf); repeat' ((first | (intro hq; (try simp only [lnS] at hq); (try rewrite [List.length_map])) | refine sJ ?_ | refine .intro _ (.intro rfl ?_) | (refine .intro (show (_ : Nat) < List.length _ from by first | omega | (simp only [lnS]; omega) | simp) ?_) | fail | refine draw_rule hty (by kernel_rfl) (by kernel_rfl) ?_ | ((first | refine brB_dec ?_ ?_ | refine brB_ndec ?_ ?_) <;> intro hb <;> (first | contradiction | ((try simp only [lnS] at hb); try (exfalso; omega)))) | (refine brB_split ?_ ?_ <;> intro hb <;> (first | contradiction | exact bT hb (by assumption) | exact bF hb (by assumption) | skip))) <;> (conv => whnf)))
    rw [hsa, List.append_nil] at hst
    exact ⟨(j + 1, M, g), ⟨by omega, by dsimp only; rw [hst]; exact hM⟩, by dsimp only; omega, by repeat' (first | exact trivial | exact rfl | refine And.intro ?_ ?_), rfl⟩
 ·have hjl : j = l.length := by dsimp only at h1; omega
  subst hjl
  rw [List.take_length] at hM
  ((conv => whnf); repeat ((first | (intro hq; try simp only [lnS] at hq) | refine sI ?_ | refine .intro _ (.intro rfl ?_)); (conv => whnf)))
  exact ⟨_, mpH_sub F, hk M g hM⟩
end Go.Proofs.YtnemengadjimcaaGreatDoor
