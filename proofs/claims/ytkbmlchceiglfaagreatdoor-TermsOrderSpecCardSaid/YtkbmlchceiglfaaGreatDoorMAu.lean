/-
  Terms: the vocabulary, plainly: whose names it holds. Terms: tidying keeps a concept valid and adds no names. Terms: what a valid concept and a valid axiom are; tidying keeps axioms valid. Terms: tidying keeps an axiom valid and adds no names; the names of valid axioms are names. Terms: has, within of the law; FewAxioms of the reference.
  Conditions: none.
-/
import Derived.Test.YtkbmlchceiglfaaGreatDoorMAq
import Derived.Test.YtkbmlchceiglfaaGreatDoorMAo
import Derived.Test.YtkbmlchceiglfaaGreatDoorMBp
import Derived.Test.YtkbmlchceiglfaaGreatDoorMAc
namespace Go.Proofs.YtkbmlchceiglfaaGreatDoor
set_option linter.unnecessarySimpa false
set_option linter.unusedSectionVars false
set_option linter.unusedSimpArgs false
set_option linter.unusedVariables false
open Go.Proofs

theorem addK_mem {ks : List (List UInt8)} {k s : List UInt8} : s ∈ addK ks k ↔ s ∈ ks ∨ k = s := by
  unfold addK
  split
  · rename_i h
    constructor
    · exact .inl
    · rintro (h1 | rfl)
      · exact h1
      · simpa using h
  · simp [eq_comm]

theorem addK_nodup {ks : List (List UInt8)} {k : List UInt8} (h : ks.Nodup) : (addK ks k).Nodup := by
  unfold addK
  split
  · exact h
  · rename_i hk
    rw [List.nodup_append]
    refine ⟨h, by simp, ?_⟩
    intro a ha b hb e
    simp at hb
    subst hb; subst e
    exact hk (by simpa using ha)

/-- The members of a set that is gathered step by step. -/
theorem fold_mem {α β : Type} {pr : α → List (List UInt8)} {add : α → β → α} {Q : β → List UInt8 → Prop} (h : ∀ v x s, s ∈ pr (add v x) ↔ s ∈ pr v ∨ Q x s) : ∀ (l : List β) (v : α) (s : List UInt8), s ∈ pr (l.foldl add v) ↔ s ∈ pr v ∨ ∃ x ∈ l, Q x s
  | [], v, s => by simp
  | x :: l, v, s => by
    rw [List.foldl_cons, fold_mem h l, h]
    simp [or_assoc]

theorem fold_inv {α β : Type} {P : α → Prop} {add : α → β → α} (h : ∀ v x, P v → P (add v x)) : ∀ (l : List β) (v : α), P v → P (l.foldl add v)
  | [], v, hv => hv
  | x :: l, v, hv => fold_inv h l _ (h v x hv)

def hasK (k : Int) (c : Cn) (s : List UInt8) : Prop := ∃ n ∈ nodes c, n.kind = k ∧ n.name = s

theorem addC_a {v : Nm} {c : Cn} {s : List UInt8} : s ∈ (addC v c).a ↔ s ∈ v.a ∨ (c.kind = 3 ∧ c.name = s) := by
  unfold addC
  split
  · rename_i h; rw [addK_mem]; simp [h]
  · split
    · simp_all
    · split
      · simp_all
      · split <;> simp_all
theorem addC_b {v : Nm} {c : Cn} {s : List UInt8} : s ∈ (addC v c).b ↔ s ∈ v.b ∨ (c.kind = 6 ∧ c.name = s) := by
  unfold addC
  split
  · rename_i h; simp [h]
  · split
    · rename_i h; rw [addK_mem]; simp [h]
    · split
      · simp_all
      · split <;> simp_all
theorem addC_c {v : Nm} {c : Cn} {s : List UInt8} : s ∈ (addC v c).c ↔ s ∈ v.c ∨ (c.kind = 7 ∧ c.name = s) := by
  unfold addC
  split
  · rename_i h; simp [h]
  · split
    · rename_i h; simp [h]
    · split
      · rename_i h; rw [addK_mem]; simp [h]
      · split <;> simp_all
theorem addC_d {v : Nm} {c : Cn} {s : List UInt8} : s ∈ (addC v c).d ↔ s ∈ v.d ∨ (c.kind = 4 ∧ c.name = s) := by
  unfold addC
  split
  · rename_i h; simp [h]
  · split
    · rename_i h; simp [h]
    · split
      · rename_i h; simp [h]
      · split
        · rename_i h; rw [addK_mem]; simp [h]
        · simp_all

theorem addS_a {v : Nm} {c : Cn} {s : List UInt8} : s ∈ (addS v c).a ↔ s ∈ v.a ∨ hasK 3 c s := fold_mem (pr := Nm.a) (add := addC) (Q := fun (c : Cn) (s : List UInt8) => c.kind = 3 ∧ c.name = s) (fun v x s => addC_a) (nodes c) v s
theorem addS_b {v : Nm} {c : Cn} {s : List UInt8} : s ∈ (addS v c).b ↔ s ∈ v.b ∨ hasK 6 c s := fold_mem (pr := Nm.b) (add := addC) (Q := fun (c : Cn) (s : List UInt8) => c.kind = 6 ∧ c.name = s) (fun v x s => addC_b) (nodes c) v s
theorem addS_c {v : Nm} {c : Cn} {s : List UInt8} : s ∈ (addS v c).c ↔ s ∈ v.c ∨ hasK 7 c s := fold_mem (pr := Nm.c) (add := addC) (Q := fun (c : Cn) (s : List UInt8) => c.kind = 7 ∧ c.name = s) (fun v x s => addC_c) (nodes c) v s
theorem addS_d {v : Nm} {c : Cn} {s : List UInt8} : s ∈ (addS v c).d ↔ s ∈ v.d ∨ hasK 4 c s := fold_mem (pr := Nm.d) (add := addC) (Q := fun (c : Cn) (s : List UInt8) => c.kind = 4 ∧ c.name = s) (fun v x s => addC_d) (nodes c) v s

theorem addI_a {v : Nm} {k s : List UInt8} : s ∈ (addI v k).a ↔ s ∈ v.a := Iff.rfl
theorem addI_d {v : Nm} {k s : List UInt8} : s ∈ (addI v k).d ↔ s ∈ v.d ∨ k = s := addK_mem
theorem addR_b {v : Nm} {k s : List UInt8} : s ∈ (addR v k).b ↔ s ∈ v.b ∨ k = s := addK_mem

theorem foldR_b (l : List (List UInt8)) (v : Nm) (s : List UInt8) : s ∈ (l.foldl addR v).b ↔ s ∈ v.b ∨ s ∈ l := by
  rw [fold_mem (pr := Nm.b) (add := addR) (Q := fun (k s : List UInt8) => k = s) (fun v x s => addR_b) l v s]
  simp
theorem foldR_a (l : List (List UInt8)) (v : Nm) : (l.foldl addR v).a = v.a := by
  induction l generalizing v with
  | nil => rfl
  | cons x l ih => rw [List.foldl_cons, ih]; rfl
theorem foldR_c (l : List (List UInt8)) (v : Nm) : (l.foldl addR v).c = v.c := by
  induction l generalizing v with
  | nil => rfl
  | cons x l ih => rw [List.foldl_cons, ih]; rfl
theorem foldR_d (l : List (List UInt8)) (v : Nm) : (l.foldl addR v).d = v.d := by
  induction l generalizing v with
  | nil => rfl
  | cons x l ih => rw [List.foldl_cons, ih]; rfl

/-- The names of an axiom. -/
def axA (x : Ax) (s : List UInt8) : Prop := hasK 3 x.left s ∨ hasK 3 x.right s
def axB (x : Ax) (s : List UInt8) : Prop := hasK 6 x.left s ∨ hasK 6 x.right s ∨ s ∈ x.roles ∨ x.role = s
def axC (x : Ax) (s : List UInt8) : Prop := hasK 7 x.left s ∨ hasK 7 x.right s
def axD (x : Ax) (s : List UInt8) : Prop := hasK 4 x.left s ∨ hasK 4 x.right s ∨ x.a = s ∨ x.b = s

theorem addX_a {v : Nm} {x : Ax} {s : List UInt8} : s ∈ (addX v x).a ↔ s ∈ v.a ∨ axA x s := by
  show s ∈ (x.roles.foldl addR ([x.left, x.right].foldl addS v)).a ↔ _
  rw [foldR_a]
  simp only [List.foldl_cons, List.foldl_nil, addS_a, axA, or_assoc]
theorem addX_b {v : Nm} {x : Ax} {s : List UInt8} : s ∈ (addX v x).b ↔ s ∈ v.b ∨ axB x s := by
  show s ∈ (addR (x.roles.foldl addR ([x.left, x.right].foldl addS v)) x.role).b ↔ _
  rw [addR_b, foldR_b]
  simp only [List.foldl_cons, List.foldl_nil, addS_b, axB, or_assoc]
theorem addX_c {v : Nm} {x : Ax} {s : List UInt8} : s ∈ (addX v x).c ↔ s ∈ v.c ∨ axC x s := by
  show s ∈ (x.roles.foldl addR ([x.left, x.right].foldl addS v)).c ↔ _
  rw [foldR_c]
  simp only [List.foldl_cons, List.foldl_nil, addS_c, axC, or_assoc]
theorem addX_d {v : Nm} {x : Ax} {s : List UInt8} : s ∈ (addX v x).d ↔ s ∈ v.d ∨ axD x s := by
  show s ∈ (addI (addI (addR (x.roles.foldl addR ([x.left, x.right].foldl addS v)) x.role) x.a) x.b).d ↔ _
  rw [addI_d, addI_d]
  show (s ∈ (x.roles.foldl addR ([x.left, x.right].foldl addS v)).d ∨ _) ∨ _ ↔ _
  rw [foldR_d]
  simp only [List.foldl_cons, List.foldl_nil, addS_d, axD, or_assoc]

theorem voc_a (l : List Ax) (s : List UInt8) : s ∈ (vocV l).a ↔ ∃ x ∈ l, axA x s := by
  rw [vocV, fold_mem (pr := Nm.a) (add := addX) (Q := axA) (fun v x s => addX_a)]; simp
theorem voc_b (l : List Ax) (s : List UInt8) : s ∈ (vocV l).b ↔ ∃ x ∈ l, axB x s := by
  rw [vocV, fold_mem (pr := Nm.b) (add := addX) (Q := axB) (fun v x s => addX_b)]; simp
theorem voc_c (l : List Ax) (s : List UInt8) : s ∈ (vocV l).c ↔ ∃ x ∈ l, axC x s := by
  rw [vocV, fold_mem (pr := Nm.c) (add := addX) (Q := axC) (fun v x s => addX_c)]; simp
theorem voc_d (l : List Ax) (s : List UInt8) : s ∈ (vocV l).d ↔ ∃ x ∈ l, axD x s := by
  rw [vocV, fold_mem (pr := Nm.d) (add := addX) (Q := axD) (fun v x s => addX_d)]; simp
end Go.Proofs.YtkbmlchceiglfaaGreatDoor

namespace Go.Proofs.YtkbmlchceiglfaaGreatDoor
set_option linter.unnecessarySimpa false
set_option linter.unusedSectionVars false
set_option linter.unusedSimpArgs false
set_option linter.unusedVariables false
open Go.Proofs

def Okn (c : Cn) : Prop := ∀ x ∈ nodes c, fieldsE x = 0

theorem mem_nodesL {x : Cn} : ∀ {l : List Cn}, x ∈ nodesL l ↔ ∃ p ∈ l, x ∈ nodes p
  | [] => by simp [nodesL]
  | c :: r => by rw [nodesL, List.mem_append, mem_nodesL]; simp

theorem okn_iff (c : Cn) : Okn c ↔ fieldsE c = 0 ∧ ∀ p ∈ c.parts, Okn p := by
  unfold Okn
  rw [nodes_eq]
  constructor
  · intro h
    exact ⟨h c (by simp), fun p hp x hx => h x (List.mem_cons_of_mem _ (mem_nodesL.2 ⟨p, hp, hx⟩))⟩
  · rintro ⟨h1, h2⟩ x hx
    rcases List.mem_cons.1 hx with rfl | hx
    · exact h1
    · obtain ⟨p, hp, hx⟩ := mem_nodesL.1 hx
      exact h2 p hp x hx

theorem hasK_iff (k : Int) (c : Cn) (s : List UInt8) : hasK k c s ↔ (c.kind = k ∧ c.name = s) ∨ ∃ p ∈ c.parts, hasK k p s := by
  unfold hasK
  rw [nodes_eq]
  constructor
  · rintro ⟨n, hn, h⟩
    rcases List.mem_cons.1 hn with rfl | hn
    · exact .inl h
    · obtain ⟨p, hp, hx⟩ := mem_nodesL.1 hn
      exact .inr ⟨p, hp, n, hx, h⟩
  · rintro (h | ⟨p, hp, n, hn, h⟩)
    · exact ⟨c, by simp, h⟩
    · exact ⟨n, List.mem_cons_of_mem _ (mem_nodesL.2 ⟨p, hp, hn⟩), h⟩

theorem depthL_mem {p : Cn} : ∀ {l : List Cn}, p ∈ l → depthF p + 1 ≤ depthL l
  | c :: r, h => by
    rw [depthL]
    rcases List.mem_cons.1 h with rfl | h
    · omega
    · have := depthL_mem h; omega

theorem depthL_le {n : Nat} : ∀ {l : List Cn}, (∀ p ∈ l, depthF p + 1 ≤ n) → depthL l ≤ n
  | [], _ => by simp [depthL]
  | c :: r, h => by
    rw [depthL]
    have h1 := h c (by simp)
    have h2 := depthL_le fun p hp => h p (List.mem_cons_of_mem _ hp)
    omega

theorem bareL_iff : ∀ (l : List Cn), bareL l = true ↔ ∃ p ∈ l, bareF p = true
  | [] => by simp [bareL]
  | c :: r => by
    rw [bareL]
    have := bareL_iff r
    split <;> simp_all
theorem bareF_eq' (c : Cn) : bareF c = if c.kind = 4 then true else if c.kind = 5 then bareL c.parts else false := by cases c; rw [bareF]; rfl

/-- A concept's names are among another's. -/
def NamesIn (t c : Cn) : Prop := ∀ k s, k ≠ 1 → k ≠ 5 → hasK k t s → hasK k c s

/-- What tidying keeps. -/
structure Keep (c t : Cn) : Prop where
  ok : Okn t
  dep : depthF t ≤ depthF c
  nam : NamesIn t c
  bare : bareF t = true → bareF c = true

theorem fields_top : fieldsE topC = 0 := by decide
theorem fields_conj {s : List Cn} (h1 : 2 ≤ s.length) (h2 : s.length ≤ 8) : fieldsE (.mk 5 [] 0 0 s) = 0 := by
  unfold fieldsE
  rw [if_neg (by simp [Cn.kind])]
  show fieldsN ⟨0, 2, 8, false⟩ (.mk 5 [] 0 0 s) = 0
  unfold fieldsN nameE
  simp [Cn.parts, Cn.name, Cn.lo, Cn.hi]
  omega

/-- A part of a conjunction, as it stands in the tidied one. -/
structure Part (c m : Cn) : Prop where
  ok : Okn m
  dep : depthF m + 1 ≤ depthF c
  nam : NamesIn m c
  bare : bareF m = true → bareF c = true

theorem Part.keep {c m : Cn} (h : Part c m) : Keep c m := ⟨h.ok, by have := h.dep; omega, h.nam, h.bare⟩

theorem conjS_keep {c : Cn} {s : List Cn} (h : ∀ m ∈ s, Part c m) (h0 : (conjS s).2 = 0) (hk : c.kind = 5) : Keep c (conjS s).1 := by
  unfold conjS at h0 ⊢
  split
  · rename_i t ht
    exact (h t (List.mem_of_find?_eq_some ht)).keep
  · rename_i hn
    rw [hn] at h0
    simp only at h0
    split
    · refine ⟨(okn_iff _).2 ⟨fields_top, fun p hp => by simp [topC, Cn.parts] at hp⟩, by rw [depthF_eq]; simp [topC, Cn.parts, depthL], fun k s h1 h2 hh => ?_, fun hb => ?_⟩
      · rw [hasK_iff] at hh
        rcases hh with ⟨e, _⟩ | ⟨p, hp, _⟩
        · exact absurd e.symm h1
        · simp [topC, Cn.parts] at hp
      · rw [bareF_eq'] at hb; simp [topC, Cn.kind] at hb
    · rename_i e0
      rw [if_neg e0] at h0
      split
      · rename_i e1
        match s, e1 with
        | [x], _ => exact (h x (by simp)).keep
      · rename_i e1
        rw [if_neg e1] at h0
        split
        · rename_i e2; rw [if_pos e2] at h0; simp at h0
        · rename_i e2
          refine ⟨(okn_iff _).2 ⟨fields_conj (by omega) (by omega), fun p hp => (h p hp).ok⟩, ?_, fun k n h1 h2 hh => ?_, fun hb => ?_⟩
          · show depthF (.mk 5 [] 0 0 s) ≤ _
            rw [depthF]; exact depthL_le fun p hp => (h p hp).dep
          · rw [hasK_iff] at hh
            rcases hh with ⟨e, _⟩ | ⟨p, hp, hh⟩
            · exact absurd e.symm h2
            · exact (h p hp).nam k n h1 h2 hh
          · rw [bareF_eq'] at hb
            simp only [Cn.kind, Cn.parts] at hb
            have hb : bareL s = true := by simpa using hb
            obtain ⟨p, hp, hb⟩ := (bareL_iff _).1 hb
            exact (h p hp).bare hb

theorem fieldsN_zero {n : Need} {c : Cn} (hn : n.nums = false) : fieldsN n c = 0 ↔ (n.least ≤ c.parts.length ∧ (c.parts.length : Int) ≤ n.most ∧ (n.name = 0 → c.name = [])) ∧ (c.lo = 0 ∧ c.hi = 0) ∧ nameE n c.name = 0 := by
  unfold fieldsN
  split
  · rename_i h
    constructor
    · intro h; exact absurd h (by decide)
    · rintro ⟨⟨h1, h2, h3⟩, _⟩
      rcases h with h | h | ⟨h, h'⟩
      · omega
      · omega
      · exact absurd (h3 h) h'
  · rename_i h
    rw [if_neg (by rw [hn]; decide)]
    have h1 : n.least ≤ c.parts.length ∧ (c.parts.length : Int) ≤ n.most ∧ (n.name = 0 → c.name = []) := by
      refine ⟨by omega, by omega, fun h0 => ?_⟩
      by_cases h2 : c.name = []
      · exact h2
      · exact absurd (.inr (.inr ⟨h0, h2⟩)) h
    split
    · rename_i h2
      constructor
      · intro h; exact absurd h (by decide)
      · rintro ⟨_, ⟨h3, h4⟩, _⟩
        omega
    · rename_i h2
      exact ⟨fun h => ⟨h1, by omega, h⟩, fun h => h.2.2⟩

theorem fieldsE_at {c : Cn} {k : Int} (hk : c.kind = k) (h : 1 ≤ k ∧ k ≤ 7) : fieldsE c = fieldsN (needAt k) c := by
  unfold fieldsE
  rw [if_neg (by omega), hk]

theorem fields_some {c r : Cn} (hk : c.kind = 6) (h : fieldsE c = 0) : fieldsE (.mk 6 c.name 0 0 [r]) = 0 := by
  rw [fieldsE_at hk (by decide), fieldsN_zero rfl] at h
  rw [fieldsE_at (k := 6) rfl (by decide), fieldsN_zero rfl]
  exact ⟨⟨show (1 : Int) ≤ ((1 : Nat) : Int) by decide, show ((1 : Nat) : Int) ≤ 1 by decide, fun h0 => absurd h0 (by decide)⟩, ⟨rfl, rfl⟩, h.2.2⟩

theorem tidy_keep : ∀ c : Cn, Okn c → (tidyC c).2 = 0 → Keep c (tidyC c).1 := by
  refine Cn.ind ?_
  intro c ih hok h0
  obtain ⟨hf, hp⟩ := (okn_iff c).1 hok
  have self : Keep c c := ⟨hok, Nat.le_refl _, fun _ _ _ _ h => h, id⟩
  rw [tidyC_eq] at h0 ⊢
  split
  · rename_i h6
    rw [if_pos h6] at h0
    cases hps : c.parts with
    | nil =>
      exfalso
      rw [fieldsE_at h6 (by decide), fieldsN_zero rfl, hps] at hf
      have h1 : (1 : Int) ≤ ([] : List Cn).length := hf.1.1
      simp at h1
    | cons p r =>
      rw [hps] at h0
      simp only [List.map_cons, someF] at h0 ⊢
      have hpm : p ∈ c.parts := by rw [hps]; simp
      have hd : depthF p + 1 ≤ depthF c := by rw [depthF_eq c]; exact depthL_mem hpm
      have hnm : NamesIn p c := fun k s _ _ h => (hasK_iff k c s).2 (.inr ⟨p, hpm, h⟩)
      split
      · rename_i hb
        rw [if_pos hb] at h0
        have hk := ih p hpm (hp p hpm) h0
        have h2 : (tidyC p).1.kind = 2 := by rcases hb with hb | hb; exact absurd h0 hb; exact hb
        exact ⟨hk.ok, by have := hk.dep; omega, fun k s h1 h2 hh => hnm k s h1 h2 (hk.nam k s h1 h2 hh), fun hb => by rw [bareF_eq', h2] at hb; simp at hb⟩
      · rename_i hb
        have hk := ih p hpm (hp p hpm) (by omega)
        refine ⟨(okn_iff _).2 ⟨?_, fun q hq => ?_⟩, ?_, fun k s h1 h2 hh => ?_, fun hb => ?_⟩
        · exact fields_some h6 hf
        · simp [Cn.parts] at hq; subst hq; exact hk.ok
        · rw [depthF, depthL, depthL]
          have := hk.dep; omega
        · rw [hasK_iff] at hh
          rcases hh with ⟨e1, e2⟩ | ⟨q, hq, hh⟩
          · exact (hasK_iff k c s).2 (.inl ⟨h6.trans e1, e2⟩)
          · simp [Cn.parts] at hq; subst hq
            exact hnm k s h1 h2 (hk.nam k s h1 h2 hh)
        · rw [bareF_eq'] at hb; simp [Cn.kind] at hb
  · rename_i h6
    rw [if_neg h6] at h0
    split
    · rename_i h5
      rw [if_pos h5] at h0
      unfold meetF at h0 ⊢
      split
      · rename_i r hr
        rw [hr] at h0
        have := List.find?_some hr
        simp at this h0
        exact absurd h0 this
      · rename_i hn
        rw [hn] at h0
        simp only at h0
        have hz : ∀ p ∈ c.parts, (tidyC p).2 = 0 := fun p hp => by
          have := List.find?_eq_none.1 hn (tidyC p) (List.mem_map_of_mem hp)
          simpa using this
        refine conjS_keep (fun m hm => ?_) h0 h5
        rw [mem_setC, List.mem_flatMap] at hm
        obtain ⟨r, hr, hm⟩ := hm
        obtain ⟨p, hpm, rfl⟩ := List.mem_map.1 hr
        have hk := ih p hpm (hp p hpm) (hz p hpm)
        have hd : depthF p + 1 ≤ depthF c := by rw [depthF_eq c]; exact depthL_mem hpm
        have hnm : NamesIn p c := fun k s _ _ h => (hasK_iff k c s).2 (.inr ⟨p, hpm, h⟩)
        have hbr : bareF p = true → bareF c = true := fun h => by
          rw [bareF_eq', if_neg (by omega), if_pos h5]
          exact (bareL_iff _).2 ⟨p, hpm, h⟩
        unfold partsF at hm
        split at hm
        · simp at hm
        · split at hm
          · rename_i k5
            have hokm := ((okn_iff _).1 hk.ok).2 m hm
            have hdm : depthF m + 1 ≤ depthF (tidyC p).1 := by rw [depthF_eq (tidyC p).1]; exact depthL_mem hm
            refine ⟨hokm, by have := hk.dep; omega, fun k s h1 h2 hh => hnm k s h1 h2 (hk.nam k s h1 h2 ((hasK_iff _ _ _).2 (.inr ⟨m, hm, hh⟩))), fun hb => hbr (hk.bare ?_)⟩
            rw [bareF_eq', if_neg (by omega), if_pos k5]
            exact (bareL_iff _).2 ⟨m, hm, hb⟩
          · simp at hm; subst hm
            exact ⟨hk.ok, by have := hk.dep; omega, fun k s h1 h2 hh => hnm k s h1 h2 (hk.nam k s h1 h2 hh), fun hb => hbr (hk.bare hb)⟩
    · exact self
end Go.Proofs.YtkbmlchceiglfaaGreatDoor

namespace Go.Proofs.YtkbmlchceiglfaaGreatDoor
set_option linter.unnecessarySimpa false
set_option linter.unusedSectionVars false
set_option linter.unusedSimpArgs false
set_option linter.unusedVariables false
open Go.Proofs

theorem firstE_iff : ∀ (l : List Cn), firstE l = 0 ↔ ∀ x ∈ l, fieldsE x = 0 := fun l =>
  ⟨fun h => firstE_zero h, fun h => by have := firstE_skip l [] h; rw [List.append_nil] at this; rw [this]; rfl⟩

mutual
theorem fitsF_iff : ∀ (c : Cn) (d n : Int), ((fitsF c d n).1 = true ↔ d + depthF c ≤ 8 ∧ n + sizeF c ≤ 64)
  | .mk k s lo hi ps, d, n => by
    have e : sizeF (.mk k s lo hi ps) = sumN ps + 1 := sizeF_sum _
    rw [fitsF, depthF, e]
    split
    · rename_i h
      simp only [Bool.false_eq_true, false_iff]
      omega
    · rename_i h
      rw [fitsL_iff ps d (n + 1) (by omega) (by omega)]
      omega
theorem fitsL_iff : ∀ (l : List Cn) (d n : Int), d ≤ 8 → n ≤ 64 → ((fitsL l d n).1 = true ↔ d + depthL l ≤ 8 ∧ n + sumN l ≤ 64)
  | [], d, n, hd, hn => by
    rw [fitsL, depthL, sumN_nil]
    simp only [true_iff]
    omega
  | c :: r, d, n, hd, hn => by
    have h1 := fitsF_iff c (d + 1) n
    have h2 := fitsF_size c (d + 1) n
    rw [fitsL, depthL, sumN_cons]
    split
    · rename_i hb
      rw [hb] at h1
      have h1 := h1.1 rfl
      rw [h2 hb, fitsL_iff r d _ hd (by omega)]
      omega
    · rename_i hb
      have h1 : ¬ (d + 1 + depthF c ≤ 8 ∧ n + sizeF c ≤ 64) := fun h => hb (h1.2 h)
      simp only [Bool.false_eq_true, false_iff]
      omega
end

theorem conceptE_iff (c : Cn) : conceptE c = 0 ↔ depthF c ≤ 8 ∧ sizeF c ≤ 64 ∧ Okn c := by
  have h := fitsF_iff c 0 0
  unfold conceptE
  split
  · rename_i hf
    rw [hf] at h
    constructor
    · intro h; exact absurd h (by decide)
    · rintro ⟨h1, h2, _⟩
      exact absurd (h.2 ⟨by omega, by omega⟩) (by decide)
  · rename_i hf
    have hf : (fitsF c 0 0).1 = true := by simpa using hf
    have h1 := h.1 hf
    rw [firstE_iff]
    exact ⟨fun h => ⟨by omega, by omega, h⟩, fun h => h.2.2⟩

theorem concept_tidy {c : Cn} (h : conceptE c = 0) (h0 : (tidyC c).2 = 0) : conceptE (tidyC c).1 = 0 ∧ NamesIn (tidyC c).1 c ∧ (bareF (tidyC c).1 = true → bareF c = true) := by
  obtain ⟨h1, h2, h3⟩ := (conceptE_iff c).1 h
  have hk := tidy_keep c h3 h0
  have hs := tidyC_size c
  exact ⟨(conceptE_iff _).2 ⟨by have := hk.dep; omega, by omega, hk.ok⟩, hk.nam, hk.bare⟩

/-! ### names -/

theorem name_of {c : Cn} {k : Int} {s : List UInt8} (h : Okn c) (hk : k = 3 ∨ k = 4 ∨ k = 6 ∨ k = 7) (hs : hasK k c s) : nameF s = true := by
  obtain ⟨n, hn, e1, rfl⟩ := hs
  have hf := h n hn
  have hE : nameE (needAt k) n.name = 0 := by
    rw [fieldsE_at e1 (by omega)] at hf
    by_cases h7 : k = 7
    · subst h7
      unfold fieldsN at hf
      split at hf
      · exact absurd hf (by decide)
      · rw [if_pos (show (needAt 7).nums = true from rfl)] at hf
        split at hf
        · exact absurd hf (by decide)
        · exact hf
    · have hn : (needAt k).nums = false := by rcases hk with rfl | rfl | rfl | rfl <;> first | rfl | exact absurd rfl h7
      exact ((fieldsN_zero hn).1 hf).2.2
  unfold nameE at hE
  split at hE
  · rename_i h1
    unfold nameF
    rcases h1 with h1 | h1 | ⟨_, h1⟩
    · rcases hk with rfl | rfl | rfl | rfl <;> exact absurd h1 (by decide)
    · rw [h1]; rfl
    · rw [h1, Bool.or_true]
  · exact absurd hE (by decide)

theorem empty_eq {c : Cn} (h : emptyF c = true) : c = c0 := by
  obtain ⟨k, n, lo, hi, ps⟩ := c
  have h : (decide (k = 0) && (decide (n = []) && (decide (lo = 0) && (decide (hi = 0) && decide (ps = []))))) = true := h
  simp only [Bool.and_eq_true, decide_eq_true_eq] at h
  obtain ⟨rfl, rfl, rfl, rfl, rfl⟩ := h
  rfl

theorem hasK_c0 {k : Int} {s : List UInt8} (hk : k ≠ 0) : ¬ hasK k c0 s := by
  rw [hasK_iff]
  rintro (⟨e, _⟩ | ⟨p, hp, _⟩)
  · exact hk e.symm
  · simp [c0, Cn.parts] at hp
end Go.Proofs.YtkbmlchceiglfaaGreatDoor

namespace Go.Proofs.YtkbmlchceiglfaaGreatDoor
set_option linter.unnecessarySimpa false
set_option linter.unusedSectionVars false
set_option linter.unusedSimpArgs false
set_option linter.unusedVariables false
open Go.Proofs

/-- What a valid axiom is. -/
structure AxOk (u : Use) (x : Ax) : Prop where
  kind : 1 ≤ x.kind ∧ x.kind ≤ 9
  shaped : shapedU u x = true
  named : namedF u x = true
  left : u.left = true → conceptE x.left = 0
  right : u.right = true → conceptE x.right = 0
  bare : bareE x = false

theorem axiomE_iff (x : Ax) : axiomE x = 0 ↔ AxOk (useAt x.kind) x := by
  unfold axiomE shapedF
  split
  · rename_i h
    rw [if_pos rfl]
    constructor
    · intro h; exact absurd h (by decide)
    · intro h'
      have hk := h'.kind
      omega
  · rename_i h
    by_cases hs : shapedU (useAt x.kind) x = false
    · rw [if_pos hs]
      constructor
      · intro h; exact absurd h (by decide)
      · intro h'; rw [h'.shaped] at hs; exact absurd hs (by decide)
    rw [if_neg hs]
    have hs : shapedU (useAt x.kind) x = true := by simpa using hs
    unfold axiomU
    split
    · rename_i hn
      constructor
      · intro h; exact absurd h (by decide)
      · intro h'; rw [h'.named] at hn; exact absurd hn (by decide)
    · rename_i hn
      have hn : namedF (useAt x.kind) x = true := by simpa using hn
      split
      · rename_i h1
        exact ⟨fun h => absurd h h1.2, fun h' => absurd (h'.left h1.1) h1.2⟩
      · rename_i h1
        have h1 : (useAt x.kind).left = true → conceptE x.left = 0 := fun h2 => Classical.byContradiction fun h3 => h1 ⟨h2, h3⟩
        split
        · rename_i h2
          exact ⟨fun h => absurd h h2.2, fun h' => absurd (h'.right h2.1) h2.2⟩
        · rename_i h2
          have h2 : (useAt x.kind).right = true → conceptE x.right = 0 := fun h3 => Classical.byContradiction fun h4 => h2 ⟨h3, h4⟩
          split
          · rename_i hb
            constructor
            · intro h; exact absurd h (by decide)
            · intro h'; rw [h'.bare] at hb; exact absurd hb (by decide)
          · rename_i hb
            exact ⟨fun _ => ⟨by omega, hs, hn, h1, h2, by simpa using hb⟩, fun _ => rfl⟩

structure SideOk (b : Bool) (c t : Cn) : Prop where
  ok : b = true → conceptE t = 0
  nam : NamesIn t c
  bare : bareF t = true → bareF c = true
  same : b = false → t = c

theorem side_ok {b : Bool} {c : Cn} (h : b = true → conceptE c = 0) (h0 : (sideF b c).2 = 0) : SideOk b c (sideF b c).1 := by
  unfold sideF at h0 ⊢
  cases b with
  | false => exact ⟨fun h => absurd h (by decide), fun _ _ _ _ h => h, id, fun _ => rfl⟩
  | true =>
    rw [if_pos rfl] at h0 ⊢
    obtain ⟨h1, h2, h3⟩ := concept_tidy (h rfl) h0
    exact ⟨fun _ => h1, h2, h3, fun h => absurd h (by decide)⟩

/-- The names of t are among those of x. -/
structure SubX (t x : Ax) : Prop where
  a : ∀ s, axA t s → axA x s
  b : ∀ s, axB t s → axB x s
  c : ∀ s, axC t s → axC x s
  d : ∀ s, axD t s → axD x s

theorem sub_same {x : Ax} {l r : Cn} (hl : NamesIn l x.left) (hr : NamesIn r x.right) : SubX { x with left := l, right := r } x := by
  have h : ∀ k s, k ≠ 1 → k ≠ 5 → hasK k l s ∨ hasK k r s → hasK k x.left s ∨ hasK k x.right s := fun k s h1 h2 h => h.imp (hl k s h1 h2) (hr k s h1 h2)
  refine ⟨fun s hs => h 3 s (by decide) (by decide) hs, fun s hs => ?_, fun s hs => h 7 s (by decide) (by decide) hs, fun s hs => ?_⟩
  · have hs : hasK 6 l s ∨ hasK 6 r s ∨ s ∈ x.roles ∨ x.role = s := hs
    rcases hs with hs | hs | hs
    · exact .inl (hl 6 s (by decide) (by decide) hs)
    · exact .inr (.inl (hr 6 s (by decide) (by decide) hs))
    · exact .inr (.inr hs)
  · have hs : hasK 4 l s ∨ hasK 4 r s ∨ x.a = s ∨ x.b = s := hs
    rcases hs with hs | hs | hs
    · exact .inl (hl 4 s (by decide) (by decide) hs)
    · exact .inr (.inl (hr 4 s (by decide) (by decide) hs))
    · exact .inr (.inr hs)

theorem sub_swap {x : Ax} {l r : Cn} (hl : NamesIn l x.left) (hr : NamesIn r x.right) : SubX { x with left := r, right := l } x := by
  have h : ∀ k s, k ≠ 1 → k ≠ 5 → hasK k r s ∨ hasK k l s → hasK k x.left s ∨ hasK k x.right s := fun k s h1 h2 h => h.symm.imp (hl k s h1 h2) (hr k s h1 h2)
  refine ⟨fun s hs => h 3 s (by decide) (by decide) hs, fun s hs => ?_, fun s hs => h 7 s (by decide) (by decide) hs, fun s hs => ?_⟩
  · have hs : hasK 6 r s ∨ hasK 6 l s ∨ s ∈ x.roles ∨ x.role = s := hs
    rcases hs with hs | hs | hs
    · exact .inr (.inl (hr 6 s (by decide) (by decide) hs))
    · exact .inl (hl 6 s (by decide) (by decide) hs)
    · exact .inr (.inr hs)
  · have hs : hasK 4 r s ∨ hasK 4 l s ∨ x.a = s ∨ x.b = s := hs
    rcases hs with hs | hs | hs
    · exact .inr (.inl (hr 4 s (by decide) (by decide) hs))
    · exact .inl (hl 4 s (by decide) (by decide) hs)
    · exact .inr (.inr hs)

theorem shaped_new {u : Use} {x : Ax} {l r : Cn} (h : shapedU u x = true) (hl : u.left = true ∨ l = x.left) (hr : u.right = true ∨ r = x.right) : shapedU u { x with left := l, right := r } = true := by
  have h : ((u.left || emptyF x.left) && ((u.right || emptyF x.right) && ((u.role || decide (x.role = [])) && ((u.a || decide (x.a = [])) && ((u.b || decide (x.b = [])) && (decide (u.least ≤ x.roles.length) && decide ((x.roles.length : Int) ≤ u.most))))))) = true := h
  show ((u.left || emptyF l) && ((u.right || emptyF r) && ((u.role || decide (x.role = [])) && ((u.a || decide (x.a = [])) && ((u.b || decide (x.b = [])) && (decide (u.least ≤ x.roles.length) && decide ((x.roles.length : Int) ≤ u.most))))))) = true
  rw [Bool.and_eq_true, Bool.and_eq_true] at h
  rw [Bool.and_eq_true, Bool.and_eq_true]
  refine ⟨?_, ?_, h.2.2⟩
  · rcases hl with hl | rfl
    · rw [hl]; rfl
    · exact h.1
  · rcases hr with hr | rfl
    · rw [hr]; rfl
    · exact h.2.1

theorem bareE_new {x : Ax} {l r : Cn} (h : bareE x = false) (hl : bareF l = true → bareF x.left = true) (hr : bareF r = true → bareF x.right = true) : bareE { x with left := l, right := r } = false := by
  have h : (if x.kind = 2 then (bareF x.left || bareF x.right) else if x.kind = 1 ∨ x.kind = 4 ∨ x.kind = 8 then bareF x.right else false) = false := h
  show (if x.kind = 2 then (bareF l || bareF r) else if x.kind = 1 ∨ x.kind = 4 ∨ x.kind = 8 then bareF r else false) = false
  revert h hl hr
  cases bareF l <;> cases bareF r <;> cases bareF x.left <;> cases bareF x.right <;> split <;> (try split) <;> simp

theorem bareE_swap {x : Ax} {l r : Cn} (hk : x.kind = 2 ∨ x.kind = 3) (h : bareE x = false) (hl : bareF l = true → bareF x.left = true) (hr : bareF r = true → bareF x.right = true) : bareE { x with left := r, right := l } = false := by
  have h : (if x.kind = 2 then (bareF x.left || bareF x.right) else if x.kind = 1 ∨ x.kind = 4 ∨ x.kind = 8 then bareF x.right else false) = false := h
  show (if x.kind = 2 then (bareF r || bareF l) else if x.kind = 1 ∨ x.kind = 4 ∨ x.kind = 8 then bareF l else false) = false
  rcases hk with hk | hk
  · rw [if_pos hk] at h ⊢
    revert h hl hr
    cases bareF l <;> cases bareF r <;> cases bareF x.left <;> cases bareF x.right <;> simp
  · rw [if_neg (by omega), if_neg (by omega)]

theorem axiom_tidy {x : Ax} (h0 : (tidyA x).2 = 0) : axiomE x = 0 ∧ axiomE (tidyA x).1 = 0 ∧ SubX (tidyA x).1 x := by
  have hE : axiomE x = 0 := by
    unfold tidyA at h0
    split at h0
    · exact h0
    · rename_i h; exact Classical.byContradiction fun h' => h h'
  refine ⟨hE, ?_⟩
  have ho := (axiomE_iff x).1 hE
  have hA : tidyA x = tidyU (useAt x.kind) x := by unfold tidyA; rw [if_neg (by omega)]
  rw [hA] at h0 ⊢
  have huse : x.kind = 2 ∨ x.kind = 3 → (useAt x.kind).left = true ∧ (useAt x.kind).right = true := by
    rintro (h | h) <;> rw [h] <;> exact ⟨rfl, rfl⟩
  rw [axiomE_iff]
  generalize hl : sideF (useAt x.kind).left x.left = L
  generalize hr : sideF (useAt x.kind).right x.right = R
  unfold tidyU at h0 ⊢
  rw [hl, hr] at h0 ⊢
  split at h0
  · rename_i h; exact absurd h0 h
  · rename_i hl0
    split at h0
    · rename_i h; exact absurd h0 h
    · rename_i hr0
      have sl : SideOk (useAt x.kind).left x.left L.1 := by rw [← hl]; exact side_ok ho.left (by rw [hl]; omega)
      have sr : SideOk (useAt x.kind).right x.right R.1 := by rw [← hr]; exact side_ok ho.right (by rw [hr]; omega)
      rw [if_neg hl0, if_neg hr0]
      split
      · rename_i hs
        obtain ⟨u1, u2⟩ := huse hs.1
        refine ⟨⟨ho.kind, shaped_new ho.shaped (.inl u1) (.inl u2), ho.named, fun _ => sr.ok u2, fun _ => sl.ok u1, bareE_swap hs.1 ho.bare sl.bare sr.bare⟩, sub_swap sl.nam sr.nam⟩
      · have e1 : (useAt x.kind).left = true ∨ L.1 = x.left := by cases hb : (useAt x.kind).left with
          | true => exact .inl rfl
          | false => exact .inr (sl.same hb)
        have e2 : (useAt x.kind).right = true ∨ R.1 = x.right := by cases hb : (useAt x.kind).right with
          | true => exact .inl rfl
          | false => exact .inr (sr.same hb)
        exact ⟨⟨ho.kind, shaped_new ho.shaped e1 e2, ho.named, sl.ok, sr.ok, bareE_new ho.bare sl.bare sr.bare⟩, sub_same sl.nam sr.nam⟩

/-! ### names -/

theorem side_name {b : Bool} {c : Cn} (h : (b || emptyF c) = true) (h0 : b = true → conceptE c = 0) {k : Int} {s : List UInt8} (hk : k = 3 ∨ k = 4 ∨ k = 6 ∨ k = 7) (hs : hasK k c s) : nameF s = true := by
  cases b with
  | true => exact name_of ((conceptE_iff c).1 (h0 rfl)).2.2 hk hs
  | false =>
    rw [empty_eq h] at hs
    exact absurd hs (hasK_c0 (by omega))

theorem ax_names {x : Ax} (h : axiomE x = 0) : (∀ s, axA x s → nameF s = true) ∧ (∀ s, axB x s → s = [] ∨ nameF s = true) ∧ (∀ s, axC x s → nameF s = true) ∧ (∀ s, axD x s → s = [] ∨ nameF s = true) := by
  obtain ⟨_, hs, hn, hl, hr, _⟩ := (axiomE_iff x).1 h
  generalize useAt x.kind = u at hs hn hl hr
  unfold shapedU at hs
  unfold namedF at hn
  simp only [Bool.and_eq_true] at hs
  obtain ⟨s1, s2, s3, s4, s5, _⟩ := hs
  have hlr : ∀ k s, (k = 3 ∨ k = 4 ∨ k = 6 ∨ k = 7) → hasK k x.left s ∨ hasK k x.right s → nameF s = true := by
    rintro k s hk (h | h)
    · exact side_name s1 hl hk h
    · exact side_name s2 hr hk h
  rw [Bool.and_eq_true] at hn
  obtain ⟨n1, n2⟩ := hn
  have pl : ∀ s, plainF s = true → nameF s = true := fun s h => by unfold nameF; rw [h]; rfl
  have hrole : x.role = [] ∨ plainF x.role = true := by
    revert s3 n1
    cases u.role <;> cases plainF x.role <;> simp <;> (intro h; simp [h])
  have ha : x.a = [] ∨ nameF x.a = true := by
    revert s4 n1
    cases u.a <;> cases nameF x.a <;> simp <;> (intro h; simp [h])
  have hb : x.b = [] ∨ nameF x.b = true := by
    revert s5 n1
    cases u.b <;> cases nameF x.b <;> simp <;> (intro h; simp [h])
  refine ⟨fun s hs => hlr 3 s (by decide) hs, fun s hs => ?_, fun s hs => hlr 7 s (by decide) hs, fun s hs => ?_⟩
  · rcases hs with hs | hs | hs | hs
    · exact .inr (hlr 6 s (by decide) (.inl hs))
    · exact .inr (hlr 6 s (by decide) (.inr hs))
    · exact .inr (pl s (List.all_eq_true.1 n2 s hs))
    · subst hs; exact hrole.imp id (pl _)
  · rcases hs with hs | hs | hs | hs
    · exact .inr (hlr 4 s (by decide) (.inl hs))
    · exact .inr (hlr 4 s (by decide) (.inr hs))
    · subst hs; exact ha
    · subst hs; exact hb
end Go.Proofs.YtkbmlchceiglfaaGreatDoor

namespace Go.Proofs.YtkbmlchceiglfaaGreatDoor
set_option linter.unnecessarySimpa false
set_option linter.unusedSectionVars false
set_option linter.unusedSimpArgs false
set_option linter.unusedVariables false
open Go.Proofs
set_option maxRecDepth 10000
attribute [local irreducible] SemVC CallVC Tri Stuck YVC GenP GenVC

set_option maxHeartbeats 4000000 in
theorem has_spec (l : List (List UInt8)) (s : List UInt8) : Tri Tryz.prog 53 [.d (strl l), .d (.str s)] [] (fun r => r = .d (.bool (decide (s ∈ l)))) := by
  refine tri_of_body hty Tryz.func53 rfl (kp [0, 1, 4, 5, 9, 17]) [] _ _ _ (by simp [Tryz.f53]) (by simp) ?_
  ((conv => whnf); repeat' ((first | (intro hq; (try simp only [lnS] at hq); (try rewrite [List.length_map])) | refine sJ ?_ | refine Exists.intro _ (And.intro rfl ?_) | (refine Exists.intro (show (_ : Nat) < List.length _ from by first | omega | (simp only [List.length_cons, List.length_nil]; omega) | simp) ?_) | fail | refine draw_rule hty (by kernel_rfl) (by kernel_rfl) ?_ | ((first | refine brB_dec (fun hb => ?_) (fun hb => ?_) | refine brB_ndec (fun hb => ?_) (fun hb => ?_)) <;> (first | contradiction | ((try simp only [lnS] at hb); (first | (exfalso; omega) | skip)))) | (refine brB_split (fun hb => ?_) (fun hb => ?_) <;> (first | contradiction | exact absurd (hb.symm.trans (by assumption) : false = true) (by decide) | exact absurd (hb.symm.trans (by assumption) : true = false) (by decide) | skip))) <;> (conv => whnf)))
  refine loop_rule hty (fun j : Nat => ([(0, .d (strl l)), (1, .d (.str s)), (4, .d (.bool false)), (5, .d (.int .i64 j))], [])) (fun j => j ≤ l.length ∧ decide (s ∈ l) = decide (s ∈ l.drop j)) (fun j => l.length - j) 0 ⟨by omega, rfl⟩ ⟨by repeat' (first | exact trivial | exact rfl | (rw [List.length_map]; exact rfl) | refine And.intro ?_ ?_), trivial⟩ ?_
  rintro j ⟨hj, hn⟩
  ((conv => whnf); repeat ((first | (intro hq; try simp only [lnS] at hq) | refine sI ?_ | refine Exists.intro _ (And.intro rfl ?_)); (conv => whnf)))
  refine brB_dec (fun h1 => ?_) (fun h1 => ?_)
  · have hjl : j < l.length := by simp only [List.length_map] at h1; omega
    have hrow : (l.map strR)[(j : Int).toNat]? = some (strR l[j]) := rowC_at hjl
    rw [List.drop_eq_getElem_cons hjl] at hn
    generalize l[j] = x at hrow hn
    ((conv => whnf); repeat' ((first | (intro hq; (try simp only [lnS] at hq); (try rewrite [List.length_map])) | refine sJ ?_ | refine Exists.intro _ (And.intro rfl ?_) | (refine Exists.intro (show (_ : Nat) < List.length _ from by first | omega | (simp only [List.length_cons, List.length_nil]; omega) | simp) ?_) | (refine ⟨_, hrow, ?_⟩) | refine draw_rule hty (by kernel_rfl) (by kernel_rfl) ?_ | ((first | refine brB_dec (fun hb => ?_) (fun hb => ?_) | refine brB_ndec (fun hb => ?_) (fun hb => ?_)) <;> (first | contradiction | ((try simp only [lnS] at hb); (first | (exfalso; omega) | skip)))) | (refine brB_split (fun hb => ?_) (fun hb => ?_) <;> (first | contradiction | exact absurd (hb.symm.trans (by assumption) : false = true) (by decide) | exact absurd (hb.symm.trans (by assumption) : true = false) (by decide) | skip))) <;> (conv => whnf)))
    · refine bool_eq (Eq.symm ?_)
      rw [hn]; simp_all
    · refine ⟨j + 1, ⟨by omega, ?_⟩, by dsimp only; omega, by repeat' (first | exact trivial | exact rfl | refine And.intro ?_ ?_), trivial⟩
      rw [hn]
      simp_all [eq_comm]
  · have hjl : j = l.length := by simp only [List.length_map] at h1; omega
    subst hjl
    ((conv => whnf); repeat' ((first | (intro hq; (try simp only [lnS] at hq); (try rewrite [List.length_map])) | refine sJ ?_ | refine Exists.intro _ (And.intro rfl ?_) | (refine Exists.intro (show (_ : Nat) < List.length _ from by first | omega | (simp only [List.length_cons, List.length_nil]; omega) | simp) ?_) | fail | refine draw_rule hty (by kernel_rfl) (by kernel_rfl) ?_ | ((first | refine brB_dec (fun hb => ?_) (fun hb => ?_) | refine brB_ndec (fun hb => ?_) (fun hb => ?_)) <;> (first | contradiction | ((try simp only [lnS] at hb); (first | (exfalso; omega) | skip)))) | (refine brB_split (fun hb => ?_) (fun hb => ?_) <;> (first | contradiction | exact absurd (hb.symm.trans (by assumption) : false = true) (by decide) | exact absurd (hb.symm.trans (by assumption) : true = false) (by decide) | skip))) <;> (conv => whnf)))
    refine bool_eq (Eq.symm ?_)
    rw [hn, List.drop_length]; simp

def fewL (l : List Ax) : Bool := l.all fewAx

set_option maxHeartbeats 4000000 in
theorem fewAxioms_spec (l : List Ax) (n : Int) (hl : ∀ x ∈ l, SzAx x) : Tri Tryz.prog 9 [.d (.sl 16 (l.map axR)), .d (.int .i64 n)] [] (fun r => r = .d (.bool (decide ((l.length : Int) ≤ n) && l.all fewAx))) := by
  refine tri_of_body hty Tryz.func9 rfl (kp [0, 1, 4, 5, 9, 13, 21]) [] _ _ _ (by simp [Tryz.f9]) (by simp) ?_
  ((conv => whnf); repeat' ((first | (intro hq; (try simp only [lnS] at hq); (try rewrite [List.length_map])) | refine sJ ?_ | refine Exists.intro _ (And.intro rfl ?_) | (refine Exists.intro (show (_ : Nat) < List.length _ from by first | omega | (simp only [List.length_cons, List.length_nil]; omega) | simp) ?_) | fail | refine draw_rule hty (by kernel_rfl) (by kernel_rfl) ?_ | ((first | refine brB_dec (fun hb => ?_) (fun hb => ?_) | refine brB_ndec (fun hb => ?_) (fun hb => ?_)) <;> (first | contradiction | ((try simp only [lnS] at hb); (first | (exfalso; omega) | skip)))) | (refine brB_split (fun hb => ?_) (fun hb => ?_) <;> (first | contradiction | exact absurd (hb.symm.trans (by assumption) : false = true) (by decide) | exact absurd (hb.symm.trans (by assumption) : true = false) (by decide) | skip))) <;> (conv => whnf)))
  · refine bool_eq (Eq.symm ?_)
    rw [decide_eq_false (by omega), Bool.false_and]
  · have hle : (l.length : Int) ≤ n := by omega
    rw [decide_eq_true hle, Bool.true_and]
    refine loop_rule hty (fun j : Nat => ([(0, .d (.sl 16 (l.map axR))), (1, .d (.int .i64 n)), (4, .d (.bool false)), (5, .d (.int .i64 j))], [])) (fun j => j ≤ l.length ∧ l.all fewAx = (l.drop j).all fewAx) (fun j => l.length - j) 0 ⟨by omega, rfl⟩ ⟨by repeat' (first | exact trivial | exact rfl | (rw [List.length_map]; exact rfl) | refine And.intro ?_ ?_), trivial⟩ ?_
    rintro j ⟨hj, hn⟩
    ((conv => whnf); repeat ((first | (intro hq; try simp only [lnS] at hq) | refine sI ?_ | refine Exists.intro _ (And.intro rfl ?_)); (conv => whnf)))
    refine brB_dec (fun h1 => ?_) (fun h1 => ?_)
    · have hjl : j < l.length := by simp only [List.length_map] at h1; omega
      have hrow : (l.map axR)[(j : Int).toNat]? = some (axR l[j]) := rowC_at hjl
      have hc := FewAxiom_spec l[j] (hl _ (List.getElem_mem hjl))
      rw [List.drop_eq_getElem_cons hjl, List.all_cons] at hn
      generalize l[j] = x at hrow hn hc
      ((conv => whnf); repeat' ((first | (intro hq; (try simp only [lnS] at hq); (try rewrite [List.length_map])) | refine sJ ?_ | refine Exists.intro _ (And.intro rfl ?_) | (refine Exists.intro (show (_ : Nat) < List.length _ from by first | omega | (simp only [List.length_cons, List.length_nil]; omega) | simp) ?_) | (refine ⟨_, hrow, ?_⟩) | (refine call_tri [] hc trivial (fun r hs => ?_); subst hs) | refine draw_rule hty (by kernel_rfl) (by kernel_rfl) ?_ | ((first | refine brB_dec (fun hb => ?_) (fun hb => ?_) | refine brB_ndec (fun hb => ?_) (fun hb => ?_)) <;> (first | contradiction | ((try simp only [lnS] at hb); (first | (exfalso; omega) | skip)))) | (refine brB_split (fun hb => ?_) (fun hb => ?_) <;> (first | contradiction | exact absurd (hb.symm.trans (by assumption) : false = true) (by decide) | exact absurd (hb.symm.trans (by assumption) : true = false) (by decide) | skip))) <;> (conv => whnf)))
      · refine bool_eq (Eq.symm ?_)
        rw [hn]; simp_all
      · refine ⟨j + 1, ⟨by omega, ?_⟩, by dsimp only; omega, by repeat' (first | exact trivial | exact rfl | refine And.intro ?_ ?_), trivial⟩
        rw [hn]; simp_all
    · have hjl : j = l.length := by simp only [List.length_map] at h1; omega
      subst hjl
      ((conv => whnf); repeat' ((first | (intro hq; (try simp only [lnS] at hq); (try rewrite [List.length_map])) | refine sJ ?_ | refine Exists.intro _ (And.intro rfl ?_) | (refine Exists.intro (show (_ : Nat) < List.length _ from by first | omega | (simp only [List.length_cons, List.length_nil]; omega) | simp) ?_) | fail | refine draw_rule hty (by kernel_rfl) (by kernel_rfl) ?_ | ((first | refine brB_dec (fun hb => ?_) (fun hb => ?_) | refine brB_ndec (fun hb => ?_) (fun hb => ?_)) <;> (first | contradiction | ((try simp only [lnS] at hb); (first | (exfalso; omega) | skip)))) | (refine brB_split (fun hb => ?_) (fun hb => ?_) <;> (first | contradiction | exact absurd (hb.symm.trans (by assumption) : false = true) (by decide) | exact absurd (hb.symm.trans (by assumption) : true = false) (by decide) | skip))) <;> (conv => whnf)))
      refine bool_eq (Eq.symm ?_)
      rw [hn, List.drop_length]; rfl
end Go.Proofs.YtkbmlchceiglfaaGreatDoor
