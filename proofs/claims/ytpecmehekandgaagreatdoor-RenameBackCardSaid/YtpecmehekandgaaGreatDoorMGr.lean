/-
  Terms: the vocabulary, plainly: whose names it holds. Terms: tidying keeps a concept valid and adds no names. Terms: what a valid concept and a valid axiom are; tidying keeps axioms valid. Terms: order, repetition and grouping of parts do not change the canonical form (plainly). Terms: the reference's order, Strings, Size and Compare. The walk through the reference's keyword.
  Conditions: none.
-/
import Derived.Test.YtpecmehekandgaaGreatDoorMAq
import Derived.Test.YtpecmehekandgaaGreatDoorMAo
import Derived.Test.YtpecmehekandgaaGreatDoorMSyb
import Derived.Test.YtpecmehekandgaaGreatDoorMG2
set_option linter.unnecessarySimpa false
set_option linter.unusedSectionVars false
set_option linter.unusedSimpArgs false
set_option linter.unusedVariables false
namespace Go.Proofs.YtpecmehekandgaaGreatDoor
open Go.Proofs
theorem addK_mem {ks : List (List UInt8)} {k s : List UInt8} : s ∈ addK ks k ↔ s ∈ ks ∨ k = s := by
  unfold addK
  split
  · rename_i h
    constructor
    · exact .inl
    · rintro (h1 | rfl)
      · exact h1
      · simpa using h
  · simp [eq_comm]
theorem addK_nodup {ks : List (List UInt8)} {k : List UInt8} (h : ks.Nodup) : (addK ks k).Nodup := by
  unfold addK
  split
  · exact h
  · rename_i hk
    rw [List.nodup_append]
    refine ⟨h, by simp, ?_⟩
    intro a ha b hb e
    simp at hb
    subst hb; subst e
    exact hk (by simpa using ha)
theorem fold_mem {α β : Type} {pr : α → List (List UInt8)} {add : α → β → α} {Q : β → List UInt8 → Prop} (h : ∀ v x s, s ∈ pr (add v x) ↔ s ∈ pr v ∨ Q x s) : ∀ (l : List β) (v : α) (s : List UInt8), s ∈ pr (l.foldl add v) ↔ s ∈ pr v ∨ ∃ x ∈ l, Q x s
  | [], v, s => by simp
  | x :: l, v, s => by
    rw [List.foldl_cons, fold_mem h l, h]
    simp [or_assoc]
theorem fold_inv {α β : Type} {P : α → Prop} {add : α → β → α} (h : ∀ v x, P v → P (add v x)) : ∀ (l : List β) (v : α), P v → P (l.foldl add v)
  | [], v, hv => hv
  | x :: l, v, hv => fold_inv h l _ (h v x hv)
def hasK (k : Int) (c : Cn) (s : List UInt8) : Prop := ∃ n ∈ nodes c, n.kind = k ∧ n.name = s
theorem addC_a {v : Nm} {c : Cn} {s : List UInt8} : s ∈ (addC v c).a ↔ s ∈ v.a ∨ (c.kind = 3 ∧ c.name = s) := by
  unfold addC
  split
  · rename_i h; rw [addK_mem]; simp [h]
  · split
    · simp_all
    · split
      · simp_all
      · split <;> simp_all
theorem addC_b {v : Nm} {c : Cn} {s : List UInt8} : s ∈ (addC v c).b ↔ s ∈ v.b ∨ (c.kind = 6 ∧ c.name = s) := by
  unfold addC
  split
  · rename_i h; simp [h]
  · split
    · rename_i h; rw [addK_mem]; simp [h]
    · split
      · simp_all
      · split <;> simp_all
theorem addC_c {v : Nm} {c : Cn} {s : List UInt8} : s ∈ (addC v c).c ↔ s ∈ v.c ∨ (c.kind = 7 ∧ c.name = s) := by
  unfold addC
  split
  · rename_i h; simp [h]
  · split
    · rename_i h; simp [h]
    · split
      · rename_i h; rw [addK_mem]; simp [h]
      · split <;> simp_all
theorem addC_d {v : Nm} {c : Cn} {s : List UInt8} : s ∈ (addC v c).d ↔ s ∈ v.d ∨ (c.kind = 4 ∧ c.name = s) := by
  unfold addC
  split
  · rename_i h; simp [h]
  · split
    · rename_i h; simp [h]
    · split
      · rename_i h; simp [h]
      · split
        · rename_i h; rw [addK_mem]; simp [h]
        · simp_all
theorem addS_a {v : Nm} {c : Cn} {s : List UInt8} : s ∈ (addS v c).a ↔ s ∈ v.a ∨ hasK 3 c s := fold_mem (pr := Nm.a) (add := addC) (Q := fun (c : Cn) (s : List UInt8) => c.kind = 3 ∧ c.name = s) (fun v x s => addC_a) (nodes c) v s
theorem addS_b {v : Nm} {c : Cn} {s : List UInt8} : s ∈ (addS v c).b ↔ s ∈ v.b ∨ hasK 6 c s := fold_mem (pr := Nm.b) (add := addC) (Q := fun (c : Cn) (s : List UInt8) => c.kind = 6 ∧ c.name = s) (fun v x s => addC_b) (nodes c) v s
theorem addS_c {v : Nm} {c : Cn} {s : List UInt8} : s ∈ (addS v c).c ↔ s ∈ v.c ∨ hasK 7 c s := fold_mem (pr := Nm.c) (add := addC) (Q := fun (c : Cn) (s : List UInt8) => c.kind = 7 ∧ c.name = s) (fun v x s => addC_c) (nodes c) v s
theorem addS_d {v : Nm} {c : Cn} {s : List UInt8} : s ∈ (addS v c).d ↔ s ∈ v.d ∨ hasK 4 c s := fold_mem (pr := Nm.d) (add := addC) (Q := fun (c : Cn) (s : List UInt8) => c.kind = 4 ∧ c.name = s) (fun v x s => addC_d) (nodes c) v s
theorem addI_d {v : Nm} {k s : List UInt8} : s ∈ (addI v k).d ↔ s ∈ v.d ∨ k = s := addK_mem
theorem addR_b {v : Nm} {k s : List UInt8} : s ∈ (addR v k).b ↔ s ∈ v.b ∨ k = s := addK_mem
theorem foldR_b (l : List (List UInt8)) (v : Nm) (s : List UInt8) : s ∈ (l.foldl addR v).b ↔ s ∈ v.b ∨ s ∈ l := by
  rw [fold_mem (pr := Nm.b) (add := addR) (Q := fun (k s : List UInt8) => k = s) (fun v x s => addR_b) l v s]
  simp
theorem foldR_a (l : List (List UInt8)) (v : Nm) : (l.foldl addR v).a = v.a := by
  induction l generalizing v with
  | nil => rfl
  | cons x l ih => rw [List.foldl_cons, ih]; rfl
theorem foldR_c (l : List (List UInt8)) (v : Nm) : (l.foldl addR v).c = v.c := by
  induction l generalizing v with
  | nil => rfl
  | cons x l ih => rw [List.foldl_cons, ih]; rfl
theorem foldR_d (l : List (List UInt8)) (v : Nm) : (l.foldl addR v).d = v.d := by
  induction l generalizing v with
  | nil => rfl
  | cons x l ih => rw [List.foldl_cons, ih]; rfl
def axA (x : Ax) (s : List UInt8) : Prop := hasK 3 x.left s ∨ hasK 3 x.right s
def axB (x : Ax) (s : List UInt8) : Prop := hasK 6 x.left s ∨ hasK 6 x.right s ∨ s ∈ x.roles ∨ x.role = s
def axC (x : Ax) (s : List UInt8) : Prop := hasK 7 x.left s ∨ hasK 7 x.right s
def axD (x : Ax) (s : List UInt8) : Prop := hasK 4 x.left s ∨ hasK 4 x.right s ∨ x.a = s ∨ x.b = s
theorem addX_a {v : Nm} {x : Ax} {s : List UInt8} : s ∈ (addX v x).a ↔ s ∈ v.a ∨ axA x s := by
  show s ∈ (x.roles.foldl addR ([x.left, x.right].foldl addS v)).a ↔ _
  rw [foldR_a]
  simp only [List.foldl_cons, List.foldl_nil, addS_a, axA, or_assoc]
theorem addX_b {v : Nm} {x : Ax} {s : List UInt8} : s ∈ (addX v x).b ↔ s ∈ v.b ∨ axB x s := by
  show s ∈ (addR (x.roles.foldl addR ([x.left, x.right].foldl addS v)) x.role).b ↔ _
  rw [addR_b, foldR_b]
  simp only [List.foldl_cons, List.foldl_nil, addS_b, axB, or_assoc]
theorem addX_c {v : Nm} {x : Ax} {s : List UInt8} : s ∈ (addX v x).c ↔ s ∈ v.c ∨ axC x s := by
  show s ∈ (x.roles.foldl addR ([x.left, x.right].foldl addS v)).c ↔ _
  rw [foldR_c]
  simp only [List.foldl_cons, List.foldl_nil, addS_c, axC, or_assoc]
theorem addX_d {v : Nm} {x : Ax} {s : List UInt8} : s ∈ (addX v x).d ↔ s ∈ v.d ∨ axD x s := by
  show s ∈ (addI (addI (addR (x.roles.foldl addR ([x.left, x.right].foldl addS v)) x.role) x.a) x.b).d ↔ _
  rw [addI_d, addI_d]
  show (s ∈ (x.roles.foldl addR ([x.left, x.right].foldl addS v)).d ∨ _) ∨ _ ↔ _
  rw [foldR_d]
  simp only [List.foldl_cons, List.foldl_nil, addS_d, axD, or_assoc]
theorem voc_a (l : List Ax) (s : List UInt8) : s ∈ (vocV l).a ↔ ∃ x ∈ l, axA x s := by
  rw [vocV, fold_mem (pr := Nm.a) (add := addX) (Q := axA) (fun v x s => addX_a)]; simp
theorem voc_b (l : List Ax) (s : List UInt8) : s ∈ (vocV l).b ↔ ∃ x ∈ l, axB x s := by
  rw [vocV, fold_mem (pr := Nm.b) (add := addX) (Q := axB) (fun v x s => addX_b)]; simp
theorem voc_c (l : List Ax) (s : List UInt8) : s ∈ (vocV l).c ↔ ∃ x ∈ l, axC x s := by
  rw [vocV, fold_mem (pr := Nm.c) (add := addX) (Q := axC) (fun v x s => addX_c)]; simp
theorem voc_d (l : List Ax) (s : List UInt8) : s ∈ (vocV l).d ↔ ∃ x ∈ l, axD x s := by
  rw [vocV, fold_mem (pr := Nm.d) (add := addX) (Q := axD) (fun v x s => addX_d)]; simp
end Go.Proofs.YtpecmehekandgaaGreatDoor
namespace Go.Proofs.YtpecmehekandgaaGreatDoor
open Go.Proofs
def Okn (c : Cn) : Prop := ∀ x ∈ nodes c, fieldsE x = 0
theorem mem_nodesL {x : Cn} : ∀ {l : List Cn}, x ∈ nodesL l ↔ ∃ p ∈ l, x ∈ nodes p
  | [] => by simp [nodesL]
  | c :: r => by rw [nodesL, List.mem_append, mem_nodesL]; simp
theorem okn_iff (c : Cn) : Okn c ↔ fieldsE c = 0 ∧ ∀ p ∈ c.parts, Okn p := by
  unfold Okn
  rw [nodes_eq]
  constructor
  · intro h
    exact ⟨h c (by simp), fun p hp x hx => h x (List.mem_cons_of_mem _ (mem_nodesL.2 ⟨p, hp, hx⟩))⟩
  · rintro ⟨h1, h2⟩ x hx
    rcases List.mem_cons.1 hx with rfl | hx
    · exact h1
    · obtain ⟨p, hp, hx⟩ := mem_nodesL.1 hx
      exact h2 p hp x hx
theorem hasK_iff (k : Int) (c : Cn) (s : List UInt8) : hasK k c s ↔ (c.kind = k ∧ c.name = s) ∨ ∃ p ∈ c.parts, hasK k p s := by
  unfold hasK
  rw [nodes_eq]
  constructor
  · rintro ⟨n, hn, h⟩
    rcases List.mem_cons.1 hn with rfl | hn
    · exact .inl h
    · obtain ⟨p, hp, hx⟩ := mem_nodesL.1 hn
      exact .inr ⟨p, hp, n, hx, h⟩
  · rintro (h | ⟨p, hp, n, hn, h⟩)
    · exact ⟨c, by simp, h⟩
    · exact ⟨n, List.mem_cons_of_mem _ (mem_nodesL.2 ⟨p, hp, hn⟩), h⟩
theorem depthL_mem {p : Cn} : ∀ {l : List Cn}, p ∈ l → depthF p + 1 ≤ depthL l
  | c :: r, h => by
    rw [depthL]
    rcases List.mem_cons.1 h with rfl | h
    · omega
    · have := depthL_mem h; omega
theorem depthL_le {n : Nat} : ∀ {l : List Cn}, (∀ p ∈ l, depthF p + 1 ≤ n) → depthL l ≤ n
  | [], _ => by simp [depthL]
  | c :: r, h => by
    rw [depthL]
    have h1 := h c (by simp)
    have h2 := depthL_le fun p hp => h p (List.mem_cons_of_mem _ hp)
    omega
theorem bareL_iff : ∀ (l : List Cn), bareL l = true ↔ ∃ p ∈ l, bareF p = true
  | [] => by simp [bareL]
  | c :: r => by
    rw [bareL]
    have := bareL_iff r
    split <;> simp_all
theorem bareF_eq' (c : Cn) : bareF c = if c.kind = 4 then true else if c.kind = 5 then bareL c.parts else false := by cases c; rw [bareF]; rfl
def NamesIn (t c : Cn) : Prop := ∀ k s, k ≠ 1 → k ≠ 5 → hasK k t s → hasK k c s
structure Keep (c t : Cn) : Prop where
  ok : Okn t
  dep : depthF t ≤ depthF c
  nam : NamesIn t c
  bare : bareF t = true → bareF c = true
theorem fields_top : fieldsE topC = 0 := by decide
theorem fields_conj {s : List Cn} (h1 : 2 ≤ s.length) (h2 : s.length ≤ 8) : fieldsE (.mk 5 [] 0 0 s) = 0 := by
  unfold fieldsE
  rw [if_neg (by simp [Cn.kind])]
  show fieldsN ⟨0, 2, 8, false⟩ (.mk 5 [] 0 0 s) = 0
  unfold fieldsN nameE
  simp [Cn.parts, Cn.name, Cn.lo, Cn.hi]
  omega
structure Part (c m : Cn) : Prop where
  ok : Okn m
  dep : depthF m + 1 ≤ depthF c
  nam : NamesIn m c
  bare : bareF m = true → bareF c = true
theorem Part.keep {c m : Cn} (h : Part c m) : Keep c m := ⟨h.ok, by have := h.dep; omega, h.nam, h.bare⟩
theorem conjS_keep {c : Cn} {s : List Cn} (h : ∀ m ∈ s, Part c m) (h0 : (conjS s).2 = 0) (hk : c.kind = 5) : Keep c (conjS s).1 := by
  unfold conjS at h0 ⊢
  split
  · rename_i t ht
    exact (h t (List.mem_of_find?_eq_some ht)).keep
  · rename_i hn
    rw [hn] at h0
    simp only at h0
    split
    · refine ⟨(okn_iff _).2 ⟨fields_top, fun p hp => by simp [topC, Cn.parts] at hp⟩, by rw [depthF_eq]; simp [topC, Cn.parts, depthL], fun k s h1 h2 hh => ?_, fun hb => ?_⟩
      · rw [hasK_iff] at hh
        rcases hh with ⟨e, _⟩ | ⟨p, hp, _⟩
        · exact absurd e.symm h1
        · simp [topC, Cn.parts] at hp
      · rw [bareF_eq'] at hb; simp [topC, Cn.kind] at hb
    · rename_i e0
      rw [if_neg e0] at h0
      split
      · rename_i e1
        match s, e1 with
        | [x], _ => exact (h x (by simp)).keep
      · rename_i e1
        rw [if_neg e1] at h0
        split
        · rename_i e2; rw [if_pos e2] at h0; simp at h0
        · rename_i e2
          refine ⟨(okn_iff _).2 ⟨fields_conj (by omega) (by omega), fun p hp => (h p hp).ok⟩, ?_, fun k n h1 h2 hh => ?_, fun hb => ?_⟩
          · show depthF (.mk 5 [] 0 0 s) ≤ _
            rw [depthF]; exact depthL_le fun p hp => (h p hp).dep
          · rw [hasK_iff] at hh
            rcases hh with ⟨e, _⟩ | ⟨p, hp, hh⟩
            · exact absurd e.symm h2
            · exact (h p hp).nam k n h1 h2 hh
          · rw [bareF_eq'] at hb
            simp only [Cn.kind, Cn.parts] at hb
            have hb : bareL s = true := by simpa using hb
            obtain ⟨p, hp, hb⟩ := (bareL_iff _).1 hb
            exact (h p hp).bare hb
theorem fieldsN_zero {n : Need} {c : Cn} (hn : n.nums = false) : fieldsN n c = 0 ↔ (n.least ≤ c.parts.length ∧ (c.parts.length : Int) ≤ n.most ∧ (n.name = 0 → c.name = [])) ∧ (c.lo = 0 ∧ c.hi = 0) ∧ nameE n c.name = 0 := by
  unfold fieldsN
  split
  · rename_i h
    constructor
    · intro h; exact absurd h (by decide)
    · rintro ⟨⟨h1, h2, h3⟩, _⟩
      rcases h with h | h | ⟨h, h'⟩
      · omega
      · omega
      · exact absurd (h3 h) h'
  · rename_i h
    rw [if_neg (by rw [hn]; decide)]
    have h1 : n.least ≤ c.parts.length ∧ (c.parts.length : Int) ≤ n.most ∧ (n.name = 0 → c.name = []) := by
      refine ⟨by omega, by omega, fun h0 => ?_⟩
      by_cases h2 : c.name = []
      · exact h2
      · exact absurd (.inr (.inr ⟨h0, h2⟩)) h
    split
    · rename_i h2
      constructor
      · intro h; exact absurd h (by decide)
      · rintro ⟨_, ⟨h3, h4⟩, _⟩
        omega
    · rename_i h2
      exact ⟨fun h => ⟨h1, by omega, h⟩, fun h => h.2.2⟩
theorem fieldsE_at {c : Cn} {k : Int} (hk : c.kind = k) (h : 1 ≤ k ∧ k ≤ 7) : fieldsE c = fieldsN (needAt k) c := by
  unfold fieldsE
  rw [if_neg (by omega), hk]
theorem fields_some {c r : Cn} (hk : c.kind = 6) (h : fieldsE c = 0) : fieldsE (.mk 6 c.name 0 0 [r]) = 0 := by
  rw [fieldsE_at hk (by decide), fieldsN_zero rfl] at h
  rw [fieldsE_at (k := 6) rfl (by decide), fieldsN_zero rfl]
  exact ⟨⟨show (1 : Int) ≤ ((1 : Nat) : Int) by decide, show ((1 : Nat) : Int) ≤ 1 by decide, fun h0 => absurd h0 (by decide)⟩, ⟨rfl, rfl⟩, h.2.2⟩
theorem tidy_keep : ∀ c : Cn, Okn c → (tidyC c).2 = 0 → Keep c (tidyC c).1 := by
  refine Cn.ind ?_
  intro c ih hok h0
  obtain ⟨hf, hp⟩ := (okn_iff c).1 hok
  have self : Keep c c := ⟨hok, Nat.le_refl _, fun _ _ _ _ h => h, id⟩
  rw [tidyC_eq] at h0 ⊢
  split
  · rename_i h6
    rw [if_pos h6] at h0
    cases hps : c.parts with
    | nil =>
      exfalso
      rw [fieldsE_at h6 (by decide), fieldsN_zero rfl, hps] at hf
      have h1 : (1 : Int) ≤ ([] : List Cn).length := hf.1.1
      simp at h1
    | cons p r =>
      rw [hps] at h0
      simp only [List.map_cons, someF] at h0 ⊢
      have hpm : p ∈ c.parts := by rw [hps]; simp
      have hd : depthF p + 1 ≤ depthF c := by rw [depthF_eq c]; exact depthL_mem hpm
      have hnm : NamesIn p c := fun k s _ _ h => (hasK_iff k c s).2 (.inr ⟨p, hpm, h⟩)
      split
      · rename_i hb
        rw [if_pos hb] at h0
        have hk := ih p hpm (hp p hpm) h0
        have h2 : (tidyC p).1.kind = 2 := by rcases hb with hb | hb; exact absurd h0 hb; exact hb
        exact ⟨hk.ok, by have := hk.dep; omega, fun k s h1 h2 hh => hnm k s h1 h2 (hk.nam k s h1 h2 hh), fun hb => by rw [bareF_eq', h2] at hb; simp at hb⟩
      · rename_i hb
        have hk := ih p hpm (hp p hpm) (by omega)
        refine ⟨(okn_iff _).2 ⟨?_, fun q hq => ?_⟩, ?_, fun k s h1 h2 hh => ?_, fun hb => ?_⟩
        · exact fields_some h6 hf
        · simp [Cn.parts] at hq; subst hq; exact hk.ok
        · rw [depthF, depthL, depthL]
          have := hk.dep; omega
        · rw [hasK_iff] at hh
          rcases hh with ⟨e1, e2⟩ | ⟨q, hq, hh⟩
          · exact (hasK_iff k c s).2 (.inl ⟨h6.trans e1, e2⟩)
          · simp [Cn.parts] at hq; subst hq
            exact hnm k s h1 h2 (hk.nam k s h1 h2 hh)
        · rw [bareF_eq'] at hb; simp [Cn.kind] at hb
  · rename_i h6
    rw [if_neg h6] at h0
    split
    · rename_i h5
      rw [if_pos h5] at h0
      unfold meetF at h0 ⊢
      split
      · rename_i r hr
        rw [hr] at h0
        have := List.find?_some hr
        simp at this h0
        exact absurd h0 this
      · rename_i hn
        rw [hn] at h0
        simp only at h0
        have hz : ∀ p ∈ c.parts, (tidyC p).2 = 0 := fun p hp => by
          have := List.find?_eq_none.1 hn (tidyC p) (List.mem_map_of_mem hp)
          simpa using this
        refine conjS_keep (fun m hm => ?_) h0 h5
        rw [mem_setC, List.mem_flatMap] at hm
        obtain ⟨r, hr, hm⟩ := hm
        obtain ⟨p, hpm, rfl⟩ := List.mem_map.1 hr
        have hk := ih p hpm (hp p hpm) (hz p hpm)
        have hd : depthF p + 1 ≤ depthF c := by rw [depthF_eq c]; exact depthL_mem hpm
        have hnm : NamesIn p c := fun k s _ _ h => (hasK_iff k c s).2 (.inr ⟨p, hpm, h⟩)
        have hbr : bareF p = true → bareF c = true := fun h => by
          rw [bareF_eq', if_neg (by omega), if_pos h5]
          exact (bareL_iff _).2 ⟨p, hpm, h⟩
        unfold partsF at hm
        split at hm
        · simp at hm
        · split at hm
          · rename_i k5
            have hokm := ((okn_iff _).1 hk.ok).2 m hm
            have hdm : depthF m + 1 ≤ depthF (tidyC p).1 := by rw [depthF_eq (tidyC p).1]; exact depthL_mem hm
            refine ⟨hokm, by have := hk.dep; omega, fun k s h1 h2 hh => hnm k s h1 h2 (hk.nam k s h1 h2 ((hasK_iff _ _ _).2 (.inr ⟨m, hm, hh⟩))), fun hb => hbr (hk.bare ?_)⟩
            rw [bareF_eq', if_neg (by omega), if_pos k5]
            exact (bareL_iff _).2 ⟨m, hm, hb⟩
          · simp at hm; subst hm
            exact ⟨hk.ok, by have := hk.dep; omega, fun k s h1 h2 hh => hnm k s h1 h2 (hk.nam k s h1 h2 hh), fun hb => hbr (hk.bare hb)⟩
    · exact self
end Go.Proofs.YtpecmehekandgaaGreatDoor
namespace Go.Proofs.YtpecmehekandgaaGreatDoor
open Go.Proofs
theorem firstE_iff : ∀ (l : List Cn), firstE l = 0 ↔ ∀ x ∈ l, fieldsE x = 0 := fun l =>
  ⟨fun h => firstE_zero h, fun h => by have := firstE_skip l [] h; rw [List.append_nil] at this; rw [this]; rfl⟩
mutual
theorem fitsF_iff : ∀ (c : Cn) (d n : Int), ((fitsF c d n).1 = true ↔ d + depthF c ≤ 8 ∧ n + sizeF c ≤ 64)
  | .mk k s lo hi ps, d, n => by
    have e : sizeF (.mk k s lo hi ps) = sumN ps + 1 := sizeF_sum _
    rw [fitsF, depthF, e]
    split
    · rename_i h
      simp only [Bool.false_eq_true, false_iff]
      omega
    · rename_i h
      rw [fitsL_iff ps d (n + 1) (by omega) (by omega)]
      omega
theorem fitsL_iff : ∀ (l : List Cn) (d n : Int), d ≤ 8 → n ≤ 64 → ((fitsL l d n).1 = true ↔ d + depthL l ≤ 8 ∧ n + sumN l ≤ 64)
  | [], d, n, hd, hn => by
    rw [fitsL, depthL, sumN_nil]
    simp only [true_iff]
    omega
  | c :: r, d, n, hd, hn => by
    have h1 := fitsF_iff c (d + 1) n
    have h2 := fitsF_size c (d + 1) n
    rw [fitsL, depthL, sumN_cons]
    split
    · rename_i hb
      rw [hb] at h1
      have h1 := h1.1 rfl
      rw [h2 hb, fitsL_iff r d _ hd (by omega)]
      omega
    · rename_i hb
      have h1 : ¬ (d + 1 + depthF c ≤ 8 ∧ n + sizeF c ≤ 64) := fun h => hb (h1.2 h)
      simp only [Bool.false_eq_true, false_iff]
      omega
end
theorem conceptE_iff (c : Cn) : conceptE c = 0 ↔ depthF c ≤ 8 ∧ sizeF c ≤ 64 ∧ Okn c := by
  have h := fitsF_iff c 0 0
  unfold conceptE
  split
  · rename_i hf
    rw [hf] at h
    constructor
    · intro h; exact absurd h (by decide)
    · rintro ⟨h1, h2, _⟩
      exact absurd (h.2 ⟨by omega, by omega⟩) (by decide)
  · rename_i hf
    have hf : (fitsF c 0 0).1 = true := by simpa using hf
    have h1 := h.1 hf
    rw [firstE_iff]
    exact ⟨fun h => ⟨by omega, by omega, h⟩, fun h => h.2.2⟩
theorem concept_tidy {c : Cn} (h : conceptE c = 0) (h0 : (tidyC c).2 = 0) : conceptE (tidyC c).1 = 0 ∧ NamesIn (tidyC c).1 c ∧ (bareF (tidyC c).1 = true → bareF c = true) := by
  obtain ⟨h1, h2, h3⟩ := (conceptE_iff c).1 h
  have hk := tidy_keep c h3 h0
  have hs := tidyC_size c
  exact ⟨(conceptE_iff _).2 ⟨by have := hk.dep; omega, by omega, hk.ok⟩, hk.nam, hk.bare⟩
theorem empty_eq {c : Cn} (h : emptyF c = true) : c = c0 := by
  obtain ⟨k, n, lo, hi, ps⟩ := c
  have h : (decide (k = 0) && (decide (n = []) && (decide (lo = 0) && (decide (hi = 0) && decide (ps = []))))) = true := h
  simp only [Bool.and_eq_true, decide_eq_true_eq] at h
  obtain ⟨rfl, rfl, rfl, rfl, rfl⟩ := h
  rfl
end Go.Proofs.YtpecmehekandgaaGreatDoor
namespace Go.Proofs.YtpecmehekandgaaGreatDoor
open Go.Proofs
theorem conjS_err (s : List Cn) : (conjS s).2 = 0 ∨ (conjS s).2 = 2 := by
  unfold conjS
  split
  · exact .inl rfl
  · split
    · exact .inl rfl
    · split
      · exact .inl rfl
      · split
        · exact .inr rfl
        · exact .inl rfl
theorem tidyC_err : ∀ c : Cn, (tidyC c).2 = 0 ∨ (tidyC c).2 = 2 := by
  refine Cn.ind ?_
  intro c ih
  rw [tidyC_eq]
  split
  · cases hps : c.parts with
    | nil => exact .inl rfl
    | cons p r =>
      simp only [List.map_cons, someF]
      have := ih p (by rw [hps]; simp)
      split
      · exact this
      · exact .inl rfl
  · split
    · unfold meetF
      split
      · rename_i r hr
        have h1 := List.mem_of_find?_eq_some hr
        obtain ⟨p, hp, rfl⟩ := List.mem_map.1 h1
        exact ih p hp
      · exact conjS_err _
    · exact .inl rfl
def flatT (l : List Cn) : List Cn := (l.map tidyC).flatMap fun r => partsF r.1
theorem mem_flatT {x : Cn} {l : List Cn} : x ∈ flatT l ↔ ∃ p ∈ l, x ∈ partsF (tidyC p).1 := by
  unfold flatT
  rw [List.mem_flatMap]
  constructor
  · rintro ⟨r, hr, hx⟩
    obtain ⟨p, hp, rfl⟩ := List.mem_map.1 hr
    exact ⟨p, hp, hx⟩
  · rintro ⟨p, hp, hx⟩
    exact ⟨_, List.mem_map_of_mem hp, hx⟩
theorem meet_bad {l : List Cn} (h : ∃ p ∈ l, (tidyC p).2 ≠ 0) : meetF (l.map tidyC) = (c0, 2) := by
  unfold meetF
  split
  · rename_i r hr
    have h1 := List.mem_of_find?_eq_some hr
    have h2 := List.find?_some hr
    obtain ⟨p, hp, rfl⟩ := List.mem_map.1 h1
    simp only [decide_eq_true_eq] at h2
    rw [(tidyC_err p).resolve_left h2]
  · rename_i hn
    obtain ⟨p, hp, h⟩ := h
    have := List.find?_eq_none.1 hn (tidyC p) (List.mem_map_of_mem hp)
    simp only [decide_eq_true_eq, ne_eq, Classical.not_not] at this
    exact absurd this h
theorem meet_ok {l : List Cn} (h : ∀ p ∈ l, (tidyC p).2 = 0) : meetF (l.map tidyC) = conjS (setC (flatT l)) := by
  unfold meetF
  split
  · rename_i r hr
    have h1 := List.mem_of_find?_eq_some hr
    have h2 := List.find?_some hr
    obtain ⟨p, hp, rfl⟩ := List.mem_map.1 h1
    simp only [decide_eq_true_eq] at h2
    exact absurd (h p hp) h2
  · rfl
theorem meet_zero {l : List Cn} (h : (meetF (l.map tidyC)).2 = 0) : ∀ p ∈ l, (tidyC p).2 = 0 := fun p hp => Classical.byContradiction fun h' => by
  rw [meet_bad ⟨p, hp, h'⟩] at h
  exact absurd h (by decide)
theorem flat_tidy : ∀ c : Cn, (tidyC c).2 = 0 → ∀ m ∈ partsF (tidyC c).1, m.kind ≠ 1 ∧ m.kind ≠ 5 := by
  refine Cn.ind ?_
  intro c ih h0
  have self : ∀ x : Cn, x.kind ≠ 5 → ∀ m ∈ partsF x, m.kind ≠ 1 ∧ m.kind ≠ 5 := fun x h5 m hm => by
    unfold partsF at hm
    split at hm
    · simp at hm
    · rename_i h1
      have hm : m ∈ [x] := by simpa only [if_neg h5] using hm
      simp only [List.mem_singleton] at hm
      subst hm
      exact ⟨h1, h5⟩
  rw [tidyC_eq] at h0 ⊢
  split
  · rename_i h6
    rw [if_pos h6] at h0
    cases hps : c.parts with
    | nil => exact self _ (by show (0 : Int) ≠ 5; decide)
    | cons p r =>
      rw [hps] at h0
      simp only [List.map_cons, someF] at h0 ⊢
      split
      · rename_i hb
        rw [if_pos hb] at h0
        have h2 : (tidyC p).1.kind = 2 := by rcases hb with hb | hb; exact absurd h0 hb; exact hb
        exact self _ (by rw [h2]; decide)
      · exact self _ (by show (6 : Int) ≠ 5; decide)
  · rename_i h6
    rw [if_neg h6] at h0
    split
    · rename_i h5
      rw [if_pos h5] at h0
      have hz := meet_zero h0
      rw [meet_ok hz] at h0 ⊢
      have hS : ∀ m ∈ setC (flatT c.parts), m.kind ≠ 1 ∧ m.kind ≠ 5 := fun m hm => by
        rw [mem_setC, mem_flatT] at hm
        obtain ⟨p, hp, hm⟩ := hm
        exact ih p hp (hz p hp) m hm
      generalize setC (flatT c.parts) = s at h0 hS ⊢
      unfold conjS at h0 ⊢
      split
      · rename_i t ht
        have := List.find?_some ht
        simp only [decide_eq_true_eq] at this
        exact self _ (by show t.kind ≠ 5; rw [this]; decide)
      · rename_i hn
        rw [hn] at h0
        simp only at h0
        split
        · exact self _ (by show (1 : Int) ≠ 5; decide)
        · rename_i e0
          rw [if_neg e0] at h0
          split
          · rename_i e1
            match s, e1, hS with
            | [x], _, hS => exact self x (hS x (by simp)).2
          · rename_i e1
            rw [if_neg e1] at h0
            split
            · rename_i e2; rw [if_pos e2] at h0; exact absurd h0 (by decide)
            · intro m hm
              rw [show partsF (.mk 5 [] 0 0 s) = s from rfl] at hm
              exact hS m hm
    · rename_i h5; exact self c h5
theorem bottom_eq {c : Cn} (h : Okn c) (hk : c.kind = 2) : c = .mk 2 [] 0 0 [] := by
  have hf := ((okn_iff c).1 h).1
  rw [fieldsE_at hk (by decide), fieldsN_zero rfl] at hf
  obtain ⟨⟨_, h2, h3⟩, ⟨h4, h5⟩, _⟩ := hf
  obtain ⟨k, n, lo, hi, ps⟩ := c
  have q1 : k = 2 := hk
  have q2 : (ps.length : Int) ≤ 0 := h2
  have q3 : n = [] := h3 rfl
  have q4 : lo = 0 := h4
  have q5 : hi = 0 := h5
  have q6 : ps = [] := List.eq_nil_of_length_eq_zero (by omega)
  rw [q1, q3, q4, q5, q6]
theorem partsF_okn {c m : Cn} (h : Okn c) (hm : m ∈ partsF c) : Okn m := by
  unfold partsF at hm
  split at hm
  · simp at hm
  · split at hm
    · exact ((okn_iff c).1 h).2 m hm
    · simp only [List.mem_singleton] at hm; subst hm; exact h
theorem conjS_bot {s : List Cn} (hs : ∀ m ∈ s, Okn m) (h : ∃ t ∈ s, t.kind = 2) : conjS s = (.mk 2 [] 0 0 [], 0) := by
  unfold conjS
  split
  · rename_i t ht
    have h1 := List.find?_some ht
    simp only [decide_eq_true_eq] at h1
    rw [bottom_eq (hs t (List.mem_of_find?_eq_some ht)) h1]
  · rename_i hn
    obtain ⟨t, ht, hk⟩ := h
    have := List.find?_eq_none.1 hn t ht
    simp only [decide_eq_true_eq] at this
    exact absurd hk this
end Go.Proofs.YtpecmehekandgaaGreatDoor
namespace Go.Proofs.YtpecmehekandgaaGreatDoor
open Go.Proofs
set_option maxRecDepth 10000
attribute [local irreducible] SemVC CallVC Tri Stuck YVC GenP GenVC
theorem rOrder_spec (a b : Int) : Tri Tryz.prog 101 [.d (.int .i64 a), .d (.int .i64 b)] [] (fun r => r = .d (.int .i64 (cmpI a b))) := by
  refine tri_of_body hty Tryz.func101 rfl (kp [0, 1, 4, 7, 10]) [] _ _ _ (by simp [Tryz.f101]) (by simp) ?_
  ((conv => whnf); repeat' ((first | (intro hq; (try simp only [lnS] at hq); (try rewrite [List.length_map])) | refine sJ ?_ | refine .intro _ (.intro rfl ?_) | (refine .intro (show (_ : Nat) < List.length _ from by first | omega | (simp only [lnS]; omega) | simp) ?_) | fail | refine draw_rule hty (by kernel_rfl) (by kernel_rfl) ?_ | ((first | refine brB_dec ?_ ?_ | refine brB_ndec ?_ ?_) <;> intro hb <;> (first | contradiction | ((try simp only [lnS] at hb); try (exfalso; omega)))) | (refine brB_split ?_ ?_ <;> intro hb <;> (first | contradiction | exact bT hb (by assumption) | exact bF hb (by assumption) | skip))) <;> (conv => whnf)))
  all_goals (refine int_eq (Eq.symm ?_); unfold cmpI; simp_all <;> omega)
theorem rStrings_spec (a b : List UInt8) : Tri Tryz.prog 102 [.d (.str a), .d (.str b)] [] (fun r => r = .d (.int .i64 (cmpB a b))) := by
  refine tri_of_body hty Tryz.func102 rfl (kp [0, 1, 4, 7, 10]) [] _ _ _ (by simp [Tryz.f102]) (by simp) ?_
  ((conv => whnf); repeat' ((first | (intro hq; (try simp only [lnS] at hq); (try rewrite [List.length_map])) | refine sJ ?_ | refine .intro _ (.intro rfl ?_) | (refine .intro (show (_ : Nat) < List.length _ from by first | omega | (simp only [lnS]; omega) | simp) ?_) | fail | refine draw_rule hty (by kernel_rfl) (by kernel_rfl) ?_ | ((first | refine brB_dec ?_ ?_ | refine brB_ndec ?_ ?_) <;> intro hb <;> (first | contradiction | ((try simp only [lnS] at hb); try (exfalso; omega)))) | (refine brB_split ?_ ?_ <;> intro hb <;> (first | contradiction | exact bT hb (by assumption) | exact bF hb (by assumption) | skip))) <;> (conv => whnf)))
  all_goals (
    refine int_eq (Eq.symm ?_)
    have hr := cmpB_range a b
    have hz := cmpB_zero a b)
  · rw [bytesLess_eq, decide_eq_true_eq] at hb
    omega
  · rename_i hb0
    rw [bytesLess_eq, decide_eq_false_iff_not] at hb0
    have : cmpB a b ≠ 0 := fun q => by rw [hz.1 q] at hb; simp at hb
    omega
  · rename_i hb0
    rw [bytesLess_eq, decide_eq_false_iff_not] at hb0
    rw [bytesLess_eq, decide_eq_false hb0] at hb
    exact hz.2 (by simpa using hb)
set_option maxHeartbeats 4000000 in
theorem rSize_spec : ∀ (c : Cn) (_ : sizeF c ≤ 1000000), Tri Tryz.prog 98 [.d (.agg (cnR c))] [] (fun r => r = .d (.int .i64 (sizeF c))) := by
  refine Cn.ind ?_
  intro c ih hs
  have hsz := sizeF_eq c
  rw [cnR_eq]
  refine tri_of_bodyF false [1] hty Tryz.func98 rfl (kp [0, 1, 2, 3, 4, 9]) [] _ _ _ (by simp [Tryz.f98]) (by simp) ?_
  ((conv => whnf); repeat ((first | (intro hq; try simp only [lnS] at hq) | refine sI ?_ | refine .intro _ (.intro rfl ?_)); (conv => whnf)))
  refine loop_rule hty (fun j : Nat => ([(1, .ea 5 [[.int .i64 c.kind, .str c.name, .int .i64 c.lo, .int .i64 c.hi, .sl 5 (c.parts.map cnR)]] 0 0), (3, .d (.int .i64 ((nodesL (c.parts.take j)).length + 1 : Nat))), (4, .d (.int .i64 j))], [])) (fun j => j ≤ c.parts.length) (fun j => c.parts.length - j) 0 (by omega) ⟨by repeat' (first | exact trivial | exact rfl | exact ⟨rfl, rfl⟩ | refine And.intro ?_ ?_), trivial⟩ ?_
  intro j hj
  ((conv => whnf); repeat ((first | (intro hq; try simp only [lnS] at hq) | refine sI ?_ | refine .intro _ (.intro rfl ?_)); (conv => whnf)))
  refine brB_dec (fun h1 => ?_) (fun h1 => ?_)
  · have hjl : j < c.parts.length := by simp only [List.length_map] at h1; omega
    have hrow' : (c.parts.map cnR)[(j : Int).toNat]? = some (cnR c.parts[j]) := rowC_at hjl
    have hp := sizeF_part (List.getElem_mem (l := c.parts) hjl)
    have hi := ih c.parts[j] (List.getElem_mem hjl) (by omega)
    have hnl := nodesL_len_take hjl
    have hle := nodesL_take_le c.parts (j + 1)
    rw [cnR_eq] at hrow' hi
    ((conv => whnf); repeat' ((first | (intro hq; (try simp only [lnS] at hq); (try rewrite [List.length_map])) | refine sJ ?_ | refine .intro _ (.intro rfl ?_) | (refine .intro (show (_ : Nat) < List.length _ from by first | omega | (simp only [lnS]; omega) | simp) ?_) | (refine ⟨_, hrow', ?_⟩) | (refine call_tri [] hi trivial (fun r hs => ?_); subst hs) | refine draw_rule hty (by kernel_rfl) (by kernel_rfl) ?_ | ((first | refine brB_dec ?_ ?_ | refine brB_ndec ?_ ?_) <;> intro hb <;> (first | contradiction | ((try simp only [lnS] at hb); try (exfalso; omega)))) | (refine brB_split ?_ ?_ <;> intro hb <;> (first | contradiction | exact bT hb (by assumption) | exact bF hb (by assumption) | skip))) <;> (conv => whnf)))
    refine ⟨j + 1, by dsimp only; omega, by dsimp only; omega, ⟨?_, trivial⟩⟩
    dsimp only
    rw [hnl]
    repeat' (first | exact trivial | exact rfl | exact wkInt6 (by omega) | exact ⟨rfl, rfl⟩ | refine And.intro ?_ ?_)
  · have hjl : j = c.parts.length := by simp only [List.length_map] at h1; omega
    subst hjl
    rw [List.take_length, ← hsz]
    ((conv => whnf); repeat' ((first | (intro hq; (try simp only [lnS] at hq); (try rewrite [List.length_map])) | refine sJ ?_ | refine .intro _ (.intro rfl ?_) | (refine .intro (show (_ : Nat) < List.length _ from by first | omega | (simp only [lnS]; omega) | simp) ?_) | fail | refine draw_rule hty (by kernel_rfl) (by kernel_rfl) ?_ | ((first | refine brB_dec ?_ ?_ | refine brB_ndec ?_ ?_) <;> intro hb <;> (first | contradiction | ((try simp only [lnS] at hb); try (exfalso; omega)))) | (refine brB_split ?_ ?_ <;> intro hb <;> (first | contradiction | exact bT hb (by assumption) | exact bF hb (by assumption) | skip))) <;> (conv => whnf)))
    rfl
theorem cmpL_end {l m : List Cn} {j : Nat} (h1 : j ≤ l.length) (h2 : j ≤ m.length) (h : ¬ (j < l.length ∧ j < m.length)) : cmpL (l.drop j) (m.drop j) = cmpI l.length m.length := by
  unfold cmpI
  by_cases hl : j < l.length
  · have hm : m.drop j = [] := List.drop_eq_nil_of_le (by omega)
    rw [List.drop_eq_getElem_cons hl, hm, cmpL, if_neg (by omega), if_pos (by omega)]
  · have hm : l.drop j = [] := List.drop_eq_nil_of_le (by omega)
    rw [hm]
    by_cases hm : j < m.length
    · rw [List.drop_eq_getElem_cons hm, cmpL, if_pos (by omega)]
    · rw [show m.drop j = [] from List.drop_eq_nil_of_le (by omega), cmpL, if_neg (by omega), if_neg (by omega)]
set_option maxHeartbeats 8000000 in
theorem rCompare_spec : ∀ (c d : Cn) (_ : sizeF c ≤ 1000000) (_ : sizeF d ≤ 1000000), Tri Tryz.prog 72 [.d (.agg (cnR c)), .d (.agg (cnR d))] [] (fun r => r = .d (.int .i64 (cmpC c d))) := by
  refine Cn.ind ?_
  intro c ih d hs hsd
  have s1 := rSize_spec c hs
  have s2 := rSize_spec d hsd
  have o0 := rOrder_spec (sizeF c) (sizeF d)
  have o1 := rOrder_spec c.kind d.kind
  have o2 := rStrings_spec c.name d.name
  have o3 := rOrder_spec c.lo d.lo
  have o4 := rOrder_spec c.hi d.hi
  have o5 := rOrder_spec c.parts.length d.parts.length
  rw [cmpC_eq, headC, cnR_eq, cnR_eq]
  rw [cnR_eq] at s1 s2
  generalize cmpI (sizeF c) (sizeF d) = n0 at o0 ⊢
  generalize cmpI c.kind d.kind = n1 at o1 ⊢
  generalize cmpB c.name d.name = n2 at o2 ⊢
  generalize cmpI c.lo d.lo = n3 at o3 ⊢
  generalize cmpI c.hi d.hi = n4 at o4 ⊢
  refine tri_of_bodyF false [2, 3] hty Tryz.func72 rfl (kp [0, 1, 2, 3, 4, 5, 6, 13, 20, 27, 34, 55, 70]) [] _ _ _ (by simp [Tryz.f72]) (by simp) ?_
  ((conv => whnf); repeat' ((first | (intro hq; (try simp only [lnS] at hq); (try rewrite [List.length_map])) | refine sJ ?_ | refine .intro _ (.intro rfl ?_) | (refine .intro (show (_ : Nat) < List.length _ from by first | omega | (simp only [lnS]; omega) | simp) ?_) | (refine ⟨.d (.int .i64 _), _, [], rfl, trivial, s1, ?_⟩) | (refine ⟨.d (.int .i64 _), _, [], rfl, trivial, s2, ?_⟩) | (refine ⟨.d (.int .i64 _), _, [], rfl, trivial, o0, ?_⟩) | (refine call_tri [] o1 trivial (fun r hs => ?_); subst hs) | (refine call_tri [] o2 trivial (fun r hs => ?_); subst hs) | (refine call_tri [] o3 trivial (fun r hs => ?_); subst hs) | (refine call_tri [] o4 trivial (fun r hs => ?_); subst hs) | refine draw_rule hty (by kernel_rfl) (by kernel_rfl) ?_ | ((first | refine brB_dec ?_ ?_ | refine brB_ndec ?_ ?_) <;> intro hb <;> (first | contradiction | ((try simp only [lnS] at hb); try (exfalso; omega)))) | (refine brB_split ?_ ?_ <;> intro hb <;> (first | contradiction | exact bT hb (by assumption) | exact bF hb (by assumption) | skip))) <;> (conv => whnf)))
  · refine loop_rule hty (fun y : Nat × Int => ([(2, .ea 5 [[.int .i64 c.kind, .str c.name, .int .i64 c.lo, .int .i64 c.hi, .sl 5 (c.parts.map cnR)]] 0 0), (3, .ea 5 [[.int .i64 d.kind, .str d.name, .int .i64 d.lo, .int .i64 d.hi, .sl 5 (d.parts.map cnR)]] 0 0), (5, .d (.int .i64 y.2)), (6, .d (.int .i64 y.1))], [])) (fun y => y.1 ≤ c.parts.length ∧ y.1 ≤ d.parts.length ∧ (if y.2 ≠ 0 then y.2 else cmpL (c.parts.drop y.1) (d.parts.drop y.1)) = (if n4 ≠ 0 then n4 else cmpL c.parts d.parts)) (fun y => c.parts.length - y.1) (0, n4) ⟨by dsimp only; omega, by dsimp only; omega, rfl⟩ ⟨by repeat' (first | exact trivial | exact rfl | exact ⟨rfl, rfl⟩ | refine And.intro ?_ ?_), trivial⟩ ?_
    rintro ⟨j, n⟩ ⟨hj, hjd, hn⟩
    dsimp only at hj hjd hn
    have hgoal : (if orF [n0, n1, n2, n3, n4] ≠ 0 then orF [n0, n1, n2, n3, n4] else cmpL c.parts d.parts) = (if n4 ≠ 0 then n4 else cmpL c.parts d.parts) := by
      simp only [orF, *]
      split <;> simp_all
    rw [hgoal]
    clear hgoal o0 o1 o2 o3 o4 s1 s2
    by_cases hlt : n = 0 ∧ j < c.parts.length ∧ j < d.parts.length
    · obtain ⟨rfl, h1, h2⟩ := hlt
      have hrow : (c.parts.map cnR)[(j : Int).toNat]? = some (cnR c.parts[j]) := rowC_at h1
      have hrow2 : (d.parts.map cnR)[(j : Int).toNat]? = some (cnR d.parts[j]) := rowC_at h2
      have hp := sizeF_part (List.getElem_mem (l := c.parts) h1)
      have hp2 := sizeF_part (List.getElem_mem (l := d.parts) h2)
      have hcall := ih c.parts[j] (List.getElem_mem h1) d.parts[j] (by omega) (by omega)
      rw [if_neg (by simp), List.drop_eq_getElem_cons h1, List.drop_eq_getElem_cons h2, cmpL] at hn
      generalize c.parts[j] = x at hrow hn hcall
      generalize d.parts[j] = z at hrow2 hn hcall
      rw [cnR_eq] at hrow hrow2
      rw [cnR_eq, cnR_eq] at hcall
      ((conv => whnf); repeat' ((first | (intro hq; (try simp only [lnS] at hq); (try rewrite [List.length_map])) | refine sJ ?_ | refine .intro _ (.intro rfl ?_) | (refine .intro (show (_ : Nat) < List.length _ from by first | omega | (simp only [lnS]; omega) | simp) ?_) | (refine ⟨_, hrow, ?_⟩) | (refine ⟨_, hrow2, ?_⟩) | (refine ⟨.d (.int .i64 _), _, [], rfl, trivial, hcall, ?_⟩) | refine draw_rule hty (by kernel_rfl) (by kernel_rfl) ?_ | ((first | refine brB_dec ?_ ?_ | refine brB_ndec ?_ ?_) <;> intro hb <;> (first | contradiction | ((try simp only [lnS] at hb); try (exfalso; omega)))) | (refine brB_split ?_ ?_ <;> intro hb <;> (first | contradiction | exact bT hb (by assumption) | exact bF hb (by assumption) | skip))) <;> (conv => whnf)))
      exact ⟨(j + 1, cmpC x z), ⟨by dsimp only; omega, by dsimp only; omega, hn⟩, by dsimp only; omega, by repeat' (first | exact trivial | exact rfl | refine And.intro ?_ ?_), trivial⟩
    · by_cases hn0 : n = 0
      · subst hn0
        have hlt2 : ¬ (j < c.parts.length ∧ j < d.parts.length) := fun h => hlt ⟨rfl, h⟩
        rw [if_neg (by simp), cmpL_end hj hjd hlt2] at hn
        rw [← hn]
        ((conv => whnf); repeat' ((first | (intro hq; (try simp only [lnS] at hq); (try rewrite [List.length_map])) | refine sJ ?_ | refine .intro _ (.intro rfl ?_) | (refine .intro (show (_ : Nat) < List.length _ from by first | omega | (simp only [lnS]; omega) | simp) ?_) | (refine call_tri [] o5 trivial (fun r hs => ?_); subst hs) | refine draw_rule hty (by kernel_rfl) (by kernel_rfl) ?_ | ((first | refine brB_dec ?_ ?_ | refine brB_ndec ?_ ?_) <;> intro hb <;> (first | contradiction | ((try simp only [lnS] at hb); try (exfalso; omega)))) | (refine brB_split ?_ ?_ <;> intro hb <;> (first | contradiction | exact bT hb (by assumption) | exact bF hb (by assumption) | skip))) <;> (conv => whnf)))
        all_goals rfl
      · rw [if_pos hn0] at hn
        ((conv => whnf); repeat' ((first | (intro hq; (try simp only [lnS] at hq); (try rewrite [List.length_map])) | refine sJ ?_ | refine .intro _ (.intro rfl ?_) | (refine .intro (show (_ : Nat) < List.length _ from by first | omega | (simp only [lnS]; omega) | simp) ?_) | fail | refine draw_rule hty (by kernel_rfl) (by kernel_rfl) ?_ | ((first | refine brB_dec ?_ ?_ | refine brB_ndec ?_ ?_) <;> intro hb <;> (first | contradiction | ((try simp only [lnS] at hb); try (exfalso; omega)))) | (refine brB_split ?_ ?_ <;> intro hb <;> (first | contradiction | exact bT hb (by assumption) | exact bF hb (by assumption) | skip))) <;> (conv => whnf)))
        exact int_eq hn
  all_goals
    refine loop_rule hty (fun _ : Unit => ([(2, .ea 5 [[.int .i64 c.kind, .str c.name, .int .i64 c.lo, .int .i64 c.hi, .sl 5 (c.parts.map cnR)]] 0 0), (3, .ea 5 [[.int .i64 d.kind, .str d.name, .int .i64 d.lo, .int .i64 d.hi, .sl 5 (d.parts.map cnR)]] 0 0), (5, .d (.int .i64 _)), (6, .d (.int .i64 0))], [])) (fun _ => True) (fun _ => 0) () trivial ⟨by repeat' (first | exact trivial | exact rfl | exact ⟨rfl, rfl⟩ | refine And.intro ?_ ?_), trivial⟩ ?_
    rintro ⟨⟩ _
    ((conv => whnf); repeat' ((first | (intro hq; (try simp only [lnS] at hq); (try rewrite [List.length_map])) | refine sJ ?_ | refine .intro _ (.intro rfl ?_) | (refine .intro (show (_ : Nat) < List.length _ from by first | omega | (simp only [lnS]; omega) | simp) ?_) | fail | refine draw_rule hty (by kernel_rfl) (by kernel_rfl) ?_ | ((first | refine brB_dec ?_ ?_ | refine brB_ndec ?_ ?_) <;> intro hb <;> (first | contradiction | ((try simp only [lnS] at hb); try (exfalso; omega)))) | (refine brB_split ?_ ?_ <;> intro hb <;> (first | contradiction | exact bT hb (by assumption) | exact bF hb (by assumption) | skip))) <;> (conv => whnf)))
    refine int_eq (Eq.symm ?_)
    simp [orF, *]
end Go.Proofs.YtpecmehekandgaaGreatDoor
namespace Go.Proofs.YtpecmehekandgaaGreatDoor
open Go.Proofs
set_option maxRecDepth 10000
attribute [local irreducible] SemVC CallVC Tri Stuck
end Go.Proofs.YtpecmehekandgaaGreatDoor
