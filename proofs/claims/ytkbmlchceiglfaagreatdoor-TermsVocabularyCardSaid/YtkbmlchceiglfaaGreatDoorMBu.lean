/-
  Terms: tidying keeps an axiom valid and adds no names; the names of valid axioms are names.
  Conditions: none.
-/
import Derived.Test.YtkbmlchceiglfaaGreatDoorMBt
namespace Go.Proofs.YtkbmlchceiglfaaGreatDoor
set_option linter.unnecessarySimpa false
set_option linter.unusedSectionVars false
set_option linter.unusedSimpArgs false
set_option linter.unusedVariables false
open Go.Proofs

/-- What a valid axiom is. -/
structure AxOk (u : Use) (x : Ax) : Prop where
  kind : 1 ≤ x.kind ∧ x.kind ≤ 9
  shaped : shapedU u x = true
  named : namedF u x = true
  left : u.left = true → conceptE x.left = 0
  right : u.right = true → conceptE x.right = 0
  bare : bareE x = false

theorem axiomE_iff (x : Ax) : axiomE x = 0 ↔ AxOk (useAt x.kind) x := by
  unfold axiomE shapedF
  split
  · rename_i h
    rw [if_pos rfl]
    constructor
    · intro h; exact absurd h (by decide)
    · intro h'
      have hk := h'.kind
      omega
  · rename_i h
    by_cases hs : shapedU (useAt x.kind) x = false
    · rw [if_pos hs]
      constructor
      · intro h; exact absurd h (by decide)
      · intro h'; rw [h'.shaped] at hs; exact absurd hs (by decide)
    rw [if_neg hs]
    have hs : shapedU (useAt x.kind) x = true := by simpa using hs
    unfold axiomU
    split
    · rename_i hn
      constructor
      · intro h; exact absurd h (by decide)
      · intro h'; rw [h'.named] at hn; exact absurd hn (by decide)
    · rename_i hn
      have hn : namedF (useAt x.kind) x = true := by simpa using hn
      split
      · rename_i h1
        exact ⟨fun h => absurd h h1.2, fun h' => absurd (h'.left h1.1) h1.2⟩
      · rename_i h1
        have h1 : (useAt x.kind).left = true → conceptE x.left = 0 := fun h2 => Classical.byContradiction fun h3 => h1 ⟨h2, h3⟩
        split
        · rename_i h2
          exact ⟨fun h => absurd h h2.2, fun h' => absurd (h'.right h2.1) h2.2⟩
        · rename_i h2
          have h2 : (useAt x.kind).right = true → conceptE x.right = 0 := fun h3 => Classical.byContradiction fun h4 => h2 ⟨h3, h4⟩
          split
          · rename_i hb
            constructor
            · intro h; exact absurd h (by decide)
            · intro h'; rw [h'.bare] at hb; exact absurd hb (by decide)
          · rename_i hb
            exact ⟨fun _ => ⟨by omega, hs, hn, h1, h2, by simpa using hb⟩, fun _ => rfl⟩

structure SideOk (b : Bool) (c t : Cn) : Prop where
  ok : b = true → conceptE t = 0
  nam : NamesIn t c
  bare : bareF t = true → bareF c = true
  same : b = false → t = c

theorem side_ok {b : Bool} {c : Cn} (h : b = true → conceptE c = 0) (h0 : (sideF b c).2 = 0) : SideOk b c (sideF b c).1 := by
  unfold sideF at h0 ⊢
  cases b with
  | false => exact ⟨fun h => absurd h (by decide), fun _ _ _ _ h => h, id, fun _ => rfl⟩
  | true =>
    rw [if_pos rfl] at h0 ⊢
    obtain ⟨h1, h2, h3⟩ := concept_tidy (h rfl) h0
    exact ⟨fun _ => h1, h2, h3, fun h => absurd h (by decide)⟩

/-- The names of t are among those of x. -/
structure SubX (t x : Ax) : Prop where
  a : ∀ s, axA t s → axA x s
  b : ∀ s, axB t s → axB x s
  c : ∀ s, axC t s → axC x s
  d : ∀ s, axD t s → axD x s

theorem sub_same {x : Ax} {l r : Cn} (hl : NamesIn l x.left) (hr : NamesIn r x.right) : SubX { x with left := l, right := r } x := by
  have h : ∀ k s, k ≠ 1 → k ≠ 5 → hasK k l s ∨ hasK k r s → hasK k x.left s ∨ hasK k x.right s := fun k s h1 h2 h => h.imp (hl k s h1 h2) (hr k s h1 h2)
  refine ⟨fun s hs => h 3 s (by decide) (by decide) hs, fun s hs => ?_, fun s hs => h 7 s (by decide) (by decide) hs, fun s hs => ?_⟩
  · have hs : hasK 6 l s ∨ hasK 6 r s ∨ s ∈ x.roles ∨ x.role = s := hs
    rcases hs with hs | hs | hs
    · exact .inl (hl 6 s (by decide) (by decide) hs)
    · exact .inr (.inl (hr 6 s (by decide) (by decide) hs))
    · exact .inr (.inr hs)
  · have hs : hasK 4 l s ∨ hasK 4 r s ∨ x.a = s ∨ x.b = s := hs
    rcases hs with hs | hs | hs
    · exact .inl (hl 4 s (by decide) (by decide) hs)
    · exact .inr (.inl (hr 4 s (by decide) (by decide) hs))
    · exact .inr (.inr hs)

theorem sub_swap {x : Ax} {l r : Cn} (hl : NamesIn l x.left) (hr : NamesIn r x.right) : SubX { x with left := r, right := l } x := by
  have h : ∀ k s, k ≠ 1 → k ≠ 5 → hasK k r s ∨ hasK k l s → hasK k x.left s ∨ hasK k x.right s := fun k s h1 h2 h => h.symm.imp (hl k s h1 h2) (hr k s h1 h2)
  refine ⟨fun s hs => h 3 s (by decide) (by decide) hs, fun s hs => ?_, fun s hs => h 7 s (by decide) (by decide) hs, fun s hs => ?_⟩
  · have hs : hasK 6 r s ∨ hasK 6 l s ∨ s ∈ x.roles ∨ x.role = s := hs
    rcases hs with hs | hs | hs
    · exact .inr (.inl (hr 6 s (by decide) (by decide) hs))
    · exact .inl (hl 6 s (by decide) (by decide) hs)
    · exact .inr (.inr hs)
  · have hs : hasK 4 r s ∨ hasK 4 l s ∨ x.a = s ∨ x.b = s := hs
    rcases hs with hs | hs | hs
    · exact .inr (.inl (hr 4 s (by decide) (by decide) hs))
    · exact .inl (hl 4 s (by decide) (by decide) hs)
    · exact .inr (.inr hs)

theorem shaped_new {u : Use} {x : Ax} {l r : Cn} (h : shapedU u x = true) (hl : u.left = true ∨ l = x.left) (hr : u.right = true ∨ r = x.right) : shapedU u { x with left := l, right := r } = true := by
  have h : ((u.left || emptyF x.left) && ((u.right || emptyF x.right) && ((u.role || decide (x.role = [])) && ((u.a || decide (x.a = [])) && ((u.b || decide (x.b = [])) && (decide (u.least ≤ x.roles.length) && decide ((x.roles.length : Int) ≤ u.most))))))) = true := h
  show ((u.left || emptyF l) && ((u.right || emptyF r) && ((u.role || decide (x.role = [])) && ((u.a || decide (x.a = [])) && ((u.b || decide (x.b = [])) && (decide (u.least ≤ x.roles.length) && decide ((x.roles.length : Int) ≤ u.most))))))) = true
  rw [Bool.and_eq_true, Bool.and_eq_true] at h
  rw [Bool.and_eq_true, Bool.and_eq_true]
  refine ⟨?_, ?_, h.2.2⟩
  · rcases hl with hl | rfl
    · rw [hl]; rfl
    · exact h.1
  · rcases hr with hr | rfl
    · rw [hr]; rfl
    · exact h.2.1

theorem bareE_new {x : Ax} {l r : Cn} (h : bareE x = false) (hl : bareF l = true → bareF x.left = true) (hr : bareF r = true → bareF x.right = true) : bareE { x with left := l, right := r } = false := by
  have h : (if x.kind = 2 then (bareF x.left || bareF x.right) else if x.kind = 1 ∨ x.kind = 4 ∨ x.kind = 8 then bareF x.right else false) = false := h
  show (if x.kind = 2 then (bareF l || bareF r) else if x.kind = 1 ∨ x.kind = 4 ∨ x.kind = 8 then bareF r else false) = false
  revert h hl hr
  cases bareF l <;> cases bareF r <;> cases bareF x.left <;> cases bareF x.right <;> split <;> (try split) <;> simp

theorem bareE_swap {x : Ax} {l r : Cn} (hk : x.kind = 2 ∨ x.kind = 3) (h : bareE x = false) (hl : bareF l = true → bareF x.left = true) (hr : bareF r = true → bareF x.right = true) : bareE { x with left := r, right := l } = false := by
  have h : (if x.kind = 2 then (bareF x.left || bareF x.right) else if x.kind = 1 ∨ x.kind = 4 ∨ x.kind = 8 then bareF x.right else false) = false := h
  show (if x.kind = 2 then (bareF r || bareF l) else if x.kind = 1 ∨ x.kind = 4 ∨ x.kind = 8 then bareF l else false) = false
  rcases hk with hk | hk
  · rw [if_pos hk] at h ⊢
    revert h hl hr
    cases bareF l <;> cases bareF r <;> cases bareF x.left <;> cases bareF x.right <;> simp
  · rw [if_neg (by omega), if_neg (by omega)]

theorem axiom_tidy {x : Ax} (h0 : (tidyA x).2 = 0) : axiomE x = 0 ∧ axiomE (tidyA x).1 = 0 ∧ SubX (tidyA x).1 x := by
  have hE : axiomE x = 0 := by
    unfold tidyA at h0
    split at h0
    · exact h0
    · rename_i h; exact Classical.byContradiction fun h' => h h'
  refine ⟨hE, ?_⟩
  have ho := (axiomE_iff x).1 hE
  have hA : tidyA x = tidyU (useAt x.kind) x := by unfold tidyA; rw [if_neg (by omega)]
  rw [hA] at h0 ⊢
  have huse : x.kind = 2 ∨ x.kind = 3 → (useAt x.kind).left = true ∧ (useAt x.kind).right = true := by
    rintro (h | h) <;> rw [h] <;> exact ⟨rfl, rfl⟩
  rw [axiomE_iff]
  generalize hl : sideF (useAt x.kind).left x.left = L
  generalize hr : sideF (useAt x.kind).right x.right = R
  unfold tidyU at h0 ⊢
  rw [hl, hr] at h0 ⊢
  split at h0
  · rename_i h; exact absurd h0 h
  · rename_i hl0
    split at h0
    · rename_i h; exact absurd h0 h
    · rename_i hr0
      have sl : SideOk (useAt x.kind).left x.left L.1 := by rw [← hl]; exact side_ok ho.left (by rw [hl]; omega)
      have sr : SideOk (useAt x.kind).right x.right R.1 := by rw [← hr]; exact side_ok ho.right (by rw [hr]; omega)
      rw [if_neg hl0, if_neg hr0]
      split
      · rename_i hs
        obtain ⟨u1, u2⟩ := huse hs.1
        refine ⟨⟨ho.kind, shaped_new ho.shaped (.inl u1) (.inl u2), ho.named, fun _ => sr.ok u2, fun _ => sl.ok u1, bareE_swap hs.1 ho.bare sl.bare sr.bare⟩, sub_swap sl.nam sr.nam⟩
      · have e1 : (useAt x.kind).left = true ∨ L.1 = x.left := by cases hb : (useAt x.kind).left with
          | true => exact .inl rfl
          | false => exact .inr (sl.same hb)
        have e2 : (useAt x.kind).right = true ∨ R.1 = x.right := by cases hb : (useAt x.kind).right with
          | true => exact .inl rfl
          | false => exact .inr (sr.same hb)
        exact ⟨⟨ho.kind, shaped_new ho.shaped e1 e2, ho.named, sl.ok, sr.ok, bareE_new ho.bare sl.bare sr.bare⟩, sub_same sl.nam sr.nam⟩

/-! ### names -/

theorem side_name {b : Bool} {c : Cn} (h : (b || emptyF c) = true) (h0 : b = true → conceptE c = 0) {k : Int} {s : List UInt8} (hk : k = 3 ∨ k = 4 ∨ k = 6 ∨ k = 7) (hs : hasK k c s) : nameF s = true := by
  cases b with
  | true => exact name_of ((conceptE_iff c).1 (h0 rfl)).2.2 hk hs
  | false =>
    rw [empty_eq h] at hs
    exact absurd hs (hasK_c0 (by omega))

theorem ax_names {x : Ax} (h : axiomE x = 0) : (∀ s, axA x s → nameF s = true) ∧ (∀ s, axB x s → s = [] ∨ nameF s = true) ∧ (∀ s, axC x s → nameF s = true) ∧ (∀ s, axD x s → s = [] ∨ nameF s = true) := by
  obtain ⟨_, hs, hn, hl, hr, _⟩ := (axiomE_iff x).1 h
  generalize useAt x.kind = u at hs hn hl hr
  unfold shapedU at hs
  unfold namedF at hn
  simp only [Bool.and_eq_true] at hs
  obtain ⟨s1, s2, s3, s4, s5, _⟩ := hs
  have hlr : ∀ k s, (k = 3 ∨ k = 4 ∨ k = 6 ∨ k = 7) → hasK k x.left s ∨ hasK k x.right s → nameF s = true := by
    rintro k s hk (h | h)
    · exact side_name s1 hl hk h
    · exact side_name s2 hr hk h
  rw [Bool.and_eq_true] at hn
  obtain ⟨n1, n2⟩ := hn
  have pl : ∀ s, plainF s = true → nameF s = true := fun s h => by unfold nameF; rw [h]; rfl
  have hrole : x.role = [] ∨ plainF x.role = true := by
    revert s3 n1
    cases u.role <;> cases plainF x.role <;> simp <;> (intro h; simp [h])
  have ha : x.a = [] ∨ nameF x.a = true := by
    revert s4 n1
    cases u.a <;> cases nameF x.a <;> simp <;> (intro h; simp [h])
  have hb : x.b = [] ∨ nameF x.b = true := by
    revert s5 n1
    cases u.b <;> cases nameF x.b <;> simp <;> (intro h; simp [h])
  refine ⟨fun s hs => hlr 3 s (by decide) hs, fun s hs => ?_, fun s hs => hlr 7 s (by decide) hs, fun s hs => ?_⟩
  · rcases hs with hs | hs | hs | hs
    · exact .inr (hlr 6 s (by decide) (.inl hs))
    · exact .inr (hlr 6 s (by decide) (.inr hs))
    · exact .inr (pl s (List.all_eq_true.1 n2 s hs))
    · subst hs; exact hrole.imp id (pl _)
  · rcases hs with hs | hs | hs | hs
    · exact .inr (hlr 4 s (by decide) (.inl hs))
    · exact .inr (hlr 4 s (by decide) (.inr hs))
    · subst hs; exact ha
    · subst hs; exact hb
end Go.Proofs.YtkbmlchceiglfaaGreatDoor
