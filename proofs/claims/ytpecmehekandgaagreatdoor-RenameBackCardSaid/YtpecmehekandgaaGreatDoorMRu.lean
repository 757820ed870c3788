/-
  Rename: other names in axioms, plainly; tidying and renaming of axioms and lists of axioms.
  Conditions: none.
-/
import Derived.Test.YtpecmehekandgaaGreatDoorMRt
import Derived.Test.YtpecmehekandgaaGreatDoorMBv
set_option linter.unnecessarySimpa false
set_option linter.unusedSectionVars false
set_option linter.unusedSimpArgs false
set_option linter.unusedVariables false
namespace Go.Proofs.YtpecmehekandgaaGreatDoor
open Go.Proofs
theorem renN_c0 (g : Int → List UInt8 → List UInt8) : renC g c0 = c0 := by rw [renC_eq]; rfl
theorem renC_empty {g : Int → List UInt8 → List UInt8} {c : Cn} (h : emptyF c = true) : emptyF (renC g c) = true := by
  have e := empty_eq h
  subst e
  rw [renN_c0]; rfl
theorem renC_bare (g : Int → List UInt8 → List UInt8) : ∀ c : Cn, bareF (renC g c) = bareF c := by
  refine Cn.ind ?_
  intro c ih
  rw [bareF_eq, bareF_eq, renC_kind, renC_parts]
  have : bareL (c.parts.map (renC g)) = bareL c.parts := by
    rw [Bool.eq_iff_iff, bareL_iff, bareL_iff]
    constructor
    · rintro ⟨p, hp, h⟩
      obtain ⟨q, hq, rfl⟩ := List.mem_map.1 hp
      exact ⟨q, hq, by rw [← ih q hq]; exact h⟩
    · rintro ⟨q, hq, h⟩
      exact ⟨_, List.mem_map_of_mem hq, by rw [ih q hq]; exact h⟩
  rw [this]
structure RenG (g : Int → List UInt8 → List UInt8) : Prop where
  ok : RenOK g
  nil : ∀ k, g k [] = []
theorem renX_ok {g : Int → List UInt8 → List UInt8} (hg : RenG g) {x : Ax} (h : axiomE x = 0) : axiomE (renX g x) = 0 := by
  rw [axiomE_iff] at h ⊢
  obtain ⟨hk, hs, hn, hl, hr, hb⟩ := h
  have hkk : (renX g x).kind = x.kind := rfl
  rw [hkk]
  generalize useAt x.kind = u at *
  refine ⟨hk, ?_, ?_, fun h => renC_concept hg.ok (hl h), fun h => renC_concept hg.ok (hr h), ?_⟩
  · unfold shapedU at hs ⊢
    simp only [Bool.and_eq_true, Bool.or_eq_true, decide_eq_true_eq] at hs ⊢
    obtain ⟨s1, s2, s3, s4, s5, s6, s7⟩ := hs
    refine ⟨s1.imp id renC_empty, s2.imp id renC_empty, s3.imp id fun e => ?_, s4.imp id fun e => ?_, s5.imp id fun e => ?_, ?_, ?_⟩
    · show g 2 x.role = []
      rw [e, hg.nil]
    · show g 4 x.a = []
      rw [e, hg.nil]
    · show g 4 x.b = []
      rw [e, hg.nil]
    · show u.least ≤ ((x.roles.map (g 2)).length : Int)
      rw [List.length_map]; exact s6
    · show ((x.roles.map (g 2)).length : Int) ≤ u.most
      rw [List.length_map]; exact s7
  · have hn : (!((u.role && !plainF x.role) || ((u.a && !nameF x.a) || (u.b && !nameF x.b))) && x.roles.all plainF) = true := hn
    show (!((u.role && !plainF (g 2 x.role)) || ((u.a && !nameF (g 4 x.a)) || (u.b && !nameF (g 4 x.b)))) && (x.roles.map (g 2)).all plainF) = true
    have h1 := hg.ok.plain 2 x.role
    have h2 := hg.ok.name 4 x.a
    have h3 := hg.ok.name 4 x.b
    rw [Bool.and_eq_true] at hn ⊢
    refine ⟨?_, ?_⟩
    · have hn := hn.1
      revert hn h1 h2 h3
      cases u.role <;> cases u.a <;> cases u.b <;> cases plainF x.role <;> cases nameF x.a <;> cases nameF x.b <;> simp <;> intros <;> simp_all
    · rw [List.all_eq_true] at hn ⊢
      intro s hs
      obtain ⟨r, hr, rfl⟩ := List.mem_map.1 hs
      exact hg.ok.plain 2 r (hn.2 r hr)
  · have hb : (if x.kind = 2 then (bareF x.left || bareF x.right) else if x.kind = 1 ∨ x.kind = 4 ∨ x.kind = 8 then bareF x.right else false) = false := hb
    show (if x.kind = 2 then (bareF (renC g x.left) || bareF (renC g x.right)) else if x.kind = 1 ∨ x.kind = 4 ∨ x.kind = 8 then bareF (renC g x.right) else false) = false
    rw [renC_bare, renC_bare]
    exact hb
theorem side_ren {g : Int → List UInt8 → List UInt8} (hg : RenG g) {b : Bool} {c : Cn} (h : b = true → conceptE c = 0) (h0 : (sideF b c).2 = 0) :
    (sideF b (renC g c)).2 = 0 ∧ sideF b (renC g (sideF b c).1) = sideF b (renC g c) := by
  unfold sideF at h0 ⊢
  cases b with
  | false => exact ⟨rfl, rfl⟩
  | true =>
    simp only [if_true] at h0 ⊢
    exact tidy_ren hg.ok c ((conceptE_iff c).1 (h rfl)).2.2 h0
theorem tidyA_ok {x : Ax} (h : axiomE x = 0) : tidyA x = tidyU (useAt x.kind) x := by unfold tidyA; rw [if_neg (by omega)]
theorem use23 {k : Int} (h : k = 2 ∨ k = 3) : (useAt k).left = (useAt k).right := by
  rcases h with h | h <;> rw [h] <;> rfl
theorem tidyU_eq {u : Use} {x : Ax} (h1 : (sideF u.left x.left).2 = 0) (h2 : (sideF u.right x.right).2 = 0) : tidyU u x = if (x.kind = 2 ∨ x.kind = 3) ∧ 0 < cmpC (sideF u.left x.left).1 (sideF u.right x.right).1 then ({ x with left := (sideF u.right x.right).1, right := (sideF u.left x.left).1 }, 0) else ({ x with left := (sideF u.left x.left).1, right := (sideF u.right x.right).1 }, 0) := by
  unfold tidyU
  rw [if_neg (by omega), if_neg (by omega)]
theorem tidyU_zero {u : Use} {x : Ax} (h : (tidyU u x).2 = 0) : (sideF u.left x.left).2 = 0 ∧ (sideF u.right x.right).2 = 0 := by
  unfold tidyU at h
  split at h
  · rename_i h1; exact absurd h h1
  · rename_i h1
    split at h
    · rename_i h2; exact absurd h h2
    · rename_i h2; exact ⟨by omega, by omega⟩
theorem tidyA_ren {g : Int → List UInt8 → List UInt8} (hg : RenG g) {x : Ax} (h0 : (tidyA x).2 = 0) : (tidyA (renX g x)).2 = 0 ∧ tidyA (renX g (tidyA x).1) = tidyA (renX g x) := by
  obtain ⟨hE, hE2, _⟩ := axiom_tidy h0
  have ho := (axiomE_iff x).1 hE
  have hR := renX_ok hg hE
  have hR2 := renX_ok hg hE2
  have hu : (renX g x).kind = x.kind := rfl
  rw [tidyA_ok hE] at h0
  rw [tidyA_ok hR, tidyA_ok hR2, tidyA_ok hE, hu]
  have hk23 := fun h => use23 (k := x.kind) h
  obtain ⟨z1, z2⟩ := tidyU_zero h0
  obtain ⟨l1, l2⟩ := side_ren hg ho.left z1
  obtain ⟨r1, r2⟩ := side_ren hg ho.right z2
  have eR := tidyU_eq (u := useAt x.kind) (x := renX g x) l1 r1
  have e0 := tidyU_eq z1 z2
  have hz : (tidyU (useAt x.kind) (renX g x)).2 = 0 := by
    rw [eR]; split <;> rfl
  refine ⟨hz, ?_⟩
  have kk : (tidyU (useAt x.kind) x).1.kind = x.kind := by rw [e0]; split <;> rfl
  have kk2 : (renX g (tidyU (useAt x.kind) x).1).kind = x.kind := kk
  rw [kk2]
  generalize useAt x.kind = u at *
  have el : (renX g x).left = renC g x.left := rfl
  have er : (renX g x).right = renC g x.right := rfl
  have ek : (renX g x).kind = x.kind := rfl
  rw [eR, el, er, ek]
  rw [e0]
  split
  · rename_i hc
    have hsame := hk23 hc.1
    -- swapped: the sides come the other way round
    have f1 : (sideF u.left (renC g (sideF u.right x.right).1)) = sideF u.right (renC g x.right) := by rw [hsame]; exact r2
    have f2 : (sideF u.right (renC g (sideF u.left x.left).1)) = sideF u.left (renC g x.left) := by rw [← hsame]; exact l2
    generalize hL : sideF u.left (renC g x.left) = L at *
    generalize hRr : sideF u.right (renC g x.right) = R at *
    obtain ⟨L, le⟩ := L
    obtain ⟨R, re⟩ := R
    dsimp only at l1 r1
    subst l1 r1
    rw [tidyU_eq (u := u) (x := renX g { x with left := (sideF u.right x.right).1, right := (sideF u.left x.left).1 }) (by show (sideF u.left (renC g (sideF u.right x.right).1)).2 = 0; rw [f1]) (by show (sideF u.right (renC g (sideF u.left x.left).1)).2 = 0; rw [f2])]
    show (if (x.kind = 2 ∨ x.kind = 3) ∧ 0 < cmpC (sideF u.left (renC g (sideF u.right x.right).1)).1 (sideF u.right (renC g (sideF u.left x.left).1)).1 then _ else _) = _
    have a1 := cmpC_anti L R
    have g1 : (renX g { x with left := (sideF u.right x.right).1, right := (sideF u.left x.left).1 }).left = renC g (sideF u.right x.right).1 := rfl
    have g2 : (renX g { x with left := (sideF u.right x.right).1, right := (sideF u.left x.left).1 }).right = renC g (sideF u.left x.left).1 := rfl
    rw [g1, g2, f1, f2]
    dsimp only
    by_cases c1 : 0 < cmpC R L
    · rw [if_pos ⟨hc.1, c1⟩, if_neg (fun h => by have := h.2; omega)]
      rfl
    · rw [if_neg (fun h => c1 h.2)]
      by_cases c2 : 0 < cmpC L R
      · rw [if_pos ⟨hc.1, c2⟩]
        rfl
      · have e : L = R := cmpC_zero.1 (by omega)
        rw [if_neg (fun h => c2 h.2), e]
        rfl
  · rename_i hc
    rw [tidyU_eq (u := u) (x := renX g { x with left := (sideF u.left x.left).1, right := (sideF u.right x.right).1 }) (by show (sideF u.left (renC g (sideF u.left x.left).1)).2 = 0; rw [l2]; exact l1) (by show (sideF u.right (renC g (sideF u.right x.right).1)).2 = 0; rw [r2]; exact r1)]
    have g1 : (renX g { x with left := (sideF u.left x.left).1, right := (sideF u.right x.right).1 }).left = renC g (sideF u.left x.left).1 := rfl
    have g2 : (renX g { x with left := (sideF u.left x.left).1, right := (sideF u.right x.right).1 }).right = renC g (sideF u.right x.right).1 := rfl
    have g3 : (renX g { x with left := (sideF u.left x.left).1, right := (sideF u.right x.right).1 }).kind = x.kind := rfl
    rw [g1, g2, g3, l2, r2]
    rfl
theorem renC_same {g : Int → List UInt8 → List UInt8} : ∀ c : Cn, (∀ s, (hasK 3 c s → g 1 s = s) ∧ (hasK 6 c s → g 2 s = s) ∧ (hasK 7 c s → g 3 s = s) ∧ (hasK 4 c s → g 4 s = s)) → renC g c = c := by
  refine Cn.ind ?_
  intro c ih h
  have hp : c.parts.map (renC g) = c.parts := by
    have : ∀ p ∈ c.parts, renC g p = p := fun p hp => ih p hp fun s =>
      ⟨fun hk => (h s).1 ((hasK_iff 3 c s).2 (.inr ⟨p, hp, hk⟩)), fun hk => (h s).2.1 ((hasK_iff 6 c s).2 (.inr ⟨p, hp, hk⟩)), fun hk => (h s).2.2.1 ((hasK_iff 7 c s).2 (.inr ⟨p, hp, hk⟩)), fun hk => (h s).2.2.2 ((hasK_iff 4 c s).2 (.inr ⟨p, hp, hk⟩))⟩
    exact (List.map_congr_left this).trans (List.map_id' _)
  have hn : renN g c.kind c.name = c.name := by
    unfold renN
    split
    · rename_i hk; exact (h c.name).1 ((hasK_iff 3 c _).2 (.inl ⟨hk, rfl⟩))
    · split
      · rename_i hk; exact (h c.name).2.1 ((hasK_iff 6 c _).2 (.inl ⟨hk, rfl⟩))
      · split
        · rename_i hk; exact (h c.name).2.2.1 ((hasK_iff 7 c _).2 (.inl ⟨hk, rfl⟩))
        · split
          · rename_i hk; exact (h c.name).2.2.2 ((hasK_iff 4 c _).2 (.inl ⟨hk, rfl⟩))
          · rfl
  rw [renC_eq, hp, hn]
  cases c; rfl
theorem renX_same {g : Int → List UInt8 → List UInt8} {x : Ax} (h1 : ∀ s, axA x s → g 1 s = s) (h2 : ∀ s, axB x s → g 2 s = s) (h3 : ∀ s, axC x s → g 3 s = s) (h4 : ∀ s, axD x s → g 4 s = s) : renX g x = x := by
  have el : renC g x.left = x.left := renC_same _ fun s => ⟨fun h => h1 s (.inl h), fun h => h2 s (.inl h), fun h => h3 s (.inl h), fun h => h4 s (.inl h)⟩
  have er : renC g x.right = x.right := renC_same _ fun s => ⟨fun h => h1 s (.inr h), fun h => h2 s (.inr (.inl h)), fun h => h3 s (.inr h), fun h => h4 s (.inr (.inl h))⟩
  have eo : x.roles.map (g 2) = x.roles := (List.map_congr_left fun s hs => h2 s (.inr (.inr (.inl hs)))).trans (List.map_id' _)
  unfold renX
  rw [el, er, eo, h2 x.role (.inr (.inr (.inr rfl))), h4 x.a (.inr (.inr (.inl rfl))), h4 x.b (.inr (.inr (.inr rfl)))]
theorem renX_id (x : Ax) : renX (fun _ s => s) x = x := renX_same (fun _ _ => rfl) (fun _ _ => rfl) (fun _ _ => rfl) fun _ _ => rfl
theorem renC_two (f g : Int → List UInt8 → List UInt8) : ∀ c : Cn, renC f (renC g c) = renC (fun k s => f k (g k s)) c := by
  refine Cn.ind ?_
  intro c ih
  rw [renC_eq f, renC_kind, renC_name, renC_parts, List.map_map, renC_eq (fun k s => f k (g k s))]
  have hp : c.parts.map (renC f ∘ renC g) = c.parts.map (renC fun k s => f k (g k s)) := List.map_congr_left fun p hp => ih p hp
  rw [hp]
  have hn : renN f c.kind (renN g c.kind c.name) = renN (fun k s => f k (g k s)) c.kind c.name := by
    unfold renN
    split
    · rfl
    · split
      · rfl
      · split
        · rfl
        · split
          · rfl
          · rfl
  rw [hn, renC_eq g c]
  rfl
theorem renX_two (f g : Int → List UInt8 → List UInt8) (x : Ax) : renX f (renX g x) = renX (fun k s => f k (g k s)) x := by
  unfold renX
  simp only [renC_two, List.map_map]
  rfl
theorem renX_congr {f g : Int → List UInt8 → List UInt8} (h : ∀ k s, f k s = g k s) (x : Ax) : renX f x = renX g x := by
  have : f = g := funext fun k => funext fun s => h k s
  rw [this]
theorem renG_id : RenG fun _ s => s := ⟨⟨fun _ _ h => h, fun _ _ h => h⟩, fun _ => rfl⟩
theorem tidyA_twice {x : Ax} (h0 : (tidyA x).2 = 0) : tidyA (tidyA x).1 = ((tidyA x).1, 0) := by
  have h := (tidyA_ren renG_id h0).2
  rw [renX_id, renX_id] at h
  rw [h]
  exact Prod.ext rfl h0
theorem renC_has {g : Int → List UInt8 → List UInt8} {k j : Int} (hkj : (k = 3 ∧ j = 1) ∨ (k = 6 ∧ j = 2) ∨ (k = 7 ∧ j = 3) ∨ (k = 4 ∧ j = 4)) {s : List UInt8} : ∀ c : Cn, hasK k (renC g c) s → ∃ t, hasK k c t ∧ g j t = s := by
  refine Cn.ind ?_
  intro c ih h
  rw [hasK_iff] at h
  rcases h with ⟨h1, h2⟩ | ⟨p, hp, h⟩
  · rw [renC_kind] at h1
    rw [renC_name] at h2
    refine ⟨c.name, (hasK_iff k c _).2 (.inl ⟨h1, rfl⟩), ?_⟩
    rw [← h2]
    unfold renN
    rw [h1]
    rcases hkj with ⟨rfl, rfl⟩ | ⟨rfl, rfl⟩ | ⟨rfl, rfl⟩ | ⟨rfl, rfl⟩
    · rw [if_pos rfl]
    · rw [if_neg (by decide), if_pos rfl]
    · rw [if_neg (by decide), if_neg (by decide), if_pos rfl]
    · rw [if_neg (by decide), if_neg (by decide), if_neg (by decide), if_pos rfl]
  · rw [renC_parts] at hp
    obtain ⟨q, hq, rfl⟩ := List.mem_map.1 hp
    obtain ⟨t, ht, e⟩ := ih q hq h
    exact ⟨t, (hasK_iff k c t).2 (.inr ⟨q, hq, ht⟩), e⟩
theorem renX_names {g : Int → List UInt8 → List UInt8} (hg : ∀ k, g k [] = []) {x : Ax} {s : List UInt8} : ∀ {i : Nat}, i < 4 → axI (renX g x) s i → ∃ t, axI x t i ∧ g (i + 1 : Nat) t = s := by
  intro i hi
  match i, hi with
  | 0, _ =>
    intro h
    have h : hasK 3 (renC g x.left) s ∨ hasK 3 (renC g x.right) s := h
    rcases h with h | h
    · obtain ⟨t, ht, e⟩ := renC_has (j := 1) (by omega) _ h; exact ⟨t, .inl ht, e⟩
    · obtain ⟨t, ht, e⟩ := renC_has (j := 1) (by omega) _ h; exact ⟨t, .inr ht, e⟩
  | 1, _ =>
    rintro ⟨h, hn⟩
    have fin : ∀ t, axB x t → g 2 t = s → ∃ t, axI x t 1 ∧ g 2 t = s := fun t ht e => ⟨t, ⟨ht, fun e2 => by rw [e2, hg] at e; exact hn e.symm⟩, e⟩
    have h : hasK 6 (renC g x.left) s ∨ hasK 6 (renC g x.right) s ∨ s ∈ x.roles.map (g 2) ∨ g 2 x.role = s := h
    rcases h with h | h | h | h
    · obtain ⟨t, ht, e⟩ := renC_has (j := 2) (by omega) _ h; exact fin t (.inl ht) e
    · obtain ⟨t, ht, e⟩ := renC_has (j := 2) (by omega) _ h; exact fin t (.inr (.inl ht)) e
    · obtain ⟨t, ht, e⟩ := List.mem_map.1 h; exact fin t (.inr (.inr (.inl ht))) e
    · exact fin _ (.inr (.inr (.inr rfl))) h
  | 2, _ =>
    intro h
    have h : hasK 7 (renC g x.left) s ∨ hasK 7 (renC g x.right) s := h
    rcases h with h | h
    · obtain ⟨t, ht, e⟩ := renC_has (j := 3) (by omega) _ h; exact ⟨t, .inl ht, e⟩
    · obtain ⟨t, ht, e⟩ := renC_has (j := 3) (by omega) _ h; exact ⟨t, .inr ht, e⟩
  | 3, _ =>
    rintro ⟨h, hn⟩
    have fin : ∀ t, axD x t → g 4 t = s → ∃ t, axI x t 3 ∧ g 4 t = s := fun t ht e => ⟨t, ⟨ht, fun e2 => by rw [e2, hg] at e; exact hn e.symm⟩, e⟩
    have h : hasK 4 (renC g x.left) s ∨ hasK 4 (renC g x.right) s ∨ g 4 x.a = s ∨ g 4 x.b = s := h
    rcases h with h | h | h | h
    · obtain ⟨t, ht, e⟩ := renC_has (j := 4) (by omega) _ h; exact fin t (.inl ht) e
    · obtain ⟨t, ht, e⟩ := renC_has (j := 4) (by omega) _ h; exact fin t (.inr (.inl ht)) e
    · exact fin _ (.inr (.inr (.inl rfl))) h
    · exact fin _ (.inr (.inr (.inr rfl))) h
def tidL (g : Int → List UInt8 → List UInt8) : List Ax → List Ax × Int
  | [] => ([], 0)
  | x :: r => if (tidyA (renX g x)).2 ≠ 0 then ([], (tidyA (renX g x)).2) else if (tidL g r).2 ≠ 0 then ([], (tidL g r).2) else ((tidyA (renX g x)).1 :: (tidL g r).1, 0)
def axmR (l : List Rn) (xs : List Ax) : List Ax × Int :=
  if checkR l ≠ 0 then ([], checkR l) else if firstA xs ≠ 0 then ([], firstA xs) else tidL (nameR l) xs
theorem tidL_ok {g : Int → List UInt8 → List UInt8} : ∀ {xs : List Ax}, (tidL g xs).2 = 0 → (∀ x ∈ xs, (tidyA (renX g x)).2 = 0) ∧ (tidL g xs).1 = xs.map fun x => (tidyA (renX g x)).1
  | [], _ => ⟨by simp, rfl⟩
  | x :: r, h => by
    rw [tidL] at h ⊢
    split at h
    · rename_i h1; exact absurd h h1
    · rename_i h1
      split at h
      · rename_i h2; exact absurd h h2
      · rename_i h2
        rw [if_neg h1, if_neg h2]
        obtain ⟨i1, i2⟩ := tidL_ok (g := g) (xs := r) (by simpa using h2)
        refine ⟨fun y hy => ?_, by rw [i2]; rfl⟩
        rcases List.mem_cons.1 hy with rfl | hy
        · simpa using h1
        · exact i1 y hy
theorem tidL_all {g : Int → List UInt8 → List UInt8} : ∀ {xs : List Ax}, (∀ x ∈ xs, (tidyA (renX g x)).2 = 0) → tidL g xs = (xs.map fun x => (tidyA (renX g x)).1, 0)
  | [], _ => rfl
  | x :: r, h => by
    have ih := tidL_all (g := g) (xs := r) fun y hy => h y (List.mem_cons_of_mem _ hy)
    rw [tidL, if_neg (by simp [h x (List.mem_cons_self ..)]), ih, if_neg (by simp)]
    rfl
theorem tidL_err {g : Int → List UInt8 → List UInt8} : ∀ {xs : List Ax}, (tidL g xs).2 ≠ 0 → (tidL g xs).1 = []
  | [], h => absurd rfl h
  | x :: r, h => by
    rw [tidL] at h ⊢
    split
    · rfl
    · rename_i h1
      rw [if_neg h1] at h
      split
      · rfl
      · rename_i h2
        rw [if_neg h2] at h
        exact absurd rfl h
theorem tidL_at {g : Int → List UInt8 → List UInt8} : ∀ {xs : List Ax} {j : Nat} (h : j < xs.length), (∀ x ∈ xs.take j, (tidyA (renX g x)).2 = 0) → ¬ (tidyA (renX g xs[j])).2 = 0 → tidL g xs = ([], (tidyA (renX g xs[j])).2)
  | x :: r, 0, _, _, he => by
    have he : (tidyA (renX g x)).2 ≠ 0 := he
    rw [tidL, if_pos he]; rfl
  | x :: r, j + 1, h, hz, he => by
    have h0 : (tidyA (renX g x)).2 = 0 := hz x (by simp)
    have hj : j < r.length := by simpa using h
    have ih := tidL_at (g := g) (xs := r) (j := j) hj (fun y hy => hz y (by simp [hy])) he
    have hne : (tidyA (renX g (r[j]'hj))).2 ≠ 0 := he
    rw [tidL, if_neg (by simpa using h0), ih, if_pos hne]
    rfl
theorem axmR_ok {l : List Rn} {xs : List Ax} (h : (axmR l xs).2 = 0) : Good l ∧ (∀ x ∈ xs, axiomE x = 0) ∧ (∀ x ∈ xs, (tidyA (renX (nameR l) x)).2 = 0) ∧ (axmR l xs).1 = xs.map fun x => (tidyA (renX (nameR l) x)).1 := by
  unfold axmR at h ⊢
  split at h
  · rename_i h1; exact absurd h h1
  · rename_i h1
    split at h
    · rename_i h2; exact absurd h h2
    · rename_i h2
      rw [if_neg h1, if_neg h2]
      obtain ⟨i1, i2⟩ := tidL_ok h
      exact ⟨(checkR_ok (by simpa using h1)).1, (firstA_iff xs).1 (by simpa using h2), i1, i2⟩
theorem axmR_err {l : List Rn} {xs : List Ax} (h : (axmR l xs).2 ≠ 0) : (axmR l xs).1 = [] := by
  unfold axmR at h ⊢
  split
  · rfl
  · rename_i h1
    rw [if_neg h1] at h
    split
    · rfl
    · rename_i h2
      rw [if_neg h2] at h
      exact tidL_err h
theorem axmR_len (l : List Rn) (xs : List Ax) : (axmR l xs).1.length ≤ xs.length := by
  by_cases h : (axmR l xs).2 = 0
  · rw [(axmR_ok h).2.2.2, List.length_map]; exact Nat.le_refl _
  · rw [axmR_err h]; simp
theorem rnN_plain {s : List UInt8} (h : rnN s = true) : plainF s = true ∧ nameF s = true := by
  unfold rnN at h
  rw [Bool.and_eq_true] at h
  refine ⟨?_, h.1⟩
  have h2 : ¬ s.head? = some 95 := by simpa using h.2
  have h3 : (plainF s || resF s) = true := h.1
  rw [Bool.or_eq_true] at h3
  rcases h3 with h | h
  · exact h
  · exfalso
    unfold resF at h
    simp only [Bool.and_eq_true, decide_eq_true_eq] at h
    exact h2 h.2.2.1
theorem good_ren {l : List Rn} (h : Good l) : RenG (nameR l) := by
  have hv : ∀ r ∈ l, rnN r.old = true ∧ rnN r.new = true := fun r hr => by
    have := h.val r hr
    unfold rnV at this
    simp only [Bool.and_eq_true] at this
    exact ⟨this.2.2.1, this.2.2.2.1⟩
  refine ⟨⟨fun k s hs => ?_, fun k s hs => ?_⟩, fun k => nameR_none fun r hr e => ?_⟩
  · rcases nameR_cases h.str k s with ⟨r, hr, _, e⟩ | ⟨_, e⟩ <;> rw [e]
    · exact (rnN_plain (hv r hr).2).1
    · exact hs
  · rcases nameR_cases h.str k s with ⟨r, hr, _, e⟩ | ⟨_, e⟩ <;> rw [e]
    · exact (rnN_plain (hv r hr).2).2
    · exact hs
  · have h1 := (hv r hr).1
    unfold keyO at e
    rw [Prod.mk.injEq] at e
    rw [e.2] at h1
    exact absurd h1 (by decide)
theorem axm_twice {l m c : List Rn} {xs : List Ax} (hc : Comp l m c) (h1 : (axmR l xs).2 = 0) (h2 : (axmR m (axmR l xs).1).2 = 0) (h3 : (axmR c xs).2 = 0) : (axmR c xs).1 = (axmR m (axmR l xs).1).1 := by
  obtain ⟨gl, el, tl, e1⟩ := axmR_ok h1
  obtain ⟨gm, em, tm, e2⟩ := axmR_ok h2
  obtain ⟨gc, ec, tc, e3⟩ := axmR_ok h3
  rw [e2, e3, e1, List.map_map]
  refine List.map_congr_left fun x hx => ?_
  show _ = (tidyA (renX (nameR m) (tidyA (renX (nameR l) x)).1)).1
  rw [(tidyA_ren (good_ren gm) (tl x hx)).2, renX_two, renX_congr hc.name]
end Go.Proofs.YtpecmehekandgaaGreatDoor
