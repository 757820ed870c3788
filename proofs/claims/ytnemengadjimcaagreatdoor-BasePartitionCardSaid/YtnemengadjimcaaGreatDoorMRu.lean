/-
  Rename: lists of renamings made one by one: two renamings together, what undoes one; plainly. Rename: other names in axioms, plainly; tidying and renaming of axioms and lists of axioms.
  Conditions: none.
-/
import Derived.Test.YtnemengadjimcaaGreatDoorMQs
import Derived.Test.YtnemengadjimcaaGreatDoorMRt
import Derived.Test.YtnemengadjimcaaGreatDoorMQk
set_option linter.unnecessarySimpa false
set_option linter.unusedSectionVars false
set_option linter.unusedSimpArgs false
set_option linter.unusedVariables false
namespace Go.Proofs.YtnemengadjimcaaGreatDoor
open Go.Proofs
end Go.Proofs.YtnemengadjimcaaGreatDoor
namespace Go.Proofs.YtnemengadjimcaaGreatDoor
open Go.Proofs
theorem renN_c0 (g : Int → List UInt8 → List UInt8) : renC g c0 = c0 := by rw [renC_eq]; rfl
theorem renC_empty {g : Int → List UInt8 → List UInt8} {c : Cn} (h : emptyF c = true) : emptyF (renC g c) = true := by
 have e := empty_eq h
 subst e
 rw [renN_c0]; rfl
theorem renC_bare (g : Int → List UInt8 → List UInt8) : ∀ c : Cn, bareF (renC g c) = bareF c := by
 refine Cn.ind ?_
 intro c ih
 rw [bareF_eq, bareF_eq, renC_kind, renC_parts]
 have : bareL (c.parts.map (renC g)) = bareL c.parts := by
  rw [Bool.eq_iff_iff, bareL_iff, bareL_iff]
  constructor
  ·rintro ⟨p, hp, h⟩
   obtain ⟨q, hq, rfl⟩ := List.mem_map.1 hp
   exact ⟨q, hq, by rw [← ih q hq]; exact h⟩
  ·rintro ⟨q, hq, h⟩
   exact ⟨_, List.mem_map_of_mem hq, by rw [ih q hq]; exact h⟩
 rw [this]
structure RenG (g : Int → List UInt8 → List UInt8) : Prop where
 ok : RenOK g
 nil : ∀ k, g k [] = []
theorem renX_ok {g : Int → List UInt8 → List UInt8} (hg : RenG g) {x : Ax} (h : axiomE x = 0) : axiomE (renX g x) = 0 := by
 rw [axiomE_iff] at h ⊢
 obtain ⟨hk, hs, hn, hl, hr, hb⟩ := h
 have hkk : (renX g x).kind = x.kind := rfl
 rw [hkk]
 generalize useAt x.kind = u at *
 refine ⟨hk, ?_, ?_, fun h => renC_concept hg.ok (hl h), fun h => renC_concept hg.ok (hr h), ?_⟩
 ·unfold shapedU at hs ⊢
  simp only [Bool.and_eq_true, Bool.or_eq_true, decide_eq_true_eq] at hs ⊢
  obtain ⟨s1, s2, s3, s4, s5, s6, s7⟩ := hs
  refine ⟨s1.imp id renC_empty, s2.imp id renC_empty, s3.imp id fun e => ?_, s4.imp id fun e => ?_, s5.imp id fun e => ?_, ?_, ?_⟩
  ·show g 2 x.role = []
   rw [e, hg.nil]
  ·show g 4 x.a = []
   rw [e, hg.nil]
  ·show g 4 x.b = []
   rw [e, hg.nil]
  ·show u.least ≤ ((x.roles.map (g 2)).length : Int)
   rw [List.length_map]; exact s6
  ·show ((x.roles.map (g 2)).length : Int) ≤ u.most
   rw [List.length_map]; exact s7
 ·have hn : (!((u.role && !plainF x.role) || ((u.a && !nameF x.a) || (u.b && !nameF x.b))) && x.roles.all plainF) = true := hn
  show (!((u.role && !plainF (g 2 x.role)) || ((u.a && !nameF (g 4 x.a)) || (u.b && !nameF (g 4 x.b)))) && (x.roles.map (g 2)).all plainF) = true
  have h1 := hg.ok.plain 2 x.role
  have h2 := hg.ok.name 4 x.a
  have h3 := hg.ok.name 4 x.b
  rw [Bool.and_eq_true] at hn ⊢
  refine ⟨?_, ?_⟩
  ·have hn := hn.1
   revert hn h1 h2 h3
   cases u.role <;> cases u.a <;> cases u.b <;> cases plainF x.role <;> cases nameF x.a <;> cases nameF x.b <;> simp <;> intros <;> simp_all
  ·rw [List.all_eq_true] at hn ⊢
   intro s hs
   obtain ⟨r, hr, rfl⟩ := List.mem_map.1 hs
   exact hg.ok.plain 2 r (hn.2 r hr)
 ·have hb : (if x.kind = 2 then (bareF x.left || bareF x.right) else if x.kind = 1 ∨ x.kind = 4 ∨ x.kind = 8 then bareF x.right else false) = false := hb
  show (if x.kind = 2 then (bareF (renC g x.left) || bareF (renC g x.right)) else if x.kind = 1 ∨ x.kind = 4 ∨ x.kind = 8 then bareF (renC g x.right) else false) = false
  rw [renC_bare, renC_bare]
  exact hb
theorem side_ren {g : Int → List UInt8 → List UInt8} (hg : RenG g) {b : Bool} {c : Cn} (h : b = true → conceptE c = 0) (h0 : (sideF b c).2 = 0) :
  (sideF b (renC g c)).2 = 0 ∧ sideF b (renC g (sideF b c).1) = sideF b (renC g c) := by
 unfold sideF at h0 ⊢
 cases b with
 | false => exact ⟨rfl, rfl⟩
 | true =>
  simp only [if_true] at h0 ⊢
  exact tidy_ren hg.ok c ((conceptE_iff c).1 (h rfl)).2.2 h0
theorem tidyA_ok {x : Ax} (h : axiomE x = 0) : tidyA x = tidyU (useAt x.kind) x := by unfold tidyA; rw [if_neg (by omega)]
theorem use23 {k : Int} (h : k = 2 ∨ k = 3) : (useAt k).left = (useAt k).right := by
 rcases h with h | h <;> rw [h] <;> rfl
theorem tidyU_eq {u : Use} {x : Ax} (h1 : (sideF u.left x.left).2 = 0) (h2 : (sideF u.right x.right).2 = 0) : tidyU u x = if (x.kind = 2 ∨ x.kind = 3) ∧ 0 < cmpC (sideF u.left x.left).1 (sideF u.right x.right).1 then ({ x with left := (sideF u.right x.right).1, right := (sideF u.left x.left).1 }, 0) else ({ x with left := (sideF u.left x.left).1, right := (sideF u.right x.right).1 }, 0) := by
 unfold tidyU
 rw [if_neg (by omega), if_neg (by omega)]
theorem tidyU_zero {u : Use} {x : Ax} (h : (tidyU u x).2 = 0) : (sideF u.left x.left).2 = 0 ∧ (sideF u.right x.right).2 = 0 := by
 unfold tidyU at h
 split at h
 ·rename_i h1; exact absurd h h1
 ·rename_i h1
  split at h
  ·rename_i h2; exact absurd h h2
  ·rename_i h2; exact ⟨by omega, by omega⟩
theorem tidyA_ren {g : Int → List UInt8 → List UInt8} (hg : RenG g) {x : Ax} (h0 : (tidyA x).2 = 0) : (tidyA (renX g x)).2 = 0 ∧ tidyA (renX g (tidyA x).1) = tidyA (renX g x) := by
 obtain ⟨hE, hE2, _⟩ := axiom_tidy h0
 have ho := (axiomE_iff x).1 hE
 have hR := renX_ok hg hE
 have hR2 := renX_ok hg hE2
 have hu : (renX g x).kind = x.kind := rfl
 rw [tidyA_ok hE] at h0
 rw [tidyA_ok hR, tidyA_ok hR2, tidyA_ok hE, hu]
 have hk23 := fun h => use23 (k := x.kind) h
 obtain ⟨z1, z2⟩ := tidyU_zero h0
 obtain ⟨l1, l2⟩ := side_ren hg ho.left z1
 obtain ⟨r1, r2⟩ := side_ren hg ho.right z2
 have eR := tidyU_eq (u := useAt x.kind) (x := renX g x) l1 r1
 have e0 := tidyU_eq z1 z2
 have hz : (tidyU (useAt x.kind) (renX g x)).2 = 0 := by
  rw [eR]; split <;> rfl
 refine ⟨hz, ?_⟩
 have kk : (tidyU (useAt x.kind) x).1.kind = x.kind := by rw [e0]; split <;> rfl
 have kk2 : (renX g (tidyU (useAt x.kind) x).1).kind = x.kind := kk
 rw [kk2]
 generalize useAt x.kind = u at *
 have el : (renX g x).left = renC g x.left := rfl
 have er : (renX g x).right = renC g x.right := rfl
 have ek : (renX g x).kind = x.kind := rfl
 rw [eR, el, er, ek]
 rw [e0]
 split
 ·rename_i hc
  have hsame := hk23 hc.1
  -- swapped: the sides come the other way round
  have f1 : (sideF u.left (renC g (sideF u.right x.right).1)) = sideF u.right (renC g x.right) := by rw [hsame]; exact r2
  have f2 : (sideF u.right (renC g (sideF u.left x.left).1)) = sideF u.left (renC g x.left) := by rw [← hsame]; exact l2
  generalize hL : sideF u.left (renC g x.left) = L at *
  generalize hRr : sideF u.right (renC g x.right) = R at *
  obtain ⟨L, le⟩ := L
  obtain ⟨R, re⟩ := R
  dsimp only at l1 r1
  subst l1 r1
  rw [tidyU_eq (u := u) (x := renX g { x with left := (sideF u.right x.right).1, right := (sideF u.left x.left).1 }) (by show (sideF u.left (renC g (sideF u.right x.right).1)).2 = 0; rw [f1]) (by show (sideF u.right (renC g (sideF u.left x.left).1)).2 = 0; rw [f2])]
  show (if (x.kind = 2 ∨ x.kind = 3) ∧ 0 < cmpC (sideF u.left (renC g (sideF u.right x.right).1)).1 (sideF u.right (renC g (sideF u.left x.left).1)).1 then _ else _) = _
  have a1 := cmpC_anti L R
  have g1 : (renX g { x with left := (sideF u.right x.right).1, right := (sideF u.left x.left).1 }).left = renC g (sideF u.right x.right).1 := rfl
  have g2 : (renX g { x with left := (sideF u.right x.right).1, right := (sideF u.left x.left).1 }).right = renC g (sideF u.left x.left).1 := rfl
  rw [g1, g2, f1, f2]
  dsimp only
  by_cases c1 : 0 < cmpC R L
  ·rw [if_pos ⟨hc.1, c1⟩, if_neg (fun h => by have := h.2; omega)]
   rfl
  ·rw [if_neg (fun h => c1 h.2)]
   by_cases c2 : 0 < cmpC L R
   ·rw [if_pos ⟨hc.1, c2⟩]
    rfl
   ·have e : L = R := cmpC_zero.1 (by omega)
    rw [if_neg (fun h => c2 h.2), e]
    rfl
 ·rename_i hc
  rw [tidyU_eq (u := u) (x := renX g { x with left := (sideF u.left x.left).1, right := (sideF u.right x.right).1 }) (by show (sideF u.left (renC g (sideF u.left x.left).1)).2 = 0; rw [l2]; exact l1) (by show (sideF u.right (renC g (sideF u.right x.right).1)).2 = 0; rw [r2]; exact r1)]
  have g1 : (renX g { x with left := (sideF u.left x.left).1, right := (sideF u.right x.right).1 }).left = renC g (sideF u.left x.left).1 := rfl
  have g2 : (renX g { x with left := (sideF u.left x.left).1, right := (sideF u.right x.right).1 }).right = renC g (sideF u.right x.right).1 := rfl
  have g3 : (renX g { x with left := (sideF u.left x.left).1, right := (sideF u.right x.right).1 }).kind = x.kind := rfl
  rw [g1, g2, g3, l2, r2]
  rfl
theorem renC_same {g : Int → List UInt8 → List UInt8} : ∀ c : Cn, (∀ s, (hasK 3 c s → g 1 s = s) ∧ (hasK 6 c s → g 2 s = s) ∧ (hasK 7 c s → g 3 s = s) ∧ (hasK 4 c s → g 4 s = s)) → renC g c = c := by
 refine Cn.ind ?_
 intro c ih h
 have hp : c.parts.map (renC g) = c.parts := by
  have : ∀ p ∈ c.parts, renC g p = p := fun p hp => ih p hp fun s =>
   ⟨fun hk => (h s).1 ((hasK_iff 3 c s).2 (.inr ⟨p, hp, hk⟩)), fun hk => (h s).2.1 ((hasK_iff 6 c s).2 (.inr ⟨p, hp, hk⟩)), fun hk => (h s).2.2.1 ((hasK_iff 7 c s).2 (.inr ⟨p, hp, hk⟩)), fun hk => (h s).2.2.2 ((hasK_iff 4 c s).2 (.inr ⟨p, hp, hk⟩))⟩
  exact (List.map_congr_left this).trans (List.map_id' _)
 have hn : renN g c.kind c.name = c.name := by
  unfold renN
  split
  ·rename_i hk; exact (h c.name).1 ((hasK_iff 3 c _).2 (.inl ⟨hk, rfl⟩))
  ·split
   ·rename_i hk; exact (h c.name).2.1 ((hasK_iff 6 c _).2 (.inl ⟨hk, rfl⟩))
   ·split
    ·rename_i hk; exact (h c.name).2.2.1 ((hasK_iff 7 c _).2 (.inl ⟨hk, rfl⟩))
    ·split
     ·rename_i hk; exact (h c.name).2.2.2 ((hasK_iff 4 c _).2 (.inl ⟨hk, rfl⟩))
     ·rfl
 rw [renC_eq, hp, hn]
 cases c; rfl
theorem renX_same {g : Int → List UInt8 → List UInt8} {x : Ax} (h1 : ∀ s, axA x s → g 1 s = s) (h2 : ∀ s, axB x s → g 2 s = s) (h3 : ∀ s, axC x s → g 3 s = s) (h4 : ∀ s, axD x s → g 4 s = s) : renX g x = x := by
 have el : renC g x.left = x.left := renC_same _ fun s => ⟨fun h => h1 s (.inl h), fun h => h2 s (.inl h), fun h => h3 s (.inl h), fun h => h4 s (.inl h)⟩
 have er : renC g x.right = x.right := renC_same _ fun s => ⟨fun h => h1 s (.inr h), fun h => h2 s (.inr (.inl h)), fun h => h3 s (.inr h), fun h => h4 s (.inr (.inl h))⟩
 have eo : x.roles.map (g 2) = x.roles := (List.map_congr_left fun s hs => h2 s (.inr (.inr (.inl hs)))).trans (List.map_id' _)
 unfold renX
 rw [el, er, eo, h2 x.role (.inr (.inr (.inr rfl))), h4 x.a (.inr (.inr (.inl rfl))), h4 x.b (.inr (.inr (.inr rfl)))]
theorem renX_id (x : Ax) : renX (fun _ s => s) x = x := renX_same (fun _ _ => rfl) (fun _ _ => rfl) (fun _ _ => rfl) fun _ _ => rfl
theorem renG_id : RenG fun _ s => s := ⟨⟨fun _ _ h => h, fun _ _ h => h⟩, fun _ => rfl⟩
theorem tidyA_twice {x : Ax} (h0 : (tidyA x).2 = 0) : tidyA (tidyA x).1 = ((tidyA x).1, 0) := by
 have h := (tidyA_ren renG_id h0).2
 rw [renX_id, renX_id] at h
 rw [h]
 exact Prod.ext rfl h0
end Go.Proofs.YtnemengadjimcaaGreatDoor
