/-
  Terms: order, repetition and grouping of parts do not change the canonical form (plainly).
  Conditions: none.
-/
import Derived.Test.YtkbmlchceiglfaaGreatDoorMAu
namespace Go.Proofs.YtkbmlchceiglfaaGreatDoor
set_option linter.unnecessarySimpa false
set_option linter.unusedSectionVars false
set_option linter.unusedSimpArgs false
set_option linter.unusedVariables false
open Go.Proofs

theorem conjS_err (s : List Cn) : (conjS s).2 = 0 ∨ (conjS s).2 = 2 := by
  unfold conjS
  split
  · exact .inl rfl
  · split
    · exact .inl rfl
    · split
      · exact .inl rfl
      · split
        · exact .inr rfl
        · exact .inl rfl

theorem tidyC_err : ∀ c : Cn, (tidyC c).2 = 0 ∨ (tidyC c).2 = 2 := by
  refine Cn.ind ?_
  intro c ih
  rw [tidyC_eq]
  split
  · cases hps : c.parts with
    | nil => exact .inl rfl
    | cons p r =>
      simp only [List.map_cons, someF]
      have := ih p (by rw [hps]; simp)
      split
      · exact this
      · exact .inl rfl
  · split
    · unfold meetF
      split
      · rename_i r hr
        have h1 := List.mem_of_find?_eq_some hr
        obtain ⟨p, hp, rfl⟩ := List.mem_map.1 h1
        exact ih p hp
      · exact conjS_err _
    · exact .inl rfl

def flatT (l : List Cn) : List Cn := (l.map tidyC).flatMap fun r => partsF r.1

theorem mem_flatT {x : Cn} {l : List Cn} : x ∈ flatT l ↔ ∃ p ∈ l, x ∈ partsF (tidyC p).1 := by
  unfold flatT
  rw [List.mem_flatMap]
  constructor
  · rintro ⟨r, hr, hx⟩
    obtain ⟨p, hp, rfl⟩ := List.mem_map.1 hr
    exact ⟨p, hp, hx⟩
  · rintro ⟨p, hp, hx⟩
    exact ⟨_, List.mem_map_of_mem hp, hx⟩

/-- The canonical form of a conjunction, by whether a part has none. -/
theorem meet_bad {l : List Cn} (h : ∃ p ∈ l, (tidyC p).2 ≠ 0) : meetF (l.map tidyC) = (c0, 2) := by
  unfold meetF
  split
  · rename_i r hr
    have h1 := List.mem_of_find?_eq_some hr
    have h2 := List.find?_some hr
    obtain ⟨p, hp, rfl⟩ := List.mem_map.1 h1
    simp only [decide_eq_true_eq] at h2
    rw [(tidyC_err p).resolve_left h2]
  · rename_i hn
    obtain ⟨p, hp, h⟩ := h
    have := List.find?_eq_none.1 hn (tidyC p) (List.mem_map_of_mem hp)
    simp only [decide_eq_true_eq, ne_eq, Classical.not_not] at this
    exact absurd this h
theorem meet_ok {l : List Cn} (h : ∀ p ∈ l, (tidyC p).2 = 0) : meetF (l.map tidyC) = conjS (setC (flatT l)) := by
  unfold meetF
  split
  · rename_i r hr
    have h1 := List.mem_of_find?_eq_some hr
    have h2 := List.find?_some hr
    obtain ⟨p, hp, rfl⟩ := List.mem_map.1 h1
    simp only [decide_eq_true_eq] at h2
    exact absurd (h p hp) h2
  · rfl

theorem meet_congr {l m : List Cn} (h : ∀ x, x ∈ l ↔ x ∈ m) : meetF (l.map tidyC) = meetF (m.map tidyC) := by
  by_cases hb : ∃ p ∈ l, (tidyC p).2 ≠ 0
  · rw [meet_bad hb]
    obtain ⟨p, hp, hb⟩ := hb
    rw [meet_bad ⟨p, (h p).1 hp, hb⟩]
  · have hl : ∀ p ∈ l, (tidyC p).2 = 0 := fun p hp => Classical.byContradiction fun h' => hb ⟨p, hp, h'⟩
    have hm : ∀ p ∈ m, (tidyC p).2 = 0 := fun p hp => hl p ((h p).2 hp)
    rw [meet_ok hl, meet_ok hm, setC_congr fun x => ?_]
    rw [mem_flatT, mem_flatT]
    exact ⟨fun ⟨p, hp, hx⟩ => ⟨p, (h p).1 hp, hx⟩, fun ⟨p, hp, hx⟩ => ⟨p, (h p).2 hp, hx⟩⟩

theorem meet_zero {l : List Cn} (h : (meetF (l.map tidyC)).2 = 0) : ∀ p ∈ l, (tidyC p).2 = 0 := fun p hp => Classical.byContradiction fun h' => by
  rw [meet_bad ⟨p, hp, h'⟩] at h
  exact absurd h (by decide)

/-- The parts of a canonical form are neither TopC nor conjunctions. -/
theorem flat_tidy : ∀ c : Cn, (tidyC c).2 = 0 → ∀ m ∈ partsF (tidyC c).1, m.kind ≠ 1 ∧ m.kind ≠ 5 := by
  refine Cn.ind ?_
  intro c ih h0
  have self : ∀ x : Cn, x.kind ≠ 5 → ∀ m ∈ partsF x, m.kind ≠ 1 ∧ m.kind ≠ 5 := fun x h5 m hm => by
    unfold partsF at hm
    split at hm
    · simp at hm
    · rename_i h1
      have hm : m ∈ [x] := by simpa only [if_neg h5] using hm
      simp only [List.mem_singleton] at hm
      subst hm
      exact ⟨h1, h5⟩
  rw [tidyC_eq] at h0 ⊢
  split
  · rename_i h6
    rw [if_pos h6] at h0
    cases hps : c.parts with
    | nil => exact self _ (by show (0 : Int) ≠ 5; decide)
    | cons p r =>
      rw [hps] at h0
      simp only [List.map_cons, someF] at h0 ⊢
      split
      · rename_i hb
        rw [if_pos hb] at h0
        have h2 : (tidyC p).1.kind = 2 := by rcases hb with hb | hb; exact absurd h0 hb; exact hb
        exact self _ (by rw [h2]; decide)
      · exact self _ (by show (6 : Int) ≠ 5; decide)
  · rename_i h6
    rw [if_neg h6] at h0
    split
    · rename_i h5
      rw [if_pos h5] at h0
      have hz := meet_zero h0
      rw [meet_ok hz] at h0 ⊢
      have hS : ∀ m ∈ setC (flatT c.parts), m.kind ≠ 1 ∧ m.kind ≠ 5 := fun m hm => by
        rw [mem_setC, mem_flatT] at hm
        obtain ⟨p, hp, hm⟩ := hm
        exact ih p hp (hz p hp) m hm
      generalize setC (flatT c.parts) = s at h0 hS ⊢
      unfold conjS at h0 ⊢
      split
      · rename_i t ht
        have := List.find?_some ht
        simp only [decide_eq_true_eq] at this
        exact self _ (by show t.kind ≠ 5; rw [this]; decide)
      · rename_i hn
        rw [hn] at h0
        simp only at h0
        split
        · exact self _ (by show (1 : Int) ≠ 5; decide)
        · rename_i e0
          rw [if_neg e0] at h0
          split
          · rename_i e1
            match s, e1, hS with
            | [x], _, hS => exact self x (hS x (by simp)).2
          · rename_i e1
            rw [if_neg e1] at h0
            split
            · rename_i e2; rw [if_pos e2] at h0; exact absurd h0 (by decide)
            · intro m hm
              rw [show partsF (.mk 5 [] 0 0 s) = s from rfl] at hm
              exact hS m hm
    · rename_i h5; exact self c h5

theorem bottom_eq {c : Cn} (h : Okn c) (hk : c.kind = 2) : c = .mk 2 [] 0 0 [] := by
  have hf := ((okn_iff c).1 h).1
  rw [fieldsE_at hk (by decide), fieldsN_zero rfl] at hf
  obtain ⟨⟨_, h2, h3⟩, ⟨h4, h5⟩, _⟩ := hf
  obtain ⟨k, n, lo, hi, ps⟩ := c
  have q1 : k = 2 := hk
  have q2 : (ps.length : Int) ≤ 0 := h2
  have q3 : n = [] := h3 rfl
  have q4 : lo = 0 := h4
  have q5 : hi = 0 := h5
  have q6 : ps = [] := List.eq_nil_of_length_eq_zero (by omega)
  rw [q1, q3, q4, q5, q6]

theorem partsF_okn {c m : Cn} (h : Okn c) (hm : m ∈ partsF c) : Okn m := by
  unfold partsF at hm
  split at hm
  · simp at hm
  · split at hm
    · exact ((okn_iff c).1 h).2 m hm
    · simp only [List.mem_singleton] at hm; subst hm; exact h

theorem conjS_bot {s : List Cn} (hs : ∀ m ∈ s, Okn m) (h : ∃ t ∈ s, t.kind = 2) : conjS s = (.mk 2 [] 0 0 [], 0) := by
  unfold conjS
  split
  · rename_i t ht
    have h1 := List.find?_some ht
    simp only [decide_eq_true_eq] at h1
    rw [bottom_eq (hs t (List.mem_of_find?_eq_some ht)) h1]
  · rename_i hn
    obtain ⟨t, ht, hk⟩ := h
    have := List.find?_eq_none.1 hn t ht
    simp only [decide_eq_true_eq] at this
    exact absurd hk this

theorem setC_app {s : List Cn} {A B : List Cn} (h : ∀ x, x ∈ s ↔ x ∈ A) : setC (s ++ B) = setC (A ++ B) := setC_congr fun x => by rw [List.mem_append, List.mem_append, h]

/-- Grouping some parts changes nothing, but that the group may be too long where the whole is BottomC. -/
theorem meet_group {p q : List Cn} (hp : ∀ c ∈ p, Okn c) (hq : ∀ c ∈ q, Okn c) (h0 : (meetF ((p ++ q).map tidyC)).2 = 0) :
    meetF ((.mk 5 [] 0 0 p :: q).map tidyC) = meetF ((p ++ q).map tidyC) ∨ ((meetF ((.mk 5 [] 0 0 p :: q).map tidyC)).2 = 2 ∧ (meetF ((p ++ q).map tidyC)).1.kind = 2) := by
  have hz := meet_zero h0
  have hzp : ∀ c ∈ p, (tidyC c).2 = 0 := fun c hc => hz c (List.mem_append_left _ hc)
  have hzq : ∀ c ∈ q, (tidyC c).2 = 0 := fun c hc => hz c (List.mem_append_right _ hc)
  have hg : tidyC (.mk 5 [] 0 0 p) = conjS (setC (flatT p)) := by
    rw [tidyC_eq]
    show (if (5 : Int) = 6 then _ else if (5 : Int) = 5 then meetF (p.map tidyC) else _) = _
    rw [if_neg (by decide), if_pos rfl]
    exact meet_ok hzp
  have hfl : flatT (p ++ q) = flatT p ++ flatT q := by simp [flatT]
  rw [meet_ok hz, hfl] at h0 ⊢
  have okA : ∀ m ∈ flatT p, Okn m := fun m hm => by
    obtain ⟨c, hc, hm⟩ := mem_flatT.1 hm
    exact partsF_okn (tidy_keep c (hp c hc) (hzp c hc)).ok hm
  have okB : ∀ m ∈ flatT q, Okn m := fun m hm => by
    obtain ⟨c, hc, hm⟩ := mem_flatT.1 hm
    exact partsF_okn (tidy_keep c (hq c hc) (hzq c hc)).ok hm
  have okS : ∀ m ∈ setC (flatT p ++ flatT q), Okn m := fun m hm => by
    rw [mem_setC, List.mem_append] at hm
    exact hm.elim (okA m) (okB m)
  have flA : ∀ m ∈ flatT p, m.kind ≠ 1 ∧ m.kind ≠ 5 := fun m hm => by
    obtain ⟨c, hc, hm⟩ := mem_flatT.1 hm
    exact flat_tidy c (hzp c hc) m hm
  -- where the group has a form
  have good : (tidyC (.mk 5 [] 0 0 p)).2 = 0 → meetF ((.mk 5 [] 0 0 p :: q).map tidyC) = conjS (setC (partsF (tidyC (.mk 5 [] 0 0 p)).1 ++ flatT q)) := fun h => by
    rw [meet_ok fun c hc => (List.mem_cons.1 hc).elim (fun e => e ▸ h) (hzq c)]
    simp [flatT]
  generalize hA : flatT p = A at *
  generalize hB : flatT q = B at *
  have hm1 : ∀ x, x ∈ setC A ↔ x ∈ A := fun x => mem_setC
  by_cases hbot : ∃ t ∈ A, t.kind = 2
  · left
    have e1 : tidyC (.mk 5 [] 0 0 p) = (.mk 2 [] 0 0 [], 0) := by
      rw [hg]
      exact conjS_bot (fun m hm => okA m ((hm1 m).1 hm)) (by obtain ⟨t, ht, hk⟩ := hbot; exact ⟨t, (hm1 t).2 ht, hk⟩)
    rw [good (by rw [e1]), e1, conjS_bot okS (by obtain ⟨t, ht, hk⟩ := hbot; exact ⟨t, mem_setC.2 (List.mem_append_left _ ht), hk⟩)]
    refine conjS_bot (fun m hm => ?_) ⟨.mk 2 [] 0 0 [], mem_setC.2 (List.mem_append_left _ (by simp [partsF, Cn.kind])), rfl⟩
    rw [mem_setC, List.mem_append] at hm
    rcases hm with hm | hm
    · obtain ⟨t, ht, hk⟩ := hbot
      have hb := bottom_eq (okA t ht) hk
      simp [partsF, Cn.kind] at hm
      rw [hm, ← hb]
      exact okA t ht
    · exact okB m hm
  · have hnone : (setC A).find? (fun t => decide (t.kind = 2)) = none := List.find?_eq_none.2 fun t ht hk => hbot ⟨t, (hm1 t).1 ht, by simpa using hk⟩
    have e1 : tidyC (.mk 5 [] 0 0 p) = if (setC A).length = 0 then (topC, 0) else if (setC A).length = 1 then ((setC A).headD c0, 0) else if 8 < (setC A).length then (c0, 2) else (.mk 5 [] 0 0 (setC A), 0) := by
      rw [hg, conjS, hnone]
    have nA : (setC A).Nodup := str_nodup (str_setC A)
    by_cases l0 : (setC A).length = 0
    · left
      rw [if_pos l0] at e1
      rw [good (by rw [e1]), e1]
      have hA0 : setC A = [] := List.eq_nil_of_length_eq_zero l0
      rw [setC_app (s := partsF topC) (A := A) fun x => by rw [← hm1 x, hA0]; simp [partsF, topC, Cn.kind]]
    · rw [if_neg l0] at e1
      by_cases l1 : (setC A).length = 1
      · left
        rw [if_pos l1] at e1
        rw [good (by rw [e1]), e1]
        obtain ⟨x, hx⟩ := List.length_eq_one_iff.1 l1
        have hxA := flA x ((hm1 x).1 (by rw [hx]; simp))
        have hpx : partsF ((setC A).headD c0) = [x] := by rw [hx]; show partsF x = [x]; unfold partsF; rw [if_neg hxA.1, if_neg hxA.2]
        show conjS (setC (partsF ((setC A).headD c0) ++ B)) = _
        rw [hpx, setC_app (s := [x]) (A := A) fun y => by rw [← hm1 y, hx]]
      · rw [if_neg l1] at e1
        by_cases l8 : 8 < (setC A).length
        · right
          rw [if_pos l8] at e1
          refine ⟨by rw [meet_bad ⟨.mk 5 [] 0 0 p, by simp, by rw [e1]; decide⟩], ?_⟩
          have hlen : (setC A).length ≤ (setC (A ++ B)).length := List.Nodup.length_le_of_subset nA fun x hx => mem_setC.2 (List.mem_append_left _ ((hm1 x).1 hx))
          generalize setC (A ++ B) = s at h0 hlen
          unfold conjS at h0 ⊢
          split
          · rename_i t ht
            have := List.find?_some ht
            simpa using this
          · rename_i hn
            rw [hn] at h0
            simp only at h0
            rw [if_neg (by omega), if_neg (by omega), if_pos (by omega)] at h0
            exact absurd h0 (by decide)
        · left
          rw [if_neg l8] at e1
          rw [good (by rw [e1]), e1]
          show conjS (setC (setC A ++ B)) = _
          rw [setC_app hm1]
end Go.Proofs.YtkbmlchceiglfaaGreatDoor
