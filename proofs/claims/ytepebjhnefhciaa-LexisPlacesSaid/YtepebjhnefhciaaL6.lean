/-
  Laws of scanning, in plain Lean: the text of a token scans to itself; the tokens of a text can be joined.
  Conditions: none.
-/
import Derived.Test.YtepebjhnefhciaaL5
namespace Go.Proofs.Ytepebjhnefhciaa

theorem tw_take_self {p : UInt8 → Bool} : ∀ (l : List UInt8), (l.take (l.takeWhile p).length).takeWhile p = l.takeWhile p ∧ l.take (l.takeWhile p).length = l.takeWhile p
  | [] => ⟨rfl, rfl⟩
  | c :: r => by
    by_cases h : p c = true
    · obtain ⟨i1, i2⟩ := tw_take_self (p := p) r
      rw [List.takeWhile_cons_of_pos h, List.length_cons, List.take_succ_cons, List.takeWhile_cons_of_pos h, i1, i2]
      exact ⟨rfl, rfl⟩
    · rw [List.takeWhile_cons_of_neg h]; exact ⟨rfl, rfl⟩

theorem runN_app {x : UInt8} (hx : wordC x = false) : ∀ (a b : List UInt8), (∀ c ∈ a, wordC c = true) → runN (a ++ x :: b) = a.length
  | [], b, _ => by simp [runN, hx]
  | c :: r, b, h => by
    have hc := h c (List.mem_cons_self ..)
    have ih := runN_app hx r b (fun y hy => h y (List.mem_cons_of_mem _ hy))
    rw [List.cons_append]
    unfold runN at ih ⊢
    rw [List.takeWhile_cons_of_pos hc, List.length_cons, ih, List.length_cons]

theorem runN_self : ∀ (a : List UInt8), (∀ c ∈ a, wordC c = true) → runN a = a.length
  | [], _ => rfl
  | c :: r, h => by
    have hc := h c (List.mem_cons_self ..)
    have ih := runN_self r (fun y hy => h y (List.mem_cons_of_mem _ hy))
    unfold runN at ih ⊢
    rw [List.takeWhile_cons_of_pos hc, List.length_cons, ih, List.length_cons]

theorem tw_all {p : UInt8 → Bool} : ∀ (l : List UInt8), ∀ c ∈ l.takeWhile p, p c = true
  | [], c, h => by cases h
  | x :: r, c, h => by
    by_cases hx : p x = true
    · rw [List.takeWhile_cons_of_pos hx] at h
      rcases List.mem_cons.1 h with rfl | h
      · exact hx
      · exact tw_all r c h
    · rw [List.takeWhile_cons_of_neg hx] at h; cases h

theorem simple_cons {c : UInt8} {r : List UInt8} (h3 : cls c.toNat = 3) : simpleF (c :: r) = runN (c :: r) := by simp [simpleF, h3]

theorem word_take {c : UInt8} {r : List UInt8} (h3 : cls c.toNat = 3) : wordF ((c :: r).take (wordF (c :: r))) = wordF (c :: r) := by
  have hs := simple_cons (r := r) h3
  have hsp : 0 < runN (c :: r) := runN_pos (.inl h3)
  have hA : (c :: r).take (runN (c :: r)) = (c :: r).takeWhile wordC := (tw_take_self (p := wordC) (c :: r)).2
  have hall := tw_all (p := wordC) (c :: r)
  have hwc : wordC c = true := by simp [wordC, h3]
  have hsplit : (c :: r) = (c :: r).takeWhile wordC ++ (c :: r).drop (runN (c :: r)) := by
    conv => lhs; rw [← List.take_append_drop (runN (c :: r)) (c :: r), hA]
  have simA : ∀ z, (∀ x y, z = x :: y → wordC x = false) → simpleF ((c :: r).takeWhile wordC ++ z) = runN (c :: r) := by
    intro z hz
    have hcons : (c :: r).takeWhile wordC ++ z = c :: (r.takeWhile wordC ++ z) := by rw [List.takeWhile_cons_of_pos hwc, List.cons_append]
    rw [hcons, simple_cons h3, ← hcons]
    cases z with
    | nil => rw [List.append_nil, runN_self _ hall]; rfl
    | cons x y => rw [runN_app (hz x y rfl) _ _ hall]; rfl
  have dropA : ∀ z, ((c :: r).takeWhile wordC ++ z).drop (runN (c :: r)) = z := by
    intro z
    exact List.drop_left
  by_cases hc : ∃ x y t, (c :: r).drop (runN (c :: r)) = x :: y :: t ∧ x.toNat = 58 ∧ letB y = true
  · obtain ⟨x, y, t, hd, hx, hy⟩ := hc
    have hy3 := ((letB_iff y).1 hy).1
    have hxw : wordC x = false := by
      have : cls x.toNat = 0 := by rw [hx]; decide
      simp [wordC, this]
    have hw : wordF (c :: r) = runN (c :: r) + (1 + runN (y :: t)) := by
      unfold wordF
      rw [hs, hd]
      simp only
      rw [if_pos ⟨hsp, hx, hy⟩, simple_cons hy3]
    have hY := (tw_take_self (p := wordC) (y :: t)).2
    have hYw : wordC y = true := by simp [wordC, hy3]
    have htake : (c :: r).take (runN (c :: r) + (1 + runN (y :: t))) = (c :: r).takeWhile wordC ++ x :: (y :: t).takeWhile wordC := by
      rw [List.take_add, hA, hd, Nat.add_comm 1, List.take_succ_cons]
      exact congrArg (fun q => (c :: r).takeWhile wordC ++ x :: q) hY
    rw [hw, htake]
    unfold wordF
    rw [simA _ (fun a b e => by injection e with e1 _; rw [← e1]; exact hxw), dropA]
    rw [List.takeWhile_cons_of_pos hYw]
    simp only
    rw [if_pos ⟨hsp, hx, hy⟩, simple_cons hy3]
    have : runN (y :: t.takeWhile wordC) = runN (y :: t) := by
      have h2 := tw_all (p := wordC) (y :: t)
      rw [List.takeWhile_cons_of_pos hYw] at h2
      rw [runN_self _ h2]
      unfold runN
      rw [List.takeWhile_cons_of_pos hYw]
    rw [this]
  · have hw : wordF (c :: r) = runN (c :: r) := by
      unfold wordF
      rw [hs]
      generalize hd : (c :: r).drop (runN (c :: r)) = d at hc
      match d with
      | [] => rfl
      | [_] => rfl
      | x :: y :: t =>
        simp only
        rw [if_neg (fun h => hc ⟨x, y, t, rfl, h.2.1, h.2.2⟩)]
    rw [hw, hA]
    have := simA [] (fun x y e => by cases e)
    rw [List.append_nil] at this
    have hd := dropA []
    rw [List.append_nil] at hd
    unfold wordF
    rw [this, hd]

/-- The text of a token scans to itself. -/
theorem scan_take {c : UInt8} {r : List UInt8} {k n : Nat} (h : scanF (c :: r) = (k, n)) (hk : k ≠ 0) : scanF ((c :: r).take n) = (k, n) := by
  have hle := scanF_le (c :: r) (by simp)
  have hp := scanF_pos (c :: r)
  rw [h] at hle hp
  simp only at hle hp
  have hlen : ((c :: r).take n).length = n := by rw [List.length_take]; omega
  have hk3 : k ≤ 3 := by
    have : (scanF (c :: r)).1 ≤ 3 := by
      unfold scanF
      repeat' split
      all_goals simp
    rw [h] at this; exact this
  by_cases hi : k = 2
  · subst hi
    -- an integer
    have : integerF ((c :: r).take n) = true := by
      unfold scanF at h
      simp only at h
      by_cases h3 : cls c.toNat = 3
      · rw [if_pos h3] at h
        split at h
        · split at h <;> simp at h
        · simp at h
      · rw [if_neg h3] at h
        by_cases h5 : cls c.toNat = 5
        · rw [if_pos h5] at h
          split at h
          · simp at h
          · split at h
            · simp at h
            · split at h
              · simp at h
              · split at h
                · rename_i hi
                  simp only [Prod.mk.injEq, true_and] at h
                  rw [← h]; exact hi
                · simp at h
        · rw [if_neg h5] at h
          split at h
          · split at h
            · rename_i hi
              simp only [Prod.mk.injEq, true_and] at h
              rw [← h]; exact hi
            · simp at h
          · split at h <;> simp at h
    have := (integerF_scan this).2
    rw [hlen] at this
    exact this
  · by_cases hs : k = 3
    · subst hs
      by_cases h6 : cls c.toNat = 6
      · have : scanF (c :: r) = (3, 1) := scan_sign1 (by simp [signF, h6])
        rw [this] at h
        injection h with _ hn
        subst hn
        rw [List.take_succ_cons, List.take_zero]
        exact scan_sign1 (by simp [signF, h6])
      · by_cases h5 : cls c.toNat = 5
        · have hc := (cls5 _).1 h5
          have h3 : ¬ cls c.toNat = 3 := by omega
          unfold scanF at h
          simp only at h
          rw [if_neg h3, if_pos h5] at h
          cases r with
          | nil => simp at h
          | cons y t =>
            simp only at h
            by_cases hy : y.toNat = 62
            · rw [if_pos hy] at h
              injection h with _ hn
              subst hn
              rw [show c = 45 from UInt8.toNat_inj.1 hc, show y = 62 from UInt8.toNat_inj.1 hy]
              rfl
            · rw [if_neg hy] at h
              split at h
              · simp at h
              · split at h <;> simp at h
        · exfalso
          unfold scanF at h
          simp only at h
          rw [if_neg h5, if_neg h6] at h
          by_cases h3 : cls c.toNat = 3
          · rw [if_pos h3] at h
            split at h
            · split at h <;> simp at h
            · simp at h
          · rw [if_neg h3] at h
            split at h
            · split at h <;> simp at h
            · simp at h
    · have h1 : k = 1 := by omega
      subst h1
      have h3 : cls c.toNat = 3 := by
        by_cases h3 : cls c.toNat = 3
        · exact h3
        · have := scan_not1 (r := r) h3
          rw [h] at this
          exact absurd rfl this
      have hw := h
      rw [wordF_scan h3] at hw
      injection hw with _ hw
      have key : wordF ((c :: r).take n) = n := by
        rw [← hw]; exact word_take h3
      obtain ⟨m, rfl⟩ : ∃ m, n = m + 1 := ⟨n - 1, by omega⟩
      rw [List.take_succ_cons] at key ⊢
      rw [wordF_scan h3, key]
end Go.Proofs.Ytepebjhnefhciaa
