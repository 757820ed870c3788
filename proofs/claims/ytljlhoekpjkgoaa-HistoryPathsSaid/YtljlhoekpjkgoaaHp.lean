/-
  History: the plain law of paths.
  Conditions: none.
-/
import Derived.Test.YtljlhoekpjkgoaaHc
namespace Go.Proofs.Ytljlhoekpjkgoaa
open Go.Proofs
set_option linter.unusedSimpArgs false

theorem index_split : ∀ (s : List UInt8), (if 0 ≤ Lib.indexByte s 94 then s.take (Lib.indexByte s 94).toNat else s) = s.takeWhile (fun c => !(c == 94)) ∧ (if 0 ≤ Lib.indexByte s 94 then s.drop (Lib.indexByte s 94).toNat else []) = s.dropWhile (fun c => !(c == 94))
  | [] => by simp [Lib.indexByte]
  | c :: s => by
    obtain ⟨i1, i2⟩ := index_split s
    have hge := Lib.indexByte_ge s 94
    simp only [Lib.indexByte]
    by_cases hc : (c == 94) = true
    · simp [hc]
    · have hc' : (c == 94) = false := by simpa using hc
      simp only [hc', Bool.false_eq_true, if_false, List.takeWhile_cons, List.dropWhile_cons, Bool.not_false, if_true]
      by_cases h1 : (Lib.indexByte s 94 == -1) = true
      · have h2 : Lib.indexByte s 94 = -1 := by simpa using h1
        rw [h2] at i1 i2
        simp only [h1, if_true]
        rw [if_neg (by decide)] at i1 i2 ⊢
        rw [if_neg (by decide)]
        exact ⟨by rw [← i1], i2⟩
      · have h2 : ¬ Lib.indexByte s 94 = -1 := by simpa using h1
        have h3 : 0 ≤ Lib.indexByte s 94 := by omega
        rw [if_pos h3] at i1 i2
        simp only [h1, Bool.false_eq_true, if_false]
        rw [if_pos (by omega), if_pos (by omega)]
        rw [show (Lib.indexByte s 94 + 1).toNat = (Lib.indexByte s 94).toNat + 1 from by omega]
        simp only [List.take_succ_cons, List.drop_succ_cons]
        exact ⟨by rw [i1], i2⟩

theorem preF_eq (s : List UInt8) : preF s = s.takeWhile (fun c => !(c == 94)) := (index_split s).1
theorem sufF_eq (s : List UInt8) : sufF s = s.dropWhile (fun c => !(c == 94)) := (index_split s).2

theorem split_append (t : List UInt8) : ∀ (s : List UInt8), (s ++ 94 :: t).takeWhile (fun c => !(c == 94)) = s.takeWhile (fun c => !(c == 94)) ∧ (s ++ 94 :: t).dropWhile (fun c => !(c == 94)) = s.dropWhile (fun c => !(c == 94)) ++ 94 :: t
  | [] => by simp
  | c :: s => by
    obtain ⟨i1, i2⟩ := split_append t s
    by_cases hc : (c == 94) = true
    · simp [List.takeWhile_cons, List.dropWhile_cons, hc]
    · have hc' : (c == 94) = false := by simpa using hc
      simp only [List.cons_append, List.takeWhile_cons, List.dropWhile_cons, hc', Bool.not_false, if_true]
      exact ⟨by rw [i1], i2⟩

/-- Walking on. -/
theorem walk_append (h : Hs) (t : List UInt8) : ∀ (n : Nat) (r : List UInt8) (no : Int), r.length ≤ n → walkF h no (r ++ 94 :: t) = (match walkF h no r with | some m => walkF h m (94 :: t) | none => none)
  | _, [], no, _ => by rw [walk_nil]; rfl
  | 0, _ :: _, _, hn => by simp at hn
  | n + 1, c :: r, no, hn => by
    simp only [List.length_cons, Nat.add_le_add_iff_right] at hn
    by_cases hc : c = 94
    · subst hc
      by_cases h1 : r.head? = some 49
      · obtain ⟨r', rfl⟩ : ∃ r', r = 49 :: r' := by cases r with | nil => simp at h1 | cons a r' => simp at h1; subst h1; exact ⟨r', rfl⟩
        simp only [List.length_cons] at hn
        simp only [List.cons_append]
        rw [walk_1, walk_1]
        exact walk_append h t n r' _ (by omega)
      · by_cases h2 : r.head? = some 50
        · obtain ⟨r', rfl⟩ : ∃ r', r = 50 :: r' := by cases r with | nil => simp at h2 | cons a r' => simp at h2; subst h2; exact ⟨r', rfl⟩
          simp only [List.length_cons] at hn
          simp only [List.cons_append]
          rw [walk_2, walk_2]
          exact walk_append h t n r' _ (by omega)
        · simp only [List.cons_append]
          rw [walk_0 _ _ r ⟨h1, h2⟩, walk_0]
          · exact walk_append h t n r _ (by omega)
          · cases r with
            | nil => simp
            | cons a r' => exact ⟨h1, h2⟩
    · simp only [List.cons_append]
      rw [walk_bad _ _ _ _ hc, walk_bad _ _ _ _ hc]

def resF' (o : Option Int) : Int × Int := match o with | none => (0, 20) | some no => if no = 0 then (0, 290) else (no, 0)

theorem find_append (h : Hs) (s t : List UInt8) : findF h (s ++ 94 :: t) = if checkF h ≠ 0 then (0, checkF h) else if labelF (preF s) = false then (0, 20) else resF' (match walkF h (headF h (preF s)) (sufF s) with | some m => walkF h m (94 :: t) | none => none) := by
  rw [findF, preF_eq, sufF_eq, (split_append t s).1, (split_append t s).2, walk_append h t _ _ _ (Nat.le_refl _), ← preF_eq, ← sufF_eq]
  rfl

theorem find_eq (h : Hs) (s : List UInt8) : findF h s = if checkF h ≠ 0 then (0, checkF h) else if labelF (preF s) = false then (0, 20) else resF' (walkF h (headF h (preF s)) (sufF s)) := rfl

theorem parent_zero (h : Hs) (i : Nat) : parentF h 0 i = 0 := by simp [parentF]

/-- From nowhere one gets nowhere. -/
theorem walk_zero (h : Hs) : ∀ (n : Nat) (r : List UInt8), r.length ≤ n → walkF h 0 r = some 0 ∨ walkF h 0 r = none
  | _, [], _ => .inl (walk_nil _ _)
  | 0, _ :: _, hn => by simp at hn
  | n + 1, c :: r, hn => by
    simp only [List.length_cons, Nat.add_le_add_iff_right] at hn
    by_cases hc : c = 94
    · subst hc
      by_cases h1 : r.head? = some 49
      · obtain ⟨r', rfl⟩ : ∃ r', r = 49 :: r' := by cases r with | nil => simp at h1 | cons a r' => simp at h1; subst h1; exact ⟨r', rfl⟩
        simp only [List.length_cons] at hn
        rw [walk_1, parent_zero]; exact walk_zero h n r' (by omega)
      · by_cases h2 : r.head? = some 50
        · obtain ⟨r', rfl⟩ : ∃ r', r = 50 :: r' := by cases r with | nil => simp at h2 | cons a r' => simp at h2; subst h2; exact ⟨r', rfl⟩
          simp only [List.length_cons] at hn
          rw [walk_2, parent_zero]; exact walk_zero h n r' (by omega)
        · rw [walk_0 _ _ r ⟨h1, h2⟩, parent_zero]; exact walk_zero h n r (by omega)
    · exact .inr (walk_bad _ _ _ _ hc)

theorem find_bad (h : Hs) (s : List UInt8) (he : (findF h s).2 ≠ 0) : (findF h (s ++ [94])).2 ≠ 0 := by
  rw [find_eq] at he
  rw [find_append]
  by_cases h1 : checkF h ≠ 0
  · rw [if_pos h1]; exact h1
  · rw [if_neg h1] at he ⊢
    by_cases h2 : labelF (preF s) = false
    · rw [if_pos h2]; simp
    · rw [if_neg h2] at he ⊢
      cases hw : walkF h (headF h (preF s)) (sufF s) with
      | none => simp [resF']
      | some no =>
        rw [hw] at he
        simp only [resF'] at he
        have h0 : no = 0 := by
          by_cases e : no = 0
          · exact e
          · rw [if_neg e] at he; simp at he
        subst h0
        simp only
        rw [walk_0 _ _ _ (by simp), walk_nil, parent_zero]
        simp [resF']

/-- The parent with an index, as the numbers tell it. -/
structure PF (h : Hs) (no : Int) (i : Nat) (r : Int × Int) : Prop where
  eq : (r.1 = 0 ∧ r.2 = 290 ∧ (psOf h (no.toNat - 1)).length ≤ i) ∨ (1 ≤ r.1 ∧ r.1 < no ∧ r.2 = 0 ∧ i < (psOf h (no.toNat - 1)).length ∧ (psOf h (no.toNat - 1)).getD i 0 = r.1)

theorem PF_of {h : Hs} (hv : Valid h) {no : Int} (hno : 1 ≤ no ∧ no ≤ h.commits.length) (i : Nat) : PF h no i (resF' (some (parentF h no i))) := by
  have hlt : no.toNat - 1 < h.commits.length := by omega
  have hps : psOf h (no.toNat - 1) = h.commits[no.toNat - 1].parents := by simp only [psOf, List.getElem?_eq_getElem hlt]
  have hpar : parentF h no i = (psOf h (no.toNat - 1)).getD i 0 := by
    rw [parentF, if_neg (by omega), List.getElem?_eq_getElem hlt, hps]
  refine ⟨?_⟩
  rw [hpar]
  by_cases hi : i < (psOf h (no.toNat - 1)).length
  · right
    have hm : (psOf h (no.toNat - 1)).getD i 0 ∈ h.commits[no.toNat - 1].parents := by rw [getD_lt hi, ← hps]; exact List.getElem_mem _
    have := parF_mem (hv.com _ hlt).2.1 hm
    have hne : (psOf h (no.toNat - 1)).getD i 0 ≠ 0 := by omega
    simp only [resF', if_neg hne]
    exact ⟨by omega, by omega, trivial, hi, trivial⟩
  · left
    rw [getD_ge (by omega)]
    simp only [resF', if_true]
    exact ⟨trivial, trivial, by omega⟩

/-- What follows a label that is found. -/
theorem find_ok {h : Hs} {s : List UInt8} (he : (findF h s).2 = 0) : Valid h ∧ 1 ≤ (findF h s).1 ∧ (findF h s).1 ≤ h.commits.length ∧ ∀ t, findF h (s ++ 94 :: t) = resF' (walkF h (findF h s).1 (94 :: t)) := by
  have happ := fun t => find_append h s t
  rw [find_eq] at he ⊢
  by_cases h1 : checkF h ≠ 0
  · rw [if_pos h1] at he; exact absurd he h1
  · rw [if_neg h1] at he ⊢
    by_cases h2 : labelF (preF s) = false
    · rw [if_pos h2] at he; simp at he
    · rw [if_neg h2] at he ⊢
      have hv := (valid_iff h).1 (by simpa using h1)
      cases hw : walkF h (headF h (preF s)) (sufF s) with
      | none => rw [hw] at he; simp [resF'] at he
      | some no =>
        rw [hw] at he
        have h0 : no ≠ 0 := by
          intro e; subst e; simp [resF'] at he
        have hr : resF' (some no) = (no, 0) := by simp only [resF', if_neg h0]
        rw [hr]
        have hrange : ∀ (n : Nat) (r : List UInt8) (a b : Int), r.length ≤ n → 0 ≤ a ∧ a ≤ h.commits.length → walkF h a r = some b → 0 ≤ b ∧ b ≤ h.commits.length := by
          intro n
          induction n with
          | zero => intro r a b hr ha hb; cases r with
            | nil => rw [walk_nil] at hb; injection hb with hb; subst hb; exact ha
            | cons => simp at hr
          | succ n ih =>
            intro r a b hr ha hb
            by_cases hnil : r = []
            · subst hnil; rw [walk_nil] at hb; injection hb with hb; subst hb; exact ha
            · have hlen : 0 < r.length := List.length_pos_iff.2 hnil
              rw [walkF, dif_neg hnil] at hb
              split at hb
              · exact ih _ _ _ (by simp only [List.length_drop]; omega) (hv.parent ha 1) hb
              · split at hb
                · exact ih _ _ _ (by simp only [List.length_drop]; omega) (hv.parent ha 0) hb
                · split at hb
                  · exact ih _ _ _ (by simp only [List.length_drop]; omega) (hv.parent ha 0) hb
                  · cases hb
        have := hrange _ _ _ _ (Nat.le_refl _) (hv.head _) hw
        refine ⟨hv, by dsimp only; omega, this.2, fun t => ?_⟩
        rw [happ t, if_neg h1, if_neg h2, hw]

theorem find_sfx {h : Hs} {s : List UInt8} (he : (findF h s).2 = 0) :
    PF h (findF h s).1 0 (findF h (s ++ [94])) ∧ PF h (findF h s).1 0 (findF h (s ++ [94, 49])) ∧ PF h (findF h s).1 1 (findF h (s ++ [94, 50])) := by
  obtain ⟨hv, h1, h2, h3⟩ := find_ok he
  refine ⟨?_, ?_, ?_⟩
  · rw [h3, walk_0 _ _ _ (by simp), walk_nil]; exact PF_of hv ⟨h1, h2⟩ 0
  · rw [h3, walk_1, walk_nil]; exact PF_of hv ⟨h1, h2⟩ 0
  · rw [h3, walk_2, walk_nil]; exact PF_of hv ⟨h1, h2⟩ 1

/-- Two suffixes. -/
theorem find_two {h : Hs} {s : List UInt8} (he : (findF h s).2 = 0) (a b : List UInt8) (i j : Nat) (ha : a = [94, 49] ∧ i = 0 ∨ a = [94, 50] ∧ i = 1) (hb : b = [94] ∧ j = 0 ∨ b = [94, 50] ∧ j = 1) :
    ((findF h (s ++ a ++ b)).2 ≠ 0 → (findF h (s ++ a ++ b)).1 = 0 ∧ (findF h (s ++ a ++ b)).2 = 290) ∧
    ((findF h (s ++ a ++ b)).2 = 0 → (findF h (s ++ a)).2 = 0 ∧ PF h (findF h (s ++ a)).1 j (findF h (s ++ a ++ b))) := by
  obtain ⟨hv, h1, h2, h3⟩ := find_ok he
  have h5 : ∃ w, a = 94 :: w := by rcases ha with ⟨rfl, _⟩ | ⟨rfl, _⟩ <;> exact ⟨_, rfl⟩
  have hpa : PF h (findF h s).1 i (findF h (s ++ a)) := by
    obtain ⟨x, y, z⟩ := find_sfx he
    rcases ha with ⟨rfl, rfl⟩ | ⟨rfl, rfl⟩
    · exact y
    · exact z
  by_cases h4 : (findF h (s ++ a)).2 = 0
  · have hpb : PF h (findF h (s ++ a)).1 j (findF h (s ++ a ++ b)) := by
      obtain ⟨x, y, z⟩ := find_sfx h4
      rcases hb with ⟨rfl, rfl⟩ | ⟨rfl, rfl⟩
      · exact x
      · exact z
    exact ⟨fun hne => by have := hpb.eq; omega, fun _ => ⟨h4, hpb⟩⟩
  · -- nowhere, after the first
    have key : findF h (s ++ a ++ b) = (0, 290) := by
      obtain ⟨w, rfl⟩ := h5
      have hsa := h3 w
      have hz : walkF h (findF h s).1 (94 :: w) = some 0 := by
        have he1 := hpa.eq
        rw [hsa] at he1
        cases hw : walkF h (findF h s).1 (94 :: w) with
        | none => rw [hw] at he1; simp [resF'] at he1
        | some m =>
          rw [hw] at he1
          by_cases hm : m = 0
          · rw [hm]
          · rw [hsa, hw] at h4; simp [resF', hm] at h4
      have hb' : ∃ u, b = 94 :: u := by rcases hb with ⟨rfl, _⟩ | ⟨rfl, _⟩ <;> exact ⟨_, rfl⟩
      obtain ⟨u, hu⟩ := hb'
      have e : s ++ 94 :: w ++ b = s ++ 94 :: (w ++ b) := by simp
      rw [e, h3, show (94 : UInt8) :: (w ++ b) = (94 :: w) ++ 94 :: u from by rw [hu]; rfl, walk_append h u _ _ _ (Nat.le_refl _), hz]
      simp only
      rw [← hu]
      rcases hb with ⟨rfl, _⟩ | ⟨rfl, _⟩
      · rw [walk_0 _ _ _ (by simp), walk_nil, parent_zero]; simp [resF']
      · rw [walk_2, walk_nil, parent_zero]; simp [resF']
    rw [key]
    exact ⟨fun _ => ⟨rfl, rfl⟩, fun h => by simp at h⟩
end Go.Proofs.Ytljlhoekpjkgoaa
