/-
  History: labels: the plain law of a list that takes up another label.
  Conditions: none.
-/
import Derived.Test.YtljlhoekpjkgoaaHr
import Derived.Test.YtljlhoekpjkgoaaHi
namespace Go.Proofs.Ytljlhoekpjkgoaa

theorem refsF_of {n : Int} : ∀ (l : List Rf) (p : Option (List UInt8)), Sorted l → (∀ r ∈ l, labelF r.name = true ∧ 1 ≤ r.no ∧ r.no ≤ n) → (∀ q, p = some q → ∀ r ∈ l, cmpB q r.name < 0) → refsF n p l = 0
  | [], _, _, _, _ => rfl
  | r :: l, p, hs, hl, hp => by
    have h1 := hl r (List.mem_cons_self ..)
    have hs' := List.pairwise_cons.1 hs
    have hb : badPrev p r.name = false := by
      cases p with
      | none => rfl
      | some q =>
        have := hp q rfl r (List.mem_cons_self ..)
        have := cmpB_swap q r.name
        simp only [badPrev, decide_eq_false_iff_not]; omega
    rw [refsF, if_neg (by rw [h1.1]; decide), if_neg (by omega), if_neg (by rw [hb]; decide)]
    refine refsF_of l (some r.name) hs'.2 (fun x hx => hl x (List.mem_cons_of_mem _ hx)) ?_
    rintro q hq x hx
    injection hq with hq
    subst hq
    exact hs'.1 x hx

theorem mem_insAt {α : Type} {l : List α} {k : Nat} {x y : α} : y ∈ insAt l k x ↔ y = x ∨ y ∈ l := by
  have : y ∈ l ↔ y ∈ l.take k ∨ y ∈ l.drop k := by
    conv => lhs; rw [← List.take_append_drop k l]
    exact List.mem_append
  rw [insAt, List.mem_append, List.mem_cons, this]
  constructor
  · rintro (h | h | h)
    · exact .inr (.inl h)
    · exact .inl h
    · exact .inr (.inr h)
  · rintro (h | h | h)
    · exact .inr (.inl h)
    · exact .inl h
    · exact .inr (.inr h)

theorem insAt_length {α : Type} {l : List α} {k : Nat} {x : α} : (insAt l k x).length = l.length + 1 := by
  rw [insAt, List.length_append, List.length_cons, List.length_take, List.length_drop]; omega

theorem not_found {l : List Rf} (hs : Sorted l) {t : List UInt8} (hf : foundF l t = false) {r : Rf} (hr : r ∈ l) : r.name ≠ t := by
  intro e
  have := found_of hs hr
  rw [e, hf] at this; cases this

theorem sorted_ins {l : List Rf} (hs : Sorted l) {t : List UInt8} {no : Int} (hf : foundF l t = false) : Sorted (insAt l (cntF l t) ⟨t, no⟩) := by
  have hlo : ∀ a ∈ l.take (cntF l t), cmpB a.name t < 0 := by
    intro a ha
    obtain ⟨i, hi, e⟩ := List.getElem_of_mem ha
    rw [List.length_take] at hi
    rw [List.getElem_take] at e
    rw [← e]
    exact (cntF_iff hs t i (by omega)).2 (by omega)
  have hhi : ∀ b ∈ l.drop (cntF l t), cmpB t b.name < 0 := by
    intro b hb
    obtain ⟨i, hi, e⟩ := List.getElem_of_mem hb
    rw [List.length_drop] at hi
    rw [List.getElem_drop] at e
    have h1 : ¬ cmpB b.name t < 0 := by
      rw [← e]
      intro h
      have := (cntF_iff hs t _ (by omega)).1 h
      omega
    have h2 : cmpB b.name t ≠ 0 := fun h => not_found hs hf (List.mem_of_mem_drop hb) ((cmpB_zero _ _).1 h)
    have := cmpB_swap b.name t
    omega
  unfold Sorted insAt
  rw [List.pairwise_append]
  refine ⟨hs.sublist (List.take_sublist _ _), List.pairwise_cons.2 ⟨hhi, hs.sublist (List.drop_sublist _ _)⟩, ?_⟩
  intro a ha b hb
  rcases List.mem_cons.1 hb with rfl | hb
  · exact hlo a ha
  · exact cmpB_trans _ _ _ (hlo a ha) (hhi b hb)

theorem sorted_uniq {l : List Rf} (hs : Sorted l) {a b : Rf} (ha : a ∈ l) (hb : b ∈ l) (e : a.name = b.name) : a = b := by
  obtain ⟨i, hi, ea⟩ := List.getElem_of_mem ha
  obtain ⟨j, hj, eb⟩ := List.getElem_of_mem hb
  have z : cmpB a.name b.name = 0 := (cmpB_zero _ _).2 e
  rcases Nat.lt_trichotomy i j with h | h | h
  · have := List.pairwise_iff_getElem.1 hs i j hi hj h
    rw [ea, eb] at this; omega
  · subst h; rw [← ea, ← eb]
  · have := List.pairwise_iff_getElem.1 hs j i hj hi h
    rw [ea, eb] at this
    have := cmpB_swap a.name b.name
    omega

theorem noAt_of {l : List Rf} (hs : Sorted l) {r : Rf} (hr : r ∈ l) : noAt l r.name = r.no := by
  obtain ⟨r', h1, h2, h3⟩ := noAt_mem (found_of hs hr)
  rw [h3, sorted_uniq hs h1 hr h2]

theorem found_iff {l : List Rf} (hs : Sorted l) (t : List UInt8) : foundF l t = true ↔ ∃ r ∈ l, r.name = t := by
  constructor
  · intro h
    obtain ⟨r, h1, h2, _⟩ := noAt_mem h
    exact ⟨r, h1, h2⟩
  · rintro ⟨r, h1, rfl⟩
    exact found_of hs h1

theorem dup_false {h : Hs} (ht : Sorted h.tags) : dupF h = false ↔ ∀ b ∈ h.branches, ∀ t ∈ h.tags, b.name ≠ t.name := by
  rw [dup_iff h ht, List.any_eq_false]
  constructor
  · intro q b hb t htm e
    exact q t htm (List.any_eq_true.2 ⟨b, hb, by simp [e]⟩)
  · intro q t htm hq
    obtain ⟨b, hb, e⟩ := List.any_eq_true.1 hq
    exact q b hb t htm (by simpa using e)

/-- The labels of a valid history. -/
theorem Valid.labels {h : Hs} (hv : Valid h) : (∀ r ∈ h.branches, labelF r.name = true ∧ 1 ≤ r.no ∧ r.no ≤ h.commits.length) ∧ ∀ r ∈ h.tags, labelF r.name = true ∧ 1 ≤ r.no ∧ r.no ≤ h.commits.length :=
  ⟨refsF_valid _ _ _ hv.br, refsF_valid _ _ _ hv.tg⟩

theorem valid_tag {h : Hs} (hv : Valid h) {t : List UInt8} {no : Int} (hl : labelF t = true) (hno : 1 ≤ no ∧ no ≤ h.commits.length) (h1 : foundF h.branches t = false) (h2 : foundF h.tags t = false) (hfull : h.branches.length + h.tags.length < 256) :
    Valid ⟨h.commits, h.branches, insAt h.tags (cntF h.tags t) ⟨t, no⟩⟩ := by
  have hs := sorted_ins (no := no) hv.st h2
  refine ⟨hv.nc, by simp only [insAt_length]; omega, hv.com, hv.br, refsF_of _ _ hs ?_ (by intro q hq; cases hq), (dup_false hs).2 ?_⟩
  · intro r hr
    rcases mem_insAt.1 hr with rfl | hr
    · exact ⟨hl, hno⟩
    · exact hv.labels.2 r hr
  · intro b hb r hr
    rcases mem_insAt.1 hr with rfl | hr
    · exact not_found hv.sb h1 hb
    · exact (dup_false hv.st).1 hv.dup b hb r hr

theorem valid_branch {h : Hs} (hv : Valid h) {t : List UInt8} {no : Int} (hl : labelF t = true) (hno : 1 ≤ no ∧ no ≤ h.commits.length) (h1 : foundF h.tags t = false) (h2 : foundF h.branches t = false) (hfull : h.branches.length + h.tags.length < 256) :
    Valid ⟨h.commits, insAt h.branches (cntF h.branches t) ⟨t, no⟩, h.tags⟩ := by
  have hs := sorted_ins (no := no) hv.sb h2
  refine ⟨hv.nc, by simp only [insAt_length]; omega, hv.com, refsF_of _ _ hs ?_ (by intro q hq; cases hq), hv.tg, (dup_false (h := ⟨h.commits, insAt h.branches (cntF h.branches t) ⟨t, no⟩, h.tags⟩) hv.st).2 ?_⟩
  · intro r hr
    rcases mem_insAt.1 hr with rfl | hr
    · exact ⟨hl, hno⟩
    · exact hv.labels.1 r hr
  · intro b hb r hr
    rcases mem_insAt.1 hb with rfl | hb
    · exact (not_found hv.st h1 hr).symm
    · exact (dup_false hv.st).1 hv.dup b hb r hr

theorem indexByte_label {s : List UInt8} (h : labelF s = true) : Lib.indexByte s 94 < 0 := by
  refine ib_none ?_
  intro x hx e
  subst e
  rw [labelF, Bool.and_eq_true, Bool.and_eq_true] at h
  have hword : ∀ w : List UInt8, wordF w = true → (94 : UInt8) ∉ w := by
    intro w hw hm
    cases w with
    | nil => simp at hm
    | cons c r =>
      simp only [wordF, Bool.and_eq_true] at hw
      have := List.all_eq_true.1 hw.2.1 94 hm
      exact absurd this (by decide)
  have hn := h.1
  rw [nameF, Bool.or_eq_true] at hn
  rcases hn with hn | hn
  · have hc : ¬ 0 ≤ Lib.indexByte s 58 := by simpa using h.2.2
    rw [plainF, cutF, if_neg hc] at hn
    simp only [Bool.and_eq_true] at hn
    exact hword s hn.2.1 hx
  · simp only [resF, Bool.and_eq_true] at hn
    have := List.all_eq_true.1 hn.2.2.2 94 hx
    exact absurd this (by decide)

theorem find_label {h : Hs} (hv : Valid h) {s : List UInt8} (hl : labelF s = true) : findF h s = if headF h s = 0 then (0, 290) else (headF h s, 0) := by
  have hi := indexByte_label hl
  have e1 : preF s = s := by rw [preF, if_neg (by omega)]
  have e2 : sufF s = [] := by rw [sufF, if_neg (by omega)]
  have e3 : walkF h (headF h s) [] = some (headF h s) := by rw [walkF, dif_pos rfl]
  rw [findF, if_neg (by rw [(valid_iff h).2 hv]; decide), e1, e2, if_neg (by rw [hl]; decide), e3]
end Go.Proofs.Ytljlhoekpjkgoaa
