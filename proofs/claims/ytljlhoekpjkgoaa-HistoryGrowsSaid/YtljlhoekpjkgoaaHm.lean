/-
  History: the plain law of ancestors and of common commits.
  Conditions: none.
-/
import Derived.Test.YtljlhoekpjkgoaaHc
namespace Go.Proofs.Ytljlhoekpjkgoaa
open Go.Proofs
set_option linter.unusedSimpArgs false

theorem markF_get {y : Nat} : ∀ (ps : List Int) (m : List Bool), y < m.length → ((markF m ps).getD y false = true ↔ m.getD y false = true ∨ ∃ p ∈ ps, p.toNat = y)
  | [], m, _ => by simp [markF]
  | p :: ps, m, h => by
    have e : markF m (p :: ps) = markF (m.set p.toNat true) ps := rfl
    rw [e, markF_get ps _ (by simpa using h)]
    by_cases hp : p.toNat = y
    · subst hp
      simp [List.getD, List.getElem?_set, h]
    · simp [List.getD, List.getElem?_set, hp]

theorem ps_valid {h : Hs} (hv : Valid h) {k : Nat} (hk : k < h.commits.length) {p : Int} (hp : p ∈ psOf h k) : 1 ≤ p ∧ p ≤ k := by
  rw [psOf, List.getElem?_eq_getElem hk] at hp
  exact parF_mem (hv.com k hk).2.1 hp

theorem ancG_le (h : Hs) : ∀ (n : Nat) (m : List Bool), (∀ y ∈ ancG h n m, 1 ≤ y ∧ y ≤ n) ∧ (ancG h n m).Pairwise (· > ·)
  | 0, _ => by simp [ancG]
  | n + 1, m => by
    simp only [ancG]
    split
    · obtain ⟨i1, i2⟩ := ancG_le h n (markF m (psOf h n))
      refine ⟨?_, List.pairwise_cons.2 ⟨fun y hy => ?_, i2⟩⟩
      · intro y hy
        rcases List.mem_cons.1 hy with rfl | hy
        · omega
        · have := i1 y hy; omega
      · have := i1 y hy; omega
    · obtain ⟨i1, i2⟩ := ancG_le h n m
      exact ⟨fun y hy => by have := i1 y hy; omega, i2⟩

theorem mem_ancG {h : Hs} (hv : Valid h) : ∀ (n : Nat) (m : List Bool), n ≤ h.commits.length → n < m.length → ∀ y, y ∈ ancG h n m ↔ (1 ≤ y ∧ y ≤ n) ∧ (m.getD y false = true ∨ ∃ z ∈ ancG h n m, y < z ∧ (y : Int) ∈ psOf h (z - 1))
  | 0, m, _, _, y => by simp [ancG]; omega
  | n + 1, m, hn, hm, y => by
    have hle := ancG_le h (n + 1) m
    simp only [ancG] at hle ⊢
    by_cases hg : m.getD (n + 1) false = true
    · rw [if_pos hg] at hle ⊢
      have ih := mem_ancG hv n (markF m (psOf h n)) (by omega) (by rw [markF_length]; omega) y
      have hmk := markF_get (psOf h n) m (y := y)
      have hps : (∃ p ∈ psOf h n, p.toNat = y) ↔ (1 ≤ y ∧ y ≤ n) ∧ (y : Int) ∈ psOf h n := by
        constructor
        · rintro ⟨p, hp, rfl⟩
          have := ps_valid hv (by omega) hp
          refine ⟨by omega, ?_⟩
          rw [show ((p.toNat : Nat) : Int) = p from by omega]; exact hp
        · rintro ⟨_, hp⟩; exact ⟨_, hp, by simp⟩
      constructor
      · intro hy
        refine ⟨hle.1 y hy, ?_⟩
        rcases List.mem_cons.1 hy with rfl | hy
        · exact .inl hg
        · obtain ⟨h1, h2 | ⟨z, hz, h3⟩⟩ := ih.1 hy
          · rcases (hmk (by omega)).1 h2 with h2 | h2
            · exact .inl h2
            · exact .inr ⟨n + 1, List.mem_cons_self .., by omega, by simpa using (hps.1 h2).2⟩
          · exact .inr ⟨z, List.mem_cons_of_mem _ hz, h3⟩
      · rintro ⟨h1, h2⟩
        by_cases hy : y = n + 1
        · subst hy; exact List.mem_cons_self ..
        · refine List.mem_cons_of_mem _ (ih.2 ⟨by omega, ?_⟩)
          rcases h2 with h2 | ⟨z, hz, h3, h4⟩
          · exact .inl ((hmk (by omega)).2 (.inl h2))
          · rcases List.mem_cons.1 hz with rfl | hz
            · exact .inl ((hmk (by omega)).2 (.inr (hps.2 ⟨by omega, by simpa using h4⟩)))
            · exact .inr ⟨z, hz, h3, h4⟩
    · rw [if_neg hg] at hle ⊢
      have ih := mem_ancG hv n m (by omega) (by omega) y
      rw [ih]
      constructor
      · rintro ⟨h1, h2⟩; exact ⟨by omega, h2⟩
      · rintro ⟨h1, h2⟩
        refine ⟨?_, h2⟩
        by_cases hy : y = n + 1
        · subst hy
          rcases h2 with h2 | ⟨z, hz, h3, _⟩
          · exact absurd h2 hg
          · have := (ancG_le h n m).1 z hz; omega
        · omega

theorem mem_anc {h : Hs} (hv : Valid h) {no : Nat} (hno : 1 ≤ no ∧ no ≤ h.commits.length) (y : Nat) : y ∈ ancF h no ↔ (1 ≤ y ∧ y ≤ no) ∧ (y = no ∨ ∃ z ∈ ancF h no, y < z ∧ (y : Int) ∈ psOf h (z - 1)) := by
  have h1 := mem_ancG hv no ((List.replicate (no + 1) false).set no true) hno.2 (by simp) y
  have h2 : ((List.replicate (no + 1) false).set no true).getD y false = true ↔ y = no := by
    by_cases e : no = y
    · subst e; simp [List.getD, List.getElem?_set]
    · have e' : ¬ y = no := fun x => e x.symm
      simp only [List.getD, List.getElem?_set, e, if_false, e', iff_false]
      rw [List.getElem?_replicate]; split <;> simp
  rw [h2] at h1
  exact h1

theorem anc_le {h : Hs} {no y : Nat} (hy : y ∈ ancF h no) : 1 ≤ y ∧ y ≤ no := (ancG_le h _ _).1 y hy
theorem anc_desc (h : Hs) (no : Nat) : (ancF h no).Pairwise (· > ·) := (ancG_le h _ _).2
theorem anc_self {h : Hs} (hv : Valid h) {no : Nat} (hno : 1 ≤ no ∧ no ≤ h.commits.length) : no ∈ ancF h no := (mem_anc hv hno no).2 ⟨⟨hno.1, Nat.le_refl _⟩, .inl rfl⟩

theorem anc_parent {h : Hs} (hv : Valid h) {no : Nat} (hno : 1 ≤ no ∧ no ≤ h.commits.length) {x : Nat} (hx : x ∈ ancF h no) {p : Int} (hp : p ∈ psOf h (x - 1)) : p.toNat ∈ ancF h no ∧ 1 ≤ p ∧ p < x := by
  have hl := anc_le hx
  have := ps_valid hv (by omega) hp
  refine ⟨(mem_anc hv hno _).2 ⟨by omega, .inr ⟨x, hx, by omega, ?_⟩⟩, by omega, by omega⟩
  rw [show ((p.toNat : Nat) : Int) = p from by omega]; exact hp

theorem anc_trans {h : Hs} (hv : Valid h) {no y : Nat} (hno : 1 ≤ no ∧ no ≤ h.commits.length) (hy : y ∈ ancF h no) : ∀ (d x : Nat), y - x ≤ d → x ∈ ancF h y → x ∈ ancF h no := by
  have hyl := anc_le hy
  intro d
  induction d with
  | zero =>
    intro x hd hx
    have := anc_le hx
    rw [show x = y by omega]; exact hy
  | succ d ih =>
    intro x hd hx
    obtain ⟨h1, rfl | ⟨z, hz, hz1, hz2⟩⟩ := (mem_anc hv (by omega) x).1 hx
    · exact hy
    · have hzl := anc_le hz
      have hz' := ih z (by omega) hz
      have := (anc_parent hv hno hz' hz2).1
      simpa using this

/-- The ancestors by their descents: those below y of a history depend on the first commits only. -/
theorem ancG_congr {h h' : Hs} : ∀ (n : Nat) (m : List Bool), (∀ k, k < n → psOf h k = psOf h' k) → ancG h n m = ancG h' n m
  | 0, _, _ => rfl
  | n + 1, m, hk => by
    simp only [ancG]
    rw [hk n (by omega), ancG_congr n _ (fun k hk' => hk k (by omega)), ancG_congr n m (fun k hk' => hk k (by omega))]

/-! ### Common commits -/

theorem markN_get {y : Nat} : ∀ (l : List Nat) (m : List Bool), y < m.length → ((markN m l).getD y false = true ↔ m.getD y false = true ∨ y ∈ l)
  | [], m, _ => by simp [markN]
  | p :: ps, m, h => by
    have e : markN m (p :: ps) = markN (m.set p true) ps := rfl
    rw [e, markN_get ps _ (by simpa using h)]
    by_cases hp : p = y
    · subst hp
      simp [List.getD, List.getElem?_set, h]
    · have hp' : ¬ y = p := fun x => hp x.symm
      simp [List.getD, List.getElem?_set, hp, hp']

theorem none_get (h : Hs) (y : Nat) : (none_ h).getD y false = false := by
  rw [none_, List.getD, List.getElem?_replicate]; split <;> simp

/-- What has been found when the commits `done` have been looked at. -/
structure ComI (h : Hs) (a : Nat) (done : List Nat) (y : List Nat × List Bool) : Prop where
  len : y.2.length = h.commits.length + 1
  cov : ∀ n, n ≤ h.commits.length → (y.2.getD n false = true ↔ ∃ x ∈ y.1, n ∈ ancF h x)
  sub : ∀ x ∈ y.1, x ∈ done ∧ x ∈ ancF h a
  all : ∀ n ∈ done, n ∈ ancF h a → ∃ x ∈ y.1, n ∈ ancF h x
  desc : y.1.Pairwise fun x z => x > z ∧ z ∉ ancF h x

theorem com_step {h : Hs} (hv : Valid h) {a : Nat} (_ : 1 ≤ a ∧ a ≤ h.commits.length) {done : List Nat} {y : List Nat × List Bool} (hI : ComI h a done y) {n : Nat} (hn : 1 ≤ n ∧ n ≤ h.commits.length) (hd : ∀ x ∈ done, n < x) :
    ComI h a (done ++ [n]) (comT h (markN (none_ h) (ancF h a)) y n) := by
  have hA : (markN (none_ h) (ancF h a)).getD n false = true ↔ n ∈ ancF h a := by
    rw [markN_get _ _ (by simp [none_]; omega), none_get]; simp
  have hC := hI.cov n hn.2
  unfold comT
  split
  · rename_i hc
    refine ⟨hI.len, hI.cov, fun x hx => ⟨List.mem_append_left _ (hI.sub x hx).1, (hI.sub x hx).2⟩, ?_, hI.desc⟩
    intro k hk hka
    rcases List.mem_append.1 hk with hk | hk
    · exact hI.all k hk hka
    · simp only [List.mem_singleton] at hk
      subst hk
      rcases hc with hc | hc
      · rw [hA.2 hka] at hc; cases hc
      · exact hC.1 hc
  · rename_i hc
    have hna : n ∈ ancF h a := hA.1 (by cases hx : (markN (none_ h) (ancF h a)).getD n false with | true => rfl | false => exact absurd (.inl hx) hc)
    have hnc : ¬ ∃ x ∈ y.1, n ∈ ancF h x := fun hx => hc (.inr (hC.2 hx))
    refine ⟨by rw [markN_length]; exact hI.len, ?_, ?_, ?_, ?_⟩
    · intro k hk
      dsimp only
      rw [markN_get _ _ (by rw [hI.len]; omega), hI.cov k hk]
      constructor
      · rintro (⟨x, hx, hk⟩ | hk)
        · exact ⟨x, List.mem_append_left _ hx, hk⟩
        · exact ⟨n, by simp, hk⟩
      · rintro ⟨x, hx, hk⟩
        rcases List.mem_append.1 hx with hx | hx
        · exact .inl ⟨x, hx, hk⟩
        · simp only [List.mem_singleton] at hx
          subst hx; exact .inr hk
    · intro x hx
      rcases List.mem_append.1 hx with hx | hx
      · exact ⟨List.mem_append_left _ (hI.sub x hx).1, (hI.sub x hx).2⟩
      · simp only [List.mem_singleton] at hx
        subst hx; exact ⟨by simp, hna⟩
    · intro k hk hka
      rcases List.mem_append.1 hk with hk | hk
      · obtain ⟨x, hx, hk⟩ := hI.all k hk hka
        exact ⟨x, List.mem_append_left _ hx, hk⟩
      · simp only [List.mem_singleton] at hk
        subst hk; exact ⟨k, by simp, anc_self hv hn⟩
    · refine List.pairwise_append.2 ⟨hI.desc, List.pairwise_singleton _ _, ?_⟩
      intro x hx z hz
      simp only [List.mem_singleton] at hz
      subst hz
      exact ⟨hd x (hI.sub x hx).1, fun hk => hnc ⟨x, hx, hk⟩⟩

theorem com_fold {h : Hs} (hv : Valid h) {a : Nat} (ha : 1 ≤ a ∧ a ≤ h.commits.length) : ∀ (l done : List Nat) (y : List Nat × List Bool), ComI h a done y → (∀ n ∈ l, 1 ≤ n ∧ n ≤ h.commits.length) → (done ++ l).Pairwise (· > ·) → ComI h a (done ++ l) (l.foldl (comT h (markN (none_ h) (ancF h a))) y)
  | [], done, y, hI, _, _ => by simpa using hI
  | n :: l, done, y, hI, hl, hp => by
    have h1 := com_step hv ha hI (hl n (List.mem_cons_self ..)) (fun x hx => (List.pairwise_append.1 hp).2.2 x hx n (List.mem_cons_self ..))
    have h2 := com_fold hv ha l (done ++ [n]) _ h1 (fun k hk => hl k (List.mem_cons_of_mem _ hk)) (by simpa using hp)
    simpa using h2

theorem com_all {h : Hs} (hv : Valid h) {a b : Nat} (ha : 1 ≤ a ∧ a ≤ h.commits.length) (hb : 1 ≤ b ∧ b ≤ h.commits.length) : ComI h a (ancF h b) ((ancF h b).foldl (comT h (markN (none_ h) (ancF h a))) ([], none_ h)) := by
  have := com_fold hv ha (ancF h b) [] ([], none_ h) ⟨by simp [none_], fun n _ => by dsimp only; rw [none_get]; simp, by simp, by simp, .nil⟩ (fun n hn => by have := anc_le hn; omega) (by simpa using anc_desc h b)
  simpa using this

structure ComP (h : Hs) (a b : Nat) (l : List Nat) : Prop where
  sub : ∀ x ∈ l, x ∈ ancF h a ∧ x ∈ ancF h b
  all : ∀ n, n ∈ ancF h a → n ∈ ancF h b → ∃ x ∈ l, n ∈ ancF h x
  apart : ∀ x ∈ l, ∀ z ∈ l, z ∈ ancF h x → z = x
  desc : l.Pairwise (· > ·)

theorem comL_spec {h : Hs} (hv : Valid h) {a b : Nat} (ha : 1 ≤ a ∧ a ≤ h.commits.length) (hb : 1 ≤ b ∧ b ≤ h.commits.length) : ComP h a b (comL h a b) := by
  have hI := com_all hv ha hb
  refine ⟨fun x hx => ⟨(hI.sub x hx).2, (hI.sub x hx).1⟩, fun n h1 h2 => hI.all n h2 h1, ?_, hI.desc.imp fun h => h.1⟩
  intro x hx z hz hzx
  have hle := anc_le hzx
  obtain ⟨i, hi, rfl⟩ := List.mem_iff_getElem.1 hx
  obtain ⟨j, hj, rfl⟩ := List.mem_iff_getElem.1 hz
  have hp := List.pairwise_iff_getElem.1 hI.desc
  rcases Nat.lt_trichotomy i j with e | e | e
  · exact absurd hzx (hp i j hi hj e).2
  · subst e; rfl
  · have := (hp j i hj hi e).1
    unfold comL at hle
    omega

theorem ComP.mem {h : Hs} (hv : Valid h) {a b : Nat} (ha : 1 ≤ a ∧ a ≤ h.commits.length) {l : List Nat} (hp : ComP h a b l) (c : Nat) : c ∈ l ↔ (c ∈ ancF h a ∧ c ∈ ancF h b) ∧ ∀ d, d ∈ ancF h a → d ∈ ancF h b → c ∈ ancF h d → d = c := by
  constructor
  · intro hc
    refine ⟨hp.sub c hc, fun d h1 h2 h3 => ?_⟩
    obtain ⟨x, hx, hdx⟩ := hp.all d h1 h2
    have hxl := anc_le (hp.sub x hx).1
    have hdl := anc_le hdx
    have h4 := anc_trans hv (by omega) hdx (d - c) c (Nat.le_refl _) h3
    have := hp.apart x hx c hc h4
    have := anc_le h3
    omega
  · rintro ⟨⟨h1, h2⟩, h3⟩
    obtain ⟨x, hx, hcx⟩ := hp.all c h1 h2
    have := h3 x (hp.sub x hx).1 (hp.sub x hx).2 hcx
    subst this; exact hx

theorem desc_ext : ∀ {l m : List Nat}, l.Pairwise (· > ·) → m.Pairwise (· > ·) → (∀ x, x ∈ l ↔ x ∈ m) → l = m
  | [], [], _, _, _ => rfl
  | [], b :: m, _, _, h => by have := (h b).2 (List.mem_cons_self ..); simp at this
  | a :: l, [], _, _, h => by have := (h a).1 (List.mem_cons_self ..); simp at this
  | a :: l, b :: m, h1, h2, h => by
    rw [List.pairwise_cons] at h1 h2
    have e : a = b := by
      rcases List.mem_cons.1 ((h a).1 (List.mem_cons_self ..)) with e | e
      · exact e
      · rcases List.mem_cons.1 ((h b).2 (List.mem_cons_self ..)) with e' | e'
        · exact e'.symm
        · have := h1.1 b e'; have := h2.1 a e; omega
    subst e
    rw [desc_ext h1.2 h2.2 (fun x => ?_)]
    constructor
    · intro hx
      rcases List.mem_cons.1 ((h x).1 (List.mem_cons_of_mem _ hx)) with rfl | hm
      · have := h1.1 x hx; omega
      · exact hm
    · intro hx
      rcases List.mem_cons.1 ((h x).2 (List.mem_cons_of_mem _ hx)) with rfl | hm
      · have := h2.1 x hx; omega
      · exact hm

theorem com_symm {h : Hs} (hv : Valid h) {a b : Nat} (ha : 1 ≤ a ∧ a ≤ h.commits.length) (hb : 1 ≤ b ∧ b ≤ h.commits.length) : comL h a b = comL h b a := by
  have p1 := comL_spec hv ha hb
  have p2 := comL_spec hv hb ha
  refine desc_ext p1.desc p2.desc fun c => ?_
  rw [p1.mem hv ha c, p2.mem hv hb c]
  constructor
  · rintro ⟨⟨h1, h2⟩, h3⟩; exact ⟨⟨h2, h1⟩, fun d x y => h3 d y x⟩
  · rintro ⟨⟨h1, h2⟩, h3⟩; exact ⟨⟨h2, h1⟩, fun d x y => h3 d y x⟩

theorem com_anc {h : Hs} (hv : Valid h) {a b : Nat} (ha : 1 ≤ a ∧ a ≤ h.commits.length) (hb : 1 ≤ b ∧ b ≤ h.commits.length) (hab : a ∈ ancF h b) : comL h a b = [a] := by
  have p1 := comL_spec hv ha hb
  refine desc_ext p1.desc (List.pairwise_singleton _ _) fun c => ?_
  rw [p1.mem hv ha c, List.mem_singleton]
  constructor
  · rintro ⟨⟨h1, h2⟩, h3⟩
    exact (h3 a (anc_self hv ha) hab h1).symm
  · rintro rfl
    refine ⟨⟨anc_self hv ha, hab⟩, fun d h1 h2 h3 => ?_⟩
    have := anc_le h1; have := anc_le h3; omega
end Go.Proofs.Ytljlhoekpjkgoaa
