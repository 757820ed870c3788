/-
  Circles in steps, plainly: shortest ones, and the search of the program. Circles in steps, plainly: the search of the reference.
  Conditions: none.
-/
set_option linter.unnecessarySimpa false
set_option linter.unusedSectionVars false
set_option linter.unusedSimpArgs false
set_option linter.unusedVariables false
namespace Go.Proofs.YtnemengadjimcaaGreatDoor
structure CW {V : Type} (E : V → V → Bool → Prop) (L : Nat) (w : Nat → V) (t : Nat → Bool) : Prop where
 edge : ∀ i, i < L → E (w i) (w (i + 1)) (t i)
 closed : w L = w 0
 strict : ∃ i, i < L ∧ t i = true
def Circ {V : Type} (E : V → V → Bool → Prop) : Prop := ∃ L w t, CW E L w t
theorem CW.cut {V : Type} {E : V → V → Bool → Prop} {L : Nat} {w : Nat → V} {t : Nat → Bool} (h : CW E L w t) {i j : Nat} (hij : i < j) (hj : j < L) (he : w i = w j) :
  ∃ L' w' t', L' < L ∧ CW E L' w' t' := by
 obtain ⟨k, hk, hs⟩ := h.strict
 by_cases hin : i ≤ k ∧ k < j
 ·refine ⟨j - i, fun n => w (i + n), fun n => t (i + n), by omega, ⟨fun n hn => ?_, ?_, k - i, by omega, ?_⟩⟩
  ·exact h.edge (i + n) (by omega)
  ·show w (i + (j - i)) = w (i + 0)
   rw [show i + (j - i) = j by omega, Nat.add_zero, he]
  ·show t (i + (k - i)) = true
   rw [show i + (k - i) = k by omega, hs]
 ·refine ⟨L - (j - i), fun n => if n ≤ i then w n else w (n + (j - i)), fun n => if n < i then t n else t (n + (j - i)), by omega, ⟨fun n hn => ?_, ?_, ?_⟩⟩
  ·show E (if n ≤ i then w n else w (n + (j - i))) (if n + 1 ≤ i then w (n + 1) else w (n + 1 + (j - i))) (if n < i then t n else t (n + (j - i)))
   by_cases h1 : n < i
   ·rw [if_pos (by omega), if_pos (by omega), if_pos h1]
    exact h.edge n (by omega)
   ·rw [if_neg (by omega : ¬ n + 1 ≤ i), if_neg h1]
    have h2 := h.edge (n + (j - i)) (by omega)
    rw [show n + (j - i) + 1 = n + 1 + (j - i) by omega] at h2
    by_cases h3 : n = i
    ·subst h3
     rw [if_pos (Nat.le_refl _), he]
     rw [show n + (j - n) = j by omega] at h2 ⊢
     exact h2
    ·rw [if_neg (by omega)]
     exact h2
  ·show (if L - (j - i) ≤ i then w (L - (j - i)) else w (L - (j - i) + (j - i))) = (if 0 ≤ i then w 0 else w (0 + (j - i)))
   rw [if_neg (by omega), if_pos (by omega), show L - (j - i) + (j - i) = L by omega]
   exact h.closed
  ·by_cases h1 : k < i
   ·exact ⟨k, by omega, by show (if k < i then t k else t (k + (j - i))) = true; rw [if_pos h1, hs]⟩
   ·refine ⟨k - (j - i), by omega, ?_⟩
    show (if k - (j - i) < i then t (k - (j - i)) else t (k - (j - i) + (j - i))) = true
    rw [if_neg (by omega), show k - (j - i) + (j - i) = k by omega, hs]
theorem Circ.least {V : Type} {E : V → V → Bool → Prop} (h : Circ E) : ∃ L w t, CW E L w t ∧ (∀ L' w' t', L' < L → ¬ CW E L' w' t') ∧ ∀ i j, i < j → j < L → w i ≠ w j := by
 obtain ⟨L, w, t, h⟩ := h
 induction L using Nat.strongRecOn generalizing w t with
 | ind L ih =>
  by_cases hc : ∃ L' w' t', L' < L ∧ CW E L' w' t'
  ·obtain ⟨L', w', t', hl, h'⟩ := hc
   exact ih L' hl w' t' h'
  ·exact ⟨L, w, t, h, fun L' w' t' hl h' => hc ⟨L', w', t', hl, h'⟩, fun i j hij hj he => hc (h.cut hij hj he)⟩
theorem nodup_le {V : Type} : ∀ (l m : List V), l.Nodup → (∀ x ∈ l, x ∈ m) → l.length ≤ m.length
 | [], m, _, _ => by simp
 | a :: r, m, hn, hs => by
  rw [List.nodup_cons] at hn
  obtain ⟨m1, m2, rfl⟩ := List.append_of_mem (hs a (List.mem_cons_self ..))
  have := nodup_le r (m1 ++ m2) hn.2 fun x hx => by
   have h1 := hs x (List.mem_cons_of_mem _ hx)
   rw [List.mem_append, List.mem_cons] at h1
   rw [List.mem_append]
   rcases h1 with h1 | h1 | h1
   ·exact .inl h1
   ·subst h1; exact absurd hx hn.1
   ·exact .inr h1
  simp only [List.length_append, List.length_cons] at this ⊢
  omega
theorem inj_le {V : Type} {w : Nat → V} {L : Nat} {m : List V} (hi : ∀ i j, i < j → j < L → w i ≠ w j) (hm : ∀ i, i < L → w i ∈ m) : L ≤ m.length := by
 have h := nodup_le ((List.range L).map w) m (by
  rw [List.Nodup, List.pairwise_map]
  refine List.pairwise_iff_getElem.2 fun i j h1 h2 h3 => ?_
  simp only [List.getElem_range]
  exact hi i j h3 (by simpa using h2)) (by
  intro x hx
  obtain ⟨i, hi', rfl⟩ := List.mem_map.1 hx
  exact hm i (List.mem_range.1 hi'))
 simpa using h
inductive Wlk {V : Type} (E : V → V → Bool → Prop) (a : V) : Nat → V → Bool → Prop
 | nil : Wlk E a 0 a false
 | snoc {n b c s t} : Wlk E a n b s → E b c t → Wlk E a (n + 1) c (s || t)
theorem CW.wlk {V : Type} {E : V → V → Bool → Prop} {L : Nat} {w : Nat → V} {t : Nat → Bool} (h : CW E L w t) : ∀ n, n ≤ L → Wlk E (w 0) n (w n) ((List.range n).any t)
 | 0, _ => .nil
 | n + 1, hn => by
  have h1 := (h.wlk n (by omega)).snoc (h.edge n (by omega))
  rw [List.range_succ, List.any_append]
  simpa using h1
theorem Wlk.cw {V : Type} {E : V → V → Bool → Prop} {a : V} : ∀ {n : Nat} {b : V} {s : Bool}, Wlk E a n b s → ∃ (w : Nat → V) (t : Nat → Bool), w 0 = a ∧ w n = b ∧ (∀ i, i < n → E (w i) (w (i + 1)) (t i)) ∧ ((List.range n).any t = s)
 | _, _, _, .nil => ⟨fun _ => a, fun _ => false, rfl, rfl, by omega, rfl⟩
 | n + 1, c, _, .snoc (b := b) (s := s) (t := t) h he => by
  obtain ⟨w, u, h0, hn, hE, hs⟩ := h.cw
  refine ⟨fun i => if i ≤ n then w i else c, fun i => if i < n then u i else t, ?_, ?_, fun i hi => ?_, ?_⟩
  ·show (if 0 ≤ n then w 0 else c) = a
   rw [if_pos (by omega), h0]
  ·show (if n + 1 ≤ n then _ else c) = c
   rw [if_neg (by omega)]
  ·show E (if i ≤ n then w i else c) (if i + 1 ≤ n then w (i + 1) else c) (if i < n then u i else t)
   by_cases h1 : i < n
   ·rw [if_pos (by omega), if_pos (by omega), if_pos h1]; exact hE i h1
   ·have h2 : i = n := by omega
    subst h2
    rw [if_pos (Nat.le_refl _), if_neg (by omega), if_neg h1, hn]; exact he
  ·rw [List.range_succ, List.any_append]
   simp only [List.any_cons, List.any_nil, Bool.or_false, Nat.lt_irrefl, if_false]
   rw [← hs]
   congr 1
   have : ∀ i ∈ List.range n, (if i < n then u i else t) = u i := fun i hi => if_pos (List.mem_range.1 hi)
   rw [Bool.eq_iff_iff, List.any_eq_true, List.any_eq_true]
   constructor
   ·rintro ⟨i, hi, h⟩; exact ⟨i, hi, by rw [← this i hi]; exact h⟩
   ·rintro ⟨i, hi, h⟩; exact ⟨i, hi, by rw [this i hi]; exact h⟩
theorem circ_iff {V : Type} {E : V → V → Bool → Prop} : Circ E ↔ ∃ a n, Wlk E a n a true := by
 constructor
 ·rintro ⟨L, w, t, h⟩
  refine ⟨w 0, L, ?_⟩
  have h1 := h.wlk L (Nat.le_refl _)
  rw [h.closed] at h1
  obtain ⟨i, hi, hs⟩ := h.strict
  rwa [List.any_eq_true.2 ⟨i, List.mem_range.2 hi, hs⟩] at h1
 ·rintro ⟨a, n, h⟩
  obtain ⟨w, t, h0, hn, hE, hs⟩ := h.cw
  obtain ⟨i, hi, ht⟩ := List.any_eq_true.1 hs
  exact ⟨n, w, t, hE, by rw [hn, h0], i, List.mem_range.1 hi, ht⟩
theorem Wlk.mono {V : Type} {E F : V → V → Bool → Prop} (h : ∀ a b t, E a b t → ∃ t', F a b t' ∧ (t = true → t' = true)) {a : V} : ∀ {n : Nat} {b : V} {s : Bool}, Wlk E a n b s → ∃ s', Wlk F a n b s' ∧ (s = true → s' = true)
 | _, _, _, .nil => ⟨false, .nil, id⟩
 | _, _, _, .snoc (s := s) (t := t) hw he => by
  obtain ⟨s', h1, h2⟩ := hw.mono h
  obtain ⟨t', h3, h4⟩ := h _ _ _ he
  refine ⟨_, .snoc h1 h3, ?_⟩
  cases s <;> cases t <;> simp_all
theorem Circ.mono {V : Type} {E F : V → V → Bool → Prop} (h : ∀ a b t, E a b t → ∃ t', F a b t' ∧ (t = true → t' = true)) (hc : Circ E) : Circ F := by
 obtain ⟨a, n, hw⟩ := circ_iff.1 hc
 obtain ⟨s', h1, h2⟩ := hw.mono h
 rw [h2 rfl] at h1
 exact circ_iff.2 ⟨a, n, h1⟩
theorem Circ.dom {V : Type} {E : V → V → Bool → Prop} (hc : Circ E) : Circ (fun a b t => E a b t ∧ ∃ c u, E b c u) := by
 obtain ⟨L, w, t, h⟩ := hc
 obtain ⟨k, hk, hs⟩ := h.strict
 refine ⟨L, w, t, fun i hi => ⟨h.edge i hi, ?_⟩, h.closed, k, hk, hs⟩
 by_cases h1 : i + 1 < L
 ·exact ⟨_, _, h.edge (i + 1) h1⟩
 ·rw [show i + 1 = L by omega, h.closed]
  exact ⟨_, _, h.edge 0 (by omega)⟩
theorem Circ.map {V W : Type} {E : V → V → Bool → Prop} {F : W → W → Bool → Prop} (f : V → W) (h : ∀ a b t, E a b t → F (f a) (f b) t) (hc : Circ E) : Circ F := by
 obtain ⟨L, w, t, h0⟩ := hc
 exact ⟨L, fun i => f (w i), t, fun i hi => h _ _ _ (h0.edge i hi), congrArg f h0.closed, h0.strict⟩
structure Way where
 role : Nat
 strict : Bool
 before : Nat
 many : Nat
abbrev Adj := List (List (Nat × Bool))
def adjAt (G : Adj) (i : Nat) : List (Nat × Bool) := (G[i]?).getD []
def EG (G : Adj) (i j : Nat) (t : Bool) : Prop := (j, t) ∈ adjAt G i
def sideB (p : Bool × Bool) (s : Bool) : Bool := if s then p.2 else p.1
def seenAt (S : List (Bool × Bool)) (v : Nat) (s : Bool) : Bool := sideB ((S[v]?).getD (false, false)) s
def markB (p : Bool × Bool) (s : Bool) : Bool × Bool := if s then (p.1, true) else (true, p.2)
structure Bfs (G : Adj) (n start at' k : Nat) (W : List Way) (S : List (Bool × Bool)) : Prop where
 len : S.length = n
 first : W[0]? = some ⟨start, false, 0, 0⟩
 sound : ∀ w ∈ W, Wlk (EG G) start w.many w.role w.strict ∧ w.role < n
 before : ∀ (i : Nat) w, W[i]? = some w → 0 < i → w.before < i
 mono : ∀ (i j : Nat) x y, i ≤ j → W[i]? = some x → W[j]? = some y → x.many ≤ y.many
 bound : ∀ x, W[at']? = some x → ∀ w ∈ W, w.many ≤ x.many + 1
 seen : ∀ v s, seenAt S v s = true ↔ ∃ w ∈ W, w.role = v ∧ w.strict = s
 once : (W.map fun w => (w.role, w.strict)).Nodup
 done : ∀ (i : Nat) w (m j : Nat) t, W[i]? = some w → (adjAt G w.role)[m]? = some (j, t) → (i < at' ∨ i = at' ∧ m < k) → ¬ (j = start ∧ (w.strict || t) = true) ∧ ∃ w' ∈ W, w'.role = j ∧ w'.strict = (w.strict || t) ∧ w'.many ≤ w.many + 1
theorem getD_none {α : Type} {l : List α} {i : Nat} {a : α} (h : l.length ≤ i) : (l[i]?).getD a = a := by rw [List.getElem?_eq_none h]; rfl
theorem seen_set {S : List (Bool × Bool)} {j : Nat} (hj : j < S.length) (s : Bool) (v : Nat) (s' : Bool) :
  seenAt (S.set j (markB ((S[j]?).getD (false, false)) s)) v s' = true ↔ seenAt S v s' = true ∨ (v = j ∧ s' = s) := by
 unfold seenAt
 rw [List.getElem?_set]
 by_cases h : j = v
 ·subst h
  rw [if_pos rfl, if_pos hj]
  simp only [Option.getD_some]
  generalize (S[j]?).getD (false, false) = p
  obtain ⟨a, b⟩ := p
  cases s <;> cases s' <;> cases a <;> cases b <;> simp [sideB, markB]
 ·rw [if_neg h]
  constructor
  ·exact .inl
  ·rintro (h1 | ⟨rfl, _⟩)
   ·exact h1
   ·exact absurd rfl h
theorem seen_rep (n v : Nat) (s : Bool) : seenAt (List.replicate n (false, false)) v s = false := by
 unfold seenAt
 rw [List.getElem?_replicate]
 split <;> cases s <;> rfl
theorem Bfs.init {G : Adj} {n start : Nat} (h : start < n) : Bfs G n start 0 0 [⟨start, false, 0, 0⟩] ((List.replicate n (false, false)).set start (true, false)) where
 len := by simp
 first := rfl
 sound := by
  intro w hw
  simp only [List.mem_singleton] at hw
  subst hw
  exact ⟨.nil, h⟩
 before := by
  intro i w hi h0
  rw [List.getElem?_eq_none (by simp; omega)] at hi
  cases hi
 mono := by
  intro i j x y hij hx hy
  have hi : i = 0 := by have := (List.getElem?_eq_some_iff.1 hx).1; simp at this; exact this
  have hj : j = 0 := by have := (List.getElem?_eq_some_iff.1 hy).1; simp at this; exact this
  subst hi hj
  rw [hx] at hy
  cases hy
  exact Nat.le_refl _
 bound := by
  intro x hx w hw
  simp only [List.mem_singleton] at hw
  subst hw
  exact Nat.zero_le _
 seen := by
  intro v s
  have h1 := seen_set (S := List.replicate n (false, false)) (j := start) (by simpa using h) false v s
  rw [seen_rep, List.getElem?_replicate, if_pos h] at h1
  simp only [List.mem_singleton]
  refine (show _ ↔ _ from h1).trans ?_
  constructor
  ·rintro (h2 | ⟨rfl, rfl⟩)
   ·cases h2
   ·exact ⟨_, rfl, rfl, rfl⟩
  ·rintro ⟨w, rfl, rfl, rfl⟩
   exact .inr ⟨rfl, rfl⟩
 once := by simp
 done := by
  intro i w m j t _ _ h
  omega
theorem Bfs.found {G : Adj} {n start at' k : Nat} {W : List Way} {S : List (Bool × Bool)} (h : Bfs G n start at' k W S) {w : Way} (hw : w ∈ W) {t : Bool} (he : EG G w.role start t) (hs : (w.strict || t) = true) : Circ (EG G) := by
 have h1 := (h.sound w hw).1.snoc he
 rw [hs] at h1
 exact circ_iff.2 ⟨_, _, h1⟩
theorem Bfs.skip {G : Adj} {n start at' k : Nat} {W : List Way} {S : List (Bool × Bool)} (h : Bfs G n start at' k W S) {w : Way} (hw : W[at']? = some w) {j : Nat} {t : Bool}
  (hk : (adjAt G w.role)[k]? = some (j, t)) (hc : ¬ (j = start ∧ (w.strict || t) = true)) (hs : seenAt S j (w.strict || t) = true) : Bfs G n start at' (k + 1) W S :=
 { h with
  done := fun i w' m j' t' h1 h2 h3 => by
   by_cases he : i = at' ∧ m = k
   ·obtain ⟨rfl, rfl⟩ := he
    rw [hw] at h1; cases h1
    rw [hk] at h2; cases h2
    refine ⟨hc, ?_⟩
    obtain ⟨x, hx, e1, e2⟩ := (h.seen _ _).1 hs
    exact ⟨x, hx, e1, e2, h.bound w hw x hx⟩
   ·exact h.done i w' m j' t' h1 h2 (by omega) }
theorem Bfs.push {G : Adj} {n start at' k : Nat} {W : List Way} {S : List (Bool × Bool)} (h : Bfs G n start at' k W S) {w : Way} (hw : W[at']? = some w) {j : Nat} {t : Bool} (hj : j < n)
  (hk : (adjAt G w.role)[k]? = some (j, t)) (hc : ¬ (j = start ∧ (w.strict || t) = true)) (hs : seenAt S j (w.strict || t) = false) :
  Bfs G n start at' (k + 1) (W ++ [⟨j, w.strict || t, at', w.many + 1⟩]) (S.set j (markB ((S[j]?).getD (false, false)) (w.strict || t))) := by
 have hlt : at' < W.length := (List.getElem?_eq_some_iff.1 hw).1
 have hwm : w ∈ W := List.mem_of_getElem? hw
 have hg : ∀ (i : Nat) x, (W ++ [⟨j, w.strict || t, at', w.many + 1⟩])[i]? = some x → W[i]? = some x ∨ (i = W.length ∧ x = ⟨j, w.strict || t, at', w.many + 1⟩) := by
  intro i x hx
  rw [List.getElem?_append] at hx
  split at hx
  ·exact .inl hx
  ·rename_i hi
   have h2 := (List.getElem?_eq_some_iff.1 hx).1
   simp only [List.length_singleton] at h2
   have h3 : i = W.length := by omega
   subst h3
   simp only [Nat.sub_self, List.getElem?_cons_zero, Option.some.injEq] at hx
   exact .inr ⟨rfl, hx.symm⟩
 have hE : EG G w.role j t := List.mem_of_getElem? hk
 refine { len := by rw [List.length_set]; exact h.len, first := ?_, sound := ?_, before := ?_, mono := ?_, bound := ?_, seen := ?_, once := ?_, done := ?_ }
 ·rw [List.getElem?_append_left (by omega)]; exact h.first
 ·intro x hx
  rcases List.mem_append.1 hx with hx | hx
  ·exact h.sound x hx
  ·simp only [List.mem_singleton] at hx
   subst hx
   exact ⟨(h.sound w hwm).1.snoc hE, hj⟩
 ·intro i x hx h0
  rcases hg i x hx with hx | ⟨rfl, rfl⟩
  ·exact h.before i x hx h0
  ·exact hlt
 ·intro a b x y hab hx hy
  rcases hg b y hy with hy | ⟨rfl, rfl⟩
  ·rcases hg a x hx with hx | ⟨rfl, rfl⟩
   ·exact h.mono a b x y hab hx hy
   ·have := (List.getElem?_eq_some_iff.1 hy).1; omega
  ·rcases hg a x hx with hx | ⟨ha, rfl⟩
   ·exact h.bound w hw x (List.mem_of_getElem? hx)
   ·exact Nat.le_refl _
 ·intro x hx y hy
  rw [List.getElem?_append_left hlt, hw] at hx
  cases hx
  rcases List.mem_append.1 hy with hy | hy
  ·exact h.bound w hw y hy
  ·simp only [List.mem_singleton] at hy
   subst hy
   exact Nat.le_refl _
 ·intro v s
  rw [seen_set (by rw [h.len]; exact hj), h.seen]
  constructor
  ·rintro (⟨x, hx, e⟩ | ⟨rfl, rfl⟩)
   ·exact ⟨x, List.mem_append_left _ hx, e⟩
   ·exact ⟨_, List.mem_append_right _ (List.mem_singleton.2 rfl), rfl, rfl⟩
  ·rintro ⟨x, hx, e1, e2⟩
   rcases List.mem_append.1 hx with hx | hx
   ·exact .inl ⟨x, hx, e1, e2⟩
   ·simp only [List.mem_singleton] at hx
    subst hx
    exact .inr ⟨e1.symm, e2.symm⟩
 ·rw [List.map_append, List.nodup_append]
  refine ⟨h.once, by simp, ?_⟩
  intro a ha b hb hab
  subst hab
  simp only [List.map_cons, List.map_nil, List.mem_singleton] at hb
  subst hb
  obtain ⟨x, hx, he⟩ := List.mem_map.1 ha
  injection he with e1 e2
  have := (h.seen j (w.strict || t)).2 ⟨x, hx, e1, e2⟩
  rw [hs] at this; cases this
 ·intro i x m j' t' h1 h2 h3
  have hi : i ≤ at' := by omega
  rcases hg i x h1 with h1' | ⟨rfl, _⟩
  ·clear h1
   have h1 := h1'
   by_cases he : i = at' ∧ m = k
   ·obtain ⟨rfl, rfl⟩ := he
    rw [hw] at h1; cases h1
    rw [hk] at h2; cases h2
    exact ⟨hc, _, List.mem_append_right _ (List.mem_singleton.2 rfl), rfl, rfl, Nat.le_refl _⟩
   ·obtain ⟨e1, y, hy, e2⟩ := h.done i x m j' t' h1 h2 (by omega)
    exact ⟨e1, y, List.mem_append_left _ hy, e2⟩
  ·omega
theorem Bfs.next {G : Adj} {n start at' k : Nat} {W : List Way} {S : List (Bool × Bool)} (h : Bfs G n start at' k W S) {w : Way} (hw : W[at']? = some w) (hk : (adjAt G w.role).length ≤ k) : Bfs G n start (at' + 1) 0 W S :=
 { h with
  bound := fun x hx y hy => Nat.le_trans (h.bound w hw y hy) (Nat.succ_le_succ (h.mono _ _ _ _ (Nat.le_succ _) hw hx))
  done := fun i x m j t h1 h2 h3 => by
   refine h.done i x m j t h1 h2 ?_
   by_cases hi : i = at'
   ·subst hi
    rw [hw] at h1; cases h1
    have := (List.getElem?_eq_some_iff.1 h2).1
    exact .inr ⟨rfl, by omega⟩
   ·omega }
theorem Bfs.none {G : Adj} {n start at' : Nat} {W : List Way} {S : List (Bool × Bool)} (h : Bfs G n start at' 0 W S) {most : Nat} (hat : ∀ w, W[at']? = some w → most ≤ w.many + 1) :
  ∀ L w t, CW (EG G) L w t → w 0 = start → ¬ L < most := by
 have hp : ∀ (i : Nat) (w : Way), W[i]? = some w → w.many + 1 < most → i < at' := by
  intro i w hi hm
  by_cases h1 : i < at'
  ·exact h1
  ·have h2 : at' < W.length := by have := (List.getElem?_eq_some_iff.1 hi).1; omega
   have h3 := List.getElem?_eq_getElem h2
   have h4 := hat _ h3
   have h5 := h.mono at' i _ _ (by omega) h3 hi
   omega
 have key : ∀ k v s, Wlk (EG G) start k v s → k < most → ∃ (i : Nat) (w : Way), W[i]? = some w ∧ w.role = v ∧ w.strict = s ∧ w.many ≤ k := by
  intro k
  induction k with
  | zero =>
   intro v s hw _
   cases hw
   exact ⟨0, _, h.first, rfl, rfl, Nat.le_refl _⟩
  | succ k ih =>
   intro v s hw hk
   cases hw with
   | snoc hw he =>
    rename_i b s t
    obtain ⟨i, x, hi, e1, e2, e3⟩ := ih b s hw (by omega)
    obtain ⟨m, hm, hmt⟩ := List.getElem_of_mem he
    subst e1
    obtain ⟨_, y, hy, f1, f2, f3⟩ := h.done i x m v t hi (by rw [List.getElem?_eq_getElem hm, hmt]) (.inl (hp i x hi (by omega)))
    obtain ⟨q, hq, rfl⟩ := List.getElem_of_mem hy
    exact ⟨q, _, List.getElem?_eq_getElem hq, f1, by rw [f2, e2], by omega⟩
 intro L w t hc h0 hL
 obtain ⟨q, hq, hs⟩ := hc.strict
 have h1 := hc.wlk L (Nat.le_refl _)
 have hb := List.any_eq_true.2 ⟨q, List.mem_range.2 hq, hs⟩
 rw [hc.closed, h0] at h1
 generalize (List.range L).any t = sb at h1 hb
 generalize hst0 : start = fin at h1
 cases h1 with
 | nil => cases hb
 | snoc hw he =>
  subst hst0
  rename_i m b s t'
  obtain ⟨i, x, hi, e1, e2, e3⟩ := key m b s hw (by omega)
  obtain ⟨p, hpp, hmt⟩ := List.getElem_of_mem he
  subst e1
  exact (h.done i x p start t' hi (by rw [List.getElem?_eq_getElem hpp, hmt]) (.inl (hp i x hi (by omega)))).1 ⟨rfl, by rw [e2]; exact hb⟩
theorem Bfs.few {G : Adj} {n start at' k : Nat} {W : List Way} {S : List (Bool × Bool)} (h : Bfs G n start at' k W S) : W.length ≤ 2 * n := by
 have := nodup_le (W.map fun w => (w.role, w.strict)) ((List.range n).map (fun i => (i, false)) ++ (List.range n).map (fun i => (i, true))) h.once (by
  intro x hx
  obtain ⟨w, hw, rfl⟩ := List.mem_map.1 hx
  have := (h.sound w hw).2
  rw [List.mem_append]
  cases hs : w.strict
  ·exact .inl (List.mem_map.2 ⟨_, List.mem_range.2 this, rfl⟩)
  ·exact .inr (List.mem_map.2 ⟨_, List.mem_range.2 this, rfl⟩))
 simp at this
 omega
theorem Bfs.many {G : Adj} {n start at' k : Nat} {W : List Way} {S : List (Bool × Bool)} (h : Bfs G n start at' k W S) {w : Way} (hw : w ∈ W) {x : Way} (hx : W[at']? = some x) : w.many ≤ x.many + 1 := h.bound x hx w hw
theorem adj_lt {G : Adj} {i j : Nat} {t : Bool} (h : EG G i j t) : i < G.length := by
 unfold EG adjAt at h
 by_cases hi : i < G.length
 ·exact hi
 ·rw [getD_none (by omega)] at h; cases h
theorem circ_some {G : Adj} (h : Circ (EG G)) : ∃ L w t, CW (EG G) L w t ∧ w 0 < G.length ∧ L < G.length + 1 := by
 obtain ⟨L, w, t, hc, _, hi⟩ := h.least
 have h1 := inj_le (m := List.range G.length) hi fun i hi => List.mem_range.2 (adj_lt (hc.edge i hi))
 obtain ⟨q, hq, _⟩ := hc.strict
 exact ⟨L, w, t, hc, adj_lt (hc.edge 0 (by omega)), by simpa using Nat.lt_succ_of_le h1⟩
end Go.Proofs.YtnemengadjimcaaGreatDoor
namespace Go.Proofs.YtnemengadjimcaaGreatDoor
abbrev Str := List UInt8
abbrev Stp := Str × Str × Bool
abbrev Pth := List Str × Bool
def ET (T : List Stp) (a b : Str) (t : Bool) : Prop := (a, b, t) ∈ T
def lastP (p : Pth) : Str := (p.1[p.1.length - 1]?).getD []
structure PathOk (E : Str → Str → Bool → Prop) (s : Str) (n : Nat) (p : Pth) : Prop where
 ex : ∃ (w : Nat → Str) (t : Nat → Bool), p.1 = (List.range (n + 1)).map w ∧ w 0 = s ∧ (∀ i, i < n → E (w i) (w (i + 1)) (t i)) ∧ p.2 = (List.range n).any t
theorem PathOk.len {E : Str → Str → Bool → Prop} {s : Str} {n : Nat} {p : Pth} (h : PathOk E s n p) : p.1.length = n + 1 := by
 obtain ⟨w, t, h1, _⟩ := h.ex
 rw [h1]; simp
def key (n : Nat) (p : Pth) : Str × Bool := ((p.1[n]?).getD [], p.2)
theorem range_map_last {w : Nat → Str} {n : Nat} {b : Bool} : lastP ((List.range (n + 1)).map w, b) = w n := by
 unfold lastP
 simp
theorem PathOk.ext {T : List Stp} {s : Str} {n : Nat} {p : Pth} (h : PathOk (ET T) s n p) {k : Stp} (hk : k ∈ T) (h1 : k.1 = lastP p) : PathOk (ET T) s (n + 1) (p.1 ++ [k.2.1], p.2 || k.2.2) := by
 obtain ⟨w, t, e1, e2, e3, e4⟩ := h.ex
 have hl : lastP p = w n := by
  have : p = ((List.range (n + 1)).map w, p.2) := by rw [← e1]
  rw [this]; exact range_map_last
 refine ⟨fun i => if i ≤ n then w i else k.2.1, fun i => if i < n then t i else k.2.2, ?_, ?_, fun i hi => ?_, ?_⟩
 ·show p.1 ++ [k.2.1] = _
  rw [List.range_succ, List.map_append, e1]
  simp only [List.map_cons, List.map_nil]
  rw [if_neg (by omega)]
  congr 1
  refine List.map_congr_left fun i hi => ?_
  rw [if_pos (by have := List.mem_range.1 hi; omega)]
 ·show (if 0 ≤ n then w 0 else k.2.1) = s
  rw [if_pos (by omega), e2]
 ·show ET T (if i ≤ n then w i else k.2.1) (if i + 1 ≤ n then w (i + 1) else k.2.1) (if i < n then t i else k.2.2)
  by_cases hi' : i < n
  ·rw [if_pos (by omega), if_pos (by omega), if_pos hi']; exact e3 i hi'
  ·have : i = n := by omega
   subst this
   rw [if_pos (Nat.le_refl _), if_neg (by omega), if_neg hi', ← hl, ← h1]
   exact hk
 ·show (p.2 || k.2.2) = _
  rw [List.range_succ, List.any_append, e4]
  simp only [List.any_cons, List.any_nil, Bool.or_false, Nat.lt_irrefl, if_false]
  congr 1
  have : ∀ i ∈ List.range n, (if i < n then t i else k.2.2) = t i := fun i hi => if_pos (List.mem_range.1 hi)
  rw [Bool.eq_iff_iff, List.any_eq_true, List.any_eq_true]
  constructor
  ·rintro ⟨i, hi, h⟩; exact ⟨i, hi, by rw [this i hi]; exact h⟩
  ·rintro ⟨i, hi, h⟩; exact ⟨i, hi, by rw [← this i hi]; exact h⟩
end Go.Proofs.YtnemengadjimcaaGreatDoor
