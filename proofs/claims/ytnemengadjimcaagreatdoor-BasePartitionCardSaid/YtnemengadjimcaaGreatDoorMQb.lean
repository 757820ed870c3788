/-
  Rename: the laws of axioms with other names, plainly. Bases, plainly: what New makes of axioms, what Check says, and what that means.
  Conditions: none.
-/
import Derived.Test.YtnemengadjimcaaGreatDoorMRu
import Derived.Test.YtnemengadjimcaaGreatDoorMBr
import Derived.Test.YtnemengadjimcaaGreatDoorMQs
set_option linter.unnecessarySimpa false
set_option linter.unusedSectionVars false
set_option linter.unusedSimpArgs false
set_option linter.unusedVariables false
namespace Go.Proofs.YtnemengadjimcaaGreatDoor
open Go.Proofs
end Go.Proofs.YtnemengadjimcaaGreatDoor
namespace Go.Proofs.YtnemengadjimcaaGreatDoor
open Go.Proofs
theorem cmpAx_self (x : Ax) : cmpAx x x = 0 := by have := cmpAx_lc.anti x x; omega
theorem cmpAx_irr (x : Ax) : ¬ cmpAx x x < 0 := by rw [cmpAx_self]; omega
theorem cmpAx_tr {x y z : Ax} (h1 : cmpAx x y < 0) (h2 : cmpAx y z < 0) : cmpAx x z < 0 := (cmpAx_lc.t3 x y z).1 h1 h2
def erA (x : Ax) : Ax := { x with isopen := false }
theorem like_iff {x y : Ax} : cmpAx x y = 0 ↔ erA x = erA y := by
 rw [cmpAx_zero]
 constructor
 ·intro h; rw [h]; rfl
 ·intro h
  obtain ⟨k, o, l, r, rs, ro, a, b⟩ := x
  obtain ⟨k', o', l', r', rs', ro', a', b'⟩ := y
  simp only [erA, Ax.mk.injEq] at h ⊢
  obtain ⟨h1, _, h2⟩ := h
  exact ⟨h1, trivial, h2⟩
theorem cmp_er (x y : Ax) : cmpAx (erA x) (erA y) = cmpAx x y := rfl
theorem eq_of_er {x y : Ax} (h : erA x = erA y) (ho : x.isopen = y.isopen) : x = y := by
 obtain ⟨k, o, l, r, rs, ro, a, b⟩ := x
 obtain ⟨k', o', l', r', rs', ro', a', b'⟩ := y
 simp only [erA, Ax.mk.injEq] at h ⊢
 obtain ⟨h1, _, h2⟩ := h
 exact ⟨h1, ho, h2⟩
theorem cmp_congr {x y x' y' : Ax} (h1 : erA x = erA x') (h2 : erA y = erA y') : cmpAx x y = cmpAx x' y' := by rw [← cmp_er, h1, h2, cmp_er]
def eqA (x y : Ax) : Bool := decide (x.isopen = y.isopen) && decide (cmpAx x y = 0)
theorem eqA_iff {x y : Ax} : eqA x y = true ↔ x = y := by
 unfold eqA
 rw [Bool.and_eq_true, decide_eq_true_eq, decide_eq_true_eq, like_iff]
 exact ⟨fun h => eq_of_er h.2 h.1, fun h => by rw [h]; exact ⟨rfl, rfl⟩⟩
theorem step_er {x y : Ax} (h : erA x = erA y) : stepsA x = stepsA y := by
 have h1 : stepsA x = stepsA (erA x) := rfl
 have h2 : stepsA y = stepsA (erA y) := rfl
 rw [h1, h2, h]
abbrev StrA (l : List Ax) : Prop := l.Pairwise fun x y => cmpAx x y < 0
theorem strA_unique {l m : List Ax} (h1 : StrA l) (h2 : StrA m) (h : ∀ x, x ∈ l ↔ x ∈ m) : l = m := pw_unique (R := fun x y => cmpAx x y < 0) cmpAx_irr (fun x y z => cmpAx_tr) h1 h2 h
theorem strA_er {l : List Ax} (h : StrA l) : StrA (l.map erA) := by
 rw [StrA, List.pairwise_map]; exact h
theorem strA_one {l : List Ax} (h : StrA l) {x y : Ax} (hx : x ∈ l) (hy : y ∈ l) (e : cmpAx x y = 0) : x = y := by
 obtain ⟨i, hi, rfl⟩ := List.getElem_of_mem hx
 obtain ⟨j, hj, rfl⟩ := List.getElem_of_mem hy
 have hp := List.pairwise_iff_getElem.1 h
 rcases Nat.lt_trichotomy i j with hij | hij | hij
 ·have := hp i j hi hj hij; omega
 ·subst hij; rfl
 ·have := hp j i hj hi hij
  have := cmpAx_lc.anti l[i] l[j]
  omega
structure NewOf (tl b : List Ax) : Prop where
 str : StrA b
 mem : ∀ x ∈ b, ∃ y ∈ tl, cmpAx x y = 0
 all : ∀ y ∈ tl, ∃ x ∈ b, cmpAx x y = 0
 opn : ∀ x ∈ b, (x.isopen = true ↔ ∃ y ∈ tl, cmpAx x y = 0 ∧ y.isopen = true)
theorem NewOf.congr {tl tl' b : List Ax} (h : NewOf tl b) (he : ∀ x, x ∈ tl ↔ x ∈ tl') : NewOf tl' b where
 str := h.str
 mem := fun x hx => by obtain ⟨y, h1, h2⟩ := h.mem x hx; exact ⟨y, (he y).1 h1, h2⟩
 all := fun y hy => h.all y ((he y).2 hy)
 opn := fun x hx => (h.opn x hx).trans ⟨fun ⟨y, h1, h2⟩ => ⟨y, (he y).1 h1, h2⟩, fun ⟨y, h1, h2⟩ => ⟨y, (he y).2 h1, h2⟩⟩
theorem NewOf.sub {tl b b' : List Ax} (h : NewOf tl b) (h' : NewOf tl b') : ∀ x ∈ b, x ∈ b' := by
 intro x hx
 obtain ⟨y, hy, e⟩ := h.mem x hx
 obtain ⟨x', hx', e'⟩ := h'.all y hy
 have he : erA x = erA x' := (like_iff.1 e).trans (like_iff.1 e').symm
 have ho : x.isopen = x'.isopen := by
  rw [Bool.eq_iff_iff, h.opn x hx, h'.opn x' hx']
  exact ⟨fun ⟨z, h1, h2, h3⟩ => ⟨z, h1, by rw [like_iff, ← he]; exact like_iff.1 h2, h3⟩, fun ⟨z, h1, h2, h3⟩ => ⟨z, h1, by rw [like_iff, he]; exact like_iff.1 h2, h3⟩⟩
 rw [eq_of_er he ho]
 exact hx'
theorem NewOf.unique {tl b b' : List Ax} (h : NewOf tl b) (h' : NewOf tl b') : b = b' := strA_unique h.str h'.str fun x => ⟨h.sub h' x, h'.sub h x⟩
def mergS (b : List Ax) (a : Ax) : List Ax :=
 match b.getLast? with
 | some z => if cmpAx z a = 0 then b.dropLast ++ [{ z with isopen := z.isopen || a.isopen }] else b ++ [a]
 | none => [a]
def mergA (l : List Ax) : List Ax := l.foldl mergS []
theorem mergA_snoc (l : List Ax) (a : Ax) : mergA (l ++ [a]) = mergS (mergA l) a := by simp [mergA]
theorem mergA_take {l : List Ax} {j : Nat} (h : j < l.length) : mergA (l.take (j + 1)) = mergS (mergA (l.take j)) l[j] := by
 rw [List.take_succ_eq_append_getElem h, mergA_snoc]
theorem mergS_len (b : List Ax) (a : Ax) : (mergS b a).length ≤ b.length + 1 := by
 unfold mergS
 split
 ·split
  ·simp only [List.length_append, List.length_dropLast, List.length_singleton]; omega
  ·simp
 ·simp
theorem mergA_len : ∀ (l : List Ax), (mergA l).length ≤ l.length := by
 intro l
 have key : ∀ (l b : List Ax), (l.foldl mergS b).length ≤ b.length + l.length := by
  intro l
  induction l with
  | nil => intro b; simp
  | cons a r ih =>
   intro b
   have h1 := ih (mergS b a)
   have h2 := mergS_len b a
   rw [List.foldl_cons, List.length_cons]; omega
 have := key l []
 simpa [mergA] using this
theorem mergA_of : ∀ (n : Nat) (l : List Ax), l.length = n → (l.Pairwise fun x y => ¬ cmpAx y x < 0) → NewOf l (mergA l) := by
 intro n
 induction n with
 | zero =>
  intro l hl _
  have : l = [] := List.length_eq_zero_iff.1 hl
  subst this
  exact ⟨.nil, by simp [mergA], by simp, by simp [mergA]⟩
 | succ n ih =>
  intro l hl hs
  obtain ⟨l', a, rfl⟩ : ∃ l' a, l = l' ++ [a] := by
   rcases List.eq_nil_or_concat l with h | ⟨l', a, h⟩
   ·rw [h] at hl; simp at hl
   ·exact ⟨l', a, by rw [h, List.concat_eq_append]⟩
  rw [List.pairwise_append] at hs
  obtain ⟨s1, _, s2⟩ := hs
  have h := ih l' (by simpa using hl) s1
  rw [mergA_snoc]
  generalize mergA l' = b at h
  -- all of b is at most a
  have hle : ∀ x ∈ b, cmpAx x a ≤ 0 := by
   intro x hx
   obtain ⟨y, hy, e⟩ := h.mem x hx
   have h1 := s2 y hy a (by simp)
   have h2 := cmpAx_lc.anti y a
   rw [cmp_congr (like_iff.1 e) rfl]
   omega
  unfold mergS
  rcases List.eq_nil_or_concat b with hb | ⟨b0, z, hb⟩
  ·subst hb
   have hl' : l' = [] := by
    cases l' with
    | nil => rfl
    | cons y r => obtain ⟨x, hx, _⟩ := h.all y (by simp); cases hx
   subst hl'
   refine ⟨by simp, fun x hx => ⟨a, by simp, ?_⟩, fun y hy => ⟨a, by simp, ?_⟩, fun x hx => ?_⟩
   ·simp at hx; subst hx; exact cmpAx_self _
   ·simp at hy; subst hy; exact cmpAx_self _
   ·simp at hx; subst hx
    simp [cmpAx_self]
  ·rw [List.concat_eq_append] at hb
   subst hb
   simp only [List.getLast?_append, List.getLast?_singleton, Option.some_or, List.dropLast_concat]
   have hst := h.str
   rw [StrA, List.pairwise_append] at hst
   obtain ⟨t1, _, t2⟩ := hst
   by_cases hz : cmpAx z a = 0
   ·rw [if_pos hz]
    have hez : erA { z with isopen := z.isopen || a.isopen } = erA z := rfl
    have hza : erA z = erA a := like_iff.1 hz
    refine ⟨?_, ?_, ?_, ?_⟩
    ·rw [StrA, List.pairwise_append]
     exact ⟨t1, by simp, fun x hx y hy => by simp at hy; subst hy; exact t2 x hx z (by simp)⟩
    ·intro x hx
     rcases List.mem_append.1 hx with hx | hx
     ·obtain ⟨y, hy, e⟩ := h.mem x (List.mem_append_left _ hx)
      exact ⟨y, List.mem_append_left _ hy, e⟩
     ·simp at hx; subst hx
      exact ⟨a, by simp, hz⟩
    ·intro y hy
     rcases List.mem_append.1 hy with hy | hy
     ·obtain ⟨x, hx, e⟩ := h.all y hy
      rcases List.mem_append.1 hx with hx | hx
      ·exact ⟨x, List.mem_append_left _ hx, e⟩
      ·simp at hx; subst hx
       exact ⟨_, List.mem_append_right _ (List.mem_singleton.2 rfl), e⟩
     ·simp at hy; subst hy
      exact ⟨_, List.mem_append_right _ (List.mem_singleton.2 rfl), hz⟩
    ·intro x hx
     rcases List.mem_append.1 hx with hx2 | hx
     ·rw [h.opn x (List.mem_append_left _ hx2)]
      constructor
      ·rintro ⟨y, h1, h2, h3⟩; exact ⟨y, List.mem_append_left _ h1, h2, h3⟩
      ·rintro ⟨y, h1, h2, h3⟩
       rcases List.mem_append.1 h1 with h1 | h1
       ·exact ⟨y, h1, h2, h3⟩
       ·simp at h1; subst h1
        have h4 := t2 x hx2 z (by simp)
        rw [cmp_congr rfl hza] at h4
        omega
     ·simp at hx; subst hx
      have h1 := h.opn z (by simp)
      constructor
      ·intro ho
       rcases Bool.or_eq_true _ _ ▸ ho with ho | ho
       ·obtain ⟨y, q1, q2, q3⟩ := h1.1 ho
        exact ⟨y, List.mem_append_left _ q1, q2, q3⟩
       ·exact ⟨a, by simp, hz, ho⟩
      ·rintro ⟨y, q1, q2, q3⟩
       show (z.isopen || a.isopen) = true
       rw [Bool.or_eq_true]
       rcases List.mem_append.1 q1 with q1 | q1
       ·exact .inl (h1.2 ⟨y, q1, q2, q3⟩)
       ·simp at q1; subst q1; exact .inr q3
   ·rw [if_neg hz]
    have hlt : cmpAx z a < 0 := by have := hle z (by simp); omega
    have hall : ∀ x ∈ b0 ++ [z], cmpAx x a < 0 := by
     intro x hx
     rcases List.mem_append.1 hx with hx | hx
     ·exact cmpAx_tr (t2 x hx z (by simp)) hlt
     ·simp at hx; subst hx; exact hlt
    refine ⟨?_, ?_, ?_, ?_⟩
    ·rw [StrA, List.pairwise_append]
     exact ⟨h.str, by simp, fun x hx y hy => by simp at hy; subst hy; exact hall x hx⟩
    ·intro x hx
     rcases List.mem_append.1 hx with hx | hx
     ·obtain ⟨y, hy, e⟩ := h.mem x hx
      exact ⟨y, List.mem_append_left _ hy, e⟩
     ·simp at hx; subst hx
      exact ⟨x, by simp, cmpAx_self _⟩
    ·intro y hy
     rcases List.mem_append.1 hy with hy | hy
     ·obtain ⟨x, hx, e⟩ := h.all y hy
      exact ⟨x, List.mem_append_left _ hx, e⟩
     ·simp at hy; subst hy
      exact ⟨y, by simp, cmpAx_self _⟩
    ·intro x hx
     rcases List.mem_append.1 hx with hx2 | hx
     ·rw [h.opn x hx2]
      constructor
      ·rintro ⟨y, h1, h2, h3⟩; exact ⟨y, List.mem_append_left _ h1, h2, h3⟩
      ·rintro ⟨y, h1, h2, h3⟩
       rcases List.mem_append.1 h1 with h1 | h1
       ·exact ⟨y, h1, h2, h3⟩
       ·simp at h1; subst h1
        have := hall x hx2; omega
     ·simp at hx; subst hx
      constructor
      ·intro ho; exact ⟨x, by simp, cmpAx_self _, ho⟩
      ·rintro ⟨y, h1, h2, h3⟩
       rcases List.mem_append.1 h1 with h1 | h1
       ·obtain ⟨x', q1, q2⟩ := h.all y h1
        have h4 := hall x' q1
        rw [cmp_congr ((like_iff.1 q2).trans (like_iff.1 h2).symm) rfl, cmpAx_self] at h4
        omega
       ·simp at h1; subst h1; exact h3
theorem srtA_of (l : List Ax) : (l.mergeSort fun x y => decide (cmpAx x y ≤ 0)).Pairwise fun x y => ¬ cmpAx y x < 0 := by
 have h := List.pairwise_mergeSort (le := fun x y => decide (cmpAx x y ≤ 0)) (fun a b c h1 h2 => by
  have h1 := of_decide_eq_true h1
  have h2 := of_decide_eq_true h2
  refine decide_eq_true ?_
  rcases Int.lt_or_eq_of_le h1 with h1 | h1
  ·rcases Int.lt_or_eq_of_le h2 with h2 | h2
   ·have := cmpAx_tr h1 h2; omega
   ·rw [← cmp_congr rfl (like_iff.1 h2)]; omega
  ·rw [cmp_congr (like_iff.1 h1) rfl]; exact h2) (fun a b => by
  have := cmpAx_lc.anti a b
  by_cases h : cmpAx a b ≤ 0
  ·simp [h]
  ·have : cmpAx b a ≤ 0 := by omega
   simp [this]) l
 refine h.imp fun {x y} h => ?_
 have h := of_decide_eq_true h
 have := cmpAx_lc.anti x y
 omega
def newB (tl : List Ax) : List Ax := mergA (tl.mergeSort fun x y => decide (cmpAx x y ≤ 0))
theorem newB_of (tl : List Ax) : NewOf tl (newB tl) := (mergA_of _ _ rfl (srtA_of tl)).congr fun x => (List.mergeSort_perm tl _).mem_iff
theorem newB_any {tl S : List Ax} (hp : S.Perm tl) (hs : S.Pairwise fun x y => ¬ cmpAx y x < 0) : mergA S = newB tl :=
 ((mergA_of _ _ rfl hs).congr fun x => hp.mem_iff).unique (newB_of tl)
theorem newB_eq {tl tl' : List Ax} (h : ∀ x, x ∈ tl ↔ x ∈ tl') : newB tl = newB tl' := ((newB_of tl).congr h).unique (newB_of tl')
def roleA (x : Ax) : Bool := decide (x.kind = 5) || (decide (x.kind = 6) || decide (x.kind = 7))
def firstB : List Ax → Int
 | [] => 0
 | x :: r => if (tidyA x).2 ≠ 0 then (tidyA x).2 else if eqA x (tidyA x).1 = false then 22 else firstB r
def sortedB : List Ax → Bool
 | x :: y :: r => decide (cmpAx x y = -1) && sortedB (y :: r)
 | _ => true
def secretB (x : Ax) : Bool := roleA x && !x.isopen
noncomputable def checkB (l : List Ax) : Int :=
 if firstB l ≠ 0 then firstB l else if sortedB l = false then 70 else if 1024 < l.length then 2 else if l.any secretB = true then 71 else rolesE l
theorem firstB_iff : ∀ (l : List Ax), firstB l = 0 ↔ ∀ x ∈ l, tidyA x = (x, 0)
 | [] => by simp [firstB]
 | x :: r => by
  rw [firstB]
  have ih := firstB_iff r
  constructor
  ·intro h y hy
   split at h
   ·rename_i h1; exact absurd h h1
   ·rename_i h1
    split at h
    ·simp at h
    ·rename_i h2
     rcases List.mem_cons.1 hy with rfl | hy
     ·have := eqA_iff.1 (by simpa using h2 : eqA y (tidyA y).1 = true)
      exact Prod.ext this.symm (by simpa using h1)
     ·exact ih.1 h y hy
  ·intro h
   have hx := h x (by simp)
   rw [if_neg (by rw [hx]; simp), if_neg (by rw [hx, eqA_iff.2 rfl]; simp)]
   exact ih.2 fun y hy => h y (List.mem_cons_of_mem _ hy)
theorem sortedB_iff : ∀ (l : List Ax), sortedB l = true ↔ StrA l
 | [] => by simp [sortedB]
 | [x] => by simp [sortedB]
 | x :: y :: r => by
  rw [sortedB, Bool.and_eq_true, decide_eq_true_eq, sortedB_iff (y :: r)]
  constructor
  ·rintro ⟨h1, h2⟩
   refine List.pairwise_cons.2 ⟨fun z hz => ?_, h2⟩
   rcases List.mem_cons.1 hz with rfl | hz
   ·omega
   ·exact cmpAx_tr (by omega) ((List.pairwise_cons.1 h2).1 z hz)
  ·intro h
   obtain ⟨h1, h2⟩ := List.pairwise_cons.1 h
   have := h1 y (by simp)
   have := cmpAx_lc.rng x y
   exact ⟨by omega, h2⟩
structure BaseOk (l : List Ax) : Prop where
 tidy : ∀ x ∈ l, tidyA x = (x, 0)
 str : StrA l
 few : l.length ≤ 1024
 open_ : ∀ x ∈ l, roleA x = true → x.isopen = true
 circ : ¬ Circ (ET (stepsL l))
theorem tidyA_valid {x : Ax} (h : (tidyA x).2 = 0) : axiomE x = 0 := by
 unfold tidyA at h
 split at h
 ·rename_i h1; exact absurd h h1
 ·rename_i h1; simpa using h1
theorem rolesE_zero {l : List Ax} (h : ∀ x ∈ l, axiomE x = 0) : rolesE l = 0 ↔ ¬ Circ (ET (stepsL l)) := by
 unfold rolesE
 rw [if_neg (by rw [firstA_ok h]; simp)]
 split
 ·rename_i h1; simp [h1]
 ·rename_i h1; simp [h1]
theorem checkB_iff (l : List Ax) : checkB l = 0 ↔ BaseOk l := by
 unfold checkB
 constructor
 ·intro h
  split at h
  ·rename_i h1; exact absurd h h1
  ·rename_i h1
   have h1 := (firstB_iff l).1 (by simpa using h1)
   split at h
   ·simp at h
   ·rename_i h2
    have h2 := (sortedB_iff l).1 (by simpa using h2)
    split at h
    ·simp at h
    ·rename_i h3
     split at h
     ·simp at h
     ·rename_i h4
      refine ⟨h1, h2, by omega, fun x hx hr => ?_, (rolesE_zero fun x hx => tidyA_valid (by rw [h1 x hx])).1 h⟩
      refine Decidable.byContradiction fun ho => h4 (List.any_eq_true.2 ⟨x, hx, ?_⟩)
      unfold secretB
      rw [hr]
      simpa using ho
 ·rintro ⟨h1, h2, h3, h4, h5⟩
  rw [if_neg (by rw [(firstB_iff l).2 h1]; simp), if_neg (by rw [(sortedB_iff l).2 h2]; simp), if_neg (by omega), if_neg ?_]
  ·exact (rolesE_zero fun x hx => tidyA_valid (by rw [h1 x hx])).2 h5
  ·intro h
   obtain ⟨x, hx, hs⟩ := List.any_eq_true.1 h
   unfold secretB at hs
   rw [Bool.and_eq_true] at hs
   have := h4 x hx hs.1
   rw [this] at hs
   exact absurd hs.2 (by decide)
def tidE : List Ax → Int
 | [] => 0
 | x :: r => if (tidyA x).2 ≠ 0 then (tidyA x).2 else tidE r
def tidM (l : List Ax) : List Ax := l.map fun x => (tidyA x).1
noncomputable def newE (l : List Ax) : List Ax × Int :=
 if tidE l ≠ 0 then ([], tidE l) else if checkB (newB (tidM l)) ≠ 0 then ([], checkB (newB (tidM l))) else (newB (tidM l), 0)
theorem tidE_iff : ∀ (l : List Ax), tidE l = 0 ↔ ∀ x ∈ l, (tidyA x).2 = 0
 | [] => by simp [tidE]
 | x :: r => by
  rw [tidE]
  have ih := tidE_iff r
  constructor
  ·intro h y hy
   split at h
   ·rename_i h1; exact absurd h h1
   ·rename_i h1
    rcases List.mem_cons.1 hy with rfl | hy
    ·simpa using h1
    ·exact ih.1 h y hy
  ·intro h
   rw [if_neg (by simp [h x (by simp)])]
   exact ih.2 fun y hy => h y (List.mem_cons_of_mem _ hy)
theorem tidE_err : ∀ {l : List Ax} {j : Nat} (h : j < l.length), (∀ x ∈ l.take j, (tidyA x).2 = 0) → (tidyA l[j]).2 ≠ 0 → tidE l = (tidyA l[j]).2
 | x :: r, 0, _, _, h => by rw [tidE]; exact if_pos h
 | x :: r, j + 1, hl, hz, h => by
  rw [tidE, if_neg (by simp [hz x (by simp)])]
  exact tidE_err (l := r) (j := j) (by simpa using hl) (fun y hy => hz y (by rw [List.take_succ_cons]; exact List.mem_cons_of_mem _ hy)) h
theorem circ_er {l m : List Ax} (h : ∀ x ∈ l, ∃ y ∈ m, cmpAx x y = 0) (hc : Circ (ET (stepsL l))) : Circ (ET (stepsL m)) := by
 refine Circ.mono ?_ hc
 intro a b t hk
 obtain ⟨x, hx, hk⟩ := List.mem_flatMap.1 hk
 obtain ⟨y, hy, e⟩ := h x hx
 refine ⟨t, List.mem_flatMap.2 ⟨y, hy, ?_⟩, id⟩
 rw [← step_er (like_iff.1 e)]
 exact hk
end Go.Proofs.YtnemengadjimcaaGreatDoor
