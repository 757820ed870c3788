/-
  Terms: vocabularies are sorted without repetition, and are within one another as the law says.
  Conditions: none.
-/
import Derived.Test.YtkbmlchceiglfaaGreatDoorMBu
import Derived.Test.YtkbmlchceiglfaaGreatDoorMAv
namespace Go.Proofs.YtkbmlchceiglfaaGreatDoor
set_option linter.unnecessarySimpa false
set_option linter.unusedSectionVars false
set_option linter.unusedSimpArgs false
set_option linter.unusedVariables false
open Go.Proofs

theorem withinL_true {b : List (List UInt8)} : ∀ {l : List (List UInt8)} {p : Option (List UInt8)}, (∀ x ∈ l, x ∈ b) → l.Pairwise (fun x y => Op.bytesLess x y = true) → (∀ x ∈ l, upO p x = true) → withinL b l p = true
  | [], p, h, hs, hp => rfl
  | x :: r, p, h, hs, hp => by
    rw [withinL, decide_eq_true (h x (by simp)), hp x (by simp), Bool.true_and, Bool.true_and]
    rw [List.pairwise_cons] at hs
    exact withinL_true (fun y hy => h y (List.mem_cons_of_mem _ hy)) hs.2 fun y hy => hs.1 y hy

theorem sortK_strict {ks : List (List UInt8)} (h : ks.Nodup) : (sortK ks).Pairwise (fun x y => Op.bytesLess x y = true) := by
  have h1 : (sortK ks).Pairwise fun x y => decide (x ≤ y) = true := List.pairwise_mergeSort (le := fun x y => decide (x ≤ y)) (fun a b c h1 h2 => by simp only [decide_eq_true_eq] at *; exact List.le_trans h1 h2) (fun a b => by simp only [Bool.or_eq_true, decide_eq_true_eq]; exact List.le_total a b) ks
  have h2 : (sortK ks).Nodup := (List.mergeSort_perm _ _).nodup_iff.2 h
  refine (h1.and h2).imp ?_
  rintro x y ⟨h1, h2⟩
  rw [Go.Proofs.bytesLess_eq, decide_eq_true_eq]
  have h1 : x ≤ y := by simpa using h1
  refine Classical.byContradiction fun h3 => h2 (List.le_antisymm h1 (List.not_lt.1 h3))

theorem mem_sortK {ks : List (List UInt8)} {s : List UInt8} : s ∈ sortK ks ↔ s ∈ ks := List.mem_mergeSort

structure NdV (v : Nm) : Prop where
  a : v.a.Nodup
  b : v.b.Nodup
  c : v.c.Nodup
  d : v.d.Nodup

theorem addC_nd {v : Nm} {c : Cn} (h : NdV v) : NdV (addC v c) := by
  unfold addC
  split
  · exact ⟨addK_nodup h.a, h.b, h.c, h.d⟩
  · split
    · exact ⟨h.a, addK_nodup h.b, h.c, h.d⟩
    · split
      · exact ⟨h.a, h.b, addK_nodup h.c, h.d⟩
      · split
        · exact ⟨h.a, h.b, h.c, addK_nodup h.d⟩
        · exact h

theorem vocV_nd (l : List Ax) : NdV (vocV l) := by
  refine fold_inv (P := NdV) (add := addX) (fun v x h => ?_) l _ ⟨List.nodup_nil, List.nodup_nil, List.nodup_nil, List.nodup_nil⟩
  have hS : ∀ v c, NdV v → NdV (addS v c) := fun v c h => fold_inv (P := NdV) (add := addC) (fun v c h => addC_nd h) (nodes c) v h
  have hR : ∀ v s, NdV v → NdV (addR v s) := fun v s h => ⟨h.a, addK_nodup h.b, h.c, h.d⟩
  have hI : ∀ v s, NdV v → NdV (addI v s) := fun v s h => ⟨h.a, h.b, h.c, addK_nodup h.d⟩
  exact hI _ _ (hI _ _ (hR _ _ (fold_inv (P := NdV) (add := addR) (fun v s h => hR v s h) x.roles _ (fold_inv (P := NdV) (add := addS) (fun v s h => hS v s h) [x.left, x.right] v h))))

def lst (v : Nm) : Nat → List (List UInt8)
  | 0 => v.a
  | 1 => v.b
  | 2 => v.c
  | _ => v.d

def axI (x : Ax) (s : List UInt8) : Nat → Prop
  | 0 => axA x s
  | 1 => axB x s ∧ s ≠ []
  | 2 => axC x s
  | _ => axD x s ∧ s ≠ []

theorem mem_lst (l : List Ax) (i : Nat) (s : List UInt8) : s ∈ lst (vocN l) i ↔ ∃ x ∈ l, axI x s i := by
  have hn := vocV_nd l
  match i with
  | 0 => exact mem_sortK.trans (voc_a l s)
  | 1 =>
    refine mem_sortK.trans ?_
    rw [hn.b.mem_erase_iff, voc_b]
    exact ⟨fun ⟨h, x, hx, h'⟩ => ⟨x, hx, h', h⟩, fun ⟨x, hx, h', h⟩ => ⟨h, x, hx, h'⟩⟩
  | 2 => exact mem_sortK.trans (voc_c l s)
  | n + 3 =>
    refine mem_sortK.trans ?_
    rw [hn.d.mem_erase_iff, voc_d]
    exact ⟨fun ⟨h, x, hx, h'⟩ => ⟨x, hx, h', h⟩, fun ⟨x, hx, h', h⟩ => ⟨h, x, hx, h'⟩⟩

theorem lst_strict (l : List Ax) (i : Nat) : (lst (vocN l) i).Pairwise (fun x y => Op.bytesLess x y = true) := by
  have hn := vocV_nd l
  match i with
  | 0 => exact sortK_strict hn.a
  | 1 => exact sortK_strict (hn.b.erase _)
  | 2 => exact sortK_strict hn.c
  | n + 3 => exact sortK_strict (hn.d.erase _)

theorem lst_within {l : List Ax} {i : Nat} {b : List (List UInt8)} (h : ∀ x ∈ l, ∀ s, axI x s i → s ∈ b) : withinR b none (lst (vocN l) i) = true := by
  refine withinL_true (fun s hs => ?_) (lst_strict l i) fun _ _ => rfl
  obtain ⟨x, hx, hs⟩ := (mem_lst l i s).1 hs
  exact h x hx s hs

theorem within_left (l m : List Ax) (i : Nat) : withinR (lst (vocN (l ++ m)) i) none (lst (vocN l) i) = true :=
  lst_within fun x hx s hs => (mem_lst _ i s).2 ⟨x, List.mem_append_left _ hx, hs⟩
theorem within_right (l m : List Ax) (i : Nat) : withinR (lst (vocN (l ++ m)) i) none (lst (vocN m) i) = true :=
  lst_within fun x hx s hs => (mem_lst _ i s).2 ⟨x, List.mem_append_right _ hx, hs⟩
theorem within_both (l m : List Ax) (i : Nat) : withinR (lst (vocN l) i ++ lst (vocN m) i) none (lst (vocN (l ++ m)) i) = true :=
  lst_within fun x hx s hs => by
    rcases List.mem_append.1 hx with hx | hx
    · exact List.mem_append_left _ ((mem_lst _ i s).2 ⟨x, hx, hs⟩)
    · exact List.mem_append_right _ ((mem_lst _ i s).2 ⟨x, hx, hs⟩)

theorem axI_name {x : Ax} (h : axiomE x = 0) (i : Nat) {s : List UInt8} (hs : axI x s i) : nameF s = true := by
  obtain ⟨h1, h2, h3, h4⟩ := ax_names h
  match i, hs with
  | 0, hs => exact h1 s hs
  | 1, hs => exact (h2 s hs.1).resolve_left hs.2
  | 2, hs => exact h3 s hs
  | n + 3, hs => exact (h4 s hs.1).resolve_left hs.2

theorem axI_tidy {x : Ax} (h : (tidyA x).2 = 0) (i : Nat) {s : List UInt8} (hs : axI (tidyA x).1 s i) : axI x s i := by
  obtain ⟨_, _, h3⟩ := axiom_tidy h
  match i, hs with
  | 0, hs => exact h3.a s hs
  | 1, hs => exact ⟨h3.b s hs.1, hs.2⟩
  | 2, hs => exact h3.c s hs
  | n + 3, hs => exact ⟨h3.d s hs.1, hs.2⟩

theorem within_tidy {l : List Ax} {x : Ax} (hx : x ∈ l) (h : (tidyA x).2 = 0) (i : Nat) : withinR (lst (vocN l) i) none (lst (vocN [(tidyA x).1]) i) = true :=
  lst_within fun y hy s hs => by
    simp only [List.mem_singleton] at hy
    subst hy
    exact (mem_lst _ i s).2 ⟨x, hx, axI_tidy h i hs⟩

theorem firstA_app : ∀ (l m : List Ax), firstA (l ++ m) = if firstA l ≠ 0 then firstA l else firstA m
  | [], m => by simp [firstA]
  | x :: r, m => by
    rw [List.cons_append, firstA, firstA, firstA_app r m]
    split <;> rfl

theorem firstA_iff : ∀ (l : List Ax), firstA l = 0 ↔ ∀ x ∈ l, axiomE x = 0
  | [] => by simp [firstA]
  | x :: r => by
    rw [firstA]
    have := firstA_iff r
    split <;> rename_i h
    · simp [h]
    · have h : axiomE x = 0 := by simpa using h
      simp [h, this]

theorem lst_names {l : List Ax} (h : firstA l = 0) (i : Nat) {s : List UInt8} (hs : s ∈ lst (vocN l) i) : nameF s = true := by
  obtain ⟨x, hx, hs⟩ := (mem_lst l i s).1 hs
  exact axI_name ((firstA_iff l).1 h x hx) i hs
end Go.Proofs.YtkbmlchceiglfaaGreatDoor
