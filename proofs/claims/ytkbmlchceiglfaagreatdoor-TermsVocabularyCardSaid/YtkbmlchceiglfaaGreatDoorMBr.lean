/-
  Terms: the vocabulary, plainly: whose names it holds.
  Conditions: none.
-/
import Derived.Test.YtkbmlchceiglfaaGreatDoorMAq
namespace Go.Proofs.YtkbmlchceiglfaaGreatDoor
set_option linter.unnecessarySimpa false
set_option linter.unusedSectionVars false
set_option linter.unusedSimpArgs false
set_option linter.unusedVariables false
open Go.Proofs

theorem addK_mem {ks : List (List UInt8)} {k s : List UInt8} : s ∈ addK ks k ↔ s ∈ ks ∨ k = s := by
  unfold addK
  split
  · rename_i h
    constructor
    · exact .inl
    · rintro (h1 | rfl)
      · exact h1
      · simpa using h
  · simp [eq_comm]

theorem addK_nodup {ks : List (List UInt8)} {k : List UInt8} (h : ks.Nodup) : (addK ks k).Nodup := by
  unfold addK
  split
  · exact h
  · rename_i hk
    rw [List.nodup_append]
    refine ⟨h, by simp, ?_⟩
    intro a ha b hb e
    simp at hb
    subst hb; subst e
    exact hk (by simpa using ha)

/-- The members of a set that is gathered step by step. -/
theorem fold_mem {α β : Type} {pr : α → List (List UInt8)} {add : α → β → α} {Q : β → List UInt8 → Prop} (h : ∀ v x s, s ∈ pr (add v x) ↔ s ∈ pr v ∨ Q x s) : ∀ (l : List β) (v : α) (s : List UInt8), s ∈ pr (l.foldl add v) ↔ s ∈ pr v ∨ ∃ x ∈ l, Q x s
  | [], v, s => by simp
  | x :: l, v, s => by
    rw [List.foldl_cons, fold_mem h l, h]
    simp [or_assoc]

theorem fold_inv {α β : Type} {P : α → Prop} {add : α → β → α} (h : ∀ v x, P v → P (add v x)) : ∀ (l : List β) (v : α), P v → P (l.foldl add v)
  | [], v, hv => hv
  | x :: l, v, hv => fold_inv h l _ (h v x hv)

def hasK (k : Int) (c : Cn) (s : List UInt8) : Prop := ∃ n ∈ nodes c, n.kind = k ∧ n.name = s

theorem addC_a {v : Nm} {c : Cn} {s : List UInt8} : s ∈ (addC v c).a ↔ s ∈ v.a ∨ (c.kind = 3 ∧ c.name = s) := by
  unfold addC
  split
  · rename_i h; rw [addK_mem]; simp [h]
  · split
    · simp_all
    · split
      · simp_all
      · split <;> simp_all
theorem addC_b {v : Nm} {c : Cn} {s : List UInt8} : s ∈ (addC v c).b ↔ s ∈ v.b ∨ (c.kind = 6 ∧ c.name = s) := by
  unfold addC
  split
  · rename_i h; simp [h]
  · split
    · rename_i h; rw [addK_mem]; simp [h]
    · split
      · simp_all
      · split <;> simp_all
theorem addC_c {v : Nm} {c : Cn} {s : List UInt8} : s ∈ (addC v c).c ↔ s ∈ v.c ∨ (c.kind = 7 ∧ c.name = s) := by
  unfold addC
  split
  · rename_i h; simp [h]
  · split
    · rename_i h; simp [h]
    · split
      · rename_i h; rw [addK_mem]; simp [h]
      · split <;> simp_all
theorem addC_d {v : Nm} {c : Cn} {s : List UInt8} : s ∈ (addC v c).d ↔ s ∈ v.d ∨ (c.kind = 4 ∧ c.name = s) := by
  unfold addC
  split
  · rename_i h; simp [h]
  · split
    · rename_i h; simp [h]
    · split
      · rename_i h; simp [h]
      · split
        · rename_i h; rw [addK_mem]; simp [h]
        · simp_all

theorem addS_a {v : Nm} {c : Cn} {s : List UInt8} : s ∈ (addS v c).a ↔ s ∈ v.a ∨ hasK 3 c s := fold_mem (pr := Nm.a) (add := addC) (Q := fun (c : Cn) (s : List UInt8) => c.kind = 3 ∧ c.name = s) (fun v x s => addC_a) (nodes c) v s
theorem addS_b {v : Nm} {c : Cn} {s : List UInt8} : s ∈ (addS v c).b ↔ s ∈ v.b ∨ hasK 6 c s := fold_mem (pr := Nm.b) (add := addC) (Q := fun (c : Cn) (s : List UInt8) => c.kind = 6 ∧ c.name = s) (fun v x s => addC_b) (nodes c) v s
theorem addS_c {v : Nm} {c : Cn} {s : List UInt8} : s ∈ (addS v c).c ↔ s ∈ v.c ∨ hasK 7 c s := fold_mem (pr := Nm.c) (add := addC) (Q := fun (c : Cn) (s : List UInt8) => c.kind = 7 ∧ c.name = s) (fun v x s => addC_c) (nodes c) v s
theorem addS_d {v : Nm} {c : Cn} {s : List UInt8} : s ∈ (addS v c).d ↔ s ∈ v.d ∨ hasK 4 c s := fold_mem (pr := Nm.d) (add := addC) (Q := fun (c : Cn) (s : List UInt8) => c.kind = 4 ∧ c.name = s) (fun v x s => addC_d) (nodes c) v s

theorem addI_a {v : Nm} {k s : List UInt8} : s ∈ (addI v k).a ↔ s ∈ v.a := Iff.rfl
theorem addI_d {v : Nm} {k s : List UInt8} : s ∈ (addI v k).d ↔ s ∈ v.d ∨ k = s := addK_mem
theorem addR_b {v : Nm} {k s : List UInt8} : s ∈ (addR v k).b ↔ s ∈ v.b ∨ k = s := addK_mem

theorem foldR_b (l : List (List UInt8)) (v : Nm) (s : List UInt8) : s ∈ (l.foldl addR v).b ↔ s ∈ v.b ∨ s ∈ l := by
  rw [fold_mem (pr := Nm.b) (add := addR) (Q := fun (k s : List UInt8) => k = s) (fun v x s => addR_b) l v s]
  simp
theorem foldR_a (l : List (List UInt8)) (v : Nm) : (l.foldl addR v).a = v.a := by
  induction l generalizing v with
  | nil => rfl
  | cons x l ih => rw [List.foldl_cons, ih]; rfl
theorem foldR_c (l : List (List UInt8)) (v : Nm) : (l.foldl addR v).c = v.c := by
  induction l generalizing v with
  | nil => rfl
  | cons x l ih => rw [List.foldl_cons, ih]; rfl
theorem foldR_d (l : List (List UInt8)) (v : Nm) : (l.foldl addR v).d = v.d := by
  induction l generalizing v with
  | nil => rfl
  | cons x l ih => rw [List.foldl_cons, ih]; rfl

/-- The names of an axiom. -/
def axA (x : Ax) (s : List UInt8) : Prop := hasK 3 x.left s ∨ hasK 3 x.right s
def axB (x : Ax) (s : List UInt8) : Prop := hasK 6 x.left s ∨ hasK 6 x.right s ∨ s ∈ x.roles ∨ x.role = s
def axC (x : Ax) (s : List UInt8) : Prop := hasK 7 x.left s ∨ hasK 7 x.right s
def axD (x : Ax) (s : List UInt8) : Prop := hasK 4 x.left s ∨ hasK 4 x.right s ∨ x.a = s ∨ x.b = s

theorem addX_a {v : Nm} {x : Ax} {s : List UInt8} : s ∈ (addX v x).a ↔ s ∈ v.a ∨ axA x s := by
  show s ∈ (x.roles.foldl addR ([x.left, x.right].foldl addS v)).a ↔ _
  rw [foldR_a]
  simp only [List.foldl_cons, List.foldl_nil, addS_a, axA, or_assoc]
theorem addX_b {v : Nm} {x : Ax} {s : List UInt8} : s ∈ (addX v x).b ↔ s ∈ v.b ∨ axB x s := by
  show s ∈ (addR (x.roles.foldl addR ([x.left, x.right].foldl addS v)) x.role).b ↔ _
  rw [addR_b, foldR_b]
  simp only [List.foldl_cons, List.foldl_nil, addS_b, axB, or_assoc]
theorem addX_c {v : Nm} {x : Ax} {s : List UInt8} : s ∈ (addX v x).c ↔ s ∈ v.c ∨ axC x s := by
  show s ∈ (x.roles.foldl addR ([x.left, x.right].foldl addS v)).c ↔ _
  rw [foldR_c]
  simp only [List.foldl_cons, List.foldl_nil, addS_c, axC, or_assoc]
theorem addX_d {v : Nm} {x : Ax} {s : List UInt8} : s ∈ (addX v x).d ↔ s ∈ v.d ∨ axD x s := by
  show s ∈ (addI (addI (addR (x.roles.foldl addR ([x.left, x.right].foldl addS v)) x.role) x.a) x.b).d ↔ _
  rw [addI_d, addI_d]
  show (s ∈ (x.roles.foldl addR ([x.left, x.right].foldl addS v)).d ∨ _) ∨ _ ↔ _
  rw [foldR_d]
  simp only [List.foldl_cons, List.foldl_nil, addS_d, axD, or_assoc]

theorem voc_a (l : List Ax) (s : List UInt8) : s ∈ (vocV l).a ↔ ∃ x ∈ l, axA x s := by
  rw [vocV, fold_mem (pr := Nm.a) (add := addX) (Q := axA) (fun v x s => addX_a)]; simp
theorem voc_b (l : List Ax) (s : List UInt8) : s ∈ (vocV l).b ↔ ∃ x ∈ l, axB x s := by
  rw [vocV, fold_mem (pr := Nm.b) (add := addX) (Q := axB) (fun v x s => addX_b)]; simp
theorem voc_c (l : List Ax) (s : List UInt8) : s ∈ (vocV l).c ↔ ∃ x ∈ l, axC x s := by
  rw [vocV, fold_mem (pr := Nm.c) (add := addX) (Q := axC) (fun v x s => addX_c)]; simp
theorem voc_d (l : List Ax) (s : List UInt8) : s ∈ (vocV l).d ↔ ∃ x ∈ l, axD x s := by
  rw [vocV, fold_mem (pr := Nm.d) (add := addX) (Q := axD) (fun v x s => addX_d)]; simp
end Go.Proofs.YtkbmlchceiglfaaGreatDoor
