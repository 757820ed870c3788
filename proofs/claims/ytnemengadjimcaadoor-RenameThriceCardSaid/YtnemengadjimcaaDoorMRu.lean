/-
  Rename: other names in axioms, plainly; tidying and renaming of axioms and lists of axioms.
  Conditions: none.
-/
import Derived.Test.YtnemengadjimcaaDoorMRt
import Derived.Test.YtnemengadjimcaaDoorMBv
set_option linter.unnecessarySimpa false
set_option linter.unusedSectionVars false
set_option linter.unusedSimpArgs false
set_option linter.unusedVariables false
namespace Go.Proofs.YtnemengadjimcaaDoor
open Go.Proofs
def tidL (g : Int → List UInt8 → List UInt8) : List Ax → List Ax × Int
  | [] => ([], 0)
  | x :: r => if (tidyA (renX g x)).2 ≠ 0 then ([], (tidyA (renX g x)).2) else if (tidL g r).2 ≠ 0 then ([], (tidL g r).2) else ((tidyA (renX g x)).1 :: (tidL g r).1, 0)
def axmR (l : List Rn) (xs : List Ax) : List Ax × Int :=
  if checkR l ≠ 0 then ([], checkR l) else if firstA xs ≠ 0 then ([], firstA xs) else tidL (nameR l) xs
theorem tidL_all {g : Int → List UInt8 → List UInt8} : ∀ {xs : List Ax}, (∀ x ∈ xs, (tidyA (renX g x)).2 = 0) → tidL g xs = (xs.map fun x => (tidyA (renX g x)).1, 0)
  | [], _ => rfl
  | x :: r, h => by
    have ih := tidL_all (g := g) (xs := r) fun y hy => h y (List.mem_cons_of_mem _ hy)
    rw [tidL, if_neg (by simp [h x (List.mem_cons_self ..)]), ih, if_neg (by simp)]
    rfl
theorem tidL_at {g : Int → List UInt8 → List UInt8} : ∀ {xs : List Ax} {j : Nat} (h : j < xs.length), (∀ x ∈ xs.take j, (tidyA (renX g x)).2 = 0) → ¬ (tidyA (renX g xs[j])).2 = 0 → tidL g xs = ([], (tidyA (renX g xs[j])).2)
  | x :: r, 0, _, _, he => by
    have he : (tidyA (renX g x)).2 ≠ 0 := he
    rw [tidL, if_pos he]; rfl
  | x :: r, j + 1, h, hz, he => by
    have h0 : (tidyA (renX g x)).2 = 0 := hz x (by simp)
    have hj : j < r.length := by simpa using h
    have ih := tidL_at (g := g) (xs := r) (j := j) hj (fun y hy => hz y (by simp [hy])) he
    have hne : (tidyA (renX g (r[j]'hj))).2 ≠ 0 := he
    rw [tidL, if_neg (by simpa using h0), ih, if_pos hne]
    rfl
end Go.Proofs.YtnemengadjimcaaDoor
