/-
  The keys of a set of strings, collected and sorted: maps.Keys, slices.AppendSeq, slices.Collect, slices.Sorted. Terms: Vocabulary. Terms: the vocabulary, plainly: whose names it holds. Terms: tidying keeps a concept valid and adds no names. Terms: what a valid concept and a valid axiom are; tidying keeps axioms valid.
  Conditions: none.
-/
import Derived.Test.YtnemengadjimcaaDoorMAn
import Derived.Test.YtnemengadjimcaaDoorMA1
import Derived.Test.YtnemengadjimcaaDoorMSna
import Derived.Sort.KeysCollected
import Derived.Test.YtnemengadjimcaaDoorMAo
import Derived.Test.YtnemengadjimcaaDoorMTca
set_option linter.unnecessarySimpa false
set_option linter.unusedSectionVars false
set_option linter.unusedSimpArgs false
set_option linter.unusedVariables false
namespace Go.Proofs.YtnemengadjimcaaDoor
open Go.Proofs
set_option maxRecDepth 10000
attribute [local irreducible] SemVC CallVC Tri Stuck YVC GenP GenVC
theorem idsF_nil : idsF [] = [] := rfl
theorem idsF_cons (k : Nat) (s : SV) (r : Fr) : idsF ((k, s) :: r) = s.ids ++ idsF r := rfl
theorem idsH_nil : idsH [] = [] := rfl
theorem idsH_cons (k : Nat) (o : HObj) (r : Hp) : idsH ((k, o) :: r) = (k :: o.ids) ++ idsH r := rfl
theorem ids_ofV (v : Value) : (ofV v).ids = [] := by
  unfold ofV
  split <;> (try split) <;> rfl
end Go.Proofs.YtnemengadjimcaaDoor
namespace Go.Proofs.YtnemengadjimcaaDoor
open Go.Proofs
set_option maxRecDepth 10000
attribute [local irreducible] SemVC CallVC Tri Stuck YVC GenP GenVC
def firstA : List Ax → Int
  | [] => 0
  | x :: r => if axiomE x ≠ 0 then axiomE x else firstA r
theorem empty_size {c : Cn} (h : emptyF c = true) : sizeF c = 1 := by
  unfold emptyF at h
  simp only [Bool.and_eq_true, decide_eq_true_eq] at h
  rw [sizeF_sum, h.2.2.2.2]; rfl
theorem useAt_most {k : Int} (h : 1 ≤ k ∧ k ≤ 9) : (useAt k).most ≤ 4 := by
  have : k = 1 ∨ k = 2 ∨ k = 3 ∨ k = 4 ∨ k = 5 ∨ k = 6 ∨ k = 7 ∨ k = 8 ∨ k = 9 := by omega
  rcases this with h | h | h | h | h | h | h | h | h <;> rw [h] <;> decide
theorem axiomE_bnd {x : Ax} (h : axiomE x = 0) : sizeF x.left ≤ 64 ∧ sizeF x.right ≤ 64 ∧ x.roles.length ≤ 4 := by
  obtain ⟨hk, hl, hr⟩ := axiomE_ok h
  have hm := useAt_most hk
  unfold axiomE at h
  split at h
  · simp at h
  · rename_i hs
    have hs : shapedF x = true := by simpa using hs
    unfold shapedF at hs
    rw [if_neg (by omega)] at hs
    generalize useAt x.kind = u at *
    unfold shapedU at hs
    simp only [Bool.and_eq_true, Bool.or_eq_true, decide_eq_true_eq] at hs
    refine ⟨?_, ?_, ?_⟩
    · cases hu : u.left
      · have : emptyF x.left = true := by simp_all
        rw [empty_size this]; omega
      · exact (conceptE_ok (hl hu)).1
    · cases hu : u.right
      · have : emptyF x.right = true := by simp_all
        rw [empty_size this]; omega
      · exact (conceptE_ok (hr hu)).1
    · omega
theorem firstA_err : ∀ {l : List Ax} {j : Nat} (h : j < l.length), (∀ x ∈ l.take j, axiomE x = 0) → ¬ axiomE l[j] = 0 → firstA l = axiomE l[j]
  | x :: r, 0, _, _, he => by
    have he : axiomE x ≠ 0 := he
    rw [firstA, if_pos he]; rfl
  | x :: r, j + 1, h, hz, he => by
    have h0 : axiomE x = 0 := hz x (by simp)
    rw [firstA, if_neg (by simpa using h0)]
    exact firstA_err (by simpa using h) (fun y hy => hz y (by simp [hy])) he
theorem firstA_ok : ∀ {l : List Ax}, (∀ x ∈ l, axiomE x = 0) → firstA l = 0
  | [], _ => rfl
  | x :: r, h => by
    rw [firstA, if_neg (by simpa using h x (by simp))]
    exact firstA_ok fun y hy => h y (by simp [hy])
theorem nmH {t : Nat} {r : Hp} (h : t ∉ idsH r) {B : Prop} (b : B) : t ∉ idsH r ∧ B := ⟨h, b⟩
theorem frH {id : Nat} {pin : List Nat} {fr : Fr} {hp : Hp} (h : fresh id pin fr hp) {B : Prop} (b : B) : fresh id pin fr hp ∧ B := ⟨h, b⟩
theorem axR_rows {l : List Ax} {j : Nat} (h : j < l.length) : (l.map axR)[(j : Int).toNat]? = some (axR l[j]) := by
  rw [Int.toNat_natCast, List.getElem?_map, List.getElem?_eq_getElem h]; rfl
end Go.Proofs.YtnemengadjimcaaDoor
namespace Go.Proofs.YtnemengadjimcaaDoor
open Go.Proofs
def hasK (k : Int) (c : Cn) (s : List UInt8) : Prop := ∃ n ∈ nodes c, n.kind = k ∧ n.name = s
end Go.Proofs.YtnemengadjimcaaDoor
namespace Go.Proofs.YtnemengadjimcaaDoor
open Go.Proofs
def Okn (c : Cn) : Prop := ∀ x ∈ nodes c, fieldsE x = 0
def NamesIn (t c : Cn) : Prop := ∀ k s, k ≠ 1 → k ≠ 5 → hasK k t s → hasK k c s
structure Keep (c t : Cn) : Prop where
  ok : Okn t
  dep : depthF t ≤ depthF c
  nam : NamesIn t c
  bare : bareF t = true → bareF c = true
structure Part (c m : Cn) : Prop where
  ok : Okn m
  dep : depthF m + 1 ≤ depthF c
  nam : NamesIn m c
  bare : bareF m = true → bareF c = true
theorem Part.keep {c m : Cn} (h : Part c m) : Keep c m := ⟨h.ok, by have := h.dep; omega, h.nam, h.bare⟩
end Go.Proofs.YtnemengadjimcaaDoor
namespace Go.Proofs.YtnemengadjimcaaDoor
open Go.Proofs
end Go.Proofs.YtnemengadjimcaaDoor
