/-
  The keys of a set of strings, collected and sorted: maps.Keys, slices.AppendSeq, slices.Collect, slices.Sorted.
  Conditions: none.
-/
import Derived.Test.YtnemengadjimcaaGreatDoorMAo
import Derived.Test.YtnemengadjimcaaGreatDoorMA1
import Derived.Test.YtnemengadjimcaaGreatDoorMSna
import Derived.Sort.KeysCollected
set_option linter.unnecessarySimpa false
set_option linter.unusedSectionVars false
set_option linter.unusedSimpArgs false
set_option linter.unusedVariables false
namespace Go.Proofs.YtnemengadjimcaaGreatDoor
open Go.Proofs
set_option maxRecDepth 10000
attribute [local irreducible] SemVC CallVC Tri Stuck YVC GenP GenVC
theorem idsF_nil : idsF [] = [] := rfl
theorem idsF_cons (k : Nat) (s : SV) (r : Fr) : idsF ((k, s) :: r) = s.ids ++ idsF r := rfl
theorem idsH_nil : idsH [] = [] := rfl
theorem idsH_cons (k : Nat) (o : HObj) (r : Hp) : idsH ((k, o) :: r) = (k :: o.ids) ++ idsH r := rfl
theorem ids_cells (t : TypeId) (cs : List SV) : (HObj.cells t cs).ids = SV.idsL cs := rfl
theorem ids_mrow (e z cap : Nat) (rows : List (List D)) : (HObj.mrow e z cap rows).ids = [] := rfl
theorem ids_own (e z n : Nat) : (HObj.own e z n).ids = [] := rfl
theorem ids_loop (L : LoopI) (s : LoopAt) : (HObj.loop L s).ids = idsF L.fr := rfl
theorem ids_iter (m : Nat) (bs : List Nat) (c : Nat) (v : List Nat) : (HObj.ext (iterX m bs c v)).ids = [m] := rfl
theorem ids_ofV (v : Value) : (ofV v).ids = [] := by
 unfold ofV
 split <;> (try split) <;> rfl
theorem subH_skip {id : Nat} {o : HObj} : ∀ {hp' hp : Hp}, subH hp' hp → (∀ p ∈ hp', p.1 ≠ id) → subH hp' ((id, o) :: hp)
 | [], _, _, _ => trivial
 | (k, x) :: r, hp, h, hn => by
  refine ⟨?_, subH_skip h.2 fun p hp => hn p (List.mem_cons_of_mem _ hp)⟩
  have : k ≠ id := hn (k, x) (by simp)
  show getH ((id, o) :: hp) k = some x
  rw [getH_cons_ne (Ne.symm this)]
  exact h.1
theorem key_ids {hp : Hp} {p : Nat × HObj} (h : p ∈ hp) : p.1 ∈ idsH hp := by
 simp only [idsH, List.mem_flatMap, List.mem_cons]
 exact ⟨p, h, .inl rfl⟩
theorem delHK_of {t : Nat} : ∀ {hp0 : Hp} {K : Hp → Prop}, t ∉ idsH hp0 → K hp0 → delHK hp0 t K
 | [], _, _, h => h
 | (k, o) :: r, K, hn, h => by
  have h1 : k ≠ t := fun e => hn (by rw [idsH_cons]; simp [e])
  have h2 : t ∉ idsH r := fun e => hn (by rw [idsH_cons]; simp [e])
  rw [delHK, if_neg h1]
  exact delHK_of h2 h
theorem exists_tail {x : Nat × HObj} {hp : Hp} {K : Hp → Prop} (h : subH hp (x :: hp)) (hk : K hp) : ∃ hp'', subH hp'' (x :: hp) ∧ K hp'' := ⟨hp, h, hk⟩
theorem getH_none {id : Nat} : ∀ {hp : Hp}, id ∉ idsH hp → getH hp id = none
 | [], _ => rfl
 | (k, o) :: r, h => by
  have h1 : k ≠ id := fun e => h (by rw [idsH_cons]; simp [e])
  have h2 : id ∉ idsH r := fun e => h (by rw [idsH_cons]; simp [e])
  rw [getH_cons_ne h1]
  exact getH_none h2
def sortK (ks : List (List UInt8)) : List (List UInt8) := ks.mergeSort fun x y => decide (x ≤ y)
theorem perm_vis {α : Type} {l : List α} {vis : List Nat} (hn : vis.Nodup) (hv : ∀ i ∈ vis, i < l.length) (ha : ∀ i, i < l.length → i ∈ vis) (f : Nat → α) (hf : ∀ i (h : i < l.length), f i = l[i]) : (vis.map f).Perm l := by
 have h1 : vis.Perm (List.range l.length) := (List.perm_ext_iff_of_nodup hn List.nodup_range).2 fun i => by rw [List.mem_range]; exact ⟨hv i, ha i⟩
 have h2 := h1.map f
 have h3 : (List.range l.length).map f = l := by
  apply List.ext_getElem
  ·simp
  ·intro i h1 h2
   simp [hf i h2]
 rwa [h3] at h2
theorem vis_len {vis : List Nat} {n : Nat} (hn : vis.Nodup) (hv : ∀ i ∈ vis, i < n) : vis.length ≤ n := by
 have h := List.Nodup.length_le_of_subset hn (fun i hi => List.mem_range.2 (hv i hi))
 simpa using h
end Go.Proofs.YtnemengadjimcaaGreatDoor
