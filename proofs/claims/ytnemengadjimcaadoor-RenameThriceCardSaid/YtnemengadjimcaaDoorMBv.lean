/-
  Rename: lists of renamings made one by one: two renamings together, what undoes one; plainly. Terms: tidying keeps an axiom valid and adds no names; the names of valid axioms are names. Terms: has, within of the law; FewAxioms of the reference. Terms: within of the law. Terms: vocabularies are sorted without repetition, and are within one another as the law says.
  Conditions: none.
-/
import Derived.Test.YtnemengadjimcaaDoorMTcr
import Derived.Test.YtnemengadjimcaaDoorMBt
import Derived.Test.YtnemengadjimcaaDoorMTca
import Derived.Test.YtnemengadjimcaaDoorMSyb
set_option linter.unnecessarySimpa false
set_option linter.unusedSectionVars false
set_option linter.unusedSimpArgs false
set_option linter.unusedVariables false
namespace Go.Proofs.YtnemengadjimcaaDoor
open Go.Proofs
def withR : List Rn → Rn → List Rn
  | [], x => [x]
  | a :: r, x => if cmpR a x < 0 then a :: withR r x else if cmpR x a < 0 then x :: a :: r else a :: r
theorem withR_cons (a : Rn) (r : List Rn) (x : Rn) : withR (a :: r) x = if cmpR a x < 0 then a :: withR r x else if cmpR x a < 0 then x :: a :: r else a :: r := rfl
theorem cmpR_anti (a b : Rn) : cmpR b a = - cmpR a b := cmpR_lc.anti a b
theorem mem_withR {x : Rn} : ∀ {l : List Rn} {y : Rn}, y ∈ withR l x → y ∈ l ∨ y = x
  | [], y, h => by simp [withR] at h; exact .inr h
  | a :: r, y, h => by
    rw [withR_cons] at h
    split at h
    · rcases List.mem_cons.1 h with rfl | h
      · exact .inl (by simp)
      · rcases mem_withR h with h | h
        · exact .inl (by simp [h])
        · exact .inr h
    · split at h
      · rcases List.mem_cons.1 h with rfl | h
        · exact .inr rfl
        · exact .inl h
      · exact .inl h
theorem sub_withR {x : Rn} : ∀ {l : List Rn} {y : Rn}, y ∈ l → y ∈ withR l x
  | a :: r, y, h => by
    rw [withR_cons]
    split
    · rcases List.mem_cons.1 h with rfl | h
      · simp
      · exact List.mem_cons_of_mem _ (sub_withR h)
    · split
      · exact List.mem_cons_of_mem _ h
      · exact h
theorem self_withR {x : Rn} : ∀ {l : List Rn}, (∀ a ∈ l, keyO a = keyO x → a = x) → x ∈ withR l x
  | [], _ => by simp [withR]
  | a :: r, h => by
    rw [withR_cons]
    split
    · exact List.mem_cons_of_mem _ (self_withR fun b hb => h b (by simp [hb]))
    · rename_i h1
      split
      · simp
      · rename_i h2
        have h3 := cmpR_anti a x
        have h0 : cmpR a x = 0 := by omega
        have := h a (by simp) (cmpR_zero.1 h0)
        simp [this]
theorem str_withR {x : Rn} : ∀ {l : List Rn}, (l.Pairwise fun a b => cmpR a b < 0) → (withR l x).Pairwise fun a b => cmpR a b < 0
  | [], _ => by simp [withR]
  | a :: r, h => by
    have h1 := List.pairwise_cons.1 h
    rw [withR_cons]
    split
    · rename_i hx
      refine List.pairwise_cons.2 ⟨fun b hb => ?_, str_withR h1.2⟩
      rcases mem_withR hb with hb | rfl
      · exact h1.1 b hb
      · exact hx
    · split
      · rename_i hx
        refine List.pairwise_cons.2 ⟨fun b hb => ?_, h⟩
        rcases List.mem_cons.1 hb with rfl | hb
        · exact hx
        · exact cmpR_tr hx (h1.1 b hb)
      · exact h
def newR (l m : List Rn) (r : Rn) : Rn := ⟨r.kind, r.old, nameR m r.kind (nameR l r.kind r.old)⟩
theorem newR_key {l m : List Rn} {q r : Rn} (h : keyO q = keyO r) : newR l m q = newR l m r := by
  unfold keyO at h
  rw [Prod.mk.injEq] at h
  unfold newR
  rw [h.1, h.2]
def stepC (l m out : List Rn) (r : Rn) : List Rn := if (newR l m r).old = (newR l m r).new then out else withR out (newR l m r)
def compL (l m : List Rn) : List Rn := (l ++ m).foldl (stepC l m) []
theorem fold_comp (l m : List Rn) : ∀ (todo done out : List Rn), (out.Pairwise fun a b => cmpR a b < 0) → (∀ r, r ∈ out ↔ (∃ q ∈ done, r = newR l m q) ∧ r.new ≠ r.old) →
    ((todo.foldl (stepC l m) out).Pairwise fun a b => cmpR a b < 0) ∧ ∀ r, r ∈ todo.foldl (stepC l m) out ↔ (∃ q ∈ done ++ todo, r = newR l m q) ∧ r.new ≠ r.old
  | [], done, out, h1, h2 => by
    rw [List.append_nil]
    exact ⟨h1, h2⟩
  | x :: t, done, out, h1, h2 => by
    rw [List.foldl_cons, show done ++ x :: t = (done ++ [x]) ++ t by simp]
    by_cases he : (newR l m x).old = (newR l m x).new
    · rw [show stepC l m out x = out by rw [stepC, if_pos he]]
      refine fold_comp l m t (done ++ [x]) out h1 fun r => ?_
      rw [h2]
      constructor
      · rintro ⟨⟨q, hq, e⟩, hn⟩
        exact ⟨⟨q, by simp [hq], e⟩, hn⟩
      · rintro ⟨⟨q, hq, e⟩, hn⟩
        rcases List.mem_append.1 hq with hq | hq
        · exact ⟨⟨q, hq, e⟩, hn⟩
        · simp only [List.mem_singleton] at hq
          rw [hq] at e
          rw [e] at hn
          exact absurd he.symm hn
    · rw [show stepC l m out x = withR out (newR l m x) by rw [stepC, if_neg he]]
      refine fold_comp l m t (done ++ [x]) _ (str_withR h1) fun r => ?_
      constructor
      · intro hr
        rcases mem_withR hr with hr | rfl
        · obtain ⟨⟨q, hq, e⟩, hn⟩ := (h2 r).1 hr
          exact ⟨⟨q, by simp [hq], e⟩, hn⟩
        · exact ⟨⟨x, by simp, rfl⟩, fun e => he e.symm⟩
      · rintro ⟨⟨q, hq, e⟩, hn⟩
        rcases List.mem_append.1 hq with hq | hq
        · exact sub_withR ((h2 r).2 ⟨⟨q, hq, e⟩, hn⟩)
        · simp only [List.mem_singleton] at hq
          rw [hq] at e
          rw [e]
          refine self_withR fun a ha hk => ?_
          obtain ⟨⟨q2, hq2, e2⟩, _⟩ := (h2 a).1 ha
          rw [e2] at hk ⊢
          exact newR_key hk
theorem comp_of {l m x : List Rn} (hl : l.Pairwise fun a b => cmpR a b < 0) (hm : m.Pairwise fun a b => cmpR a b < 0) (h1 : x.Pairwise fun a b => cmpR a b < 0) (h2 : ∀ r, r ∈ x ↔ (∃ q ∈ l ++ m, r = newR l m q) ∧ r.new ≠ r.old) : Comp l m x := by
  refine ⟨h1, fun r => ?_⟩
  rw [h2]
  constructor
  · rintro ⟨⟨q, hq, rfl⟩, hn⟩
    exact ⟨rfl, hn⟩
  · rintro ⟨e, hn⟩
    refine ⟨?_, hn⟩
    obtain ⟨q, hq, hk⟩ := comp_key hl hm (k := r.kind) (s := r.old) (by rw [← e]; exact hn)
    refine ⟨q, hq, ?_⟩
    rw [newR_key (r := r) hk]
    exact Rn.ext' rfl rfl e
theorem comp_compL {l m : List Rn} (hl : l.Pairwise fun a b => cmpR a b < 0) (hm : m.Pairwise fun a b => cmpR a b < 0) : Comp l m (compL l m) := by
  obtain ⟨h1, h2⟩ := fold_comp l m (l ++ m) [] [] .nil (fun r => by simp)
  exact comp_of hl hm h1 (fun r => by rw [← List.nil_append (l ++ m)]; exact h2 r)
def fltL (l m s : List Rn) : List Rn := (s.map (newR l m)).filter fun r => !decide (r.new = r.old)
theorem comp_flt {l m s : List Rn} (hl : l.Pairwise fun a b => cmpR a b < 0) (hm : m.Pairwise fun a b => cmpR a b < 0) (h1 : s.Pairwise fun a b => cmpR a b < 0) (h2 : ∀ r ∈ s, r ∈ l ++ m) (h3 : ∀ r ∈ l ++ m, ∃ q ∈ s, keyO q = keyO r) : fltL l m s = compL l m := by
  refine Comp.uniq (l := l) (m := m) (comp_of hl hm ?_ fun r => ?_) (comp_compL hl hm)
  · refine List.Pairwise.filter _ (List.pairwise_map.2 (h1.imp fun {a b} h => ?_))
    have e : cmpR (newR l m a) (newR l m b) = cmpR a b := rfl
    rw [e]; exact h
  · unfold fltL
    rw [List.mem_filter, List.mem_map]
    simp only [Bool.not_eq_true', decide_eq_false_iff_not]
    constructor
    · rintro ⟨⟨q, hq, rfl⟩, hn⟩
      exact ⟨⟨q, h2 q hq, rfl⟩, hn⟩
    · rintro ⟨⟨q, hq, rfl⟩, hn⟩
      obtain ⟨p, hp, e⟩ := h3 q hq
      exact ⟨⟨p, hp, newR_key e⟩, hn⟩
def compR (l m : List Rn) : List Rn × Int :=
  if checkR l ≠ 0 then ([], checkR l) else if checkR m ≠ 0 then ([], checkR m) else if checkR (compL l m) ≠ 0 then ([], checkR (compL l m)) else (compL l m, 0)
theorem compR_ok {l m : List Rn} (h : (compR l m).2 = 0) : Good l ∧ Good m ∧ Good (compR l m).1 ∧ Comp l m (compR l m).1 := by
  unfold compR at h ⊢
  split at h
  · rename_i h1; exact absurd h h1
  · rename_i h1
    split at h
    · rename_i h2; exact absurd h h2
    · rename_i h2
      split at h
      · rename_i h3; exact absurd h h3
      · rename_i h3
        rw [if_neg h1, if_neg h2, if_neg h3]
        have g1 := (checkR_ok (by simpa using h1)).1
        have g2 := (checkR_ok (by simpa using h2)).1
        exact ⟨g1, g2, (checkR_ok (by simpa using h3)).1, comp_compL g1.str g2.str⟩
end Go.Proofs.YtnemengadjimcaaDoor
namespace Go.Proofs.YtnemengadjimcaaDoor
open Go.Proofs
end Go.Proofs.YtnemengadjimcaaDoor
namespace Go.Proofs.YtnemengadjimcaaDoor
open Go.Proofs
set_option maxRecDepth 10000
attribute [local irreducible] SemVC CallVC Tri Stuck YVC GenP GenVC
end Go.Proofs.YtnemengadjimcaaDoor
namespace Go.Proofs.YtnemengadjimcaaDoor
open Go.Proofs
set_option maxRecDepth 10000
attribute [local irreducible] SemVC CallVC Tri Stuck YVC GenP GenVC
end Go.Proofs.YtnemengadjimcaaDoor
namespace Go.Proofs.YtnemengadjimcaaDoor
open Go.Proofs
end Go.Proofs.YtnemengadjimcaaDoor
