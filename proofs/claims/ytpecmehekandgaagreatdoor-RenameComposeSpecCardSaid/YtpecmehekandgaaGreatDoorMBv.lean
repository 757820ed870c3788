/-
  Rename: lists of renamings made one by one: two renamings together, what undoes one; plainly. Terms: tidying keeps an axiom valid and adds no names; the names of valid axioms are names. Terms: has, within of the law; FewAxioms of the reference. Terms: within of the law. Terms: vocabularies are sorted without repetition, and are within one another as the law says.
  Conditions: none.
-/
import Derived.Test.YtpecmehekandgaaGreatDoorMTcr
import Derived.Test.YtpecmehekandgaaGreatDoorMGr
import Derived.Test.YtpecmehekandgaaGreatDoorMTca
import Derived.Test.YtpecmehekandgaaGreatDoorMSyb
set_option linter.unnecessarySimpa false
set_option linter.unusedSectionVars false
set_option linter.unusedSimpArgs false
set_option linter.unusedVariables false
namespace Go.Proofs.YtpecmehekandgaaGreatDoor
open Go.Proofs
def withR : List Rn → Rn → List Rn
  | [], x => [x]
  | a :: r, x => if cmpR a x < 0 then a :: withR r x else if cmpR x a < 0 then x :: a :: r else a :: r
theorem withR_cons (a : Rn) (r : List Rn) (x : Rn) : withR (a :: r) x = if cmpR a x < 0 then a :: withR r x else if cmpR x a < 0 then x :: a :: r else a :: r := rfl
theorem cmpR_anti (a b : Rn) : cmpR b a = - cmpR a b := cmpR_lc.anti a b
theorem withR_at : ∀ (l : List Rn) (x : Rn) (n : Nat), n ≤ l.length → (∀ a ∈ l.take n, cmpR a x < 0) → (∀ h : n < l.length, ¬ cmpR l[n] x < 0) → withR l x = if h : n < l.length then (if cmpR x l[n] < 0 then l.take n ++ x :: l.drop n else l) else l ++ [x]
  | [], x, n, hn, _, _ => by
    rw [dif_neg (by simp)]; rfl
  | a :: r, x, 0, _, _, h2 => by
    have h2 : ¬ cmpR a x < 0 := h2 (by simp)
    rw [withR_cons, if_neg h2, dif_pos (by simp)]
    rfl
  | a :: r, x, n + 1, hn, h1, h2 => by
    have ih := withR_at r x n (by simpa using hn) (fun b hb => h1 b (by simp [hb])) (fun h => h2 (by simpa using h))
    rw [withR_cons, if_pos (h1 a (by simp)), ih]
    by_cases h : n < r.length
    · rw [dif_pos h, dif_pos (by simpa using h)]
      show _ = if cmpR x r[n] < 0 then _ else _
      split
      · rfl
      · rfl
    · rw [dif_neg h, dif_neg (by simpa using h)]
      rfl
theorem mem_withR {x : Rn} : ∀ {l : List Rn} {y : Rn}, y ∈ withR l x → y ∈ l ∨ y = x
  | [], y, h => by simp [withR] at h; exact .inr h
  | a :: r, y, h => by
    rw [withR_cons] at h
    split at h
    · rcases List.mem_cons.1 h with rfl | h
      · exact .inl (by simp)
      · rcases mem_withR h with h | h
        · exact .inl (by simp [h])
        · exact .inr h
    · split at h
      · rcases List.mem_cons.1 h with rfl | h
        · exact .inr rfl
        · exact .inl h
      · exact .inl h
theorem sub_withR {x : Rn} : ∀ {l : List Rn} {y : Rn}, y ∈ l → y ∈ withR l x
  | a :: r, y, h => by
    rw [withR_cons]
    split
    · rcases List.mem_cons.1 h with rfl | h
      · simp
      · exact List.mem_cons_of_mem _ (sub_withR h)
    · split
      · exact List.mem_cons_of_mem _ h
      · exact h
theorem self_withR {x : Rn} : ∀ {l : List Rn}, (∀ a ∈ l, keyO a = keyO x → a = x) → x ∈ withR l x
  | [], _ => by simp [withR]
  | a :: r, h => by
    rw [withR_cons]
    split
    · exact List.mem_cons_of_mem _ (self_withR fun b hb => h b (by simp [hb]))
    · rename_i h1
      split
      · simp
      · rename_i h2
        have h3 := cmpR_anti a x
        have h0 : cmpR a x = 0 := by omega
        have := h a (by simp) (cmpR_zero.1 h0)
        simp [this]
theorem str_withR {x : Rn} : ∀ {l : List Rn}, (l.Pairwise fun a b => cmpR a b < 0) → (withR l x).Pairwise fun a b => cmpR a b < 0
  | [], _ => by simp [withR]
  | a :: r, h => by
    have h1 := List.pairwise_cons.1 h
    rw [withR_cons]
    split
    · rename_i hx
      refine List.pairwise_cons.2 ⟨fun b hb => ?_, str_withR h1.2⟩
      rcases mem_withR hb with hb | rfl
      · exact h1.1 b hb
      · exact hx
    · split
      · rename_i hx
        refine List.pairwise_cons.2 ⟨fun b hb => ?_, h⟩
        rcases List.mem_cons.1 hb with rfl | hb
        · exact hx
        · exact cmpR_tr hx (h1.1 b hb)
      · exact h
theorem len_withR (x : Rn) : ∀ l : List Rn, (withR l x).length ≤ l.length + 1
  | [] => by simp [withR]
  | a :: r => by
    have := len_withR x r
    rw [withR_cons]
    split
    · simp only [List.length_cons]; omega
    · split
      · simp
      · simp
def newR (l m : List Rn) (r : Rn) : Rn := ⟨r.kind, r.old, nameR m r.kind (nameR l r.kind r.old)⟩
theorem newR_key {l m : List Rn} {q r : Rn} (h : keyO q = keyO r) : newR l m q = newR l m r := by
  unfold keyO at h
  rw [Prod.mk.injEq] at h
  unfold newR
  rw [h.1, h.2]
def stepC (l m out : List Rn) (r : Rn) : List Rn := if (newR l m r).old = (newR l m r).new then out else withR out (newR l m r)
def compL (l m : List Rn) : List Rn := (l ++ m).foldl (stepC l m) []
theorem fold_comp (l m : List Rn) : ∀ (todo done out : List Rn), (out.Pairwise fun a b => cmpR a b < 0) → (∀ r, r ∈ out ↔ (∃ q ∈ done, r = newR l m q) ∧ r.new ≠ r.old) →
    ((todo.foldl (stepC l m) out).Pairwise fun a b => cmpR a b < 0) ∧ ∀ r, r ∈ todo.foldl (stepC l m) out ↔ (∃ q ∈ done ++ todo, r = newR l m q) ∧ r.new ≠ r.old
  | [], done, out, h1, h2 => by
    rw [List.append_nil]
    exact ⟨h1, h2⟩
  | x :: t, done, out, h1, h2 => by
    rw [List.foldl_cons, show done ++ x :: t = (done ++ [x]) ++ t by simp]
    by_cases he : (newR l m x).old = (newR l m x).new
    · rw [show stepC l m out x = out by rw [stepC, if_pos he]]
      refine fold_comp l m t (done ++ [x]) out h1 fun r => ?_
      rw [h2]
      constructor
      · rintro ⟨⟨q, hq, e⟩, hn⟩
        exact ⟨⟨q, by simp [hq], e⟩, hn⟩
      · rintro ⟨⟨q, hq, e⟩, hn⟩
        rcases List.mem_append.1 hq with hq | hq
        · exact ⟨⟨q, hq, e⟩, hn⟩
        · simp only [List.mem_singleton] at hq
          rw [hq] at e
          rw [e] at hn
          exact absurd he.symm hn
    · rw [show stepC l m out x = withR out (newR l m x) by rw [stepC, if_neg he]]
      refine fold_comp l m t (done ++ [x]) _ (str_withR h1) fun r => ?_
      constructor
      · intro hr
        rcases mem_withR hr with hr | rfl
        · obtain ⟨⟨q, hq, e⟩, hn⟩ := (h2 r).1 hr
          exact ⟨⟨q, by simp [hq], e⟩, hn⟩
        · exact ⟨⟨x, by simp, rfl⟩, fun e => he e.symm⟩
      · rintro ⟨⟨q, hq, e⟩, hn⟩
        rcases List.mem_append.1 hq with hq | hq
        · exact sub_withR ((h2 r).2 ⟨⟨q, hq, e⟩, hn⟩)
        · simp only [List.mem_singleton] at hq
          rw [hq] at e
          rw [e]
          refine self_withR fun a ha hk => ?_
          obtain ⟨⟨q2, hq2, e2⟩, _⟩ := (h2 a).1 ha
          rw [e2] at hk ⊢
          exact newR_key hk
theorem comp_of {l m x : List Rn} (hl : l.Pairwise fun a b => cmpR a b < 0) (hm : m.Pairwise fun a b => cmpR a b < 0) (h1 : x.Pairwise fun a b => cmpR a b < 0) (h2 : ∀ r, r ∈ x ↔ (∃ q ∈ l ++ m, r = newR l m q) ∧ r.new ≠ r.old) : Comp l m x := by
  refine ⟨h1, fun r => ?_⟩
  rw [h2]
  constructor
  · rintro ⟨⟨q, hq, rfl⟩, hn⟩
    exact ⟨rfl, hn⟩
  · rintro ⟨e, hn⟩
    refine ⟨?_, hn⟩
    obtain ⟨q, hq, hk⟩ := comp_key hl hm (k := r.kind) (s := r.old) (by rw [← e]; exact hn)
    refine ⟨q, hq, ?_⟩
    rw [newR_key (r := r) hk]
    exact Rn.ext' rfl rfl e
theorem comp_compL {l m : List Rn} (hl : l.Pairwise fun a b => cmpR a b < 0) (hm : m.Pairwise fun a b => cmpR a b < 0) : Comp l m (compL l m) := by
  obtain ⟨h1, h2⟩ := fold_comp l m (l ++ m) [] [] .nil (fun r => by simp)
  exact comp_of hl hm h1 (fun r => by rw [← List.nil_append (l ++ m)]; exact h2 r)
def fltL (l m s : List Rn) : List Rn := (s.map (newR l m)).filter fun r => !decide (r.new = r.old)
theorem comp_flt {l m s : List Rn} (hl : l.Pairwise fun a b => cmpR a b < 0) (hm : m.Pairwise fun a b => cmpR a b < 0) (h1 : s.Pairwise fun a b => cmpR a b < 0) (h2 : ∀ r ∈ s, r ∈ l ++ m) (h3 : ∀ r ∈ l ++ m, ∃ q ∈ s, keyO q = keyO r) : fltL l m s = compL l m := by
  refine Comp.uniq (l := l) (m := m) (comp_of hl hm ?_ fun r => ?_) (comp_compL hl hm)
  · refine List.Pairwise.filter _ (List.pairwise_map.2 (h1.imp fun {a b} h => ?_))
    have e : cmpR (newR l m a) (newR l m b) = cmpR a b := rfl
    rw [e]; exact h
  · unfold fltL
    rw [List.mem_filter, List.mem_map]
    simp only [Bool.not_eq_true', decide_eq_false_iff_not]
    constructor
    · rintro ⟨⟨q, hq, rfl⟩, hn⟩
      exact ⟨⟨q, h2 q hq, rfl⟩, hn⟩
    · rintro ⟨⟨q, hq, rfl⟩, hn⟩
      obtain ⟨p, hp, e⟩ := h3 q hq
      exact ⟨⟨p, hp, newR_key e⟩, hn⟩
def compR (l m : List Rn) : List Rn × Int :=
  if checkR l ≠ 0 then ([], checkR l) else if checkR m ≠ 0 then ([], checkR m) else if checkR (compL l m) ≠ 0 then ([], checkR (compL l m)) else (compL l m, 0)
theorem len_fold (l m : List Rn) : ∀ todo out : List Rn, (todo.foldl (stepC l m) out).length ≤ out.length + todo.length
  | [], out => by simp
  | x :: t, out => by
    have h1 := len_fold l m t (stepC l m out x)
    have h2 : (stepC l m out x).length ≤ out.length + 1 := by
      unfold stepC
      split
      · omega
      · exact len_withR _ _
    rw [List.foldl_cons, List.length_cons]
    omega
def invL (l : List Rn) : List Rn := l.foldl (fun o r => withR o (invR r)) []
theorem fold_invR : ∀ (todo done out : List Rn), ((done ++ todo).map keyN).Nodup → (out.Pairwise fun a b => cmpR a b < 0) → (∀ r, r ∈ out ↔ invR r ∈ done) →
    ((todo.foldl (fun o r => withR o (invR r)) out).Pairwise fun a b => cmpR a b < 0) ∧ ∀ r, r ∈ todo.foldl (fun o r => withR o (invR r)) out ↔ invR r ∈ done ++ todo
  | [], done, out, _, h1, h2 => by
    rw [List.append_nil]
    exact ⟨h1, h2⟩
  | x :: t, done, out, hn, h1, h2 => by
    rw [List.foldl_cons]
    rw [show done ++ x :: t = (done ++ [x]) ++ t by simp] at hn ⊢
    refine fold_invR t (done ++ [x]) _ hn (str_withR h1) fun r => ?_
    have hx : ∀ a ∈ done, keyN a ≠ keyN x := by
      intro a ha e
      rw [List.map_append, List.nodup_append, List.map_append, List.nodup_append] at hn
      exact hn.1.2.2 (keyN a) (List.mem_map_of_mem ha) (keyN x) (by simp) e
    constructor
    · intro hr
      rcases mem_withR hr with hr | rfl
      · exact List.mem_append_left _ ((h2 r).1 hr)
      · rw [invR_inv]; simp
    · intro hr
      rcases List.mem_append.1 hr with hr | hr
      · exact sub_withR ((h2 r).2 hr)
      · simp only [List.mem_singleton] at hr
        have e : r = invR x := by rw [← hr, invR_inv]
        rw [e]
        refine self_withR fun a ha hk => ?_
        exact absurd hk (hx (invR a) ((h2 a).1 ha))
theorem inv_invL {l : List Rn} (h : (l.map keyN).Nodup) : Inv l (invL l) := by
  obtain ⟨h1, h2⟩ := fold_invR l [] [] (by simpa using h) .nil (fun r => by simp)
  exact ⟨h1, fun r => by rw [← List.nil_append l]; exact h2 r⟩
theorem nod_key {α β : Type} {f : α → β} : ∀ {l : List α}, (l.map f).Nodup → ∀ a ∈ l, ∀ b ∈ l, f a = f b → a = b
  | [], _, a, ha, _, _, _ => by simp at ha
  | x :: t, h, a, ha, b, hb, e => by
    rw [List.map_cons, List.nodup_cons] at h
    rcases List.mem_cons.1 ha with e1 | ha1
    · rcases List.mem_cons.1 hb with e2 | hb1
      · rw [e1, e2]
      · exact absurd (List.mem_map.2 ⟨b, hb1, by rw [← e, e1]⟩) h.1
    · rcases List.mem_cons.1 hb with e2 | hb1
      · exact absurd (List.mem_map.2 ⟨a, ha1, by rw [e, e2]⟩) h.1
      · exact nod_key h.2 a ha1 b hb1 e
theorem inv_sorted {l s : List Rn} (h : (l.map keyN).Nodup) (h1 : s.Pairwise fun a b => cmpR a b < 0) (h2 : ∀ r ∈ s, r ∈ l.map invR) (h3 : ∀ r ∈ l.map invR, ∃ q ∈ s, keyO q = keyO r) : s = invL l := by
  refine Inv.uniq (l := l) ⟨h1, fun r => ?_⟩ (inv_invL h)
  have key := nod_key h
  constructor
  · intro hr
    obtain ⟨q, hq, rfl⟩ := List.mem_map.1 (h2 r hr)
    rw [invR_inv]; exact hq
  · intro hr
    obtain ⟨q, hq, e⟩ := h3 r (List.mem_map.2 ⟨invR r, hr, invR_inv r⟩)
    obtain ⟨p, hp, rfl⟩ := List.mem_map.1 (h2 q hq)
    have := key p hp (invR r) hr e
    rw [← invR_inv r, ← this]
    exact hq
def invE (l : List Rn) : List Rn × Int := if checkR l ≠ 0 then ([], checkR l) else (invL l, 0)
end Go.Proofs.YtpecmehekandgaaGreatDoor
namespace Go.Proofs.YtpecmehekandgaaGreatDoor
open Go.Proofs
end Go.Proofs.YtpecmehekandgaaGreatDoor
namespace Go.Proofs.YtpecmehekandgaaGreatDoor
open Go.Proofs
set_option maxRecDepth 10000
attribute [local irreducible] SemVC CallVC Tri Stuck YVC GenP GenVC
end Go.Proofs.YtpecmehekandgaaGreatDoor
namespace Go.Proofs.YtpecmehekandgaaGreatDoor
open Go.Proofs
set_option maxRecDepth 10000
attribute [local irreducible] SemVC CallVC Tri Stuck YVC GenP GenVC
end Go.Proofs.YtpecmehekandgaaGreatDoor
namespace Go.Proofs.YtpecmehekandgaaGreatDoor
open Go.Proofs
end Go.Proofs.YtpecmehekandgaaGreatDoor
