/-
  Rename: lists of renamings made one by one: two renamings together, what undoes one; plainly. Terms: tidying keeps an axiom valid and adds no names; the names of valid axioms are names. Terms: has, within of the law; FewAxioms of the reference. Terms: within of the law. Terms: vocabularies are sorted without repetition, and are within one another as the law says.
  Conditions: none.
-/
import Derived.Test.YtpecmehekandgaaGreatDoorMTcr
import Derived.Test.YtpecmehekandgaaGreatDoorMGr
import Derived.Test.YtpecmehekandgaaGreatDoorMTca
import Derived.Test.YtpecmehekandgaaGreatDoorMSyb
set_option linter.unnecessarySimpa false
set_option linter.unusedSectionVars false
set_option linter.unusedSimpArgs false
set_option linter.unusedVariables false
namespace Go.Proofs.YtpecmehekandgaaGreatDoor
open Go.Proofs
def withR : List Rn → Rn → List Rn
  | [], x => [x]
  | a :: r, x => if cmpR a x < 0 then a :: withR r x else if cmpR x a < 0 then x :: a :: r else a :: r
theorem withR_cons (a : Rn) (r : List Rn) (x : Rn) : withR (a :: r) x = if cmpR a x < 0 then a :: withR r x else if cmpR x a < 0 then x :: a :: r else a :: r := rfl
theorem cmpR_anti (a b : Rn) : cmpR b a = - cmpR a b := cmpR_lc.anti a b
theorem mem_withR {x : Rn} : ∀ {l : List Rn} {y : Rn}, y ∈ withR l x → y ∈ l ∨ y = x
  | [], y, h => by simp [withR] at h; exact .inr h
  | a :: r, y, h => by
    rw [withR_cons] at h
    split at h
    · rcases List.mem_cons.1 h with rfl | h
      · exact .inl (by simp)
      · rcases mem_withR h with h | h
        · exact .inl (by simp [h])
        · exact .inr h
    · split at h
      · rcases List.mem_cons.1 h with rfl | h
        · exact .inr rfl
        · exact .inl h
      · exact .inl h
theorem sub_withR {x : Rn} : ∀ {l : List Rn} {y : Rn}, y ∈ l → y ∈ withR l x
  | a :: r, y, h => by
    rw [withR_cons]
    split
    · rcases List.mem_cons.1 h with rfl | h
      · simp
      · exact List.mem_cons_of_mem _ (sub_withR h)
    · split
      · exact List.mem_cons_of_mem _ h
      · exact h
theorem self_withR {x : Rn} : ∀ {l : List Rn}, (∀ a ∈ l, keyO a = keyO x → a = x) → x ∈ withR l x
  | [], _ => by simp [withR]
  | a :: r, h => by
    rw [withR_cons]
    split
    · exact List.mem_cons_of_mem _ (self_withR fun b hb => h b (by simp [hb]))
    · rename_i h1
      split
      · simp
      · rename_i h2
        have h3 := cmpR_anti a x
        have h0 : cmpR a x = 0 := by omega
        have := h a (by simp) (cmpR_zero.1 h0)
        simp [this]
theorem str_withR {x : Rn} : ∀ {l : List Rn}, (l.Pairwise fun a b => cmpR a b < 0) → (withR l x).Pairwise fun a b => cmpR a b < 0
  | [], _ => by simp [withR]
  | a :: r, h => by
    have h1 := List.pairwise_cons.1 h
    rw [withR_cons]
    split
    · rename_i hx
      refine List.pairwise_cons.2 ⟨fun b hb => ?_, str_withR h1.2⟩
      rcases mem_withR hb with hb | rfl
      · exact h1.1 b hb
      · exact hx
    · split
      · rename_i hx
        refine List.pairwise_cons.2 ⟨fun b hb => ?_, h⟩
        rcases List.mem_cons.1 hb with rfl | hb
        · exact hx
        · exact cmpR_tr hx (h1.1 b hb)
      · exact h
theorem len_withR (x : Rn) : ∀ l : List Rn, (withR l x).length ≤ l.length + 1
  | [] => by simp [withR]
  | a :: r => by
    have := len_withR x r
    rw [withR_cons]
    split
    · simp only [List.length_cons]; omega
    · split
      · simp
      · simp
def newR (l m : List Rn) (r : Rn) : Rn := ⟨r.kind, r.old, nameR m r.kind (nameR l r.kind r.old)⟩
theorem newR_key {l m : List Rn} {q r : Rn} (h : keyO q = keyO r) : newR l m q = newR l m r := by
  unfold keyO at h
  rw [Prod.mk.injEq] at h
  unfold newR
  rw [h.1, h.2]
def stepC (l m out : List Rn) (r : Rn) : List Rn := if (newR l m r).old = (newR l m r).new then out else withR out (newR l m r)
def compL (l m : List Rn) : List Rn := (l ++ m).foldl (stepC l m) []
theorem fold_comp (l m : List Rn) : ∀ (todo done out : List Rn), (out.Pairwise fun a b => cmpR a b < 0) → (∀ r, r ∈ out ↔ (∃ q ∈ done, r = newR l m q) ∧ r.new ≠ r.old) →
    ((todo.foldl (stepC l m) out).Pairwise fun a b => cmpR a b < 0) ∧ ∀ r, r ∈ todo.foldl (stepC l m) out ↔ (∃ q ∈ done ++ todo, r = newR l m q) ∧ r.new ≠ r.old
  | [], done, out, h1, h2 => by
    rw [List.append_nil]
    exact ⟨h1, h2⟩
  | x :: t, done, out, h1, h2 => by
    rw [List.foldl_cons, show done ++ x :: t = (done ++ [x]) ++ t by simp]
    by_cases he : (newR l m x).old = (newR l m x).new
    · rw [show stepC l m out x = out by rw [stepC, if_pos he]]
      refine fold_comp l m t (done ++ [x]) out h1 fun r => ?_
      rw [h2]
      constructor
      · rintro ⟨⟨q, hq, e⟩, hn⟩
        exact ⟨⟨q, by simp [hq], e⟩, hn⟩
      · rintro ⟨⟨q, hq, e⟩, hn⟩
        rcases List.mem_append.1 hq with hq | hq
        · exact ⟨⟨q, hq, e⟩, hn⟩
        · simp only [List.mem_singleton] at hq
          rw [hq] at e
          rw [e] at hn
          exact absurd he.symm hn
    · rw [show stepC l m out x = withR out (newR l m x) by rw [stepC, if_neg he]]
      refine fold_comp l m t (done ++ [x]) _ (str_withR h1) fun r => ?_
      constructor
      · intro hr
        rcases mem_withR hr with hr | rfl
        · obtain ⟨⟨q, hq, e⟩, hn⟩ := (h2 r).1 hr
          exact ⟨⟨q, by simp [hq], e⟩, hn⟩
        · exact ⟨⟨x, by simp, rfl⟩, fun e => he e.symm⟩
      · rintro ⟨⟨q, hq, e⟩, hn⟩
        rcases List.mem_append.1 hq with hq | hq
        · exact sub_withR ((h2 r).2 ⟨⟨q, hq, e⟩, hn⟩)
        · simp only [List.mem_singleton] at hq
          rw [hq] at e
          rw [e]
          refine self_withR fun a ha hk => ?_
          obtain ⟨⟨q2, hq2, e2⟩, _⟩ := (h2 a).1 ha
          rw [e2] at hk ⊢
          exact newR_key hk
theorem comp_of {l m x : List Rn} (hl : l.Pairwise fun a b => cmpR a b < 0) (hm : m.Pairwise fun a b => cmpR a b < 0) (h1 : x.Pairwise fun a b => cmpR a b < 0) (h2 : ∀ r, r ∈ x ↔ (∃ q ∈ l ++ m, r = newR l m q) ∧ r.new ≠ r.old) : Comp l m x := by
  refine ⟨h1, fun r => ?_⟩
  rw [h2]
  constructor
  · rintro ⟨⟨q, hq, rfl⟩, hn⟩
    exact ⟨rfl, hn⟩
  · rintro ⟨e, hn⟩
    refine ⟨?_, hn⟩
    obtain ⟨q, hq, hk⟩ := comp_key hl hm (k := r.kind) (s := r.old) (by rw [← e]; exact hn)
    refine ⟨q, hq, ?_⟩
    rw [newR_key (r := r) hk]
    exact Rn.ext' rfl rfl e
theorem comp_compL {l m : List Rn} (hl : l.Pairwise fun a b => cmpR a b < 0) (hm : m.Pairwise fun a b => cmpR a b < 0) : Comp l m (compL l m) := by
  obtain ⟨h1, h2⟩ := fold_comp l m (l ++ m) [] [] .nil (fun r => by simp)
  exact comp_of hl hm h1 (fun r => by rw [← List.nil_append (l ++ m)]; exact h2 r)
def fltL (l m s : List Rn) : List Rn := (s.map (newR l m)).filter fun r => !decide (r.new = r.old)
theorem comp_flt {l m s : List Rn} (hl : l.Pairwise fun a b => cmpR a b < 0) (hm : m.Pairwise fun a b => cmpR a b < 0) (h1 : s.Pairwise fun a b => cmpR a b < 0) (h2 : ∀ r ∈ s, r ∈ l ++ m) (h3 : ∀ r ∈ l ++ m, ∃ q ∈ s, keyO q = keyO r) : fltL l m s = compL l m := by
  refine Comp.uniq (l := l) (m := m) (comp_of hl hm ?_ fun r => ?_) (comp_compL hl hm)
  · refine List.Pairwise.filter _ (List.pairwise_map.2 (h1.imp fun {a b} h => ?_))
    have e : cmpR (newR l m a) (newR l m b) = cmpR a b := rfl
    rw [e]; exact h
  · unfold fltL
    rw [List.mem_filter, List.mem_map]
    simp only [Bool.not_eq_true', decide_eq_false_iff_not]
    constructor
    · rintro ⟨⟨q, hq, rfl⟩, hn⟩
      exact ⟨⟨q, h2 q hq, rfl⟩, hn⟩
    · rintro ⟨⟨q, hq, rfl⟩, hn⟩
      obtain ⟨p, hp, e⟩ := h3 q hq
      exact ⟨⟨p, hp, newR_key e⟩, hn⟩
def compR (l m : List Rn) : List Rn × Int :=
  if checkR l ≠ 0 then ([], checkR l) else if checkR m ≠ 0 then ([], checkR m) else if checkR (compL l m) ≠ 0 then ([], checkR (compL l m)) else (compL l m, 0)
theorem compR_ok {l m : List Rn} (h : (compR l m).2 = 0) : Good l ∧ Good m ∧ Good (compR l m).1 ∧ Comp l m (compR l m).1 := by
  unfold compR at h ⊢
  split at h
  · rename_i h1; exact absurd h h1
  · rename_i h1
    split at h
    · rename_i h2; exact absurd h h2
    · rename_i h2
      split at h
      · rename_i h3; exact absurd h h3
      · rename_i h3
        rw [if_neg h1, if_neg h2, if_neg h3]
        have g1 := (checkR_ok (by simpa using h1)).1
        have g2 := (checkR_ok (by simpa using h2)).1
        exact ⟨g1, g2, (checkR_ok (by simpa using h3)).1, comp_compL g1.str g2.str⟩
theorem len_fold (l m : List Rn) : ∀ todo out : List Rn, (todo.foldl (stepC l m) out).length ≤ out.length + todo.length
  | [], out => by simp
  | x :: t, out => by
    have h1 := len_fold l m t (stepC l m out x)
    have h2 : (stepC l m out x).length ≤ out.length + 1 := by
      unfold stepC
      split
      · omega
      · exact len_withR _ _
    rw [List.foldl_cons, List.length_cons]
    omega
theorem compL_len (l m : List Rn) : (compL l m).length ≤ l.length + m.length := by
  have := len_fold l m (l ++ m) []
  rw [List.length_append, List.length_nil] at this
  unfold compL; omega
theorem compR_len (l m : List Rn) : (compR l m).1.length ≤ l.length + m.length := by
  have := compL_len l m
  unfold compR
  split
  · simp
  · split
    · simp
    · split
      · simp
      · exact this
def invL (l : List Rn) : List Rn := l.foldl (fun o r => withR o (invR r)) []
theorem fold_invR : ∀ (todo done out : List Rn), ((done ++ todo).map keyN).Nodup → (out.Pairwise fun a b => cmpR a b < 0) → (∀ r, r ∈ out ↔ invR r ∈ done) →
    ((todo.foldl (fun o r => withR o (invR r)) out).Pairwise fun a b => cmpR a b < 0) ∧ ∀ r, r ∈ todo.foldl (fun o r => withR o (invR r)) out ↔ invR r ∈ done ++ todo
  | [], done, out, _, h1, h2 => by
    rw [List.append_nil]
    exact ⟨h1, h2⟩
  | x :: t, done, out, hn, h1, h2 => by
    rw [List.foldl_cons]
    rw [show done ++ x :: t = (done ++ [x]) ++ t by simp] at hn ⊢
    refine fold_invR t (done ++ [x]) _ hn (str_withR h1) fun r => ?_
    have hx : ∀ a ∈ done, keyN a ≠ keyN x := by
      intro a ha e
      rw [List.map_append, List.nodup_append, List.map_append, List.nodup_append] at hn
      exact hn.1.2.2 (keyN a) (List.mem_map_of_mem ha) (keyN x) (by simp) e
    constructor
    · intro hr
      rcases mem_withR hr with hr | rfl
      · exact List.mem_append_left _ ((h2 r).1 hr)
      · rw [invR_inv]; simp
    · intro hr
      rcases List.mem_append.1 hr with hr | hr
      · exact sub_withR ((h2 r).2 hr)
      · simp only [List.mem_singleton] at hr
        have e : r = invR x := by rw [← hr, invR_inv]
        rw [e]
        refine self_withR fun a ha hk => ?_
        exact absurd hk (hx (invR a) ((h2 a).1 ha))
theorem inv_invL {l : List Rn} (h : (l.map keyN).Nodup) : Inv l (invL l) := by
  obtain ⟨h1, h2⟩ := fold_invR l [] [] (by simpa using h) .nil (fun r => by simp)
  exact ⟨h1, fun r => by rw [← List.nil_append l]; exact h2 r⟩
theorem nod_key {α β : Type} {f : α → β} : ∀ {l : List α}, (l.map f).Nodup → ∀ a ∈ l, ∀ b ∈ l, f a = f b → a = b
  | [], _, a, ha, _, _, _ => by simp at ha
  | x :: t, h, a, ha, b, hb, e => by
    rw [List.map_cons, List.nodup_cons] at h
    rcases List.mem_cons.1 ha with e1 | ha1
    · rcases List.mem_cons.1 hb with e2 | hb1
      · rw [e1, e2]
      · exact absurd (List.mem_map.2 ⟨b, hb1, by rw [← e, e1]⟩) h.1
    · rcases List.mem_cons.1 hb with e2 | hb1
      · exact absurd (List.mem_map.2 ⟨a, ha1, by rw [e, e2]⟩) h.1
      · exact nod_key h.2 a ha1 b hb1 e
theorem inv_sorted {l s : List Rn} (h : (l.map keyN).Nodup) (h1 : s.Pairwise fun a b => cmpR a b < 0) (h2 : ∀ r ∈ s, r ∈ l.map invR) (h3 : ∀ r ∈ l.map invR, ∃ q ∈ s, keyO q = keyO r) : s = invL l := by
  refine Inv.uniq (l := l) ⟨h1, fun r => ?_⟩ (inv_invL h)
  have key := nod_key h
  constructor
  · intro hr
    obtain ⟨q, hq, rfl⟩ := List.mem_map.1 (h2 r hr)
    rw [invR_inv]; exact hq
  · intro hr
    obtain ⟨q, hq, e⟩ := h3 r (List.mem_map.2 ⟨invR r, hr, invR_inv r⟩)
    obtain ⟨p, hp, rfl⟩ := List.mem_map.1 (h2 q hq)
    have := key p hp (invR r) hr e
    rw [← invR_inv r, ← this]
    exact hq
def invE (l : List Rn) : List Rn × Int := if checkR l ≠ 0 then ([], checkR l) else (invL l, 0)
theorem invL_len (l : List Rn) : (invL l).length ≤ l.length := by
  have h : ∀ todo out : List Rn, (todo.foldl (fun o r => withR o (invR r)) out).length ≤ out.length + todo.length := by
    intro todo
    induction todo with
    | nil => intro out; simp
    | cons x t ih =>
      intro out
      have h1 := ih (withR out (invR x))
      have h2 := len_withR (invR x) out
      rw [List.foldl_cons, List.length_cons]
      omega
  have := h l []
  rw [List.length_nil] at this
  unfold invL; omega
end Go.Proofs.YtpecmehekandgaaGreatDoor
namespace Go.Proofs.YtpecmehekandgaaGreatDoor
open Go.Proofs
structure AxOk (u : Use) (x : Ax) : Prop where
  kind : 1 ≤ x.kind ∧ x.kind ≤ 9
  shaped : shapedU u x = true
  named : namedF u x = true
  left : u.left = true → conceptE x.left = 0
  right : u.right = true → conceptE x.right = 0
  bare : bareE x = false
theorem axiomE_iff (x : Ax) : axiomE x = 0 ↔ AxOk (useAt x.kind) x := by
  unfold axiomE shapedF
  split
  · rename_i h
    rw [if_pos rfl]
    constructor
    · intro h; exact absurd h (by decide)
    · intro h'
      have hk := h'.kind
      omega
  · rename_i h
    by_cases hs : shapedU (useAt x.kind) x = false
    · rw [if_pos hs]
      constructor
      · intro h; exact absurd h (by decide)
      · intro h'; rw [h'.shaped] at hs; exact absurd hs (by decide)
    rw [if_neg hs]
    have hs : shapedU (useAt x.kind) x = true := by simpa using hs
    unfold axiomU
    split
    · rename_i hn
      constructor
      · intro h; exact absurd h (by decide)
      · intro h'; rw [h'.named] at hn; exact absurd hn (by decide)
    · rename_i hn
      have hn : namedF (useAt x.kind) x = true := by simpa using hn
      split
      · rename_i h1
        exact ⟨fun h => absurd h h1.2, fun h' => absurd (h'.left h1.1) h1.2⟩
      · rename_i h1
        have h1 : (useAt x.kind).left = true → conceptE x.left = 0 := fun h2 => Classical.byContradiction fun h3 => h1 ⟨h2, h3⟩
        split
        · rename_i h2
          exact ⟨fun h => absurd h h2.2, fun h' => absurd (h'.right h2.1) h2.2⟩
        · rename_i h2
          have h2 : (useAt x.kind).right = true → conceptE x.right = 0 := fun h3 => Classical.byContradiction fun h4 => h2 ⟨h3, h4⟩
          split
          · rename_i hb
            constructor
            · intro h; exact absurd h (by decide)
            · intro h'; rw [h'.bare] at hb; exact absurd hb (by decide)
          · rename_i hb
            exact ⟨fun _ => ⟨by omega, hs, hn, h1, h2, by simpa using hb⟩, fun _ => rfl⟩
structure SideOk (b : Bool) (c t : Cn) : Prop where
  ok : b = true → conceptE t = 0
  nam : NamesIn t c
  bare : bareF t = true → bareF c = true
  same : b = false → t = c
theorem side_ok {b : Bool} {c : Cn} (h : b = true → conceptE c = 0) (h0 : (sideF b c).2 = 0) : SideOk b c (sideF b c).1 := by
  unfold sideF at h0 ⊢
  cases b with
  | false => exact ⟨fun h => absurd h (by decide), fun _ _ _ _ h => h, id, fun _ => rfl⟩
  | true =>
    rw [if_pos rfl] at h0 ⊢
    obtain ⟨h1, h2, h3⟩ := concept_tidy (h rfl) h0
    exact ⟨fun _ => h1, h2, h3, fun h => absurd h (by decide)⟩
structure SubX (t x : Ax) : Prop where
  a : ∀ s, axA t s → axA x s
  b : ∀ s, axB t s → axB x s
  c : ∀ s, axC t s → axC x s
  d : ∀ s, axD t s → axD x s
theorem sub_same {x : Ax} {l r : Cn} (hl : NamesIn l x.left) (hr : NamesIn r x.right) : SubX { x with left := l, right := r } x := by
  have h : ∀ k s, k ≠ 1 → k ≠ 5 → hasK k l s ∨ hasK k r s → hasK k x.left s ∨ hasK k x.right s := fun k s h1 h2 h => h.imp (hl k s h1 h2) (hr k s h1 h2)
  refine ⟨fun s hs => h 3 s (by decide) (by decide) hs, fun s hs => ?_, fun s hs => h 7 s (by decide) (by decide) hs, fun s hs => ?_⟩
  · have hs : hasK 6 l s ∨ hasK 6 r s ∨ s ∈ x.roles ∨ x.role = s := hs
    rcases hs with hs | hs | hs
    · exact .inl (hl 6 s (by decide) (by decide) hs)
    · exact .inr (.inl (hr 6 s (by decide) (by decide) hs))
    · exact .inr (.inr hs)
  · have hs : hasK 4 l s ∨ hasK 4 r s ∨ x.a = s ∨ x.b = s := hs
    rcases hs with hs | hs | hs
    · exact .inl (hl 4 s (by decide) (by decide) hs)
    · exact .inr (.inl (hr 4 s (by decide) (by decide) hs))
    · exact .inr (.inr hs)
theorem sub_swap {x : Ax} {l r : Cn} (hl : NamesIn l x.left) (hr : NamesIn r x.right) : SubX { x with left := r, right := l } x := by
  have h : ∀ k s, k ≠ 1 → k ≠ 5 → hasK k r s ∨ hasK k l s → hasK k x.left s ∨ hasK k x.right s := fun k s h1 h2 h => h.symm.imp (hl k s h1 h2) (hr k s h1 h2)
  refine ⟨fun s hs => h 3 s (by decide) (by decide) hs, fun s hs => ?_, fun s hs => h 7 s (by decide) (by decide) hs, fun s hs => ?_⟩
  · have hs : hasK 6 r s ∨ hasK 6 l s ∨ s ∈ x.roles ∨ x.role = s := hs
    rcases hs with hs | hs | hs
    · exact .inr (.inl (hr 6 s (by decide) (by decide) hs))
    · exact .inl (hl 6 s (by decide) (by decide) hs)
    · exact .inr (.inr hs)
  · have hs : hasK 4 r s ∨ hasK 4 l s ∨ x.a = s ∨ x.b = s := hs
    rcases hs with hs | hs | hs
    · exact .inr (.inl (hr 4 s (by decide) (by decide) hs))
    · exact .inl (hl 4 s (by decide) (by decide) hs)
    · exact .inr (.inr hs)
theorem shaped_new {u : Use} {x : Ax} {l r : Cn} (h : shapedU u x = true) (hl : u.left = true ∨ l = x.left) (hr : u.right = true ∨ r = x.right) : shapedU u { x with left := l, right := r } = true := by
  have h : ((u.left || emptyF x.left) && ((u.right || emptyF x.right) && ((u.role || decide (x.role = [])) && ((u.a || decide (x.a = [])) && ((u.b || decide (x.b = [])) && (decide (u.least ≤ x.roles.length) && decide ((x.roles.length : Int) ≤ u.most))))))) = true := h
  show ((u.left || emptyF l) && ((u.right || emptyF r) && ((u.role || decide (x.role = [])) && ((u.a || decide (x.a = [])) && ((u.b || decide (x.b = [])) && (decide (u.least ≤ x.roles.length) && decide ((x.roles.length : Int) ≤ u.most))))))) = true
  rw [Bool.and_eq_true, Bool.and_eq_true] at h
  rw [Bool.and_eq_true, Bool.and_eq_true]
  refine ⟨?_, ?_, h.2.2⟩
  · rcases hl with hl | rfl
    · rw [hl]; rfl
    · exact h.1
  · rcases hr with hr | rfl
    · rw [hr]; rfl
    · exact h.2.1
theorem bareE_new {x : Ax} {l r : Cn} (h : bareE x = false) (hl : bareF l = true → bareF x.left = true) (hr : bareF r = true → bareF x.right = true) : bareE { x with left := l, right := r } = false := by
  have h : (if x.kind = 2 then (bareF x.left || bareF x.right) else if x.kind = 1 ∨ x.kind = 4 ∨ x.kind = 8 then bareF x.right else false) = false := h
  show (if x.kind = 2 then (bareF l || bareF r) else if x.kind = 1 ∨ x.kind = 4 ∨ x.kind = 8 then bareF r else false) = false
  revert h hl hr
  cases bareF l <;> cases bareF r <;> cases bareF x.left <;> cases bareF x.right <;> split <;> (try split) <;> simp
theorem bareE_swap {x : Ax} {l r : Cn} (hk : x.kind = 2 ∨ x.kind = 3) (h : bareE x = false) (hl : bareF l = true → bareF x.left = true) (hr : bareF r = true → bareF x.right = true) : bareE { x with left := r, right := l } = false := by
  have h : (if x.kind = 2 then (bareF x.left || bareF x.right) else if x.kind = 1 ∨ x.kind = 4 ∨ x.kind = 8 then bareF x.right else false) = false := h
  show (if x.kind = 2 then (bareF r || bareF l) else if x.kind = 1 ∨ x.kind = 4 ∨ x.kind = 8 then bareF l else false) = false
  rcases hk with hk | hk
  · rw [if_pos hk] at h ⊢
    revert h hl hr
    cases bareF l <;> cases bareF r <;> cases bareF x.left <;> cases bareF x.right <;> simp
  · rw [if_neg (by omega), if_neg (by omega)]
theorem axiom_tidy {x : Ax} (h0 : (tidyA x).2 = 0) : axiomE x = 0 ∧ axiomE (tidyA x).1 = 0 ∧ SubX (tidyA x).1 x := by
  have hE : axiomE x = 0 := by
    unfold tidyA at h0
    split at h0
    · exact h0
    · rename_i h; exact Classical.byContradiction fun h' => h h'
  refine ⟨hE, ?_⟩
  have ho := (axiomE_iff x).1 hE
  have hA : tidyA x = tidyU (useAt x.kind) x := by unfold tidyA; rw [if_neg (by omega)]
  rw [hA] at h0 ⊢
  have huse : x.kind = 2 ∨ x.kind = 3 → (useAt x.kind).left = true ∧ (useAt x.kind).right = true := by
    rintro (h | h) <;> rw [h] <;> exact ⟨rfl, rfl⟩
  rw [axiomE_iff]
  generalize hl : sideF (useAt x.kind).left x.left = L
  generalize hr : sideF (useAt x.kind).right x.right = R
  unfold tidyU at h0 ⊢
  rw [hl, hr] at h0 ⊢
  split at h0
  · rename_i h; exact absurd h0 h
  · rename_i hl0
    split at h0
    · rename_i h; exact absurd h0 h
    · rename_i hr0
      have sl : SideOk (useAt x.kind).left x.left L.1 := by rw [← hl]; exact side_ok ho.left (by rw [hl]; omega)
      have sr : SideOk (useAt x.kind).right x.right R.1 := by rw [← hr]; exact side_ok ho.right (by rw [hr]; omega)
      rw [if_neg hl0, if_neg hr0]
      split
      · rename_i hs
        obtain ⟨u1, u2⟩ := huse hs.1
        refine ⟨⟨ho.kind, shaped_new ho.shaped (.inl u1) (.inl u2), ho.named, fun _ => sr.ok u2, fun _ => sl.ok u1, bareE_swap hs.1 ho.bare sl.bare sr.bare⟩, sub_swap sl.nam sr.nam⟩
      · have e1 : (useAt x.kind).left = true ∨ L.1 = x.left := by cases hb : (useAt x.kind).left with
          | true => exact .inl rfl
          | false => exact .inr (sl.same hb)
        have e2 : (useAt x.kind).right = true ∨ R.1 = x.right := by cases hb : (useAt x.kind).right with
          | true => exact .inl rfl
          | false => exact .inr (sr.same hb)
        exact ⟨⟨ho.kind, shaped_new ho.shaped e1 e2, ho.named, sl.ok, sr.ok, bareE_new ho.bare sl.bare sr.bare⟩, sub_same sl.nam sr.nam⟩
end Go.Proofs.YtpecmehekandgaaGreatDoor
namespace Go.Proofs.YtpecmehekandgaaGreatDoor
open Go.Proofs
set_option maxRecDepth 10000
attribute [local irreducible] SemVC CallVC Tri Stuck YVC GenP GenVC
end Go.Proofs.YtpecmehekandgaaGreatDoor
namespace Go.Proofs.YtpecmehekandgaaGreatDoor
open Go.Proofs
set_option maxRecDepth 10000
attribute [local irreducible] SemVC CallVC Tri Stuck YVC GenP GenVC
end Go.Proofs.YtpecmehekandgaaGreatDoor
namespace Go.Proofs.YtpecmehekandgaaGreatDoor
open Go.Proofs
theorem mem_sortK {ks : List (List UInt8)} {s : List UInt8} : s ∈ sortK ks ↔ s ∈ ks := List.mem_mergeSort
structure NdV (v : Nm) : Prop where
  a : v.a.Nodup
  b : v.b.Nodup
  c : v.c.Nodup
  d : v.d.Nodup
theorem addC_nd {v : Nm} {c : Cn} (h : NdV v) : NdV (addC v c) := by
  unfold addC
  split
  · exact ⟨addK_nodup h.a, h.b, h.c, h.d⟩
  · split
    · exact ⟨h.a, addK_nodup h.b, h.c, h.d⟩
    · split
      · exact ⟨h.a, h.b, addK_nodup h.c, h.d⟩
      · split
        · exact ⟨h.a, h.b, h.c, addK_nodup h.d⟩
        · exact h
theorem vocV_nd (l : List Ax) : NdV (vocV l) := by
  refine fold_inv (P := NdV) (add := addX) (fun v x h => ?_) l _ ⟨List.nodup_nil, List.nodup_nil, List.nodup_nil, List.nodup_nil⟩
  have hS : ∀ v c, NdV v → NdV (addS v c) := fun v c h => fold_inv (P := NdV) (add := addC) (fun v c h => addC_nd h) (nodes c) v h
  have hR : ∀ v s, NdV v → NdV (addR v s) := fun v s h => ⟨h.a, addK_nodup h.b, h.c, h.d⟩
  have hI : ∀ v s, NdV v → NdV (addI v s) := fun v s h => ⟨h.a, h.b, h.c, addK_nodup h.d⟩
  exact hI _ _ (hI _ _ (hR _ _ (fold_inv (P := NdV) (add := addR) (fun v s h => hR v s h) x.roles _ (fold_inv (P := NdV) (add := addS) (fun v s h => hS v s h) [x.left, x.right] v h))))
def lst (v : Nm) : Nat → List (List UInt8)
  | 0 => v.a
  | 1 => v.b
  | 2 => v.c
  | _ => v.d
def axI (x : Ax) (s : List UInt8) : Nat → Prop
  | 0 => axA x s
  | 1 => axB x s ∧ s ≠ []
  | 2 => axC x s
  | _ => axD x s ∧ s ≠ []
theorem mem_lst (l : List Ax) (i : Nat) (s : List UInt8) : s ∈ lst (vocN l) i ↔ ∃ x ∈ l, axI x s i := by
  have hn := vocV_nd l
  match i with
  | 0 => exact mem_sortK.trans (voc_a l s)
  | 1 =>
    refine mem_sortK.trans ?_
    rw [hn.b.mem_erase_iff, voc_b]
    exact ⟨fun ⟨h, x, hx, h'⟩ => ⟨x, hx, h', h⟩, fun ⟨x, hx, h', h⟩ => ⟨h, x, hx, h'⟩⟩
  | 2 => exact mem_sortK.trans (voc_c l s)
  | n + 3 =>
    refine mem_sortK.trans ?_
    rw [hn.d.mem_erase_iff, voc_d]
    exact ⟨fun ⟨h, x, hx, h'⟩ => ⟨x, hx, h', h⟩, fun ⟨x, hx, h', h⟩ => ⟨h, x, hx, h'⟩⟩
theorem axI_tidy {x : Ax} (h : (tidyA x).2 = 0) (i : Nat) {s : List UInt8} (hs : axI (tidyA x).1 s i) : axI x s i := by
  obtain ⟨_, _, h3⟩ := axiom_tidy h
  match i, hs with
  | 0, hs => exact h3.a s hs
  | 1, hs => exact ⟨h3.b s hs.1, hs.2⟩
  | 2, hs => exact h3.c s hs
  | n + 3, hs => exact ⟨h3.d s hs.1, hs.2⟩
theorem firstA_iff : ∀ (l : List Ax), firstA l = 0 ↔ ∀ x ∈ l, axiomE x = 0
  | [] => by simp [firstA]
  | x :: r => by
    rw [firstA]
    have := firstA_iff r
    split <;> rename_i h
    · simp [h]
    · have h : axiomE x = 0 := by simpa using h
      simp [h, this]
end Go.Proofs.YtpecmehekandgaaGreatDoor
