/-
  Terms: the order of concepts is total; sorted sets of concepts. Merging in place, plainly: what a symmetric merge does to a list, and when its two halves may be merged alone. Rename: renamings, plainly: what is valid, what a name becomes, what two renamings are together, what undoes one. Rename: the types that come in.
  Conditions: none.
-/
import Derived.Test.YtnemengadjimcaaDoorMTca
import Derived.WalkKit
set_option linter.unnecessarySimpa false
set_option linter.unusedSectionVars false
set_option linter.unusedSimpArgs false
set_option linter.unusedVariables false
namespace Go.Proofs.YtnemengadjimcaaDoor
open Go.Proofs
def Cmp3 {α : Type} (c : α → α → Int) (a b d : α) : Prop :=
  (c a b < 0 → c b d < 0 → c a d < 0) ∧ (c a b = 0 → c a d = c b d) ∧ (c b d = 0 → c a b = c a d)
structure LCk {α : Type} (c : α → α → Int) : Prop where
  rng : ∀ a b, c a b = -1 ∨ c a b = 0 ∨ c a b = 1
  anti : ∀ a b, c b a = - c a b
  t3 : ∀ a b d, Cmp3 c a b d
def lex (x y : Int) : Int := if x ≠ 0 then x else y
theorem LCk.lex {α : Type} {c1 c2 : α → α → Int} (h1 : LCk c1) (h2 : LCk c2) : LCk (fun a b => lex (c1 a b) (c2 a b)) := by
  refine ⟨fun a b => ?_, fun a b => ?_, fun a b d => ?_⟩
  · have := h1.rng a b
    have := h2.rng a b
    unfold Proofs.YtnemengadjimcaaDoor.lex
    split <;> omega
  · have := h1.anti a b
    have := h2.anti a b
    unfold Proofs.YtnemengadjimcaaDoor.lex
    split <;> split <;> omega
  · have a1 := h1.t3 a b d
    have a2 := h1.t3 b d a
    have a3 := h1.t3 d a b
    have b1 := h2.t3 a b d
    have r1 := h1.rng a b
    have r2 := h1.rng b d
    have r3 := h1.rng a d
    have n1 := h1.anti a b
    have n2 := h1.anti b d
    have n3 := h1.anti a d
    unfold Cmp3 at *
    unfold Proofs.YtnemengadjimcaaDoor.lex
    dsimp only
    refine ⟨?_, ?_, ?_⟩ <;> (split <;> split <;> split <;> omega)
theorem LCk.of {α β : Type} {c : β → β → Int} (h : LCk c) (k : α → β) : LCk (fun a b => c (k a) (k b)) :=
  ⟨fun a b => h.rng _ _, fun a b => h.anti _ _, fun a b d => h.t3 _ _ _⟩
theorem LCk.int : LCk cmpI := by
  refine ⟨fun a b => ?_, fun a b => ?_, fun a b d => ?_⟩
  · unfold cmpI; split <;> (try split) <;> simp
  · unfold cmpI; split <;> split <;> (try split) <;> omega
  · unfold Cmp3 cmpI
    refine ⟨?_, ?_, ?_⟩ <;> (split <;> (try split) <;> split <;> (try split) <;> (try split) <;> (try split) <;> omega)
theorem cmpI_zero {a b : Int} : cmpI a b = 0 ↔ a = b := by
  unfold cmpI; split <;> (try split) <;> omega
theorem LCk.str : LCk cmpB := by
  refine ⟨cmpB_range, cmpB_swap, fun a b d => ⟨cmpB_trans a b d, fun h => ?_, fun h => ?_⟩⟩
  · rw [(cmpB_zero a b).1 h]
  · rw [(cmpB_zero b d).1 h]
theorem orF_cons (x : Int) (l : List Int) : orF (x :: l) = lex x (orF l) := rfl
theorem LCk.zero {α : Type} : LCk (fun _ _ : α => (0 : Int)) := ⟨fun _ _ => by simp, fun _ _ => by simp, fun _ _ _ => by simp [Cmp3]⟩
theorem headC_lc : LCk headC := by
  have h := (LCk.int.of (fun c : Cn => (sizeF c : Int))).lex ((LCk.int.of Cn.kind).lex ((LCk.str.of Cn.name).lex ((LCk.int.of Cn.lo).lex ((LCk.int.of Cn.hi).lex LCk.zero))))
  exact h
theorem lex_zero {x y : Int} : lex x y = 0 ↔ x = 0 ∧ y = 0 := by unfold lex; split <;> omega
theorem headC_zero {a b : Cn} (h : headC a b = 0) : a.kind = b.kind ∧ a.name = b.name ∧ a.lo = b.lo ∧ a.hi = b.hi := by
  unfold headC at h
  simp only [orF_cons, lex_zero, cmpI_zero, cmpB_zero] at h
  exact ⟨h.2.1, h.2.2.1, h.2.2.2.1, h.2.2.2.2.1⟩
theorem cmpC_lex (a b : Cn) : cmpC a b = lex (headC a b) (cmpL a.parts b.parts) := by rw [cmpC_eq]; rfl
mutual
theorem cmpC_rng : ∀ (a b : Cn), cmpC a b = -1 ∨ cmpC a b = 0 ∨ cmpC a b = 1
  | .mk k n lo hi ps, b => by
    have h1 := headC_lc.rng (.mk k n lo hi ps) b
    have h2 := cmpL_rng ps b.parts
    rw [cmpC_lex, show (Cn.mk k n lo hi ps).parts = ps from rfl]
    unfold lex; split <;> omega
theorem cmpL_rng : ∀ (l m : List Cn), cmpL l m = -1 ∨ cmpL l m = 0 ∨ cmpL l m = 1
  | [], [] => by simp [cmpL]
  | [], _ :: _ => by simp [cmpL]
  | _ :: _, [] => by simp [cmpL]
  | a :: l, b :: m => by
    have h1 := cmpC_rng a b
    have h2 := cmpL_rng l m
    rw [cmpL]; split <;> omega
end
mutual
theorem cmpC_anti : ∀ (a b : Cn), cmpC b a = - cmpC a b
  | .mk k n lo hi ps, b => by
    have h1 := headC_lc.anti (.mk k n lo hi ps) b
    have h2 := cmpL_anti ps b.parts
    rw [cmpC_lex, cmpC_lex, h1]
    show lex _ (cmpL b.parts ps) = - lex _ (cmpL ps b.parts)
    rw [h2]
    unfold lex; split <;> split <;> omega
theorem cmpL_anti : ∀ (l m : List Cn), cmpL m l = - cmpL l m
  | [], [] => by simp [cmpL]
  | [], _ :: _ => by simp [cmpL]
  | _ :: _, [] => by simp [cmpL]
  | a :: l, b :: m => by
    have h1 := cmpC_anti a b
    have h2 := cmpL_anti l m
    rw [cmpL, cmpL, h1, h2]; split <;> split <;> omega
end
mutual
theorem cmpC_t3 : ∀ (a b d : Cn), Cmp3 cmpC a b d
  | .mk k n lo hi ps, b, d => by
    have a1 := headC_lc.t3 (.mk k n lo hi ps) b d
    have a2 := headC_lc.t3 b d (.mk k n lo hi ps)
    have a3 := headC_lc.t3 d (.mk k n lo hi ps) b
    have n1 := headC_lc.anti (.mk k n lo hi ps) b
    have n2 := headC_lc.anti b d
    have n3 := headC_lc.anti (.mk k n lo hi ps) d
    have r1 := headC_lc.rng (.mk k n lo hi ps) b
    have r2 := headC_lc.rng b d
    have r3 := headC_lc.rng (.mk k n lo hi ps) d
    have b1 := cmpL_t3 ps b.parts d.parts
    unfold Cmp3 at *
    rw [cmpC_lex, cmpC_lex, cmpC_lex]
    rw [show (Cn.mk k n lo hi ps).parts = ps from rfl]
    generalize headC (.mk k n lo hi ps) b = x1 at *
    generalize headC (.mk k n lo hi ps) d = x2 at *
    generalize headC b d = x3 at *
    generalize headC b (.mk k n lo hi ps) = x4 at *
    generalize headC d (.mk k n lo hi ps) = x5 at *
    generalize headC d b = x6 at *
    generalize cmpL ps b.parts = y1 at *
    generalize cmpL ps d.parts = y2 at *
    generalize cmpL b.parts d.parts = y3 at *
    unfold lex
    refine ⟨?_, ?_, ?_⟩ <;> (split <;> split <;> split <;> omega)
theorem cmpL_t3 : ∀ (l m n : List Cn), Cmp3 cmpL l m n
  | [], m, n => by
    cases m <;> cases n <;> simp [Cmp3, cmpL]
  | a :: l, [], n => by
    cases n <;> simp [Cmp3, cmpL]
  | a :: l, b :: m, [] => by
    simp only [Cmp3, cmpL]
    refine ⟨by omega, fun h => ?_, fun h => by omega⟩
    first | rfl | trivial | (simp_all)
  | a :: l, b :: m, d :: n => by
    have a1 := cmpC_t3 a b d
    have b1 := cmpL_t3 l m n
    have r1 := cmpC_rng a b
    have r2 := cmpC_rng b d
    have r3 := cmpC_rng a d
    have n2 := cmpC_anti b d
    unfold Cmp3 at *
    rw [cmpL, cmpL, cmpL]
    generalize cmpC a b = x1 at *
    generalize cmpC a d = x2 at *
    generalize cmpC b d = x3 at *
    generalize cmpL l m = y1 at *
    generalize cmpL l n = y2 at *
    generalize cmpL m n = y3 at *
    refine ⟨?_, ?_, ?_⟩ <;> (split <;> split <;> split <;> omega)
end
mutual
theorem cmpC_eq0 : ∀ (a b : Cn), cmpC a b = 0 → a = b
  | .mk k n lo hi ps, .mk k' n' lo' hi' ps', h => by
    rw [cmpC_lex, lex_zero] at h
    obtain ⟨h1, h2⟩ := h
    obtain ⟨e1, e2, e3, e4⟩ := headC_zero h1
    have e5 := cmpL_eq0 ps ps' h2
    simp only [Cn.kind, Cn.name, Cn.lo, Cn.hi] at e1 e2 e3 e4
    rw [e1, e2, e3, e4, e5]
theorem cmpL_eq0 : ∀ (l m : List Cn), cmpL l m = 0 → l = m
  | [], [], _ => rfl
  | [], _ :: _, h => by simp [cmpL] at h
  | _ :: _, [], h => by simp [cmpL] at h
  | a :: l, b :: m, h => by
    rw [cmpL] at h
    have h : lex (cmpC a b) (cmpL l m) = 0 := h
    rw [lex_zero] at h
    rw [cmpC_eq0 a b h.1, cmpL_eq0 l m h.2]
end
theorem cmpC_self (a : Cn) : cmpC a a = 0 := by have := cmpC_anti a a; omega
theorem cmpC_zero {a b : Cn} : cmpC a b = 0 ↔ a = b := ⟨cmpC_eq0 a b, fun h => h ▸ cmpC_self a⟩
def insC (c : Cn) : List Cn → List Cn
  | [] => [c]
  | d :: r => if cmpC c d < 0 then c :: d :: r else if cmpC c d = 0 then d :: r else d :: insC c r
def setC : List Cn → List Cn
  | [] => []
  | c :: r => insC c (setC r)
abbrev StrC (l : List Cn) : Prop := l.Pairwise (fun a b => cmpC a b < 0)
theorem mem_insC {c x : Cn} : ∀ {l : List Cn}, x ∈ insC c l ↔ x = c ∨ x ∈ l
  | [] => by simp [insC]
  | d :: r => by
    rw [insC]
    split
    · simp
    · split
      · rename_i h
        have := cmpC_zero.1 h
        subst this
        simp
      · simp only [List.mem_cons, mem_insC (l := r)]
        constructor
        · rintro (h | h | h) <;> simp [h]
        · rintro (h | h | h) <;> simp [h]
theorem mem_setC {x : Cn} : ∀ {l : List Cn}, x ∈ setC l ↔ x ∈ l
  | [] => by simp [setC]
  | c :: r => by rw [setC, mem_insC, mem_setC, List.mem_cons]
theorem str_insC {c : Cn} : ∀ {l : List Cn}, StrC l → StrC (insC c l)
  | [], _ => by simp [insC, StrC]
  | d :: r, h => by
    rw [insC]
    have h1 := List.pairwise_cons.1 h
    split
    · rename_i hlt
      refine List.pairwise_cons.2 ⟨fun x hx => ?_, h⟩
      rcases List.mem_cons.1 hx with rfl | hx
      · exact hlt
      · exact (cmpC_t3 c d x).1 hlt (h1.1 x hx)
    · split
      · exact h
      · rename_i h2 h3
        refine List.pairwise_cons.2 ⟨fun x hx => ?_, str_insC h1.2⟩
        rcases mem_insC.1 hx with rfl | hx
        · have := cmpC_anti x d; omega
        · exact h1.1 x hx
theorem str_setC : ∀ (l : List Cn), StrC (setC l)
  | [] => .nil
  | c :: r => str_insC (str_setC r)
theorem str_unique : ∀ {l m : List Cn}, StrC l → StrC m → (∀ x, x ∈ l ↔ x ∈ m) → l = m
  | [], [], _, _, _ => rfl
  | [], b :: m, _, _, h => by have := (h b).2 (by simp); simp at this
  | a :: l, [], _, _, h => by have := (h a).1 (by simp); simp at this
  | a :: l, b :: m, h1, h2, h => by
    have p1 := List.pairwise_cons.1 h1
    have p2 := List.pairwise_cons.1 h2
    have hab : a = b := by
      rcases List.mem_cons.1 ((h a).1 (by simp)) with e | e
      · exact e
      · rcases List.mem_cons.1 ((h b).2 (by simp)) with e' | e'
        · exact e'.symm
        · have q1 := p1.1 b e'
          have q2 := p2.1 a e
          have := cmpC_anti a b
          omega
    subst hab
    rw [str_unique p1.2 p2.2 fun x => ?_]
    have hx := h x
    simp only [List.mem_cons] at hx
    have d1 : ∀ x ∈ l, x ≠ a := fun x hx e => by have := p1.1 x hx; rw [e, cmpC_self] at this; omega
    have d2 : ∀ x ∈ m, x ≠ a := fun x hx e => by have := p2.1 x hx; rw [e, cmpC_self] at this; omega
    constructor
    · intro hl
      rcases hx.1 (.inr hl) with e | e
      · exact absurd e (d1 x hl)
      · exact e
    · intro hm
      rcases hx.2 (.inr hm) with e | e
      · exact absurd e (d2 x hm)
      · exact e
theorem setC_eq {l m : List Cn} (h1 : StrC m) (h : ∀ x, x ∈ m ↔ x ∈ l) : m = setC l := str_unique h1 (str_setC l) fun x => by rw [mem_setC, h]
def dedT {α : Type} (eq : α → α → Bool) : α → List α → List α
  | _, [] => []
  | p, b :: r => if eq b p then dedT eq b r else b :: dedT eq b r
def dedF {α : Type} (eq : α → α → Bool) : List α → List α
  | [] => []
  | a :: r => a :: dedT eq a r
def eqCb (a b : Cn) : Bool := decide (cmpC a b = 0)
theorem dedT_spec : ∀ (p : Cn) (l : List Cn), (p :: l).Pairwise (fun a b => ¬ cmpC b a < 0) → StrC (p :: dedT eqCb p l) ∧ ∀ x, x ∈ p :: dedT eqCb p l ↔ x ∈ p :: l
  | p, [], _ => ⟨by simp [dedT, StrC], fun x => by simp [dedT]⟩
  | p, b :: r, h => by
    have h1 := List.pairwise_cons.1 h
    obtain ⟨i1, i2⟩ := dedT_spec b r h1.2
    rw [dedT]
    by_cases he : cmpC b p = 0
    · have hb : b = p := cmpC_zero.1 he
      subst hb
      rw [if_pos (by simp [eqCb, he])]
      exact ⟨i1, fun x => by rw [i2]; simp⟩
    · rw [if_neg (by simp [eqCb, he])]
      have hlt : cmpC p b < 0 := by
        have := h1.1 b (by simp)
        have := cmpC_anti p b
        omega
      refine ⟨List.pairwise_cons.2 ⟨fun x hx => ?_, i1⟩, fun x => ?_⟩
      · rcases List.mem_cons.1 hx with rfl | hx
        · exact hlt
        · exact (cmpC_t3 p b x).1 hlt ((List.pairwise_cons.1 i1).1 x hx)
      · rw [List.mem_cons, i2, List.mem_cons (a := x) (b := p)]
theorem dedF_sorted {l l' : List Cn} (hp : l'.Perm l) (hs : l'.Pairwise (fun a b => ¬ cmpC b a < 0)) : dedF eqCb l' = setC l := by
  cases l' with
  | nil =>
    have := hp.symm.eq_nil
    subst this
    rfl
  | cons a r =>
    obtain ⟨h1, h2⟩ := dedT_spec a r hs
    exact setC_eq h1 fun x => (h2 x).trans hp.mem_iff
end Go.Proofs.YtnemengadjimcaaDoor
namespace Go.Proofs.YtnemengadjimcaaDoor
section
variable {α : Type}
structure OrdC (cf : α → α → Int) : Prop where
  asym : ∀ x y, cf x y < 0 → ¬ cf y x < 0
  tr : ∀ x y z, ¬ cf y x < 0 → ¬ cf z y < 0 → ¬ cf z x < 0
def Srt (cf : α → α → Int) (l : List α) : Prop := l.Pairwise fun x y => ¬ cf y x < 0
theorem OrdC.refl {cf : α → α → Int} (h : OrdC cf) (x : α) : ¬ cf x x < 0 := fun q => h.asym x x q q
theorem Srt.app {cf : α → α → Int} {l m : List α} : Srt cf (l ++ m) ↔ Srt cf l ∧ Srt cf m ∧ ∀ x ∈ l, ∀ y ∈ m, ¬ cf y x < 0 := List.pairwise_append
theorem Srt.le_at {cf : α → α → Int} (hO : OrdC cf) {l : List α} (h : Srt cf l) {i j : Nat} {x y : α} (hij : i ≤ j) (hx : l[i]? = some x) (hy : l[j]? = some y) : ¬ cf y x < 0 := by
  rcases Nat.lt_or_eq_of_le hij with hlt | rfl
  · obtain ⟨h1, e1⟩ := List.getElem?_eq_some_iff.1 hx
    obtain ⟨h2, e2⟩ := List.getElem?_eq_some_iff.1 hy
    subst e1; subst e2
    exact List.pairwise_iff_getElem.1 h i j h1 h2 hlt
  · rw [hx] at hy
    injection hy with e
    subst e
    exact hO.refl x
theorem mem_take_at {l : List α} {n : Nat} {x : α} (h : x ∈ l.take n) : ∃ i, i < n ∧ l[i]? = some x := by
  obtain ⟨i, hi, e⟩ := List.getElem_of_mem h
  rw [List.length_take] at hi
  rw [List.getElem_take] at e
  exact ⟨i, by omega, by rw [← e]; exact List.getElem?_eq_getElem (by omega)⟩
theorem mem_drop_at {l : List α} {n : Nat} {x : α} (h : x ∈ l.drop n) : ∃ i, n ≤ i ∧ l[i]? = some x := by
  obtain ⟨i, hi, e⟩ := List.getElem_of_mem h
  rw [List.length_drop] at hi
  rw [List.getElem_drop] at e
  exact ⟨n + i, by omega, by rw [← e]; exact List.getElem?_eq_getElem (by omega)⟩
theorem sym_split {cf : α → α → Int} (hO : OrdC cf) {A B : List α} (hA : Srt cf A) (hB : Srt cf B) {s t : Nat} (hs : s ≤ A.length) (ht : t ≤ B.length)
    (h1 : ∀ x y, A[s]? = some x → 0 < t → B[t - 1]? = some y → ¬ cf x y < 0) (h2 : ∀ x y, 0 < s → A[s - 1]? = some x → B[t]? = some y → ¬ cf y x < 0) :
    ∀ x ∈ A.take s ++ B.take t, ∀ y ∈ A.drop s ++ B.drop t, ¬ cf y x < 0 := by
  intro x hx y hy
  rcases List.mem_append.1 hx with hx | hx <;> rcases List.mem_append.1 hy with hy | hy <;> obtain ⟨i, hi, hx⟩ := mem_take_at hx <;> obtain ⟨j, hj, hy⟩ := mem_drop_at hy
  · exact hA.le_at hO (by omega) hx hy
  · have hm := (List.getElem?_eq_some_iff.1 hy).1
    have a := hA.le_at hO (show i ≤ s - 1 by omega) hx (List.getElem?_eq_getElem (show s - 1 < A.length by omega))
    have b := h2 _ _ (by omega) (List.getElem?_eq_getElem (show s - 1 < A.length by omega)) (List.getElem?_eq_getElem (show t < B.length by omega))
    have c := hB.le_at hO hj (List.getElem?_eq_getElem (show t < B.length by omega)) hy
    exact hO.tr _ _ _ a (hO.tr _ _ _ b c)
  · have hm := (List.getElem?_eq_some_iff.1 hy).1
    have a := hB.le_at hO (show i ≤ t - 1 by omega) hx (List.getElem?_eq_getElem (show t - 1 < B.length by omega))
    have b := h1 _ _ (List.getElem?_eq_getElem (show s < A.length by omega)) (by omega) (List.getElem?_eq_getElem (show t - 1 < B.length by omega))
    have c := hA.le_at hO hj (List.getElem?_eq_getElem (show s < A.length by omega)) hy
    exact hO.tr _ _ _ a (hO.tr _ _ _ b c)
  · exact hB.le_at hO (by omega) hx hy
theorem get_at (U : List α) (x : α) (W : List α) : (U ++ x :: W)[U.length]? = some x := by
  rw [List.getElem?_append_right (Nat.le_refl _), Nat.sub_self]; rfl
theorem set_at (U : List α) (x z : α) (W : List α) : (U ++ x :: W).set U.length z = U ++ z :: W := by
  rw [List.set_append_right _ _ (Nat.le_refl _), Nat.sub_self]; rfl
theorem set_at2 (U : List α) (x : α) (V : List α) (y z : α) (W : List α) : (U ++ x :: (V ++ y :: W)).set (U.length + 1 + V.length) z = U ++ x :: (V ++ z :: W) := by
  have := set_at (U ++ x :: V) y z W
  rw [List.append_assoc, List.append_assoc, List.cons_append, List.cons_append] at this
  rw [← this]
  congr 1
  simp only [List.length_append, List.length_cons]; omega
theorem swap_at (U : List α) (x : α) (V : List α) (y : α) (W : List α) : ((U ++ x :: (V ++ y :: W)).set U.length y).set (U.length + 1 + V.length) x = U ++ y :: (V ++ x :: W) := by
  rw [set_at, set_at2]
theorem swap_back (U : List α) (x : α) (V : List α) (y : α) (W : List α) : ((U ++ x :: (V ++ y :: W)).set (U.length + 1 + V.length) x).set U.length y = U ++ y :: (V ++ x :: W) := by
  rw [set_at2, set_at]
def Blk (cf : α → α → Int) (bs : Nat) (l : List α) : Prop := ∀ k, Srt cf ((l.drop (k * bs)).take bs)
theorem Blk.app {cf : α → α → Int} {bs k : Nat} {U S : List α} (hU : Blk cf bs U) (hk : U.length = k * bs) (hS : Srt cf S) (hl : S.length ≤ bs) : Blk cf bs (U ++ S) := by
  intro i
  rcases Nat.lt_trichotomy i k with h | h | h
  · have h1 : (i + 1) * bs ≤ k * bs := Nat.mul_le_mul_right _ h
    rw [Nat.add_mul, Nat.one_mul] at h1
    rw [List.drop_append_of_le_length (by omega), List.take_append_of_le_length (by rw [List.length_drop]; omega)]
    exact hU i
  · subst h
    rw [← hk, List.drop_left, List.take_of_length_le hl]
    exact hS
  · have h1 : (k + 1) * bs ≤ i * bs := Nat.mul_le_mul_right _ h
    rw [Nat.add_mul, Nat.one_mul] at h1
    rw [List.drop_eq_nil_of_le (by rw [List.length_append]; omega)]
    simp [Srt]
theorem Blk.first {cf : α → α → Int} {bs : Nat} {l : List α} (h : Blk cf bs l) : Srt cf (l.take bs) := by
  have := h 0
  rwa [Nat.zero_mul, List.drop_zero] at this
theorem Blk.rest {cf : α → α → Int} {bs : Nat} {l : List α} (h : Blk cf bs l) : Blk cf bs (l.drop bs) := by
  intro k
  have := h (k + 1)
  rw [Nat.add_mul, Nat.one_mul, Nat.add_comm] at this
  rwa [List.drop_drop]
theorem Blk.nil {cf : α → α → Int} {bs : Nat} : Blk cf bs [] := fun k => by
  simp [Srt]
theorem Blk.all {cf : α → α → Int} {bs : Nat} {l : List α} (h : Blk cf bs l) (hl : l.length ≤ bs) : Srt cf l := by
  have := h.first
  rwa [List.take_of_length_le hl] at this
end
end Go.Proofs.YtnemengadjimcaaDoor
namespace Go.Proofs.YtnemengadjimcaaDoor
open Go.Proofs
structure Rn where
  kind : Int
  old : List UInt8
  new : List UInt8
theorem Rn.ext' {a b : Rn} (h1 : a.kind = b.kind) (h2 : a.old = b.old) (h3 : a.new = b.new) : a = b := by
  cases a; cases b; simp_all
def rnR (r : Rn) : List D := [.int .i64 r.kind, .str r.old, .str r.new]
def rnL (l : List Rn) : D := .sl 3 (l.map rnR)
def rnN (s : List UInt8) : Bool := nameF s && !decide (s.head? = some 95)
def rnV (r : Rn) : Bool := decide (1 ≤ r.kind) && (decide (r.kind ≤ 4) && (rnN r.old && (rnN r.new && !decide (r.old = r.new))))
def cmpR (a b : Rn) : Int := orF [cmpI a.kind b.kind, cmpB a.old b.old]
abbrev Ky := Int × List UInt8
def keyN (r : Rn) : Ky := (r.kind, r.new)
def keyO (r : Rn) : Ky := (r.kind, r.old)
theorem cmpR_lc : LCk cmpR := by
  have h := (LCk.int.of Rn.kind).lex ((LCk.str.of Rn.old).lex LCk.zero)
  exact h
theorem cmpR_zero {a b : Rn} : cmpR a b = 0 ↔ keyO a = keyO b := by
  unfold cmpR keyO
  simp only [orF_cons, lex_zero, cmpI_zero, cmpB_zero, Prod.mk.injEq]
  simp [orF]
theorem cmpR_irr (a : Rn) : ¬ cmpR a a < 0 := by rw [cmpR_zero.2 rfl]; omega
theorem cmpR_tr {a b d : Rn} (h1 : cmpR a b < 0) (h2 : cmpR b d < 0) : cmpR a d < 0 := (cmpR_lc.t3 a b d).1 h1 h2
theorem LCk.ord {α : Type} {c : α → α → Int} (h : LCk c) : OrdC c where
  asym := fun x y a => by have := h.anti x y; omega
  tr := fun x y z a b => by
    have h1 := h.t3 x y z
    have r1 := h.rng x y
    have r2 := h.rng y z
    have a1 := h.anti x y
    have a2 := h.anti y z
    have a3 := h.anti x z
    unfold Cmp3 at h1
    have := h1.1
    have := h1.2.1
    have := h1.2.2
    omega
structure Good (l : List Rn) : Prop where
  val : ∀ r ∈ l, rnV r = true
  str : l.Pairwise fun a b => cmpR a b < 0
  nod : (l.map keyN).Nodup
def okP : Option Rn → Rn → Bool
  | none, _ => true
  | some q, r => decide (cmpR q r < 0)
def goB : List Ky → Option Rn → List Rn → Bool
  | _, _, [] => true
  | used, p, r :: t => rnV r && (okP p r && (!decide (keyN r ∈ used) && goB (used ++ [keyN r]) (some r) t))
theorem goB_cons (used : List Ky) (p : Option Rn) (r : Rn) (t : List Rn) : goB used p (r :: t) = (rnV r && (okP p r && (!decide (keyN r ∈ used) && goB (used ++ [keyN r]) (some r) t))) := rfl
def checkR (l : List Rn) : Int := if 1024 < l.length then 2 else if goB [] none l = true then 0 else 330
theorem goB_iff : ∀ (l : List Rn) (used : List Ky) (p : Option Rn), goB used p l = true ↔ Good l ∧ (∀ q, p = some q → ∀ r ∈ l, cmpR q r < 0) ∧ ∀ r ∈ l, keyN r ∉ used
  | [], used, p => by simp [goB]; exact ⟨by simp, .nil, by simp⟩
  | r :: t, used, p => by
    have ih := goB_iff t (used ++ [keyN r]) (some r)
    rw [goB_cons, Bool.and_eq_true, Bool.and_eq_true, Bool.and_eq_true, ih]
    constructor
    · rintro ⟨h1, h2, h3, g, g1, g2⟩
      have g1 := g1 r rfl
      have h3 : keyN r ∉ used := by simpa using h3
      refine ⟨⟨?_, List.pairwise_cons.2 ⟨g1, g.str⟩, ?_⟩, ?_, ?_⟩
      · intro x hx
        rcases List.mem_cons.1 hx with rfl | hx
        · exact h1
        · exact g.val x hx
      · rw [List.map_cons, List.nodup_cons]
        refine ⟨fun hm => ?_, g.nod⟩
        obtain ⟨x, hx, e⟩ := List.mem_map.1 hm
        exact g2 x hx (by rw [e]; simp)
      · rintro q rfl x hx
        have h2 : cmpR q r < 0 := by simpa [okP] using h2
        rcases List.mem_cons.1 hx with rfl | hx
        · exact h2
        · exact cmpR_tr h2 (g1 x hx)
      · intro x hx
        rcases List.mem_cons.1 hx with rfl | hx
        · exact h3
        · exact fun hm => g2 x hx (by simp [hm])
    · rintro ⟨g, g1, g2⟩
      have gs := List.pairwise_cons.1 g.str
      have gn := g.nod
      rw [List.map_cons, List.nodup_cons] at gn
      refine ⟨g.val r (by simp), ?_, by simpa using g2 r (by simp), ⟨fun x hx => g.val x (by simp [hx]), gs.2, gn.2⟩, ?_, ?_⟩
      · cases p with
        | none => rfl
        | some q => simpa [okP] using g1 q rfl r (by simp)
      · rintro q hq x hx
        injection hq with hq
        subst hq
        exact gs.1 x hx
      · intro x hx hm
        rcases List.mem_append.1 hm with hm | hm
        · exact g2 x (by simp [hx]) hm
        · simp only [List.mem_singleton] at hm
          exact gn.1 (List.mem_map.2 ⟨x, hx, hm⟩)
theorem goB_good (l : List Rn) : goB [] none l = true ↔ Good l := by
  rw [goB_iff]
  exact ⟨fun h => h.1, fun h => ⟨h, by simp, by simp⟩⟩
theorem checkR_ok {l : List Rn} (h : checkR l = 0) : Good l ∧ l.length ≤ 1024 := by
  unfold checkR at h
  split at h
  · cases h
  · split at h
    · rename_i h1 h2; exact ⟨(goB_good l).1 h2, by omega⟩
    · cases h
theorem pw_unique {α : Type} {R : α → α → Prop} (irr : ∀ x, ¬ R x x) (tr : ∀ x y z, R x y → R y z → R x z) : ∀ {l m : List α}, l.Pairwise R → m.Pairwise R → (∀ x, x ∈ l ↔ x ∈ m) → l = m
  | [], [], _, _, _ => rfl
  | [], y :: m, _, _, h => absurd ((h y).2 (by simp)) (by simp)
  | x :: l, [], _, _, h => absurd ((h x).1 (by simp)) (by simp)
  | x :: l, y :: m, h1, h2, h => by
    have a1 := List.pairwise_cons.1 h1
    have a2 := List.pairwise_cons.1 h2
    have hxy : x = y := by
      rcases List.mem_cons.1 ((h x).1 (by simp)) with e | hx
      · exact e
      · rcases List.mem_cons.1 ((h y).2 (by simp)) with e | hy
        · exact e.symm
        · exact absurd (tr _ _ _ (a2.1 x hx) (a1.1 y hy)) (irr y)
    subst hxy
    have key : ∀ z, z ∈ l ↔ z ∈ m := fun z => by
      constructor
      · intro hz
        rcases List.mem_cons.1 ((h z).1 (List.mem_cons_of_mem _ hz)) with e | hz'
        · exact absurd (a1.1 z hz) (e ▸ irr z)
        · exact hz'
      · intro hz
        rcases List.mem_cons.1 ((h z).2 (List.mem_cons_of_mem _ hz)) with e | hz'
        · exact absurd (a2.1 z hz) (e ▸ irr z)
        · exact hz'
    rw [pw_unique irr tr a1.2 a2.2 key]
theorem rn_unique {l m : List Rn} (h1 : l.Pairwise fun a b => cmpR a b < 0) (h2 : m.Pairwise fun a b => cmpR a b < 0) (h : ∀ x, x ∈ l ↔ x ∈ m) : l = m :=
  pw_unique (R := fun a b => cmpR a b < 0) (fun a => cmpR_irr a) (fun a b d h1 h2 => cmpR_tr h1 h2) h1 h2 h
theorem str_key {l : List Rn} (h : l.Pairwise fun a b => cmpR a b < 0) {a b : Rn} (ha : a ∈ l) (hb : b ∈ l) (e : keyO a = keyO b) : a = b := by
  induction l with
  | nil => simp at ha
  | cons x r ih =>
    have h1 := List.pairwise_cons.1 h
    rcases List.mem_cons.1 ha with e1 | ha1 <;> rcases List.mem_cons.1 hb with e2 | hb1
    · rw [e1, e2]
    · have := h1.1 b hb1; rw [← e1, cmpR_zero.2 e] at this; omega
    · have := h1.1 a ha1; rw [← e2, cmpR_zero.2 e.symm] at this; omega
    · exact ih h1.2 ha1 hb1
def nameR (l : List Rn) (k : Int) (s : List UInt8) : List UInt8 :=
  match l.find? (fun r => decide (r.kind = k) && decide (r.old = s)) with
  | some r => r.new
  | none => s
theorem nameR_mem {l : List Rn} (h : l.Pairwise fun a b => cmpR a b < 0) {r : Rn} (hr : r ∈ l) : nameR l r.kind r.old = r.new := by
  unfold nameR
  split
  · rename_i q hq
    have h1 := List.mem_of_find?_eq_some hq
    have h2 := List.find?_some hq
    simp only [Bool.and_eq_true, decide_eq_true_eq] at h2
    rw [str_key h h1 hr (by unfold keyO; rw [h2.1, h2.2])]
  · rename_i hq
    have := List.find?_eq_none.1 hq r hr
    simp at this
theorem nameR_none {l : List Rn} {k : Int} {s : List UInt8} (h : ∀ r ∈ l, keyO r ≠ (k, s)) : nameR l k s = s := by
  unfold nameR
  split
  · rename_i q hq
    have h1 := List.mem_of_find?_eq_some hq
    have h2 := List.find?_some hq
    simp only [Bool.and_eq_true, decide_eq_true_eq] at h2
    exact absurd (by unfold keyO; rw [h2.1, h2.2]) (h q h1)
  · rfl
theorem nameR_cases {l : List Rn} (h : l.Pairwise fun a b => cmpR a b < 0) (k : Int) (s : List UInt8) : (∃ r ∈ l, keyO r = (k, s) ∧ nameR l k s = r.new) ∨ ((∀ r ∈ l, keyO r ≠ (k, s)) ∧ nameR l k s = s) := by
  by_cases he : ∃ r ∈ l, keyO r = (k, s)
  · obtain ⟨r, hr, e⟩ := he
    have := nameR_mem h hr
    have e' : r.kind = k ∧ r.old = s := by simpa [keyO] using e
    rw [e'.1, e'.2] at this
    exact .inl ⟨r, hr, e, this⟩
  · have he : ∀ r ∈ l, keyO r ≠ (k, s) := fun r hr e => he ⟨r, hr, e⟩
    exact .inr ⟨he, nameR_none he⟩
structure Comp (l m x : List Rn) : Prop where
  str : x.Pairwise fun a b => cmpR a b < 0
  mem : ∀ r, r ∈ x ↔ r.new = nameR m r.kind (nameR l r.kind r.old) ∧ r.new ≠ r.old
theorem Comp.uniq {l m x y : List Rn} (h1 : Comp l m x) (h2 : Comp l m y) : x = y := rn_unique h1.str h2.str fun r => by rw [h1.mem, h2.mem]
theorem Comp.name {l m x : List Rn} (h : Comp l m x) (k : Int) (s : List UInt8) : nameR x k s = nameR m k (nameR l k s) := by
  rcases nameR_cases h.str k s with ⟨r, hr, e, e2⟩ | ⟨hn, e2⟩
  · have e' : r.kind = k ∧ r.old = s := by simpa [keyO] using e
    have := ((h.mem r).1 hr).1
    rw [e2, this, e'.1, e'.2]
  · rw [e2]
    by_cases hs : nameR m k (nameR l k s) = s
    · exact hs.symm
    · exact absurd rfl (hn ⟨k, s, nameR m k (nameR l k s)⟩ ((h.mem _).2 ⟨rfl, hs⟩))
theorem comp_key {l m : List Rn} (hl : l.Pairwise fun a b => cmpR a b < 0) (hm : m.Pairwise fun a b => cmpR a b < 0) {k : Int} {s : List UInt8} (h : nameR m k (nameR l k s) ≠ s) : ∃ r ∈ l ++ m, keyO r = (k, s) := by
  rcases nameR_cases hl k s with ⟨r, hr, e, _⟩ | ⟨_, e⟩
  · exact ⟨r, by simp [hr], e⟩
  · rw [e] at h
    rcases nameR_cases hm k s with ⟨r, hr, e, _⟩ | ⟨_, e⟩
    · exact ⟨r, by simp [hr], e⟩
    · exact absurd e h
theorem comp_thrice {l m n a b c d : List Rn} (h1 : Comp l m a) (h2 : Comp m n b) (h3 : Comp a n c) (h4 : Comp l b d) : c = d :=
  rn_unique h3.str h4.str fun r => by rw [h3.mem, h4.mem, h1.name, h2.name]
def invR (r : Rn) : Rn := ⟨r.kind, r.new, r.old⟩
theorem invR_inv (r : Rn) : invR (invR r) = r := rfl
structure Inv (l x : List Rn) : Prop where
  str : x.Pairwise fun a b => cmpR a b < 0
  mem : ∀ r, r ∈ x ↔ invR r ∈ l
theorem Inv.uniq {l x y : List Rn} (h1 : Inv l x) (h2 : Inv l y) : x = y := rn_unique h1.str h2.str fun r => by rw [h1.mem, h2.mem]
theorem Inv.name {l x : List Rn} (hl : Good l) (h : Inv l x) {k : Int} {s : List UInt8} (hn : (∃ r ∈ l, keyO r = (k, s)) ∨ ∀ r ∈ l, keyN r ≠ (k, s)) : nameR x k (nameR l k s) = s := by
  rcases nameR_cases hl.str k s with ⟨r, hr, e, e2⟩ | ⟨h1, e2⟩
  · have e' : r.kind = k ∧ r.old = s := by simpa [keyO] using e
    have := nameR_mem h.str ((h.mem (invR r)).2 (by rw [invR_inv]; exact hr))
    rw [e2, ← e'.1, ← e'.2]
    exact this
  · rw [e2]
    refine nameR_none fun r hr e => ?_
    have hr' := (h.mem r).1 hr
    rcases hn with ⟨q, hq, e3⟩ | hn
    · exact h1 q hq e3
    · exact hn (invR r) hr' e
end Go.Proofs.YtnemengadjimcaaDoor
namespace Go.Proofs.YtnemengadjimcaaDoor
open Go.Proofs Go.RowKit
set_option maxRecDepth 100000
theorem uRenaming : tysOf Tryd.prog 45 = some [3, 9, 9] := by kernel_rfl
theorem uRenamings : Tryd.prog.underlying 22 = some (.slice 45) := by kernel_rfl
theorem cRenaming : Tryd.prog.cellsOf 45 = 3 := by kernel_rfl
def TR : List TypeId := 45 :: 22 :: TT
theorem clR : Cl Tryd.prog (· ∈ TR) := cl_of (by kernel_rfl)
theorem ren_of {n : Nat} {ds : List D} (h : TyD Tryd.prog n 45 ds) : ∃ r : Rn, ds = rnR r ∧ r.old.length ≤ 140737488351232 := by
  obtain ⟨m, rfl, a1, b1, rfl, h1, a2, b2, rfl, h2, a3, b3, rfl, h3, rfl⟩ := tyd_struct uRenaming h
  obtain ⟨k, rfl, _⟩ := tyd_i64 u3 h1
  obtain ⟨s1, rfl, q1⟩ := tyd_string u9 h2
  obtain ⟨s2, rfl, _⟩ := tyd_string u9 h3
  exact ⟨⟨k, s1, s2⟩, rfl, q1⟩
theorem arg_rens {n : Nat} {ds : List D} (h : TyD Tryd.prog n 22 ds) : ∃ l : List Rn, argOf Tryd.prog 22 ds = .d (rnL l) ∧ l.length ≤ 140737488351232 := by
  obtain ⟨m, rfl, rows, rfl, hn, hr⟩ := tyd_slice uRenamings h
  obtain ⟨l, rfl, _⟩ := rows_ofP (f := rnR) (Q := fun r : Rn => r.old.length ≤ 140737488351232) (fun r hr => ren_of hr) rows hr
  exact ⟨l, by simp only [argOf, uRenamings, cRenaming]; rfl, by rw [List.length_map] at hn; exact hn⟩
end Go.Proofs.YtnemengadjimcaaDoor
