/-
  Terms: within of the law. Terms: vocabularies are sorted without repetition, and are within one another as the law says. Terms: the reference's With, names and Vocabulary.
  Conditions: none.
-/
import Derived.Test.YtkbmlchceiglfaaGreatDoorMAu
import Derived.Test.YtkbmlchceiglfaaGreatDoorMAs
namespace Go.Proofs.YtkbmlchceiglfaaGreatDoor
set_option linter.unnecessarySimpa false
set_option linter.unusedSectionVars false
set_option linter.unusedSimpArgs false
set_option linter.unusedVariables false
open Go.Proofs
set_option maxRecDepth 10000
attribute [local irreducible] SemVC CallVC Tri Stuck YVC GenP GenVC


/-- Each in the other list, each above the one before. -/
def upO : Option (List UInt8) → List UInt8 → Bool
  | none, _ => true
  | some y, x => Op.bytesLess y x
def withinL (b : List (List UInt8)) : List (List UInt8) → Option (List UInt8) → Bool
  | [], _ => true
  | x :: r, p => decide (x ∈ b) && (upO p x && withinL b r (some x))
def withinR (b : List (List UInt8)) (p : Option (List UInt8)) (l : List (List UInt8)) : Bool := withinL b l p

def prevO (a : List (List UInt8)) (j : Nat) : Option (List UInt8) := if j = 0 then none else a[j - 1]?

set_option maxHeartbeats 4000000 in
theorem within_spec (a b : List (List UInt8)) : Tri Tryz.prog 24 [.d (strl a), .d (strl b)] [] (fun r => r = .d (.bool (withinR b none a))) := by
  refine tri_of_body hty Tryz.func24 rfl (kp [0, 1, 4, 5, 9, 34]) [] _ _ _ (by simp [Tryz.f24]) (by simp) ?_
  ((conv => whnf); repeat' ((first | (intro hq; (try simp only [lnS] at hq); (try rewrite [List.length_map])) | refine sJ ?_ | refine Exists.intro _ (And.intro rfl ?_) | (refine Exists.intro (show (_ : Nat) < List.length _ from by first | omega | (simp only [List.length_cons, List.length_nil]; omega) | simp) ?_) | fail | refine draw_rule hty (by kernel_rfl) (by kernel_rfl) ?_ | ((first | refine brB_dec (fun hb => ?_) (fun hb => ?_) | refine brB_ndec (fun hb => ?_) (fun hb => ?_)) <;> (first | contradiction | ((try simp only [lnS] at hb); (first | (exfalso; omega) | skip)))) | (refine brB_split (fun hb => ?_) (fun hb => ?_) <;> (first | contradiction | exact absurd (hb.symm.trans (by assumption) : false = true) (by decide) | exact absurd (hb.symm.trans (by assumption) : true = false) (by decide) | skip))) <;> (conv => whnf)))
  refine loop_rule hty (fun j : Nat => ([(0, .d (strl a)), (1, .d (strl b)), (4, .d (.bool false)), (5, .d (.int .i64 j))], [])) (fun j => j ≤ a.length ∧ withinR b none a = withinR b (prevO a j) (a.drop j)) (fun j => a.length - j) 0 ⟨by omega, rfl⟩ ⟨by repeat' (first | exact trivial | exact rfl | (rw [List.length_map]; exact rfl) | refine And.intro ?_ ?_), trivial⟩ ?_
  rintro j ⟨hj, hn⟩
  ((conv => whnf); repeat ((first | (intro hq; try simp only [lnS] at hq) | refine sI ?_ | refine Exists.intro _ (And.intro rfl ?_)); (conv => whnf)))
  refine brB_dec (fun h1 => ?_) (fun h1 => ?_)
  · have hjl : j < a.length := by simp only [List.length_map] at h1; omega
    have hrow : (a.map strR)[(j : Int).toNat]? = some (strR a[j]) := rowC_at hjl
    rw [List.drop_eq_getElem_cons hjl, withinR, withinR, withinL] at hn
    generalize hx : a[j] = x at hrow hn
    rcases Nat.eq_zero_or_pos j with h0 | h0
    · subst h0
      rw [show prevO a 0 = none from rfl] at hn
      ((conv => whnf); repeat' ((first | (intro hq; (try simp only [lnS] at hq); (try rewrite [List.length_map])) | refine sJ ?_ | refine Exists.intro _ (And.intro rfl ?_) | (refine Exists.intro (show (_ : Nat) < List.length _ from by first | omega | (simp only [List.length_cons, List.length_nil]; omega) | simp) ?_) | (refine ⟨_, hrow, ?_⟩) | (refine ⟨.d (.bool _), _, [], rfl, trivial, has_spec _ _, ?_⟩) | refine draw_rule hty (by kernel_rfl) (by kernel_rfl) ?_ | ((first | refine brB_dec (fun hb => ?_) (fun hb => ?_) | refine brB_ndec (fun hb => ?_) (fun hb => ?_)) <;> (first | contradiction | ((try simp only [lnS] at hb); (first | (exfalso; omega) | skip)))) | (refine brB_split (fun hb => ?_) (fun hb => ?_) <;> (first | contradiction | exact absurd (hb.symm.trans (by assumption) : false = true) (by decide) | exact absurd (hb.symm.trans (by assumption) : true = false) (by decide) | skip))) <;> (conv => whnf)))
      · refine bool_eq (Eq.symm ?_)
        rw [withinR, hn, decide_eq_false hb, Bool.false_and]
      · refine ⟨1, ⟨by omega, ?_⟩, by dsimp only; omega, by repeat' (first | exact trivial | exact rfl | refine And.intro ?_ ?_), trivial⟩
        rw [withinR, hn, decide_eq_true hb, Bool.true_and, withinR, prevO, if_neg (by omega), List.getElem?_eq_getElem (by omega), hx]
        rfl
    · have hrow2 : (a.map strR)[((j : Int) - 1).toNat]? = some (strR a[j - 1]) := by
        rw [show ((j : Int) - 1).toNat = ((j - 1 : Nat) : Int).toNat by omega]
        exact rowC_at (by omega)
      have hp : prevO a j = some a[j - 1] := by rw [prevO, if_neg (by omega), List.getElem?_eq_getElem (by omega)]
      rw [hp] at hn
      generalize a[j - 1] = y at hrow2 hn
      ((conv => whnf); repeat' ((first | (intro hq; (try simp only [lnS] at hq); (try rewrite [List.length_map])) | refine sJ ?_ | refine Exists.intro _ (And.intro rfl ?_) | (refine Exists.intro (show (_ : Nat) < List.length _ from by first | omega | (simp only [List.length_cons, List.length_nil]; omega) | simp) ?_) | (refine ⟨_, hrow, ?_⟩) | (refine ⟨_, hrow2, ?_⟩) | (refine ⟨.d (.bool _), _, [], rfl, trivial, has_spec _ _, ?_⟩) | refine draw_rule hty (by kernel_rfl) (by kernel_rfl) ?_ | ((first | refine brB_dec (fun hb => ?_) (fun hb => ?_) | refine brB_ndec (fun hb => ?_) (fun hb => ?_)) <;> (first | contradiction | ((try simp only [lnS] at hb); (first | (exfalso; omega) | skip)))) | (refine brB_split (fun hb => ?_) (fun hb => ?_) <;> (first | contradiction | exact absurd (hb.symm.trans (by assumption) : false = true) (by decide) | exact absurd (hb.symm.trans (by assumption) : true = false) (by decide) | skip))) <;> (conv => whnf)))
      · refine bool_eq (Eq.symm ?_)
        rw [withinR, hn, decide_eq_false hb, Bool.false_and]
      · refine bool_eq (Eq.symm ?_)
        have hb : Op.bytesLess y x = false := by simpa using hb
        rw [withinR, hn, upO, hb, Bool.false_and, Bool.and_false]
      · refine ⟨j + 1, ⟨by omega, ?_⟩, by dsimp only; omega, by repeat' (first | exact trivial | exact rfl | refine And.intro ?_ ?_), trivial⟩
        rename_i hb1 _
        have hb : Op.bytesLess y x = true := by simpa using hb
        rw [withinR, hn, decide_eq_true hb1, Bool.true_and, upO, hb, Bool.true_and, withinR, prevO, if_neg (by omega), Nat.add_sub_cancel, List.getElem?_eq_getElem hjl, hx]
  · have hjl : j = a.length := by simp only [List.length_map] at h1; omega
    subst hjl
    ((conv => whnf); repeat' ((first | (intro hq; (try simp only [lnS] at hq); (try rewrite [List.length_map])) | refine sJ ?_ | refine Exists.intro _ (And.intro rfl ?_) | (refine Exists.intro (show (_ : Nat) < List.length _ from by first | omega | (simp only [List.length_cons, List.length_nil]; omega) | simp) ?_) | fail | refine draw_rule hty (by kernel_rfl) (by kernel_rfl) ?_ | ((first | refine brB_dec (fun hb => ?_) (fun hb => ?_) | refine brB_ndec (fun hb => ?_) (fun hb => ?_)) <;> (first | contradiction | ((try simp only [lnS] at hb); (first | (exfalso; omega) | skip)))) | (refine brB_split (fun hb => ?_) (fun hb => ?_) <;> (first | contradiction | exact absurd (hb.symm.trans (by assumption) : false = true) (by decide) | exact absurd (hb.symm.trans (by assumption) : true = false) (by decide) | skip))) <;> (conv => whnf)))
    refine bool_eq (Eq.symm ?_)
    rw [hn, List.drop_length]; rfl
end Go.Proofs.YtkbmlchceiglfaaGreatDoor

namespace Go.Proofs.YtkbmlchceiglfaaGreatDoor
set_option linter.unnecessarySimpa false
set_option linter.unusedSectionVars false
set_option linter.unusedSimpArgs false
set_option linter.unusedVariables false
open Go.Proofs

theorem withinL_true {b : List (List UInt8)} : ∀ {l : List (List UInt8)} {p : Option (List UInt8)}, (∀ x ∈ l, x ∈ b) → l.Pairwise (fun x y => Op.bytesLess x y = true) → (∀ x ∈ l, upO p x = true) → withinL b l p = true
  | [], p, h, hs, hp => rfl
  | x :: r, p, h, hs, hp => by
    rw [withinL, decide_eq_true (h x (by simp)), hp x (by simp), Bool.true_and, Bool.true_and]
    rw [List.pairwise_cons] at hs
    exact withinL_true (fun y hy => h y (List.mem_cons_of_mem _ hy)) hs.2 fun y hy => hs.1 y hy

theorem sortK_strict {ks : List (List UInt8)} (h : ks.Nodup) : (sortK ks).Pairwise (fun x y => Op.bytesLess x y = true) := by
  have h1 : (sortK ks).Pairwise fun x y => decide (x ≤ y) = true := List.pairwise_mergeSort (le := fun x y => decide (x ≤ y)) (fun a b c h1 h2 => by simp only [decide_eq_true_eq] at *; exact List.le_trans h1 h2) (fun a b => by simp only [Bool.or_eq_true, decide_eq_true_eq]; exact List.le_total a b) ks
  have h2 : (sortK ks).Nodup := (List.mergeSort_perm _ _).nodup_iff.2 h
  refine (h1.and h2).imp ?_
  rintro x y ⟨h1, h2⟩
  rw [Go.Proofs.bytesLess_eq, decide_eq_true_eq]
  have h1 : x ≤ y := by simpa using h1
  refine Classical.byContradiction fun h3 => h2 (List.le_antisymm h1 (List.not_lt.1 h3))

theorem mem_sortK {ks : List (List UInt8)} {s : List UInt8} : s ∈ sortK ks ↔ s ∈ ks := List.mem_mergeSort

structure NdV (v : Nm) : Prop where
  a : v.a.Nodup
  b : v.b.Nodup
  c : v.c.Nodup
  d : v.d.Nodup

theorem addC_nd {v : Nm} {c : Cn} (h : NdV v) : NdV (addC v c) := by
  unfold addC
  split
  · exact ⟨addK_nodup h.a, h.b, h.c, h.d⟩
  · split
    · exact ⟨h.a, addK_nodup h.b, h.c, h.d⟩
    · split
      · exact ⟨h.a, h.b, addK_nodup h.c, h.d⟩
      · split
        · exact ⟨h.a, h.b, h.c, addK_nodup h.d⟩
        · exact h

theorem vocV_nd (l : List Ax) : NdV (vocV l) := by
  refine fold_inv (P := NdV) (add := addX) (fun v x h => ?_) l _ ⟨List.nodup_nil, List.nodup_nil, List.nodup_nil, List.nodup_nil⟩
  have hS : ∀ v c, NdV v → NdV (addS v c) := fun v c h => fold_inv (P := NdV) (add := addC) (fun v c h => addC_nd h) (nodes c) v h
  have hR : ∀ v s, NdV v → NdV (addR v s) := fun v s h => ⟨h.a, addK_nodup h.b, h.c, h.d⟩
  have hI : ∀ v s, NdV v → NdV (addI v s) := fun v s h => ⟨h.a, h.b, h.c, addK_nodup h.d⟩
  exact hI _ _ (hI _ _ (hR _ _ (fold_inv (P := NdV) (add := addR) (fun v s h => hR v s h) x.roles _ (fold_inv (P := NdV) (add := addS) (fun v s h => hS v s h) [x.left, x.right] v h))))

def lst (v : Nm) : Nat → List (List UInt8)
  | 0 => v.a
  | 1 => v.b
  | 2 => v.c
  | _ => v.d

def axI (x : Ax) (s : List UInt8) : Nat → Prop
  | 0 => axA x s
  | 1 => axB x s ∧ s ≠ []
  | 2 => axC x s
  | _ => axD x s ∧ s ≠ []

theorem mem_lst (l : List Ax) (i : Nat) (s : List UInt8) : s ∈ lst (vocN l) i ↔ ∃ x ∈ l, axI x s i := by
  have hn := vocV_nd l
  match i with
  | 0 => exact mem_sortK.trans (voc_a l s)
  | 1 =>
    refine mem_sortK.trans ?_
    rw [hn.b.mem_erase_iff, voc_b]
    exact ⟨fun ⟨h, x, hx, h'⟩ => ⟨x, hx, h', h⟩, fun ⟨x, hx, h', h⟩ => ⟨h, x, hx, h'⟩⟩
  | 2 => exact mem_sortK.trans (voc_c l s)
  | n + 3 =>
    refine mem_sortK.trans ?_
    rw [hn.d.mem_erase_iff, voc_d]
    exact ⟨fun ⟨h, x, hx, h'⟩ => ⟨x, hx, h', h⟩, fun ⟨x, hx, h', h⟩ => ⟨h, x, hx, h'⟩⟩

theorem lst_strict (l : List Ax) (i : Nat) : (lst (vocN l) i).Pairwise (fun x y => Op.bytesLess x y = true) := by
  have hn := vocV_nd l
  match i with
  | 0 => exact sortK_strict hn.a
  | 1 => exact sortK_strict (hn.b.erase _)
  | 2 => exact sortK_strict hn.c
  | n + 3 => exact sortK_strict (hn.d.erase _)

theorem lst_within {l : List Ax} {i : Nat} {b : List (List UInt8)} (h : ∀ x ∈ l, ∀ s, axI x s i → s ∈ b) : withinR b none (lst (vocN l) i) = true := by
  refine withinL_true (fun s hs => ?_) (lst_strict l i) fun _ _ => rfl
  obtain ⟨x, hx, hs⟩ := (mem_lst l i s).1 hs
  exact h x hx s hs

theorem within_left (l m : List Ax) (i : Nat) : withinR (lst (vocN (l ++ m)) i) none (lst (vocN l) i) = true :=
  lst_within fun x hx s hs => (mem_lst _ i s).2 ⟨x, List.mem_append_left _ hx, hs⟩
theorem within_right (l m : List Ax) (i : Nat) : withinR (lst (vocN (l ++ m)) i) none (lst (vocN m) i) = true :=
  lst_within fun x hx s hs => (mem_lst _ i s).2 ⟨x, List.mem_append_right _ hx, hs⟩
theorem within_both (l m : List Ax) (i : Nat) : withinR (lst (vocN l) i ++ lst (vocN m) i) none (lst (vocN (l ++ m)) i) = true :=
  lst_within fun x hx s hs => by
    rcases List.mem_append.1 hx with hx | hx
    · exact List.mem_append_left _ ((mem_lst _ i s).2 ⟨x, hx, hs⟩)
    · exact List.mem_append_right _ ((mem_lst _ i s).2 ⟨x, hx, hs⟩)

theorem axI_name {x : Ax} (h : axiomE x = 0) (i : Nat) {s : List UInt8} (hs : axI x s i) : nameF s = true := by
  obtain ⟨h1, h2, h3, h4⟩ := ax_names h
  match i, hs with
  | 0, hs => exact h1 s hs
  | 1, hs => exact (h2 s hs.1).resolve_left hs.2
  | 2, hs => exact h3 s hs
  | n + 3, hs => exact (h4 s hs.1).resolve_left hs.2

theorem axI_tidy {x : Ax} (h : (tidyA x).2 = 0) (i : Nat) {s : List UInt8} (hs : axI (tidyA x).1 s i) : axI x s i := by
  obtain ⟨_, _, h3⟩ := axiom_tidy h
  match i, hs with
  | 0, hs => exact h3.a s hs
  | 1, hs => exact ⟨h3.b s hs.1, hs.2⟩
  | 2, hs => exact h3.c s hs
  | n + 3, hs => exact ⟨h3.d s hs.1, hs.2⟩

theorem within_tidy {l : List Ax} {x : Ax} (hx : x ∈ l) (h : (tidyA x).2 = 0) (i : Nat) : withinR (lst (vocN l) i) none (lst (vocN [(tidyA x).1]) i) = true :=
  lst_within fun y hy s hs => by
    simp only [List.mem_singleton] at hy
    subst hy
    exact (mem_lst _ i s).2 ⟨x, hx, axI_tidy h i hs⟩

theorem firstA_app : ∀ (l m : List Ax), firstA (l ++ m) = if firstA l ≠ 0 then firstA l else firstA m
  | [], m => by simp [firstA]
  | x :: r, m => by
    rw [List.cons_append, firstA, firstA, firstA_app r m]
    split <;> rfl

theorem firstA_iff : ∀ (l : List Ax), firstA l = 0 ↔ ∀ x ∈ l, axiomE x = 0
  | [] => by simp [firstA]
  | x :: r => by
    rw [firstA]
    have := firstA_iff r
    split <;> rename_i h
    · simp [h]
    · have h : axiomE x = 0 := by simpa using h
      simp [h, this]

theorem lst_names {l : List Ax} (h : firstA l = 0) (i : Nat) {s : List UInt8} (hs : s ∈ lst (vocN l) i) : nameF s = true := by
  obtain ⟨x, hx, hs⟩ := (mem_lst l i s).1 hs
  exact axI_name ((firstA_iff l).1 h x hx) i hs
end Go.Proofs.YtkbmlchceiglfaaGreatDoor

namespace Go.Proofs.YtkbmlchceiglfaaGreatDoor
set_option linter.unnecessarySimpa false
set_option linter.unusedSectionVars false
set_option linter.unusedSimpArgs false
set_option linter.unusedVariables false
open Go.Proofs
set_option maxRecDepth 10000
attribute [local irreducible] SemVC CallVC Tri Stuck YVC GenP GenVC

/-! ### With, plainly -/

def withG (s : List UInt8) : Bool → List (List UInt8) → List (List UInt8)
  | d, [] => if d = true then [] else [s]
  | d, x :: r => if Op.bytesLess s x = true ∧ (d || decide (x = s)) = false then s :: x :: withG s true r else x :: withG s (d || decide (x = s)) r
def withF (l : List (List UInt8)) (s : List UInt8) : List (List UInt8) := withG s false l

theorem withG_true (s : List UInt8) : ∀ l, withG s true l = l
  | [] => rfl
  | x :: r => by rw [withG, if_neg (by simp), Bool.true_or, withG_true s r]

def StrK (l : List (List UInt8)) : Prop := l.Pairwise fun x y => Op.bytesLess x y = true

theorem bl_irr (a : List UInt8) : Op.bytesLess a a = false := by rw [Go.Proofs.bytesLess_eq]; simp [List.lt_irrefl]
theorem bl_trans {a b c : List UInt8} (h1 : Op.bytesLess a b = true) (h2 : Op.bytesLess b c = true) : Op.bytesLess a c = true := by
  rw [Go.Proofs.bytesLess_eq, decide_eq_true_eq] at *
  exact List.lt_trans h1 h2
theorem bl_tri {a b : List UInt8} (h1 : Op.bytesLess a b = false) (h2 : b ≠ a) : Op.bytesLess b a = true := by
  rw [Go.Proofs.bytesLess_eq] at *
  simp only [decide_eq_true_eq, decide_eq_false_iff_not] at *
  exact Classical.byContradiction fun h3 => h2 (List.le_antisymm (List.not_lt.1 h1) (List.not_lt.1 h3))

theorem withF_mem (s : List UInt8) : ∀ (l : List (List UInt8)) (y : List UInt8), y ∈ withG s false l ↔ y = s ∨ y ∈ l
  | [], y => by simp [withG]
  | x :: r, y => by
    rw [withG]
    split
    · rw [withG_true]; simp
    · by_cases e : x = s
      · rw [decide_eq_true e, Bool.or_true, withG_true]; subst e; simp
      · rw [decide_eq_false e, Bool.or_false, List.mem_cons, withF_mem s r, List.mem_cons]
        exact ⟨fun h => h.elim (fun h => .inr (.inl h)) (fun h => h.elim .inl fun h => .inr (.inr h)), fun h => h.elim (fun h => .inr (.inl h)) fun h => h.elim .inl fun h => .inr (.inr h)⟩

theorem withF_str (s : List UInt8) : ∀ (l : List (List UInt8)), StrK l → StrK (withG s false l)
  | [], _ => by simp [withG, StrK]
  | x :: r, h => by
    have h0 : StrK (x :: r) := h
    have h := List.pairwise_cons.1 h
    rw [withG]
    split
    · rename_i hs
      rw [withG_true]
      refine List.pairwise_cons.2 ⟨fun y hy => ?_, h0⟩
      rcases List.mem_cons.1 hy with rfl | hy
      · exact hs.1
      · exact bl_trans hs.1 (h.1 y hy)
    · rename_i hs
      by_cases e : x = s
      · rw [decide_eq_true e, Bool.or_true, withG_true]; exact h0
      · rw [decide_eq_false e, Bool.or_false] at hs ⊢
        refine List.pairwise_cons.2 ⟨fun y hy => ?_, withF_str s r h.2⟩
        rw [withF_mem] at hy
        rcases hy with rfl | hy
        · refine bl_tri ?_ e
          cases hb : Op.bytesLess y x
          · rfl
          · exact absurd ⟨hb, rfl⟩ hs
        · exact h.1 y hy

theorem withG_len (s : List UInt8) : ∀ (d : Bool) (l : List (List UInt8)), (withG s d l).length ≤ l.length + 1
  | d, [] => by rw [withG]; split <;> simp
  | d, x :: r => by
    rw [withG]
    split
    · rw [withG_true]; simp
    · have := withG_len s (d || decide (x = s)) r
      simp only [List.length_cons]; omega

theorem str_uniq : ∀ {l m : List (List UInt8)}, StrK l → StrK m → (∀ y, y ∈ l ↔ y ∈ m) → l = m
  | [], [], _, _, _ => rfl
  | [], y :: m, _, _, h => absurd ((h y).2 (by simp)) (by simp)
  | x :: l, [], _, _, h => absurd ((h x).1 (by simp)) (by simp)
  | x :: l, y :: m, h1, h2, h => by
    have a1 := List.pairwise_cons.1 h1
    have a2 := List.pairwise_cons.1 h2
    have hxy : x = y := by
      rcases List.mem_cons.1 ((h x).1 (by simp)) with e | hx
      · exact e
      · rcases List.mem_cons.1 ((h y).2 (by simp)) with e | hy
        · exact e.symm
        · have := bl_trans (a2.1 x hx) (a1.1 y hy)
          rw [bl_irr] at this
          exact absurd this (by decide)
    subst hxy
    rw [str_uniq a1.2 a2.2 fun z => ?_]
    constructor
    · intro hz
      rcases List.mem_cons.1 ((h z).1 (List.mem_cons_of_mem _ hz)) with rfl | hz'
      · have := a1.1 z hz; rw [bl_irr] at this; exact absurd this (by decide)
      · exact hz'
    · intro hz
      rcases List.mem_cons.1 ((h z).2 (List.mem_cons_of_mem _ hz)) with rfl | hz'
      · have := a2.1 z hz; rw [bl_irr] at this; exact absurd this (by decide)
      · exact hz'

/-! ### names and Vocabulary, plainly -/

def wC (v : Nm) (c : Cn) : Nm :=
  if c.kind = 3 then { v with a := withF v.a c.name }
  else if c.kind = 4 then { v with d := withF v.d c.name }
  else if c.kind = 6 then { v with b := withF v.b c.name }
  else if c.kind = 7 then { v with c := withF v.c c.name }
  else v
def wS (v : Nm) (c : Cn) : Nm := (nodes c).foldl wC v
def wR (v : Nm) (s : List UInt8) : Nm := { v with b := withF v.b s }
def wI (v : Nm) (s : List UInt8) : Nm := { v with d := withF v.d s }
def wR0 (v : Nm) (s : List UInt8) : Nm := if s ≠ [] then wR v s else v
def wI0 (v : Nm) (s : List UInt8) : Nm := if s ≠ [] then wI v s else v
def wX (v : Nm) (x : Ax) : Nm := wI0 (wI0 (x.roles.foldl wR (wR0 (wS (wS v x.left) x.right) x.role)) x.a) x.b
def wV (l : List Ax) : Nm := l.foldl wX ⟨[], [], [], []⟩
def rvocR (l : List Ax) : Nm × Int := if firstA l ≠ 0 then (⟨[], [], [], []⟩, firstA l) else (wV l, 0)

structure StrN (v : Nm) : Prop where
  a : StrK v.a
  b : StrK v.b
  c : StrK v.c
  d : StrK v.d

theorem wC_str {v : Nm} {c : Cn} (h : StrN v) : StrN (wC v c) := by
  unfold wC
  split
  · exact ⟨withF_str _ _ h.a, h.b, h.c, h.d⟩
  · split
    · exact ⟨h.a, h.b, h.c, withF_str _ _ h.d⟩
    · split
      · exact ⟨h.a, withF_str _ _ h.b, h.c, h.d⟩
      · split
        · exact ⟨h.a, h.b, withF_str _ _ h.c, h.d⟩
        · exact h
theorem wV_str (l : List Ax) : StrN (wV l) := by
  refine fold_inv (P := StrN) (add := wX) (fun v x h => ?_) l _ ⟨.nil, .nil, .nil, .nil⟩
  have hS : ∀ v c, StrN v → StrN (wS v c) := fun v c h => fold_inv (P := StrN) (add := wC) (fun v c h => wC_str h) (nodes c) v h
  have hR : ∀ v s, StrN v → StrN (wR v s) := fun v s h => ⟨h.a, withF_str _ _ h.b, h.c, h.d⟩
  have hI : ∀ v s, StrN v → StrN (wI v s) := fun v s h => ⟨h.a, h.b, h.c, withF_str _ _ h.d⟩
  have hR0 : ∀ v s, StrN v → StrN (wR0 v s) := fun v s h => by unfold wR0; split; exact hR v s h; exact h
  have hI0 : ∀ v s, StrN v → StrN (wI0 v s) := fun v s h => by unfold wI0; split; exact hI v s h; exact h
  exact hI0 _ _ (hI0 _ _ (fold_inv (P := StrN) (add := wR) (fun v s h => hR v s h) x.roles _ (hR0 _ _ (hS _ _ (hS _ _ h)))))

theorem or_sw {a b : Prop} : a ∨ b ↔ b ∨ a := ⟨Or.symm, Or.symm⟩
theorem withF_or (l : List (List UInt8)) (s y : List UInt8) : y ∈ withF l s ↔ y ∈ l ∨ s = y := by
  rw [withF, withF_mem]
  exact ⟨fun h => h.elim (fun h => .inr h.symm) .inl, fun h => h.elim .inr fun h => .inl h.symm⟩

theorem wC_a {v : Nm} {c : Cn} {s : List UInt8} : s ∈ (wC v c).a ↔ s ∈ v.a ∨ (c.kind = 3 ∧ c.name = s) := by
  unfold wC
  split
  · rename_i h; rw [withF_or]; simp [h]
  · split
    · simp_all
    · split
      · simp_all
      · split <;> simp_all
theorem wC_d {v : Nm} {c : Cn} {s : List UInt8} : s ∈ (wC v c).d ↔ s ∈ v.d ∨ (c.kind = 4 ∧ c.name = s) := by
  unfold wC
  split
  · rename_i h; simp [h]
  · split
    · rename_i h; rw [withF_or]; simp [h]
    · split
      · simp_all
      · split <;> simp_all
theorem wC_b {v : Nm} {c : Cn} {s : List UInt8} : s ∈ (wC v c).b ↔ s ∈ v.b ∨ (c.kind = 6 ∧ c.name = s) := by
  unfold wC
  split
  · rename_i h; simp [h]
  · split
    · rename_i h; simp [h]
    · split
      · rename_i h; rw [withF_or]; simp [h]
      · split <;> simp_all
theorem wC_c {v : Nm} {c : Cn} {s : List UInt8} : s ∈ (wC v c).c ↔ s ∈ v.c ∨ (c.kind = 7 ∧ c.name = s) := by
  unfold wC
  split
  · rename_i h; simp [h]
  · split
    · rename_i h; simp [h]
    · split
      · rename_i h; simp [h]
      · split
        · rename_i h; rw [withF_or]; simp [h]
        · simp_all

theorem wS_a {v : Nm} {c : Cn} {s : List UInt8} : s ∈ (wS v c).a ↔ s ∈ v.a ∨ hasK 3 c s := fold_mem (pr := Nm.a) (add := wC) (Q := fun (c : Cn) (s : List UInt8) => c.kind = 3 ∧ c.name = s) (fun v x s => wC_a) (nodes c) v s
theorem wS_b {v : Nm} {c : Cn} {s : List UInt8} : s ∈ (wS v c).b ↔ s ∈ v.b ∨ hasK 6 c s := fold_mem (pr := Nm.b) (add := wC) (Q := fun (c : Cn) (s : List UInt8) => c.kind = 6 ∧ c.name = s) (fun v x s => wC_b) (nodes c) v s
theorem wS_c {v : Nm} {c : Cn} {s : List UInt8} : s ∈ (wS v c).c ↔ s ∈ v.c ∨ hasK 7 c s := fold_mem (pr := Nm.c) (add := wC) (Q := fun (c : Cn) (s : List UInt8) => c.kind = 7 ∧ c.name = s) (fun v x s => wC_c) (nodes c) v s
theorem wS_d {v : Nm} {c : Cn} {s : List UInt8} : s ∈ (wS v c).d ↔ s ∈ v.d ∨ hasK 4 c s := fold_mem (pr := Nm.d) (add := wC) (Q := fun (c : Cn) (s : List UInt8) => c.kind = 4 ∧ c.name = s) (fun v x s => wC_d) (nodes c) v s

theorem wRs_b (l : List (List UInt8)) (v : Nm) (s : List UInt8) : s ∈ (l.foldl wR v).b ↔ s ∈ v.b ∨ s ∈ l := by
  rw [fold_mem (pr := Nm.b) (add := wR) (Q := fun (k s : List UInt8) => k = s) (fun v x s => withF_or v.b x s) l v s]
  simp
theorem wRs_rest (l : List (List UInt8)) (v : Nm) : (l.foldl wR v).a = v.a ∧ (l.foldl wR v).c = v.c ∧ (l.foldl wR v).d = v.d := by
  induction l generalizing v with
  | nil => exact ⟨rfl, rfl, rfl⟩
  | cons x l ih => rw [List.foldl_cons]; exact ih _
theorem wR0_rest (v : Nm) (s : List UInt8) : (wR0 v s).a = v.a ∧ (wR0 v s).c = v.c ∧ (wR0 v s).d = v.d := by
  unfold wR0; split <;> exact ⟨rfl, rfl, rfl⟩
theorem wR0_b (v : Nm) (s y : List UInt8) : y ∈ (wR0 v s).b ↔ y ∈ v.b ∨ (s = y ∧ s ≠ []) := by
  unfold wR0
  split
  · rename_i h; rw [show (wR v s).b = withF v.b s from rfl, withF_or]; simp [h]
  · rename_i h; simp at h; simp [h]
theorem wI0_rest (v : Nm) (s : List UInt8) : (wI0 v s).a = v.a ∧ (wI0 v s).b = v.b ∧ (wI0 v s).c = v.c := by
  unfold wI0; split <;> exact ⟨rfl, rfl, rfl⟩
theorem wI0_d (v : Nm) (s y : List UInt8) : y ∈ (wI0 v s).d ↔ y ∈ v.d ∨ (s = y ∧ s ≠ []) := by
  unfold wI0
  split
  · rename_i h; rw [show (wI v s).d = withF v.d s from rfl, withF_or]; simp [h]
  · rename_i h; simp at h; simp [h]

theorem wX_a {v : Nm} {x : Ax} {s : List UInt8} : s ∈ (wX v x).a ↔ s ∈ v.a ∨ axA x s := by
  unfold wX
  rw [(wI0_rest _ _).1, (wI0_rest _ _).1, (wRs_rest _ _).1, (wR0_rest _ _).1, wS_a, wS_a, or_assoc]; rfl
theorem wX_c {v : Nm} {x : Ax} {s : List UInt8} : s ∈ (wX v x).c ↔ s ∈ v.c ∨ axC x s := by
  unfold wX
  rw [(wI0_rest _ _).2.2, (wI0_rest _ _).2.2, (wRs_rest _ _).2.1, (wR0_rest _ _).2.1, wS_c, wS_c, or_assoc]; rfl
def axWb (x : Ax) (s : List UInt8) : Prop := hasK 6 x.left s ∨ hasK 6 x.right s ∨ (x.role = s ∧ x.role ≠ []) ∨ s ∈ x.roles
def axWd (x : Ax) (s : List UInt8) : Prop := hasK 4 x.left s ∨ hasK 4 x.right s ∨ (x.a = s ∧ x.a ≠ []) ∨ (x.b = s ∧ x.b ≠ [])
theorem wX_b {v : Nm} {x : Ax} {s : List UInt8} : s ∈ (wX v x).b ↔ s ∈ v.b ∨ axWb x s := by
  unfold wX
  rw [(wI0_rest _ _).2.1, (wI0_rest _ _).2.1, wRs_b, wR0_b, wS_b, wS_b, or_assoc, or_assoc, or_assoc]; rfl
theorem wX_d {v : Nm} {x : Ax} {s : List UInt8} : s ∈ (wX v x).d ↔ s ∈ v.d ∨ axWd x s := by
  unfold wX
  rw [wI0_d, wI0_d, (wRs_rest _ _).2.2, (wR0_rest _ _).2.2, wS_d, wS_d, or_assoc, or_assoc, or_assoc]; rfl

theorem nameF_nil : nameF [] = false := by decide

theorem wV_eq {l : List Ax} (hz : firstA l = 0) : wV l = vocN l := by
  have ha : ∀ x ∈ l, axiomE x = 0 := (firstA_iff l).1 hz
  have hs := wV_str l
  have e0 : (wV l).a = lst (vocN l) 0 := str_uniq hs.a (lst_strict l 0) fun y => by
    rw [wV, fold_mem (pr := Nm.a) (add := wX) (Q := axA) (fun v x s => wX_a), mem_lst]
    simp [axI]
  have e2 : (wV l).c = lst (vocN l) 2 := str_uniq hs.c (lst_strict l 2) fun y => by
    rw [wV, fold_mem (pr := Nm.c) (add := wX) (Q := axC) (fun v x s => wX_c), mem_lst]
    simp [axI]
  have e1 : (wV l).b = lst (vocN l) 1 := str_uniq hs.b (lst_strict l 1) fun y => by
    rw [wV, fold_mem (pr := Nm.b) (add := wX) (Q := axWb) (fun v x s => wX_b), mem_lst]
    simp only [List.not_mem_nil, false_or]
    constructor
    · rintro ⟨x, hx, h⟩
      have hB : axB x y := by
        rcases h with h | h | h | h
        · exact .inl h
        · exact .inr (.inl h)
        · exact .inr (.inr (.inr h.1))
        · exact .inr (.inr (.inl h))
      refine ⟨x, hx, hB, fun e => ?_⟩
      subst e
      have hn := ax_names (ha x hx)
      rcases h with h | h | h | h
      · exact absurd ((ax_names (ha x hx)).2.1 [] (.inl h)) (fun h' => by
          have ho := (axiomE_iff x).1 (ha x hx)
          have s := ho.shaped
          unfold shapedU at s
          simp only [Bool.and_eq_true] at s
          have := side_name s.1 ho.left (k := 6) (by decide) h
          rw [nameF_nil] at this; exact absurd this (by decide))
      · have ho := (axiomE_iff x).1 (ha x hx)
        have s := ho.shaped
        unfold shapedU at s
        simp only [Bool.and_eq_true] at s
        have := side_name s.2.1 ho.right (k := 6) (by decide) h
        rw [nameF_nil] at this; exact absurd this (by decide)
      · exact h.2 h.1
      · have ho := (axiomE_iff x).1 (ha x hx)
        have s := ho.named
        unfold namedF at s
        rw [Bool.and_eq_true] at s
        have := List.all_eq_true.1 s.2 _ h
        exact absurd this (by decide)
    · rintro ⟨x, hx, h, hne⟩
      refine ⟨x, hx, ?_⟩
      rcases h with h | h | h | h
      · exact .inl h
      · exact .inr (.inl h)
      · exact .inr (.inr (.inr h))
      · exact .inr (.inr (.inl ⟨h, fun e => hne (by rw [← h, e])⟩))
  have e3 : (wV l).d = lst (vocN l) 3 := str_uniq hs.d (lst_strict l 3) fun y => by
    rw [wV, fold_mem (pr := Nm.d) (add := wX) (Q := axWd) (fun v x s => wX_d), mem_lst]
    simp only [List.not_mem_nil, false_or]
    constructor
    · rintro ⟨x, hx, h⟩
      have hB : axD x y := by
        rcases h with h | h | h | h
        · exact .inl h
        · exact .inr (.inl h)
        · exact .inr (.inr (.inl h.1))
        · exact .inr (.inr (.inr h.1))
      refine ⟨x, hx, hB, fun e => ?_⟩
      subst e
      have ho := (axiomE_iff x).1 (ha x hx)
      have s := ho.shaped
      unfold shapedU at s
      simp only [Bool.and_eq_true] at s
      rcases h with h | h | h | h
      · have := side_name s.1 ho.left (k := 4) (by decide) h
        rw [nameF_nil] at this; exact absurd this (by decide)
      · have := side_name s.2.1 ho.right (k := 4) (by decide) h
        rw [nameF_nil] at this; exact absurd this (by decide)
      · exact h.2 h.1
      · exact h.2 h.1
    · rintro ⟨x, hx, h, hne⟩
      refine ⟨x, hx, ?_⟩
      rcases h with h | h | h | h
      · exact .inl h
      · exact .inr (.inl h)
      · exact .inr (.inr (.inl ⟨h, fun e => hne (by rw [← h, e])⟩))
      · exact .inr (.inr (.inr ⟨h, fun e => hne (by rw [← h, e])⟩))
  have hv : vocN l = ⟨lst (vocN l) 0, lst (vocN l) 1, lst (vocN l) 2, lst (vocN l) 3⟩ := rfl
  rw [hv, ← e0, ← e1, ← e2, ← e3]
theorem rvocR_eq (l : List Ax) : rvocR l = vocR l := by
  unfold rvocR vocR
  split
  · rfl
  · rename_i h
    rw [wV_eq (by simpa using h)]
end Go.Proofs.YtkbmlchceiglfaaGreatDoor
