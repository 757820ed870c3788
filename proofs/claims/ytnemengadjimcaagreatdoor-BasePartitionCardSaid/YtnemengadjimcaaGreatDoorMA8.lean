/-
  Terms: CheckConcept, Size, Depth. Terms: Size, Depth, isBare, isEmpty. Terms: isBare, isEmpty. Terms: the shape and the names of an axiom.
  Conditions: none.
-/
import Derived.Test.YtnemengadjimcaaGreatDoorMA4
set_option linter.unusedSectionVars false
set_option linter.unusedSimpArgs false
set_option linter.unusedVariables false
set_option maxHeartbeats 8000000
namespace Go.Proofs.YtnemengadjimcaaGreatDoor
open Go.Proofs
set_option maxRecDepth 10000
attribute [local irreducible] SemVC CallVC Tri Stuck YVC GenP GenVC
def firstE : List Cn → Int
 | [] => 0
 | x :: r => if fieldsE x ≠ 0 then fieldsE x else firstE r
def conceptE (c : Cn) : Int := if (fitsF c 0 0).1 = false then 21 else firstE (nodes c)
theorem firstE_skip : ∀ (l m : List Cn), (∀ x ∈ l, fieldsE x = 0) → firstE (l ++ m) = firstE m
 | [], _, _ => rfl
 | x :: l, m, h => by
  rw [List.cons_append, firstE, if_neg (by simp [h x (List.mem_cons_self ..)])]
  exact firstE_skip l m fun y hy => h y (List.mem_cons_of_mem _ hy)
theorem bigNG : ∀ k, 100 ≤ k → k ∉ idsH NG := by
 intro k hk hm
 have e : idsH NG = [90, 91] := by with_unfolding_all exact rfl
 rw [e] at hm
 simp at hm
 omega
theorem checkConcept_spec (c : Cn) : Tri Tryz.prog 95 [.d (.agg (cnR c))] NG (fun r => r = .d (.int .i64 (conceptE c))) := by
 have hcR := cnR_eq c
 have hw := walk_spec c
 have hfit := fun hp0 pin fr K => @fits_spec c 0 0 hp0 pin fr K (by omega) (by omega)
 rw [hcR]
 simp only [hcR] at hw hfit
 refine tri_of_bodyF false [1] hty Tryz.func95 rfl (kp [0, 1, 2, 3, 4, 5, 8, 10, 11, 15]) [] _ _ _ (by simp [Tryz.f95]) (by decide) ?_
 ((conv => whnf); repeat' ((first | (intro hq; (try simp only [lnS] at hq); (try rewrite [List.length_map])) | refine sJ ?_ | refine .intro _ (.intro rfl ?_) | (refine .intro (show (_ : Nat) < List.length _ from by first | omega | (simp only [lnS]; omega) | simp) ?_) | fail | refine draw_rule hty (by kernel_rfl) (by kernel_rfl) ?_ | ((first | refine brB_dec ?_ ?_ | refine brB_ndec ?_ ?_) <;> intro hb <;> (first | contradiction | ((try simp only [lnS] at hb); try (exfalso; omega)))) | (refine brB_split ?_ ?_ <;> intro hb <;> (first | contradiction | exact bT hb (by assumption) | exact bF hb (by assumption) | skip))) <;> (conv => whnf)))
 refine hfit ((2, .cells 26 [.d (.int .i64 0)]) :: NG) _ _ _ (by simp) (bigF (by with_unfolding_all exact rfl)) (bigH (by decide) (by with_unfolding_all exact rfl) bigNG) ?_
 cases hb : (fitsF c 0 0).1
 ·((conv => whnf); repeat' ((first | (intro hq; (try simp only [lnS] at hq); (try rewrite [List.length_map])) | refine sJ ?_ | refine .intro _ (.intro rfl ?_) | (refine .intro (show (_ : Nat) < List.length _ from by first | omega | (simp only [lnS]; omega) | simp) ?_) | fail | refine draw_rule hty (by kernel_rfl) (by kernel_rfl) ?_ | ((first | refine brB_dec ?_ ?_ | refine brB_ndec ?_ ?_) <;> intro hb <;> (first | contradiction | ((try simp only [lnS] at hb); try (exfalso; omega)))) | (refine brB_split ?_ ?_ <;> intro hb <;> (first | contradiction | exact bT hb (by assumption) | exact bF hb (by assumption) | skip))) <;> (conv => whnf)))
  rw [conceptE, if_pos hb]; rfl
 ·have hE : conceptE c = firstE (nodes c) := by rw [conceptE, if_neg (by simp [hb])]
  rw [hE]
  ((conv => whnf); repeat ((first | (intro hq; try simp only [lnS] at hq) | refine sI ?_ | refine .intro _ (.intro rfl ?_)); (conv => whnf)))
  refine call_tri [] hw trivial (fun s hs => ?_)
  subst hs
  ((conv => whnf); repeat ((first | (intro hq; try simp only [lnS] at hq) | refine sI ?_ | refine .intro _ (.intro rfl ?_)); (conv => whnf)))
  refine range_rule 60 (fresh_of (by with_unfolding_all exact rfl)) trivial ?_
  ((conv => whnf); repeat ((first | (intro hq; try simp only [lnS] at hq) | refine sI ?_ | refine .intro _ (.intro rfl ?_)); (conv => whnf)))
  rw [← hcR]
  refine rounds_spec (lid := 60) (by decide) (fun e : Int => (3, _) :: (2, .cells 26 [.d (.int .i64 e)]) :: NG) (fun done e => e = 0 ∧ ∀ x ∈ done, fieldsE x = 0) (fun e => e = firstE (nodes c)) c 0 ⟨rfl, by simp⟩ (by with_unfolding_all exact rfl) (fun e => bigH (by decide) (by with_unfolding_all exact rfl) (bigH (by decide) (by with_unfolding_all exact rfl) bigNG)) (by simp) (bigF (by with_unfolding_all exact rfl)) ?_ ?_ ?_
  ·rintro done x s pin fr K ⟨rfl, hd⟩ ⟨rest, hA⟩ h1 h2 h3 h4
   have hx := cnR_eq x
   have hcf := checkFields_spec x
   rw [hx] at hcf ⊢
   have hbig : ∀ k, 100 ≤ k → k ∉ pin ++ idsF fr ++ [60] := by
    intro k hk hm
    simp only [List.mem_append, List.mem_singleton] at hm
    rcases hm with (hm | hm) | hm
    ·exact h1 k hk hm
    ·exact h2 k hk hm
    ·omega
   refine yield_roundF [4] hty (kp [0, 1, 2, 3, 4, 5, 8, 10, 11, 15]) 600 rfl rfl ?_
   ((conv => whnf); repeat' ((first | (intro hq; (try simp only [lnS] at hq); (try rewrite [List.length_map])) | refine sJ ?_ | refine .intro _ (.intro rfl ?_) | (refine .intro (show (_ : Nat) < List.length _ from by first | omega | (simp only [lnS]; omega) | simp) ?_) | (refine And.intro ⟨hbig _ (Nat.le_of_ble_eq_true rfl), bigF (by with_unfolding_all exact rfl) _ (Nat.le_of_ble_eq_true rfl), notMem_of (by with_unfolding_all exact rfl)⟩ ?_) | (refine call_tri NG hcf ⟨rfl, rfl, trivial⟩ (fun r hs => ?_); subst hs) | refine draw_rule hty (by kernel_rfl) (by kernel_rfl) ?_ | ((first | refine brB_dec ?_ ?_ | refine brB_ndec ?_ ?_) <;> intro hb <;> (first | contradiction | ((try simp only [lnS] at hb); try (exfalso; omega)))) | (refine brB_split ?_ ?_ <;> intro hb <;> (first | contradiction | exact bT hb (by assumption) | exact bF hb (by assumption) | skip))) <;> (conv => whnf)))
   ·exact h4 (fieldsE x) (by rw [← hA, firstE_skip _ _ hd, firstE, if_pos (by assumption)])
   ·refine h3 0 ⟨rfl, fun y hy => ?_⟩
    rcases List.mem_append.1 hy with h | h
    ·exact hd y h
    ·simp at h; subst h; assumption
  ·rintro s ⟨rfl, hI⟩
   have hz : firstE (nodes c) = 0 := by
    have := firstE_skip (nodes c) [] hI
    simpa [firstE] using this
   rw [hz]
   ((conv => whnf); repeat' ((first | (intro hq; (try simp only [lnS] at hq); (try rewrite [List.length_map])) | refine sJ ?_ | refine .intro _ (.intro rfl ?_) | (refine .intro (show (_ : Nat) < List.length _ from by first | omega | (simp only [lnS]; omega) | simp) ?_) | fail | refine draw_rule hty (by kernel_rfl) (by kernel_rfl) ?_ | ((first | refine brB_dec ?_ ?_ | refine brB_ndec ?_ ?_) <;> intro hb <;> (first | contradiction | ((try simp only [lnS] at hb); try (exfalso; omega)))) | (refine brB_split ?_ ?_ <;> intro hb <;> (first | contradiction | exact bT hb (by assumption) | exact bF hb (by assumption) | skip))) <;> (conv => whnf)))
   rfl
  ·rintro s rfl
   ((conv => whnf); repeat' ((first | (intro hq; (try simp only [lnS] at hq); (try rewrite [List.length_map])) | refine sJ ?_ | refine .intro _ (.intro rfl ?_) | (refine .intro (show (_ : Nat) < List.length _ from by first | omega | (simp only [lnS]; omega) | simp) ?_) | fail | refine draw_rule hty (by kernel_rfl) (by kernel_rfl) ?_ | ((first | refine brB_dec ?_ ?_ | refine brB_ndec ?_ ?_) <;> intro hb <;> (first | contradiction | ((try simp only [lnS] at hb); try (exfalso; omega)))) | (refine brB_split ?_ ?_ <;> intro hb <;> (first | contradiction | exact bT hb (by assumption) | exact bF hb (by assumption) | skip))) <;> (conv => whnf)))
   rfl
end Go.Proofs.YtnemengadjimcaaGreatDoor
namespace Go.Proofs.YtnemengadjimcaaGreatDoor
open Go.Proofs
set_option maxRecDepth 10000
attribute [local irreducible] SemVC CallVC Tri Stuck YVC GenP GenVC
def sizeF (c : Cn) : Nat := (nodes c).length
theorem sizeF_pos (c : Cn) : 1 ≤ sizeF c := by rw [sizeF, nodes_eq]; simp
theorem size_spec (c : Cn) (hs : sizeF c ≤ 1000000) : Tri Tryz.prog 125 [.d (.agg (cnR c))] [] (fun r => r = .d (.int .i64 (sizeF c))) := by
 have hcR := cnR_eq c
 have hw := walk_spec c
 rw [hcR]
 simp only [hcR] at hw
 refine tri_of_bodyF false [1] hty Tryz.func125 rfl (kp [0, 1, 2, 4]) [] _ _ _ (by simp [Tryz.f125]) (by simp) ?_
 ((conv => whnf); repeat ((first | (intro hq; try simp only [lnS] at hq) | refine sI ?_ | refine .intro _ (.intro rfl ?_)); (conv => whnf)))
 refine call_tri [] hw trivial (fun s hs => ?_)
 subst hs
 ((conv => whnf); repeat ((first | (intro hq; try simp only [lnS] at hq) | refine sI ?_ | refine .intro _ (.intro rfl ?_)); (conv => whnf)))
 refine range_rule 60 (fresh_of (by with_unfolding_all exact rfl)) trivial ?_
 ((conv => whnf); repeat ((first | (intro hq; try simp only [lnS] at hq) | refine sI ?_ | refine .intro _ (.intro rfl ?_)); (conv => whnf)))
 rw [← hcR]
 refine rounds_spec (lid := 60) (by decide) (fun n : Nat => (2, .cells 3 [.d (.int .i64 n)]) :: []) (fun done n => n = done.length) (fun _ => False) c 0 rfl (by with_unfolding_all exact rfl) (fun e => bigH (by decide) (by with_unfolding_all exact rfl) (by simp [idsH])) (by simp) (bigF (by with_unfolding_all exact rfl)) ?_ ?_ ?_
 ·rintro done x n pin fr K rfl ⟨rest, hA⟩ h1 h2 h3 h4
  have hl : done.length < sizeF c := by rw [sizeF, ← hA]; simp
  refine yield_roundF [] hty (kp [0, 1, 2, 4]) 600 rfl rfl ?_
  ((conv => whnf); repeat' ((first | (intro hq; (try simp only [lnS] at hq); (try rewrite [List.length_map])) | refine sJ ?_ | refine .intro _ (.intro rfl ?_) | (refine .intro (show (_ : Nat) < List.length _ from by first | omega | (simp only [lnS]; omega) | simp) ?_) | fail | refine draw_rule hty (by kernel_rfl) (by kernel_rfl) ?_ | ((first | refine brB_dec ?_ ?_ | refine brB_ndec ?_ ?_) <;> intro hb <;> (first | contradiction | ((try simp only [lnS] at hb); try (exfalso; omega)))) | (refine brB_split ?_ ?_ <;> intro hb <;> (first | contradiction | exact bT hb (by assumption) | exact bF hb (by assumption) | skip))) <;> (conv => whnf)))
  have := h3 (done.length + 1) (by simp)
  exact this
 ·rintro n rfl
  ((conv => whnf); repeat' ((first | (intro hq; (try simp only [lnS] at hq); (try rewrite [List.length_map])) | refine sJ ?_ | refine .intro _ (.intro rfl ?_) | (refine .intro (show (_ : Nat) < List.length _ from by first | omega | (simp only [lnS]; omega) | simp) ?_) | fail | refine draw_rule hty (by kernel_rfl) (by kernel_rfl) ?_ | ((first | refine brB_dec ?_ ?_ | refine brB_ndec ?_ ?_) <;> intro hb <;> (first | contradiction | ((try simp only [lnS] at hb); try (exfalso; omega)))) | (refine brB_split ?_ ?_ <;> intro hb <;> (first | contradiction | exact bT hb (by assumption) | exact bF hb (by assumption) | skip))) <;> (conv => whnf)))
  rfl
 ·rintro n h
  exact h.elim
theorem wkInt6 {a b : Int} (h : a = b) : Wk (.d (.int .i64 a)) (.d (.int .i64 b)) := by subst h; exact rfl
mutual
def depthF : Cn → Nat
 | .mk _ _ _ _ ps => depthL ps
def depthL : List Cn → Nat
 | [] => 0
 | c :: r => max (depthF c + 1) (depthL r)
end
theorem depthF_eq (c : Cn) : depthF c = depthL c.parts := by cases c; rw [depthF]; rfl
theorem nodesL_mem {l : List Cn} {x : Cn} (h : x ∈ l) : (nodes x).length ≤ (nodesL l).length := by
 obtain ⟨a, b, rfl⟩ := List.append_of_mem h
 rw [nodesL_append, nodesL]
 simp only [List.length_append]
 omega
theorem sizeF_part {c x : Cn} (h : x ∈ c.parts) : sizeF x < sizeF c := by
 have := nodesL_mem h
 rw [sizeF, sizeF, nodes_eq c]
 simp only [List.length_cons]
 omega
mutual
def bareF : Cn → Bool
 | .mk k _ _ _ ps => if k = 4 then true else if k = 5 then bareL ps else false
def bareL : List Cn → Bool
 | [] => false
 | c :: r => if bareF c = true then true else bareL r
end
theorem bareF_eq (c : Cn) : bareF c = if c.kind = 4 then true else if c.kind = 5 then bareL c.parts else false := by cases c; rw [bareF]; rfl
end Go.Proofs.YtnemengadjimcaaGreatDoor
namespace Go.Proofs.YtnemengadjimcaaGreatDoor
open Go.Proofs
set_option maxRecDepth 10000
attribute [local irreducible] SemVC CallVC Tri Stuck YVC GenP GenVC
def idxC (p : Cn → Bool) (l : List Cn) : Int := if l.any p = true then ((l.findIdx p : Nat) : Int) else -1
theorem take_any {p : Cn → Bool} {l : List Cn} {j : Nat} (h : j < l.length) (h1 : (l.take j).any p = false) (h2 : p l[j] = false) : (l.take (j + 1)).any p = false := by
 rw [List.take_succ_eq_append_getElem h, List.any_append, h1]; simp [h2]
theorem idxC_at {p : Cn → Bool} {l : List Cn} {j : Nat} (h : j < l.length) (h1 : (l.take j).any p = false) (h2 : p l[j] = true) : idxC p l = j := by
 have ha : l.any p = true := List.any_eq_true.2 ⟨_, List.getElem_mem h, h2⟩
 have hf : l.findIdx p = j := by
  rw [List.findIdx_eq h]
  refine ⟨h2, fun i hi => ?_⟩
  have := List.any_eq_false.1 h1 (l[i]'(by omega)) (List.mem_iff_getElem.2 ⟨i, by simp; omega, by simp⟩)
  simpa using this
 rw [idxC, if_pos ha, hf]
theorem indexC_spec (f : FuncId) (hcall : callable Tryz.prog f = true) (p : Cn → Bool) (l : List Cn) (hf : ∀ q ∈ l, Tri Tryz.prog f [.d (.agg (cnR q))] [] (fun r => r = .d (.bool (p q)))) :
  Tri Tryz.prog 179 [.d (cnl l), .fn f [] []] [] (fun r => r = .d (.int .i64 (idxC p l))) := by
 refine tri_of_body hty Tryz.func179 rfl (kp [0, 1, 4, 5, 7, 8, 9, 16]) [] _ _ _ (by simp [Tryz.f179]) (by simp) ?_
 ((conv => whnf); repeat ((first | (intro hq; try simp only [lnS] at hq) | refine sI ?_ | refine .intro _ (.intro rfl ?_)); (conv => whnf)))
 refine loop_rule hty (fun j : Nat => ([(0, .d (.sl 5 (l.map cnR))), (1, .fn f [] []), (7, .d (.int .i64 l.length)), (8, .d (.int .i64 j))], [])) (fun j => j ≤ l.length ∧ (l.take j).any p = false) (fun j => l.length - j) 0 ⟨by omega, by simp⟩ ⟨by repeat' (first | exact trivial | exact rfl | (rw [List.length_map]; exact rfl) | refine And.intro ?_ ?_), trivial⟩ ?_
 rintro j ⟨hj, hn⟩
 ((conv => whnf); repeat ((first | (intro hq; try simp only [lnS] at hq) | refine sI ?_ | refine .intro _ (.intro rfl ?_)); (conv => whnf)))
 refine brB_dec (fun h1 => ?_) (fun h1 => ?_)
 ·have hjl : j < l.length := by omega
  have hrow' : (l.map cnR)[(j : Int).toNat]? = some (cnR l[j]) := rowC_at hjl
  have hi := hf l[j] (List.getElem_mem hjl)
  rw [cnR_eq] at hrow' hi
  ((conv => whnf); repeat' ((first | (intro hq; (try simp only [lnS] at hq); (try rewrite [List.length_map])) | refine sJ ?_ | refine .intro _ (.intro rfl ?_) | (refine .intro (show (_ : Nat) < List.length _ from by first | omega | (simp only [lnS]; omega) | simp) ?_) | (refine ⟨_, hrow', ?_⟩) | refine draw_rule hty (by kernel_rfl) (by kernel_rfl) ?_ | ((first | refine brB_dec ?_ ?_ | refine brB_ndec ?_ ?_) <;> intro hb <;> (first | contradiction | ((try simp only [lnS] at hb); try (exfalso; omega)))) | (refine brB_split ?_ ?_ <;> intro hb <;> (first | contradiction | exact bT hb (by assumption) | exact bF hb (by assumption) | skip))) <;> (conv => whnf)))
  refine call_tri [] hi trivial (fun r hs => ?_)
  subst hs
  cases hb2 : p l[j]
  ·((conv => whnf); repeat' ((first | (intro hq; (try simp only [lnS] at hq); (try rewrite [List.length_map])) | refine sJ ?_ | refine .intro _ (.intro rfl ?_) | (refine .intro (show (_ : Nat) < List.length _ from by first | omega | (simp only [lnS]; omega) | simp) ?_) | fail | refine draw_rule hty (by kernel_rfl) (by kernel_rfl) ?_ | ((first | refine brB_dec ?_ ?_ | refine brB_ndec ?_ ?_) <;> intro hb <;> (first | contradiction | ((try simp only [lnS] at hb); try (exfalso; omega)))) | (refine brB_split ?_ ?_ <;> intro hb <;> (first | contradiction | exact bT hb (by assumption) | exact bF hb (by assumption) | skip))) <;> (conv => whnf)))
   exact ⟨j + 1, ⟨by omega, take_any hjl hn hb2⟩, by dsimp only; omega, by repeat' (first | exact trivial | exact rfl | refine And.intro ?_ ?_), trivial⟩
  ·((conv => whnf); repeat' ((first | (intro hq; (try simp only [lnS] at hq); (try rewrite [List.length_map])) | refine sJ ?_ | refine .intro _ (.intro rfl ?_) | (refine .intro (show (_ : Nat) < List.length _ from by first | omega | (simp only [lnS]; omega) | simp) ?_) | fail | refine draw_rule hty (by kernel_rfl) (by kernel_rfl) ?_ | ((first | refine brB_dec ?_ ?_ | refine brB_ndec ?_ ?_) <;> intro hb <;> (first | contradiction | ((try simp only [lnS] at hb); try (exfalso; omega)))) | (refine brB_split ?_ ?_ <;> intro hb <;> (first | contradiction | exact bT hb (by assumption) | exact bF hb (by assumption) | skip))) <;> (conv => whnf)))
   exact int_eq (idxC_at hjl hn hb2).symm
 ·have hjl : j = l.length := by omega
  subst hjl
  rw [List.take_length] at hn
  ((conv => whnf); repeat' ((first | (intro hq; (try simp only [lnS] at hq); (try rewrite [List.length_map])) | refine sJ ?_ | refine .intro _ (.intro rfl ?_) | (refine .intro (show (_ : Nat) < List.length _ from by first | omega | (simp only [lnS]; omega) | simp) ?_) | fail | refine draw_rule hty (by kernel_rfl) (by kernel_rfl) ?_ | ((first | refine brB_dec ?_ ?_ | refine brB_ndec ?_ ?_) <;> intro hb <;> (first | contradiction | ((try simp only [lnS] at hb); try (exfalso; omega)))) | (refine brB_split ?_ ?_ <;> intro hb <;> (first | contradiction | exact bT hb (by assumption) | exact bF hb (by assumption) | skip))) <;> (conv => whnf)))
  rw [idxC, if_neg (by simp [hn])]; rfl
theorem idxC_nonneg (p : Cn → Bool) (l : List Cn) : decide (0 ≤ idxC p l) = l.any p := by
 unfold idxC
 cases h : l.any p
 ·simp
 ·simp
theorem containsC_spec (f : FuncId) (hcall : callable Tryz.prog f = true) (p : Cn → Bool) (l : List Cn) (hf : ∀ q ∈ l, Tri Tryz.prog f [.d (.agg (cnR q))] [] (fun r => r = .d (.bool (p q)))) :
  Tri Tryz.prog 147 [.d (cnl l), .fn f [] []] [] (fun r => r = .d (.bool (l.any p))) := by
 refine tri_of_body hty Tryz.func147 rfl (kp [0, 1, 4]) [] _ _ _ (by simp [Tryz.f147]) (by simp) ?_
 ((conv => whnf); repeat ((first | (intro hq; try simp only [lnS] at hq) | refine sI ?_ | refine .intro _ (.intro rfl ?_)); (conv => whnf)))
 refine call_tri [] (indexC_spec f hcall p l hf) trivial (fun r hs => ?_)
 subst hs
 ((conv => whnf); repeat' ((first | (intro hq; (try simp only [lnS] at hq); (try rewrite [List.length_map])) | refine sJ ?_ | refine .intro _ (.intro rfl ?_) | (refine .intro (show (_ : Nat) < List.length _ from by first | omega | (simp only [lnS]; omega) | simp) ?_) | fail | refine draw_rule hty (by kernel_rfl) (by kernel_rfl) ?_ | ((first | refine brB_dec ?_ ?_ | refine brB_ndec ?_ ?_) <;> intro hb <;> (first | contradiction | ((try simp only [lnS] at hb); try (exfalso; omega)))) | (refine brB_split ?_ ?_ <;> intro hb <;> (first | contradiction | exact bT hb (by assumption) | exact bF hb (by assumption) | skip))) <;> (conv => whnf)))
 exact bool_eq (idxC_nonneg p l)
theorem bareL_any : ∀ l, bareL l = l.any bareF
 | [] => by simp [bareL]
 | c :: r => by rw [bareL, bareL_any r, List.any_cons]; cases bareF c <;> simp
theorem isBare_spec : ∀ (c : Cn), Tri Tryz.prog 96 [.d (.agg (cnR c))] [] (fun r => r = .d (.bool (bareF c))) := by
 refine Cn.ind ?_
 intro c ih
 have hC := containsC_spec 96 (by kernel_rfl) bareF c.parts ih
 rw [cnR_eq, bareF_eq, bareL_any]
 refine tri_of_bodyF false [1] hty Tryz.func96 rfl (kp [0, 1, 2, 4, 5, 7]) [] _ _ _ (by simp [Tryz.f96]) (by simp) ?_
 ((conv => whnf); repeat' ((first | (intro hq; (try simp only [lnS] at hq); (try rewrite [List.length_map])) | refine sJ ?_ | refine .intro _ (.intro rfl ?_) | (refine .intro (show (_ : Nat) < List.length _ from by first | omega | (simp only [lnS]; omega) | simp) ?_) | (refine call_tri [] hC trivial (fun r hs => ?_); subst hs) | refine draw_rule hty (by kernel_rfl) (by kernel_rfl) ?_ | ((first | refine brB_dec ?_ ?_ | refine brB_ndec ?_ ?_) <;> intro hb <;> (first | contradiction | ((try simp only [lnS] at hb); try (exfalso; omega)))) | (refine brB_split ?_ ?_ <;> intro hb <;> (first | contradiction | exact bT hb (by assumption) | exact bF hb (by assumption) | skip))) <;> (conv => whnf)))
 ·rw [if_pos (by assumption)]; rfl
 ·rw [if_neg (by assumption), if_pos (by assumption)]; rfl
 ·rw [if_neg (by assumption), if_neg (by assumption)]; rfl
def emptyF (c : Cn) : Bool := decide (c.kind = 0) && (decide (c.name = []) && (decide (c.lo = 0) && (decide (c.hi = 0) && decide (c.parts = []))))
theorem isEmpty_spec (c : Cn) : Tri Tryz.prog 141 [.d (.agg (cnR c))] [] (fun r => r = .d (.bool (emptyF c))) := by
 rw [cnR_eq]
 refine tri_of_bodyF false [1] hty Tryz.func141 rfl (kp [0, 1, 2]) [] _ _ _ (by simp [Tryz.f141]) (by simp) ?_
 ((conv => whnf); repeat' ((first | (intro hq; (try simp only [lnS] at hq); (try rewrite [List.length_map])) | refine sJ ?_ | refine .intro _ (.intro rfl ?_) | (refine .intro (show (_ : Nat) < List.length _ from by first | omega | (simp only [lnS]; omega) | simp) ?_) | fail | refine draw_rule hty (by kernel_rfl) (by kernel_rfl) ?_ | ((first | refine brB_dec ?_ ?_ | refine brB_ndec ?_ ?_) <;> intro hb <;> (first | contradiction | ((try simp only [lnS] at hb); try (exfalso; omega)))) | (refine brB_split ?_ ?_ <;> intro hb <;> (first | contradiction | exact bT hb (by assumption) | exact bF hb (by assumption) | skip))) <;> (conv => whnf)))
 all_goals (unfold emptyF; simp_all [oneOf])
 all_goals trace_state
end Go.Proofs.YtnemengadjimcaaGreatDoor
namespace Go.Proofs.YtnemengadjimcaaGreatDoor
open Go.Proofs
set_option maxRecDepth 10000
attribute [local irreducible] SemVC CallVC Tri Stuck YVC GenP GenVC
def shapedU (u : Use) (x : Ax) : Bool :=
 (u.left || emptyF x.left) && ((u.right || emptyF x.right) && ((u.role || decide (x.role = [])) && ((u.a || decide (x.a = [])) && ((u.b || decide (x.b = [])) && (decide (u.least ≤ x.roles.length) && decide ((x.roles.length : Int) ≤ u.most))))))
def shapedF (x : Ax) : Bool := if x.kind < 1 ∨ 9 < x.kind then false else shapedU (useAt x.kind) x
theorem use_at {k : Int} (n : Nat) (h : n < uses.length) (hk : k = n) : (uses.map useR)[k.toNat]? = some (useR uses[n]) := by
 subst hk
 rw [Int.toNat_natCast, List.getElem?_map, List.getElem?_eq_getElem h]; rfl
theorem isShaped_1 (x : Ax) (hk : x.kind = 1) : Tri Tryz.prog 93 [.d (.agg (axR x))] NG (fun r => r = .d (.bool (shapedF x))) := by
 have e1 := isEmpty_spec x.left
 have e2 := isEmpty_spec x.right
 rw [cnR_eq] at e1 e2
 have hrow := use_at (k := x.kind) 1 (by decide) hk
 have hE : shapedF x = shapedU (uses[1]'(by decide)) x := by rw [shapedF, if_neg (by omega), hk]; rfl
 rw [hE]
 refine tri_of_bodyF false [1, 3] hty Tryz.func93 rfl (kp [0, 1, 2, 3, 11]) [] _ _ _ (by simp [Tryz.f93]) (by decide) ?_
 ((conv => whnf); repeat ((first | (intro hq; try simp only [lnS] at hq) | refine sI ?_ | refine .intro _ (.intro rfl ?_)); (conv => whnf)))
 refine brB_dec (fun h1 => by omega) (fun h1 => ?_)
 ((conv => whnf); repeat ((first | (intro hq; try simp only [lnS] at hq) | refine sI ?_ | refine .intro _ (.intro rfl ?_)); (conv => whnf)))
 refine brB_dec (fun h2 => by omega) (fun h2 => ?_)
 ((conv => whnf); repeat' ((first | (intro hq; (try simp only [lnS] at hq); (try rewrite [List.length_map])) | refine sJ ?_ | refine .intro _ (.intro rfl ?_) | (refine .intro (show (_ : Nat) < List.length _ from by first | omega | (simp only [lnS]; omega) | simp) ?_) | (refine index_glob (id := 91) hty rfl rfl rfl rfl rfl rfl rfl (by omega) (by omega) ?_) | (refine ⟨_, hrow, ?_⟩) | (refine call_tri [] e1 trivial (fun r hs => ?_); subst hs) | (refine call_tri [] e2 trivial (fun r hs => ?_); subst hs) | refine draw_rule hty (by kernel_rfl) (by kernel_rfl) ?_ | ((first | refine brB_dec ?_ ?_ | refine brB_ndec ?_ ?_) <;> intro hb <;> (first | contradiction | ((try simp only [lnS] at hb); try (exfalso; omega)))) | (refine brB_split ?_ ?_ <;> intro hb <;> (first | contradiction | exact bT hb (by assumption) | exact bF hb (by assumption) | skip))) <;> (conv => whnf)))
 all_goals (clear e1 e2 hrow hE; refine bool_eq (Eq.symm ?_); show shapedU _ x = _; simp only [shapedU, uses, List.getElem_cons_succ, List.getElem_cons_zero, Bool.true_or, Bool.false_or, Bool.true_and]; simp_all [uses] <;> omega)
theorem isShaped_2 (x : Ax) (hk : x.kind = 2) : Tri Tryz.prog 93 [.d (.agg (axR x))] NG (fun r => r = .d (.bool (shapedF x))) := by
 have e1 := isEmpty_spec x.left
 have e2 := isEmpty_spec x.right
 rw [cnR_eq] at e1 e2
 have hrow := use_at (k := x.kind) 2 (by decide) hk
 have hE : shapedF x = shapedU (uses[2]'(by decide)) x := by rw [shapedF, if_neg (by omega), hk]; rfl
 rw [hE]
 refine tri_of_bodyF false [1, 3] hty Tryz.func93 rfl (kp [0, 1, 2, 3, 11]) [] _ _ _ (by simp [Tryz.f93]) (by decide) ?_
 ((conv => whnf); repeat ((first | (intro hq; try simp only [lnS] at hq) | refine sI ?_ | refine .intro _ (.intro rfl ?_)); (conv => whnf)))
 refine brB_dec (fun h1 => by omega) (fun h1 => ?_)
 ((conv => whnf); repeat ((first | (intro hq; try simp only [lnS] at hq) | refine sI ?_ | refine .intro _ (.intro rfl ?_)); (conv => whnf)))
 refine brB_dec (fun h2 => by omega) (fun h2 => ?_)
 ((conv => whnf); repeat' ((first | (intro hq; (try simp only [lnS] at hq); (try rewrite [List.length_map])) | refine sJ ?_ | refine .intro _ (.intro rfl ?_) | (refine .intro (show (_ : Nat) < List.length _ from by first | omega | (simp only [lnS]; omega) | simp) ?_) | (refine index_glob (id := 91) hty rfl rfl rfl rfl rfl rfl rfl (by omega) (by omega) ?_) | (refine ⟨_, hrow, ?_⟩) | (refine call_tri [] e1 trivial (fun r hs => ?_); subst hs) | (refine call_tri [] e2 trivial (fun r hs => ?_); subst hs) | refine draw_rule hty (by kernel_rfl) (by kernel_rfl) ?_ | ((first | refine brB_dec ?_ ?_ | refine brB_ndec ?_ ?_) <;> intro hb <;> (first | contradiction | ((try simp only [lnS] at hb); try (exfalso; omega)))) | (refine brB_split ?_ ?_ <;> intro hb <;> (first | contradiction | exact bT hb (by assumption) | exact bF hb (by assumption) | skip))) <;> (conv => whnf)))
 all_goals (clear e1 e2 hrow hE; refine bool_eq (Eq.symm ?_); show shapedU _ x = _; simp only [shapedU, uses, List.getElem_cons_succ, List.getElem_cons_zero, Bool.true_or, Bool.false_or, Bool.true_and]; simp_all [uses] <;> omega)
theorem isShaped_3 (x : Ax) (hk : x.kind = 3) : Tri Tryz.prog 93 [.d (.agg (axR x))] NG (fun r => r = .d (.bool (shapedF x))) := by
 have e1 := isEmpty_spec x.left
 have e2 := isEmpty_spec x.right
 rw [cnR_eq] at e1 e2
 have hrow := use_at (k := x.kind) 3 (by decide) hk
 have hE : shapedF x = shapedU (uses[3]'(by decide)) x := by rw [shapedF, if_neg (by omega), hk]; rfl
 rw [hE]
 refine tri_of_bodyF false [1, 3] hty Tryz.func93 rfl (kp [0, 1, 2, 3, 11]) [] _ _ _ (by simp [Tryz.f93]) (by decide) ?_
 ((conv => whnf); repeat ((first | (intro hq; try simp only [lnS] at hq) | refine sI ?_ | refine .intro _ (.intro rfl ?_)); (conv => whnf)))
 refine brB_dec (fun h1 => by omega) (fun h1 => ?_)
 ((conv => whnf); repeat ((first | (intro hq; try simp only [lnS] at hq) | refine sI ?_ | refine .intro _ (.intro rfl ?_)); (conv => whnf)))
 refine brB_dec (fun h2 => by omega) (fun h2 => ?_)
 ((conv => whnf); repeat' ((first | (intro hq; (try simp only [lnS] at hq); (try rewrite [List.length_map])) | refine sJ ?_ | refine .intro _ (.intro rfl ?_) | (refine .intro (show (_ : Nat) < List.length _ from by first | omega | (simp only [lnS]; omega) | simp) ?_) | (refine index_glob (id := 91) hty rfl rfl rfl rfl rfl rfl rfl (by omega) (by omega) ?_) | (refine ⟨_, hrow, ?_⟩) | (refine call_tri [] e1 trivial (fun r hs => ?_); subst hs) | (refine call_tri [] e2 trivial (fun r hs => ?_); subst hs) | refine draw_rule hty (by kernel_rfl) (by kernel_rfl) ?_ | ((first | refine brB_dec ?_ ?_ | refine brB_ndec ?_ ?_) <;> intro hb <;> (first | contradiction | ((try simp only [lnS] at hb); try (exfalso; omega)))) | (refine brB_split ?_ ?_ <;> intro hb <;> (first | contradiction | exact bT hb (by assumption) | exact bF hb (by assumption) | skip))) <;> (conv => whnf)))
 all_goals (clear e1 e2 hrow hE; refine bool_eq (Eq.symm ?_); show shapedU _ x = _; simp only [shapedU, uses, List.getElem_cons_succ, List.getElem_cons_zero, Bool.true_or, Bool.false_or, Bool.true_and]; simp_all [uses] <;> omega)
theorem isShaped_4 (x : Ax) (hk : x.kind = 4) : Tri Tryz.prog 93 [.d (.agg (axR x))] NG (fun r => r = .d (.bool (shapedF x))) := by
 have e1 := isEmpty_spec x.left
 have e2 := isEmpty_spec x.right
 rw [cnR_eq] at e1 e2
 have hrow := use_at (k := x.kind) 4 (by decide) hk
 have hE : shapedF x = shapedU (uses[4]'(by decide)) x := by rw [shapedF, if_neg (by omega), hk]; rfl
 rw [hE]
 refine tri_of_bodyF false [1, 3] hty Tryz.func93 rfl (kp [0, 1, 2, 3, 11]) [] _ _ _ (by simp [Tryz.f93]) (by decide) ?_
 ((conv => whnf); repeat ((first | (intro hq; try simp only [lnS] at hq) | refine sI ?_ | refine .intro _ (.intro rfl ?_)); (conv => whnf)))
 refine brB_dec (fun h1 => by omega) (fun h1 => ?_)
 ((conv => whnf); repeat ((first | (intro hq; try simp only [lnS] at hq) | refine sI ?_ | refine .intro _ (.intro rfl ?_)); (conv => whnf)))
 refine brB_dec (fun h2 => by omega) (fun h2 => ?_)
 ((conv => whnf); repeat' ((first | (intro hq; (try simp only [lnS] at hq); (try rewrite [List.length_map])) | refine sJ ?_ | refine .intro _ (.intro rfl ?_) | (refine .intro (show (_ : Nat) < List.length _ from by first | omega | (simp only [lnS]; omega) | simp) ?_) | (refine index_glob (id := 91) hty rfl rfl rfl rfl rfl rfl rfl (by omega) (by omega) ?_) | (refine ⟨_, hrow, ?_⟩) | (refine call_tri [] e1 trivial (fun r hs => ?_); subst hs) | (refine call_tri [] e2 trivial (fun r hs => ?_); subst hs) | refine draw_rule hty (by kernel_rfl) (by kernel_rfl) ?_ | ((first | refine brB_dec ?_ ?_ | refine brB_ndec ?_ ?_) <;> intro hb <;> (first | contradiction | ((try simp only [lnS] at hb); try (exfalso; omega)))) | (refine brB_split ?_ ?_ <;> intro hb <;> (first | contradiction | exact bT hb (by assumption) | exact bF hb (by assumption) | skip))) <;> (conv => whnf)))
 all_goals (clear e1 e2 hrow hE; refine bool_eq (Eq.symm ?_); show shapedU _ x = _; simp only [shapedU, uses, List.getElem_cons_succ, List.getElem_cons_zero, Bool.true_or, Bool.false_or, Bool.true_and]; simp_all [uses] <;> omega)
theorem isShaped_7 (x : Ax) (hk : x.kind = 7) : Tri Tryz.prog 93 [.d (.agg (axR x))] NG (fun r => r = .d (.bool (shapedF x))) := by
 have e1 := isEmpty_spec x.left
 have e2 := isEmpty_spec x.right
 rw [cnR_eq] at e1 e2
 have hrow := use_at (k := x.kind) 7 (by decide) hk
 have hE : shapedF x = shapedU (uses[7]'(by decide)) x := by rw [shapedF, if_neg (by omega), hk]; rfl
 rw [hE]
 refine tri_of_bodyF false [1, 3] hty Tryz.func93 rfl (kp [0, 1, 2, 3, 11]) [] _ _ _ (by simp [Tryz.f93]) (by decide) ?_
 ((conv => whnf); repeat ((first | (intro hq; try simp only [lnS] at hq) | refine sI ?_ | refine .intro _ (.intro rfl ?_)); (conv => whnf)))
 refine brB_dec (fun h1 => by omega) (fun h1 => ?_)
 ((conv => whnf); repeat ((first | (intro hq; try simp only [lnS] at hq) | refine sI ?_ | refine .intro _ (.intro rfl ?_)); (conv => whnf)))
 refine brB_dec (fun h2 => by omega) (fun h2 => ?_)
 ((conv => whnf); repeat' ((first | (intro hq; (try simp only [lnS] at hq); (try rewrite [List.length_map])) | refine sJ ?_ | refine .intro _ (.intro rfl ?_) | (refine .intro (show (_ : Nat) < List.length _ from by first | omega | (simp only [lnS]; omega) | simp) ?_) | (refine index_glob (id := 91) hty rfl rfl rfl rfl rfl rfl rfl (by omega) (by omega) ?_) | (refine ⟨_, hrow, ?_⟩) | (refine call_tri [] e1 trivial (fun r hs => ?_); subst hs) | (refine call_tri [] e2 trivial (fun r hs => ?_); subst hs) | refine draw_rule hty (by kernel_rfl) (by kernel_rfl) ?_ | ((first | refine brB_dec ?_ ?_ | refine brB_ndec ?_ ?_) <;> intro hb <;> (first | contradiction | ((try simp only [lnS] at hb); try (exfalso; omega)))) | (refine brB_split ?_ ?_ <;> intro hb <;> (first | contradiction | exact bT hb (by assumption) | exact bF hb (by assumption) | skip))) <;> (conv => whnf)))
 all_goals (clear e1 e2 hrow hE; refine bool_eq (Eq.symm ?_); show shapedU _ x = _; simp only [shapedU, uses, List.getElem_cons_succ, List.getElem_cons_zero, Bool.true_or, Bool.false_or, Bool.true_and]; simp_all [uses] <;> omega)
theorem isShaped_8 (x : Ax) (hk : x.kind = 8) : Tri Tryz.prog 93 [.d (.agg (axR x))] NG (fun r => r = .d (.bool (shapedF x))) := by
 have e1 := isEmpty_spec x.left
 have e2 := isEmpty_spec x.right
 rw [cnR_eq] at e1 e2
 have hrow := use_at (k := x.kind) 8 (by decide) hk
 have hE : shapedF x = shapedU (uses[8]'(by decide)) x := by rw [shapedF, if_neg (by omega), hk]; rfl
 rw [hE]
 refine tri_of_bodyF false [1, 3] hty Tryz.func93 rfl (kp [0, 1, 2, 3, 11]) [] _ _ _ (by simp [Tryz.f93]) (by decide) ?_
 ((conv => whnf); repeat ((first | (intro hq; try simp only [lnS] at hq) | refine sI ?_ | refine .intro _ (.intro rfl ?_)); (conv => whnf)))
 refine brB_dec (fun h1 => by omega) (fun h1 => ?_)
 ((conv => whnf); repeat ((first | (intro hq; try simp only [lnS] at hq) | refine sI ?_ | refine .intro _ (.intro rfl ?_)); (conv => whnf)))
 refine brB_dec (fun h2 => by omega) (fun h2 => ?_)
 ((conv => whnf); repeat' ((first | (intro hq; (try simp only [lnS] at hq); (try rewrite [List.length_map])) | refine sJ ?_ | refine .intro _ (.intro rfl ?_) | (refine .intro (show (_ : Nat) < List.length _ from by first | omega | (simp only [lnS]; omega) | simp) ?_) | (refine index_glob (id := 91) hty rfl rfl rfl rfl rfl rfl rfl (by omega) (by omega) ?_) | (refine ⟨_, hrow, ?_⟩) | (refine call_tri [] e1 trivial (fun r hs => ?_); subst hs) | (refine call_tri [] e2 trivial (fun r hs => ?_); subst hs) | refine draw_rule hty (by kernel_rfl) (by kernel_rfl) ?_ | ((first | refine brB_dec ?_ ?_ | refine brB_ndec ?_ ?_) <;> intro hb <;> (first | contradiction | ((try simp only [lnS] at hb); try (exfalso; omega)))) | (refine brB_split ?_ ?_ <;> intro hb <;> (first | contradiction | exact bT hb (by assumption) | exact bF hb (by assumption) | skip))) <;> (conv => whnf)))
 all_goals (clear e1 e2 hrow hE; refine bool_eq (Eq.symm ?_); show shapedU _ x = _; simp only [shapedU, uses, List.getElem_cons_succ, List.getElem_cons_zero, Bool.true_or, Bool.false_or, Bool.true_and]; simp_all [uses] <;> omega)
theorem isShaped_9 (x : Ax) (hk : x.kind = 9) : Tri Tryz.prog 93 [.d (.agg (axR x))] NG (fun r => r = .d (.bool (shapedF x))) := by
 have e1 := isEmpty_spec x.left
 have e2 := isEmpty_spec x.right
 rw [cnR_eq] at e1 e2
 have hrow := use_at (k := x.kind) 9 (by decide) hk
 have hE : shapedF x = shapedU (uses[9]'(by decide)) x := by rw [shapedF, if_neg (by omega), hk]; rfl
 rw [hE]
 refine tri_of_bodyF false [1, 3] hty Tryz.func93 rfl (kp [0, 1, 2, 3, 11]) [] _ _ _ (by simp [Tryz.f93]) (by decide) ?_
 ((conv => whnf); repeat ((first | (intro hq; try simp only [lnS] at hq) | refine sI ?_ | refine .intro _ (.intro rfl ?_)); (conv => whnf)))
 refine brB_dec (fun h1 => by omega) (fun h1 => ?_)
 ((conv => whnf); repeat ((first | (intro hq; try simp only [lnS] at hq) | refine sI ?_ | refine .intro _ (.intro rfl ?_)); (conv => whnf)))
 refine brB_dec (fun h2 => by omega) (fun h2 => ?_)
 ((conv => whnf); repeat' ((first | (intro hq; (try simp only [lnS] at hq); (try rewrite [List.length_map])) | refine sJ ?_ | refine .intro _ (.intro rfl ?_) | (refine .intro (show (_ : Nat) < List.length _ from by first | omega | (simp only [lnS]; omega) | simp) ?_) | (refine index_glob (id := 91) hty rfl rfl rfl rfl rfl rfl rfl (by omega) (by omega) ?_) | (refine ⟨_, hrow, ?_⟩) | (refine call_tri [] e1 trivial (fun r hs => ?_); subst hs) | (refine call_tri [] e2 trivial (fun r hs => ?_); subst hs) | refine draw_rule hty (by kernel_rfl) (by kernel_rfl) ?_ | ((first | refine brB_dec ?_ ?_ | refine brB_ndec ?_ ?_) <;> intro hb <;> (first | contradiction | ((try simp only [lnS] at hb); try (exfalso; omega)))) | (refine brB_split ?_ ?_ <;> intro hb <;> (first | contradiction | exact bT hb (by assumption) | exact bF hb (by assumption) | skip))) <;> (conv => whnf)))
 all_goals (clear e1 e2 hrow hE; refine bool_eq (Eq.symm ?_); show shapedU _ x = _; simp only [shapedU, uses, List.getElem_cons_succ, List.getElem_cons_zero, Bool.true_or, Bool.false_or, Bool.true_and]; simp_all [uses] <;> omega)
theorem isShaped_5 (x : Ax) (hk : x.kind = 5) : Tri Tryz.prog 93 [.d (.agg (axR x))] NG (fun r => r = .d (.bool (shapedF x))) := by
 have e1 := isEmpty_spec x.left
 have e2 := isEmpty_spec x.right
 rw [cnR_eq] at e1 e2
 have hrow := use_at (k := x.kind) 5 (by decide) hk
 have hE : shapedF x = shapedU (uses[5]'(by decide)) x := by rw [shapedF, if_neg (by omega), hk]; rfl
 rw [hE]
 refine tri_of_bodyF false [1, 3] hty Tryz.func93 rfl (kp [0, 1, 2, 3, 11]) [] _ _ _ (by simp [Tryz.f93]) (by decide) ?_
 ((conv => whnf); repeat ((first | (intro hq; try simp only [lnS] at hq) | refine sI ?_ | refine .intro _ (.intro rfl ?_)); (conv => whnf)))
 refine brB_dec (fun h1 => by omega) (fun h1 => ?_)
 ((conv => whnf); repeat ((first | (intro hq; try simp only [lnS] at hq) | refine sI ?_ | refine .intro _ (.intro rfl ?_)); (conv => whnf)))
 refine brB_dec (fun h2 => by omega) (fun h2 => ?_)
 ((conv => whnf); repeat' ((first | (intro hq; (try simp only [lnS] at hq); (try rewrite [List.length_map])) | refine sJ ?_ | refine .intro _ (.intro rfl ?_) | (refine .intro (show (_ : Nat) < List.length _ from by first | omega | (simp only [lnS]; omega) | simp) ?_) | (refine index_glob (id := 91) hty rfl rfl rfl rfl rfl rfl rfl (by omega) (by omega) ?_) | (refine ⟨_, hrow, ?_⟩) | (refine call_tri [] e1 trivial (fun r hs => ?_); subst hs) | (refine call_tri [] e2 trivial (fun r hs => ?_); subst hs) | refine draw_rule hty (by kernel_rfl) (by kernel_rfl) ?_ | ((first | refine brB_dec ?_ ?_ | refine brB_ndec ?_ ?_) <;> intro hb <;> (first | contradiction | ((try simp only [lnS] at hb); try (exfalso; omega)))) | (refine brB_split ?_ ?_ <;> intro hb <;> (first | contradiction | exact bT hb (by assumption) | exact bF hb (by assumption) | skip))) <;> (conv => whnf)))
 all_goals (clear e1 e2 hrow hE; refine bool_eq (Eq.symm ?_); show shapedU _ x = _; simp only [shapedU, show (uses[5]'(by decide)).left = false from rfl, show (uses[5]'(by decide)).right = false from rfl, show (uses[5]'(by decide)).role = true from rfl, show (uses[5]'(by decide)).a = false from rfl, show (uses[5]'(by decide)).b = false from rfl, Bool.true_or, Bool.false_or, Bool.true_and]; have hl : (uses[5]'(by decide)).least = (5 : Int) - 4 := rfl; have hm : (uses[5]'(by decide)).most = 3 * (5 : Int) - 14 := rfl; simp_all <;> omega)
theorem isShaped_6 (x : Ax) (hk : x.kind = 6) : Tri Tryz.prog 93 [.d (.agg (axR x))] NG (fun r => r = .d (.bool (shapedF x))) := by
 have e1 := isEmpty_spec x.left
 have e2 := isEmpty_spec x.right
 rw [cnR_eq] at e1 e2
 have hrow := use_at (k := x.kind) 6 (by decide) hk
 have hE : shapedF x = shapedU (uses[6]'(by decide)) x := by rw [shapedF, if_neg (by omega), hk]; rfl
 rw [hE]
 refine tri_of_bodyF false [1, 3] hty Tryz.func93 rfl (kp [0, 1, 2, 3, 11]) [] _ _ _ (by simp [Tryz.f93]) (by decide) ?_
 ((conv => whnf); repeat ((first | (intro hq; try simp only [lnS] at hq) | refine sI ?_ | refine .intro _ (.intro rfl ?_)); (conv => whnf)))
 refine brB_dec (fun h1 => by omega) (fun h1 => ?_)
 ((conv => whnf); repeat ((first | (intro hq; try simp only [lnS] at hq) | refine sI ?_ | refine .intro _ (.intro rfl ?_)); (conv => whnf)))
 refine brB_dec (fun h2 => by omega) (fun h2 => ?_)
 ((conv => whnf); repeat' ((first | (intro hq; (try simp only [lnS] at hq); (try rewrite [List.length_map])) | refine sJ ?_ | refine .intro _ (.intro rfl ?_) | (refine .intro (show (_ : Nat) < List.length _ from by first | omega | (simp only [lnS]; omega) | simp) ?_) | (refine index_glob (id := 91) hty rfl rfl rfl rfl rfl rfl rfl (by omega) (by omega) ?_) | (refine ⟨_, hrow, ?_⟩) | (refine call_tri [] e1 trivial (fun r hs => ?_); subst hs) | (refine call_tri [] e2 trivial (fun r hs => ?_); subst hs) | refine draw_rule hty (by kernel_rfl) (by kernel_rfl) ?_ | ((first | refine brB_dec ?_ ?_ | refine brB_ndec ?_ ?_) <;> intro hb <;> (first | contradiction | ((try simp only [lnS] at hb); try (exfalso; omega)))) | (refine brB_split ?_ ?_ <;> intro hb <;> (first | contradiction | exact bT hb (by assumption) | exact bF hb (by assumption) | skip))) <;> (conv => whnf)))
 all_goals (clear e1 e2 hrow hE; refine bool_eq (Eq.symm ?_); show shapedU _ x = _; simp only [shapedU, show (uses[6]'(by decide)).left = false from rfl, show (uses[6]'(by decide)).right = false from rfl, show (uses[6]'(by decide)).role = true from rfl, show (uses[6]'(by decide)).a = false from rfl, show (uses[6]'(by decide)).b = false from rfl, Bool.true_or, Bool.false_or, Bool.true_and]; have hl : (uses[6]'(by decide)).least = (6 : Int) - 4 := rfl; have hm : (uses[6]'(by decide)).most = 3 * (6 : Int) - 14 := rfl; simp_all <;> omega)
theorem isShaped_spec (x : Ax) : Tri Tryz.prog 93 [.d (.agg (axR x))] NG (fun r => r = .d (.bool (shapedF x))) := by
 by_cases hk : 1 ≤ x.kind ∧ x.kind ≤ 9
 ·rcases (show x.kind = 1 ∨ x.kind = 2 ∨ x.kind = 3 ∨ x.kind = 4 ∨ x.kind = 5 ∨ x.kind = 6 ∨ x.kind = 7 ∨ x.kind = 8 ∨ x.kind = 9 by omega) with h | h | h | h | h | h | h | h | h
  ·exact isShaped_1 x h
  ·exact isShaped_2 x h
  ·exact isShaped_3 x h
  ·exact isShaped_4 x h
  ·exact isShaped_5 x h
  ·exact isShaped_6 x h
  ·exact isShaped_7 x h
  ·exact isShaped_8 x h
  ·exact isShaped_9 x h
 ·have hE : shapedF x = false := by rw [shapedF, if_pos (by omega)]
  rw [hE]
  refine tri_of_bodyF false [1, 3] hty Tryz.func93 rfl (kp [0, 1, 2, 3, 11]) [] _ _ _ (by simp [Tryz.f93]) (by decide) ?_
  ((conv => whnf); repeat ((first | (intro hq; try simp only [lnS] at hq) | refine sI ?_ | refine .intro _ (.intro rfl ?_)); (conv => whnf)))
  refine brB_dec (fun h1 => ?_) (fun h1 => ?_)
  ·((conv => whnf); repeat' ((first | (intro hq; (try simp only [lnS] at hq); (try rewrite [List.length_map])) | refine sJ ?_ | refine .intro _ (.intro rfl ?_) | (refine .intro (show (_ : Nat) < List.length _ from by first | omega | (simp only [lnS]; omega) | simp) ?_) | fail | refine draw_rule hty (by kernel_rfl) (by kernel_rfl) ?_ | ((first | refine brB_dec ?_ ?_ | refine brB_ndec ?_ ?_) <;> intro hb <;> (first | contradiction | ((try simp only [lnS] at hb); try (exfalso; omega)))) | (refine brB_split ?_ ?_ <;> intro hb <;> (first | contradiction | exact bT hb (by assumption) | exact bF hb (by assumption) | skip))) <;> (conv => whnf)))
   rfl
  ·((conv => whnf); repeat ((first | (intro hq; try simp only [lnS] at hq) | refine sI ?_ | refine .intro _ (.intro rfl ?_)); (conv => whnf)))
   refine brB_dec (fun h2 => ?_) (fun h2 => by omega)
   ((conv => whnf); repeat' ((first | (intro hq; (try simp only [lnS] at hq); (try rewrite [List.length_map])) | refine sJ ?_ | refine .intro _ (.intro rfl ?_) | (refine .intro (show (_ : Nat) < List.length _ from by first | omega | (simp only [lnS]; omega) | simp) ?_) | fail | refine draw_rule hty (by kernel_rfl) (by kernel_rfl) ?_ | ((first | refine brB_dec ?_ ?_ | refine brB_ndec ?_ ?_) <;> intro hb <;> (first | contradiction | ((try simp only [lnS] at hb); try (exfalso; omega)))) | (refine brB_split ?_ ?_ <;> intro hb <;> (first | contradiction | exact bT hb (by assumption) | exact bF hb (by assumption) | skip))) <;> (conv => whnf)))
   rfl
def namedF (u : Use) (x : Ax) : Bool := !((u.role && !plainF x.role) || ((u.a && !nameF x.a) || (u.b && !nameF x.b))) && x.roles.all plainF
theorem take_all {p : List UInt8 → Bool} {l : List (List UInt8)} {j : Nat} (h : j < l.length) (h1 : (l.take j).all p = true) (h2 : p l[j] = true) : (l.take (j + 1)).all p = true := by
 rw [List.take_succ_eq_append_getElem h, List.all_append, h1]; simp [h2]
theorem isNamed_spec (x : Ax) (u : Use) : Tri Tryz.prog 94 [.d (.agg (axR x)), .d (.agg (useR u))] [] (fun r => r = .d (.bool (namedF u x))) := by
 refine tri_of_bodyF false [2, 3] hty Tryz.func94 rfl (kp [0, 1, 2, 3, 4, 6, 34, 36, 37, 38, 39, 44]) [] _ _ _ (by simp [Tryz.f94]) (by simp) ?_
 ((conv => whnf); repeat' ((first | (intro hq; (try simp only [lnS] at hq); (try rewrite [List.length_map])) | refine sJ ?_ | refine .intro _ (.intro rfl ?_) | (refine .intro (show (_ : Nat) < List.length _ from by first | omega | (simp only [lnS]; omega) | simp) ?_) | (refine call_tri [] (isPlain_spec _) trivial (fun r hs => ?_); subst hs) | (refine call_tri [] (checkName_spec _) trivial (fun r hs => ?_); subst hs) | refine draw_rule hty (by kernel_rfl) (by kernel_rfl) ?_ | ((first | refine brB_dec ?_ ?_ | refine brB_ndec ?_ ?_) <;> intro hb <;> (first | contradiction | ((try simp only [lnS] at hb); try (exfalso; omega)))) | (refine brB_split ?_ ?_ <;> intro hb <;> (first | contradiction | exact bT hb (by assumption) | exact bF hb (by assumption) | skip))) <;> (conv => whnf)))
 all_goals first
  | (refine bool_eq (Eq.symm ?_); unfold namedF; simp_all; done)
  | skip
 all_goals (
  have hN : namedF u x = x.roles.all plainF := by unfold namedF; simp_all
  rw [hN]
  refine loop_rule hty (fun j : Nat => ([(36, .d (.sl 1 (x.roles.map strR))), (37, .d (.int .i64 x.roles.length)), (38, .d (.int .i64 j))], [])) (fun j => j ≤ x.roles.length ∧ (x.roles.take j).all plainF = true) (fun j => x.roles.length - j) 0 ⟨by omega, by simp⟩ ⟨by repeat' (first | exact trivial | exact rfl | (rw [List.length_map]; exact rfl) | refine And.intro ?_ ?_), trivial⟩ ?_
  rintro j ⟨hj, hn⟩
  ((conv => whnf); repeat ((first | (intro hq; try simp only [lnS] at hq) | refine sI ?_ | refine .intro _ (.intro rfl ?_)); (conv => whnf)))
  refine brB_dec (fun h1 => ?_) (fun h1 => ?_)
  ·have hjl : j < x.roles.length := by omega
   have hrow : (x.roles.map strR)[(j : Int).toNat]? = some (strR x.roles[j]) := rowC_at hjl
   ((conv => whnf); repeat ((first | (refine ⟨_, hrow, ?_⟩) | (intro hq; try simp only [lnS] at hq) | refine sI ?_ | refine .intro _ (.intro rfl ?_)); (conv => whnf)))
   refine call_tri [] (isPlain_spec x.roles[j]) trivial (fun r hs => ?_)
   subst hs
   cases hb2 : plainF x.roles[j]
   ·((conv => whnf); repeat' ((first | (intro hq; (try simp only [lnS] at hq); (try rewrite [List.length_map])) | refine sJ ?_ | refine .intro _ (.intro rfl ?_) | (refine .intro (show (_ : Nat) < List.length _ from by first | omega | (simp only [lnS]; omega) | simp) ?_) | fail | refine draw_rule hty (by kernel_rfl) (by kernel_rfl) ?_ | ((first | refine brB_dec ?_ ?_ | refine brB_ndec ?_ ?_) <;> intro hb <;> (first | contradiction | ((try simp only [lnS] at hb); try (exfalso; omega)))) | (refine brB_split ?_ ?_ <;> intro hb <;> (first | contradiction | exact bT hb (by assumption) | exact bF hb (by assumption) | skip))) <;> (conv => whnf)))
    exact bool_eq (List.all_eq_false.2 ⟨_, List.getElem_mem hjl, by simp [hb2]⟩).symm
   ·((conv => whnf); repeat' ((first | (intro hq; (try simp only [lnS] at hq); (try rewrite [List.length_map])) | refine sJ ?_ | refine .intro _ (.intro rfl ?_) | (refine .intro (show (_ : Nat) < List.length _ from by first | omega | (simp only [lnS]; omega) | simp) ?_) | fail | refine draw_rule hty (by kernel_rfl) (by kernel_rfl) ?_ | ((first | refine brB_dec ?_ ?_ | refine brB_ndec ?_ ?_) <;> intro hb <;> (first | contradiction | ((try simp only [lnS] at hb); try (exfalso; omega)))) | (refine brB_split ?_ ?_ <;> intro hb <;> (first | contradiction | exact bT hb (by assumption) | exact bF hb (by assumption) | skip))) <;> (conv => whnf)))
    exact ⟨j + 1, ⟨by omega, take_all hjl hn hb2⟩, by dsimp only; omega, by repeat' (first | exact trivial | exact rfl | refine And.intro ?_ ?_), trivial⟩
  ·have hjl : j = x.roles.length := by omega
   subst hjl
   rw [List.take_length] at hn
   ((conv => whnf); repeat' ((first | (intro hq; (try simp only [lnS] at hq); (try rewrite [List.length_map])) | refine sJ ?_ | refine .intro _ (.intro rfl ?_) | (refine .intro (show (_ : Nat) < List.length _ from by first | omega | (simp only [lnS]; omega) | simp) ?_) | fail | refine draw_rule hty (by kernel_rfl) (by kernel_rfl) ?_ | ((first | refine brB_dec ?_ ?_ | refine brB_ndec ?_ ?_) <;> intro hb <;> (first | contradiction | ((try simp only [lnS] at hb); try (exfalso; omega)))) | (refine brB_split ?_ ?_ <;> intro hb <;> (first | contradiction | exact bT hb (by assumption) | exact bF hb (by assumption) | skip))) <;> (conv => whnf)))
   exact bool_eq hn.symm)
end Go.Proofs.YtnemengadjimcaaGreatDoor
