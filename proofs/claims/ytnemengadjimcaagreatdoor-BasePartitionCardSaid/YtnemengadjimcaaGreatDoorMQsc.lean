/-
  Layer 6: Check; layer 7: Check. The library's stable sort at rows that may be written: the symmetric merge. The library's stable sort at rows that may be written: the whole.
  Conditions: none.
-/
import Derived.Test.YtnemengadjimcaaGreatDoorMQi
import Derived.Test.YtnemengadjimcaaGreatDoorMQh
import Derived.Test.YtnemengadjimcaaGreatDoorMQm
set_option linter.unnecessarySimpa false
set_option linter.unusedSectionVars false
set_option linter.unusedSimpArgs false
set_option linter.unusedVariables false
set_option maxHeartbeats 32000000
namespace Go.Proofs.YtnemengadjimcaaGreatDoor
open Go.Proofs
set_option maxRecDepth 10000
attribute [local irreducible] SemVC CallVC Tri Stuck YVC GenP GenVC
structure RolP (e : Int) (r : SV) : Prop where
 ex : ∃ s, r = .tup [s, .d (.int .i64 e)]
theorem NG_far : FarH NG := ⟨by unfold NG; simp [idsH_cons, idsH_nil, HObj.ids], ⟨rfl, rfl, trivial⟩⟩
def leastD : Option (List Nat) → D
 | none => .nil
 | some L => .sl 1 (L.map natR)
def LeastOk (G : Adj) (n j most : Nat) : Option (List Nat) → Prop
 | none => most = n + 1 ∧ ∀ st, st < j → ∀ L w t, CW (EG G) L w t → w 0 = st → ¬ L < n + 1
 | some L => L ≠ [] ∧ (∀ i ∈ L, i < n) ∧ L.length ≤ 1000000000 ∧ most = L.length ∧ Circ (EG G)
theorem LeastOk.most {G : Adj} {n j m k : Nat} {o : Option (List Nat)} (h : LeastOk G n j m o) (hk : n = k) : m ≤ 1000000000 ∨ m = n + 1 := by
 cases o with
 | none => exact .inr h.1
 | some L => obtain ⟨_, _, h3, h4, _⟩ := h; exact .inl (by omega)
theorem roles_spec (l : List Ax) (hn : l.length ≤ 100000) : Tri Tryz.prog 44 [.d (.sl 16 (l.map axR))] NG (RolP (rolesE l)) := by
 have hc := rlCheck_spec l
 refine tri_of_bodyF false [] hty Tryz.func44 rfl (kp [0, 2, 3, 4, 5, 6, 7, 8, 9, 11, 15, 26, 27, 28, 35, 41, 42, 43, 44, 45]) [] _ _ _ (by simp [Tryz.f44]) (by decide) ?_
 ((conv => whnf); repeat ((first | (refine call_tri NG hc ⟨rfl, rfl, trivial⟩ (fun r hs => ?_); subst hs) | (intro hq; try simp only [lnS] at hq) | refine sI ?_ | refine .intro _ (.intro rfl ?_)); (conv => whnf)))
 refine brB_ndec (fun h1 => ?_) (fun h1 => ?_)
 ·have hv : rolesE l = firstA l := by unfold rolesE; rw [if_pos h1]
  rw [hv]
  ((conv => whnf); repeat' ((first | (intro hq; (try simp only [lnS] at hq); (try rewrite [List.length_map])) | refine sJ ?_ | refine .intro _ (.intro rfl ?_) | (refine .intro (show (_ : Nat) < List.length _ from by first | omega | (simp only [lnS]; omega) | simp) ?_) | fail | refine draw_rule hty (by kernel_rfl) (by kernel_rfl) ?_ | ((first | refine brB_dec ?_ ?_ | refine brB_ndec ?_ ?_) <;> intro hb <;> (first | contradiction | ((try simp only [lnS] at hb); try (exfalso; omega)))) | (refine brB_split ?_ ?_ <;> intro hb <;> (first | contradiction | exact bT hb (by assumption) | exact bF hb (by assumption) | skip))) <;> (conv => whnf)))
  exact ⟨_, rfl⟩
 ·have hv := (firstA_iff l).1 h1
  ((conv => whnf); repeat ((first | (intro hq; try simp only [lnS] at hq) | refine sI ?_ | refine .intro _ (.intro rfl ?_)); (conv => whnf)))
  refine steps_call l hv (by omega) NG NG_far (fun k hk => by simp) (fun k hk => by simp [idsF_nil, idsF_cons, SV.ids, SV.idsL, argFr, ids_ofV]) (fun M g hM => ?_)
  have hMl := stepsL_len l fun x hx => (axiomE_bnd (hv x hx)).2.2
  have hMl1 := hM.le
  have hrv1 : Circ (ET (stepsL l)) → rolesE l = 60 := fun h => by unfold rolesE; rw [if_neg (by simp [h1]), if_pos h]
  have hrv0 : ¬ Circ (ET (stepsL l)) → rolesE l = 0 := fun h => by unfold rolesE; rw [if_neg (by simp [h1]), if_neg h]
  ((conv => whnf); repeat ((first | (intro hq; try simp only [lnS] at hq) | refine sI ?_ | refine .intro _ (.intro rfl ?_)); (conv => whnf)))
  refine newGraph_call M g hM.nd (by omega) (fun p hp => by have := hM.lei p hp; omega) NG NG_far (fun k hk => by simp) (fun k hk => by simp [oneOf, idsF_nil, idsF_cons, SV.ids, SV.idsL, argFr, ids_ofV]; omega) (fun R G hG hRl => ?_)
  have hcq : Circ (ET (stepsL l)) ↔ Circ (EG G) := hM.circ.trans hG.circ
  ((conv => whnf); repeat ((first | (intro hq; try simp only [lnS] at hq) | refine sI ?_ | refine .intro _ (.intro rfl ?_)); (conv => whnf)))
  rw [show (R.map strR).length = R.length from List.length_map ..]
  refine SemVC.soft 5 (xs := [strS R, .sl 1 (G.map adjR)]) rfl rfl ?_
  refine loop_rule hty (fun y : Nat × Nat × Option (List Nat) => ([(2, .d .nil), (5, .ptr 5 0), (6, .d (.int .i64 y.2.1)), (7, .d (leastD y.2.2)), (26, .d (.int .i64 R.length)), (27, .d (.int .i64 y.1))], (5, .cells 115 [.d (strS R), .d (.sl 1 (G.map adjR))]) :: NG)) (fun y => y.1 ≤ R.length ∧ LeastOk G R.length y.1 y.2.1 y.2.2) (fun y => R.length - y.1) (0, R.length + 1, none) ⟨Nat.zero_le _, rfl, fun st h => by omega⟩ ⟨by repeat' (first | exact trivial | exact rfl | refine And.intro ?_ ?_), ⟨rfl, rfl, rfl, trivial⟩⟩ ?_
  rintro ⟨j, most, o⟩ ⟨hj, hO⟩
  dsimp only at hj hO
  have hmost := hO.most hRl
  ((conv => whnf); repeat ((first | (intro hq; try simp only [lnS] at hq) | refine sI ?_ | refine .intro _ (.intro rfl ?_)); (conv => whnf)))
  refine brB_dec (fun h2 => ?_) (fun h2 => ?_)
  ·have hjl : j < R.length := by dsimp only at h2; omega
   have hcs := circle_spec R G j most hjl hG.len (fun i p hp => (hG.sound i p.1 p.2 hp).1) (by omega) (by omega)
   ((conv => whnf); repeat ((first | (intro hq; try simp only [lnS] at hq) | refine sI ?_ | refine .intro _ (.intro rfl ?_)); (conv => whnf)))
   refine call_tri [] hcs trivial (fun r hs => ?_)
   rcases hs.ex with ⟨rfl, hno⟩ | ⟨L, hL0, rfl, hLn, hLl, hcirc⟩
   ·((conv => whnf); repeat' ((first | (intro hq; (try simp only [lnS] at hq); (try rewrite [List.length_map])) | refine sJ ?_ | refine .intro _ (.intro rfl ?_) | (refine .intro (show (_ : Nat) < List.length _ from by first | omega | (simp only [lnS]; omega) | simp) ?_) | fail | refine draw_rule hty (by kernel_rfl) (by kernel_rfl) ?_ | ((first | refine brB_dec ?_ ?_ | refine brB_ndec ?_ ?_) <;> intro hb <;> (first | contradiction | ((try simp only [lnS] at hb); try (exfalso; omega)))) | (refine brB_split ?_ ?_ <;> intro hb <;> (first | contradiction | exact bT hb (by assumption) | exact bF hb (by assumption) | skip))) <;> (conv => whnf)))
    refine ⟨(j + 1, most, o), ⟨by dsimp only; omega, ?_⟩, by dsimp only; omega, ⟨by repeat' (first | exact trivial | exact rfl | exact Wk_refl _ | refine And.intro ?_ ?_), ⟨rfl, rfl, rfl, trivial⟩⟩⟩
    dsimp only
    cases o with
    | none =>
     obtain ⟨e1, e2⟩ := hO
     refine ⟨e1, fun st hst => ?_⟩
     by_cases hsj : st = j
     ·subst hsj; rw [← e1]; exact hno
     ·exact e2 st (by omega)
    | some L => exact hO
   ·((conv => whnf); repeat ((first | (intro hq; try simp only [lnS] at hq) | refine sI ?_ | refine .intro _ (.intro rfl ?_)); (conv => whnf)))
    rename_i bb
    cases bb
    ·((conv => whnf); repeat' ((first | (intro hq; (try simp only [lnS] at hq); (try rewrite [List.length_map])) | refine sJ ?_ | refine .intro _ (.intro rfl ?_) | (refine .intro (show (_ : Nat) < List.length _ from by first | omega | (simp only [lnS]; omega) | simp) ?_) | fail | refine draw_rule hty (by kernel_rfl) (by kernel_rfl) ?_ | ((first | refine brB_dec ?_ ?_ | refine brB_ndec ?_ ?_) <;> intro hb <;> (first | contradiction | ((try simp only [lnS] at hb); try (exfalso; omega)))) | (refine brB_split ?_ ?_ <;> intro hb <;> (first | contradiction | exact bT hb (by assumption) | exact bF hb (by assumption) | skip))) <;> (conv => whnf)))
     exact ⟨(j + 1, L.length, some L), ⟨by dsimp only; omega, hL0, hLn, hLl, rfl, hcirc⟩, by dsimp only; omega, ⟨by repeat' (first | exact trivial | exact rfl | refine And.intro ?_ ?_), ⟨rfl, rfl, rfl, trivial⟩⟩⟩
    ·exact absurd (List.map_eq_nil_iff.1 (hq rfl)) hL0
  ·have hjl : j = R.length := by dsimp only at h2; omega
   subst hjl
   cases o with
   | none =>
    obtain ⟨e1, e2⟩ := hO
    have hnc : ¬ Circ (ET (stepsL l)) := fun hc => by
     obtain ⟨L, w, t, c1, c2, c3⟩ := circ_some (hcq.1 hc)
     rw [hG.len] at c2 c3
     exact e2 _ c2 L w t c1 rfl c3
    rw [hrv0 hnc]
    ((conv => whnf); repeat' ((first | (intro hq; (try simp only [lnS] at hq); (try rewrite [List.length_map])) | refine sJ ?_ | refine .intro _ (.intro rfl ?_) | (refine .intro (show (_ : Nat) < List.length _ from by first | omega | (simp only [lnS]; omega) | simp) ?_) | fail | refine draw_rule hty (by kernel_rfl) (by kernel_rfl) ?_ | ((first | refine brB_dec ?_ ?_ | refine brB_ndec ?_ ?_) <;> intro hb <;> (first | contradiction | ((try simp only [lnS] at hb); try (exfalso; omega)))) | (refine brB_split ?_ ?_ <;> intro hb <;> (first | contradiction | exact bT hb (by assumption) | exact bF hb (by assumption) | skip))) <;> (conv => whnf)))
    exact ⟨_, rfl⟩
   | some L =>
    obtain ⟨hL0, hLn, hLl, _, hcirc⟩ := hO
    rw [hrv1 (hcq.2 hcirc)]
    ((conv => whnf); repeat ((first | (intro hq; try simp only [lnS] at hq) | refine sI ?_ | refine .intro _ (.intro rfl ?_)); (conv => whnf)))
    rename_i bb
    cases bb
    ·((conv => whnf); repeat ((first | (intro hq; try simp only [lnS] at hq) | refine sI ?_ | refine .intro _ (.intro rfl ?_)); (conv => whnf)))
     rw [show (L.map natR).length = L.length from List.length_map ..]
     refine SemVC.own 2 66 9 1 rfl (fresh_of (by with_unfolding_all exact rfl)) ?_
     refine loop_rule hty (fun y : Nat × List Str => ([(2, .osl 66 1 (y.2.map strR)), (5, .ptr 5 0), (42, .d (.sl 1 (L.map natR))), (43, .d (.int .i64 L.length)), (44, .d (.int .i64 y.1))], (66, .own 9 1 (y.2.map strR).length) :: (5, .cells 115 [.d (strS R), .d (.sl 1 (G.map adjR))]) :: NG)) (fun y => y.1 ≤ L.length ∧ y.2.length ≤ y.1) (fun y => L.length - y.1) (0, []) ⟨Nat.zero_le _, Nat.le_refl _⟩ ⟨by repeat' (first | exact trivial | exact rfl | refine And.intro ?_ ?_), ⟨rfl, rfl, rfl, rfl, trivial⟩⟩ ?_
     rintro ⟨k, C⟩ ⟨hk, hC⟩
     dsimp only at hk hC
     ((conv => whnf); repeat ((first | (intro hq; try simp only [lnS] at hq) | refine sI ?_ | refine .intro _ (.intro rfl ?_)); (conv => whnf)))
     refine brB_dec (fun h3 => ?_) (fun h3 => ?_)
     ·have hkl : k < L.length := by dsimp only at h3; omega
      have hrow : (L.map natR)[((k : Nat) : Int).toNat]? = some (natR L[k]) := by
       rw [Int.toNat_natCast, List.getElem?_map, List.getElem?_eq_getElem hkl]; rfl
      have hLk := hLn _ (List.getElem_mem hkl)
      have hrow2 := strR_at hLk
      have hcl : (C.map strR).length = C.length := List.length_map ..
      have hb63 : (C.map strR).length + 1 ≤ 9223372036854775807 := by rw [hcl]; omega
      have hb48 : ((C.map strR).length + 1) * 16 ≤ 140737488355328 := by rw [hcl]; omega
      have hmp : (C ++ [R[L[k]]]).map strR = C.map strR ++ [strR R[L[k]]] := by rw [List.map_append]; rfl
      generalize R[L[k]] = s at *
      generalize L[k] = i at *
      ((conv => whnf); repeat ((first | (refine ⟨_, hrow, ?_⟩) | (refine ⟨_, hrow2, ?_⟩) | (refine And.intro hb63 ?_) | (refine And.intro hb48 ?_) | (intro hq; try simp only [lnS] at hq) | refine sI ?_ | refine .intro _ (.intro rfl ?_)); (conv => whnf)))
      refine ⟨(k + 1, C ++ [s]), ⟨by dsimp only; omega, by dsimp only; rw [List.length_append, List.length_singleton]; omega⟩, by dsimp only; omega, ?_⟩
      dsimp only
      rw [hmp, List.length_append]
      exact ⟨by repeat' (first | exact trivial | exact rfl | refine And.intro ?_ ?_), ⟨rfl, rfl, rfl, rfl, trivial⟩⟩
     ·((conv => whnf); repeat' ((first | (intro hq; (try simp only [lnS] at hq); (try rewrite [List.length_map])) | refine sJ ?_ | refine .intro _ (.intro rfl ?_) | (refine .intro (show (_ : Nat) < List.length _ from by first | omega | (simp only [lnS]; omega) | simp) ?_) | fail | refine draw_rule hty (by kernel_rfl) (by kernel_rfl) ?_ | ((first | refine brB_dec ?_ ?_ | refine brB_ndec ?_ ?_) <;> intro hb <;> (first | contradiction | ((try simp only [lnS] at hb); try (exfalso; omega)))) | (refine brB_split ?_ ?_ <;> intro hb <;> (first | contradiction | exact bT hb (by assumption) | exact bF hb (by assumption) | skip))) <;> (conv => whnf)))
      exact ⟨_, rfl⟩
    ·exact absurd (List.map_eq_nil_iff.1 (hq rfl)) hL0
theorem drop_at {α : Type} {l : List α} {j : Nat} (h : j < l.length) : l.drop j = l[j] :: l.drop (j + 1) := List.drop_eq_getElem_cons h
theorem bCheck_spec (l : List Ax) : Tri Tryz.prog 26 [.d (basR l)] NG (fun r => r = .d (.int .i64 (checkB l))) := by
 refine tri_of_bodyF false [1, 4, 5, 9] hty Tryz.func26 rfl (kp [0, 1, 2, 4, 5, 6, 7, 9, 11, 12, 13, 14, 23, 29, 35, 50, 54, 56, 57, 58, 59, 68]) [] _ _ _ (by simp [Tryz.f26]) (by decide) ?_
 ((conv => whnf); repeat ((first | (intro hq; try simp only [lnS] at hq) | refine sI ?_ | refine .intro _ (.intro rfl ?_)); (conv => whnf)))
 refine loop_rule hty (fun j : Nat => ([(1, .ea 1 [[.sl 16 (l.map axR)]] 0 0), (2, .d (.int .i64 0)), (11, .d (.sl 16 (l.map axR))), (12, .d (.int .i64 l.length)), (13, .d (.int .i64 j))], NG)) (fun j => (j ≤ l.length ∧ ∀ x ∈ l.take j, tidyA x = (x, 0)) ∧ firstB l = firstB (l.drop j)) (fun j => l.length - j) 0 ⟨⟨by omega, by simp⟩, rfl⟩ ⟨by repeat' (first | exact trivial | exact rfl | (rw [List.length_map]; exact rfl) | refine And.intro ?_ ?_), ⟨rfl, rfl, trivial⟩⟩ ?_
 rintro j ⟨⟨hj, hz⟩, hf⟩
 ((conv => whnf); repeat ((first | (intro hq; try simp only [lnS] at hq) | refine sI ?_ | refine .intro _ (.intro rfl ?_)); (conv => whnf)))
 refine brB_dec (fun h1 => ?_) (fun h1 => ?_)
 ·have hjl : j < l.length := by omega
  have hrow := axR_rows hjl
  have ht := TidyAxiom_spec l[j]
  have he := fun h : (tidyA l[j]).2 = 0 => equal_spec l[j] (tidyA l[j]).1 (smA_ok (tidyA_valid h)) (smA_tidy h)
  rw [drop_at hjl, firstB] at hf
  have hz2 : tidyA l[j] = (l[j], 0) → ∀ x ∈ l.take (j + 1), tidyA x = (x, 0) := fun h2 y hy => by
   rw [List.take_succ_eq_append_getElem hjl] at hy
   rcases List.mem_append.1 hy with hy | hy
   ·exact hz y hy
   ·simp at hy; subst hy; exact h2
  have hz3 : (tidyA l[j]).2 = 0 → eqA l[j] (tidyA l[j]).1 = true → tidyA l[j] = (l[j], 0) := fun h1 h2 => Prod.ext (eqA_iff.1 h2).symm h1
  have hcv : firstB l ≠ 0 → checkB l = firstB l := fun h => by unfold checkB; rw [if_pos h]
  generalize tidyA l[j] = T at *
  obtain ⟨X, e⟩ := T
  dsimp only at ht he hf hz3
  generalize eqA l[j] X = b at *
  generalize l[j] = x at *
  ((conv => whnf); repeat ((first | (refine ⟨_, hrow, ?_⟩) | (refine call_tri NG ht ⟨rfl, rfl, trivial⟩ (fun r hs => ?_); subst hs) | (intro hq; try simp only [lnS] at hq) | refine sI ?_ | refine .intro _ (.intro rfl ?_)); (conv => whnf)))
  refine brB_ndec (fun h2 => ?_) (fun h2 => ?_)
  ·rw [if_pos h2] at hf
   rw [hcv (by rw [hf]; exact h2), hf]
   ((conv => whnf); repeat' ((first | (intro hq; (try simp only [lnS] at hq); (try rewrite [List.length_map])) | refine sJ ?_ | refine .intro _ (.intro rfl ?_) | (refine .intro (show (_ : Nat) < List.length _ from by first | omega | (simp only [lnS]; omega) | simp) ?_) | fail | refine draw_rule hty (by kernel_rfl) (by kernel_rfl) ?_ | ((first | refine brB_dec ?_ ?_ | refine brB_ndec ?_ ?_) <;> intro hb <;> (first | contradiction | ((try simp only [lnS] at hb); try (exfalso; omega)))) | (refine brB_split ?_ ?_ <;> intro hb <;> (first | contradiction | exact bT hb (by assumption) | exact bF hb (by assumption) | skip))) <;> (conv => whnf)))
   rfl
  ·rw [if_neg (by simp [h2])] at hf
   have he := he h2
   ((conv => whnf); repeat ((first | (refine call_tri [] he trivial (fun r hs => ?_); subst hs) | (intro hq; try simp only [lnS] at hq) | refine sI ?_ | refine .intro _ (.intro rfl ?_)); (conv => whnf)))
   cases b
   ·rw [if_pos rfl] at hf
    rw [hcv (by rw [hf]; decide), hf]
    ((conv => whnf); repeat' ((first | (intro hq; (try simp only [lnS] at hq); (try rewrite [List.length_map])) | refine sJ ?_ | refine .intro _ (.intro rfl ?_) | (refine .intro (show (_ : Nat) < List.length _ from by first | omega | (simp only [lnS]; omega) | simp) ?_) | fail | refine draw_rule hty (by kernel_rfl) (by kernel_rfl) ?_ | ((first | refine brB_dec ?_ ?_ | refine brB_ndec ?_ ?_) <;> intro hb <;> (first | contradiction | ((try simp only [lnS] at hb); try (exfalso; omega)))) | (refine brB_split ?_ ?_ <;> intro hb <;> (first | contradiction | exact bT hb (by assumption) | exact bF hb (by assumption) | skip))) <;> (conv => whnf)))
    rfl
   ·rw [if_neg (by decide)] at hf
    ((conv => whnf); repeat' ((first | (intro hq; (try simp only [lnS] at hq); (try rewrite [List.length_map])) | refine sJ ?_ | refine .intro _ (.intro rfl ?_) | (refine .intro (show (_ : Nat) < List.length _ from by first | omega | (simp only [lnS]; omega) | simp) ?_) | fail | refine draw_rule hty (by kernel_rfl) (by kernel_rfl) ?_ | ((first | refine brB_dec ?_ ?_ | refine brB_ndec ?_ ?_) <;> intro hb <;> (first | contradiction | ((try simp only [lnS] at hb); try (exfalso; omega)))) | (refine brB_split ?_ ?_ <;> intro hb <;> (first | contradiction | exact bT hb (by assumption) | exact bF hb (by assumption) | skip))) <;> (conv => whnf)))
    exact ⟨j + 1, ⟨⟨by omega, hz2 (hz3 h2 rfl)⟩, hf⟩, by dsimp only; omega, ⟨by repeat' (first | exact trivial | exact rfl | refine And.intro ?_ ?_), ⟨rfl, rfl, trivial⟩⟩⟩
 have hjl : j = l.length := by omega
 subst hjl
 rw [List.take_length] at hz
 have hf0 : firstB l = 0 := (firstB_iff l).2 hz
 have hsm : ∀ x ∈ l, SmA x := fun x hx => smA_ok (tidyA_valid (by rw [hz x hx]))
 clear hf hj h1
 ((conv => whnf); repeat ((first | (intro hq; try simp only [lnS] at hq) | refine sI ?_ | refine .intro _ (.intro rfl ?_)); (conv => whnf)))
 refine loop_rule hty (fun i : Nat => ([(1, .ea 1 [[.sl 16 (l.map axR)]] 0 0), (2, .d (.int .i64 0)), (7, .d (.int .i64 i))], NG)) (fun i => (1 ≤ i ∧ (i ≤ l.length ∨ i = 1)) ∧ sortedB l = sortedB (l.drop (i - 1))) (fun i => l.length - i) 1 ⟨by omega, rfl⟩ ⟨by repeat' (first | exact trivial | exact rfl | refine And.intro ?_ ?_), ⟨rfl, rfl, trivial⟩⟩ ?_
 rintro i ⟨⟨hi1, hi2⟩, hso⟩
 ((conv => whnf); repeat ((first | (intro hq; try simp only [lnS] at hq) | refine sI ?_ | refine .intro _ (.intro rfl ?_)); (conv => whnf)))
 refine brB_dec (fun h1 => ?_) (fun h1 => ?_)
 ·have hil : i < l.length := by have h1 : (i : Int) < ((l.map axR).length : Nat) := h1; rw [List.length_map] at h1; omega
  have hip : i - 1 < l.length := by omega
  have hrow := axR_rows hil
  have hrow2 : (l.map axR)[((i : Int) - 1).toNat]? = some (axR l[i - 1]) := by
   rw [show ((i : Int) - 1).toNat = i - 1 by omega, List.getElem?_map, List.getElem?_eq_getElem hip]; rfl
  have s1 := hsm _ (List.getElem_mem hil)
  have s2 := hsm _ (List.getElem_mem hip)
  have c := CompareAxiom_spec l[i - 1] l[i] s2.1 s2.2.1 s2.2.2 s1.1 s1.2.1 s1.2.2
  rw [drop_at hip, show i - 1 + 1 = i by omega, drop_at hil, sortedB, ← drop_at hil] at hso
  have hcv : sortedB l = false → checkB l = 70 := fun h => by unfold checkB; rw [if_neg (by simp [hf0]), if_pos h]
  generalize cmpAx l[i - 1] l[i] = v at *
  generalize l[i - 1] = y at *
  generalize l[i] = x at *
  ((conv => whnf); repeat ((first | (intro hq; try simp only [lnS] at hq) | refine sI ?_ | refine .intro _ (.intro rfl ?_)); (conv => whnf)))
  refine draw_rule hty (by kernel_rfl) (by kernel_rfl) ?_
  ((conv => whnf); repeat ((first | (refine ⟨_, hrow, ?_⟩) | (refine ⟨_, hrow2, ?_⟩) | (refine ⟨by kernel_rfl, .d (.int .i64 _), _, [], rfl, trivial, c, ?_⟩) | (intro hq; try simp only [lnS] at hq) | refine sI ?_ | refine .intro _ (.intro rfl ?_)); (conv => whnf)))
  refine brB_ndec (fun h2 => ?_) (fun h2 => ?_)
  ·rw [hcv (by rw [hso]; simp [h2])]
   ((conv => whnf); repeat' ((first | (intro hq; (try simp only [lnS] at hq); (try rewrite [List.length_map])) | refine sJ ?_ | refine .intro _ (.intro rfl ?_) | (refine .intro (show (_ : Nat) < List.length _ from by first | omega | (simp only [lnS]; omega) | simp) ?_) | fail | refine draw_rule hty (by kernel_rfl) (by kernel_rfl) ?_ | ((first | refine brB_dec ?_ ?_ | refine brB_ndec ?_ ?_) <;> intro hb <;> (first | contradiction | ((try simp only [lnS] at hb); try (exfalso; omega)))) | (refine brB_split ?_ ?_ <;> intro hb <;> (first | contradiction | exact bT hb (by assumption) | exact bF hb (by assumption) | skip))) <;> (conv => whnf)))
   rfl
  ·((conv => whnf); repeat' ((first | (intro hq; (try simp only [lnS] at hq); (try rewrite [List.length_map])) | refine sJ ?_ | refine .intro _ (.intro rfl ?_) | (refine .intro (show (_ : Nat) < List.length _ from by first | omega | (simp only [lnS]; omega) | simp) ?_) | fail | refine draw_rule hty (by kernel_rfl) (by kernel_rfl) ?_ | ((first | refine brB_dec ?_ ?_ | refine brB_ndec ?_ ?_) <;> intro hb <;> (first | contradiction | ((try simp only [lnS] at hb); try (exfalso; omega)))) | (refine brB_split ?_ ?_ <;> intro hb <;> (first | contradiction | exact bT hb (by assumption) | exact bF hb (by assumption) | skip))) <;> (conv => whnf)))
   refine ⟨i + 1, ⟨by omega, ?_⟩, by dsimp only; omega, ⟨by repeat' (first | exact trivial | exact rfl | refine And.intro ?_ ?_), ⟨rfl, rfl, trivial⟩⟩⟩
   rw [hso, show i + 1 - 1 = i by omega]
   simp [h2]
 have hst : sortedB l = true := by
  have h1 : ¬ (i : Int) < ((l.map axR).length : Nat) := h1
  rw [List.length_map] at h1
  rw [hso]
  have hd : (l.drop (i - 1)).length ≤ 1 := by rw [List.length_drop]; omega
  match l.drop (i - 1), hd with
  | [], _ => rfl
  | [x], _ => rfl
  | x :: y :: r, h => simp at h
 clear hso h1 hi1 hi2
 have hcv1 : 1024 < l.length → checkB l = 2 := fun h => by unfold checkB; rw [if_neg (by simp [hf0]), if_neg (by simp [hst]), if_pos h]
 have hcv2 : ¬ 1024 < l.length → l.any secretB = true → checkB l = 71 := fun h h2 => by unfold checkB; rw [if_neg (by simp [hf0]), if_neg (by simp [hst]), if_neg h, if_pos h2]
 have hcv3 : ¬ 1024 < l.length → l.any secretB = false → checkB l = rolesE l := fun h h2 => by unfold checkB; rw [if_neg (by simp [hf0]), if_neg (by simp [hst]), if_neg h, if_neg (by simp [h2])]
 ((conv => whnf); repeat ((first | (intro hq; try simp only [lnS] at hq) | refine sI ?_ | refine .intro _ (.intro rfl ?_)); (conv => whnf)))
 refine brB_dec (fun h3 => ?_) (fun h3 => ?_)
 ·have h3 : (1024 : Int) < ((l.map axR).length : Nat) := h3
  rw [List.length_map] at h3
  rw [hcv1 (by omega)]
  ((conv => whnf); repeat' ((first | (intro hq; (try simp only [lnS] at hq); (try rewrite [List.length_map])) | refine sJ ?_ | refine .intro _ (.intro rfl ?_) | (refine .intro (show (_ : Nat) < List.length _ from by first | omega | (simp only [lnS]; omega) | simp) ?_) | fail | refine draw_rule hty (by kernel_rfl) (by kernel_rfl) ?_ | ((first | refine brB_dec ?_ ?_ | refine brB_ndec ?_ ?_) <;> intro hb <;> (first | contradiction | ((try simp only [lnS] at hb); try (exfalso; omega)))) | (refine brB_split ?_ ?_ <;> intro hb <;> (first | contradiction | exact bT hb (by assumption) | exact bF hb (by assumption) | skip))) <;> (conv => whnf)))
  rfl
 have hlen : ¬ 1024 < l.length := by
  have h3 : ¬ (1024 : Int) < ((l.map axR).length : Nat) := h3
  rw [List.length_map] at h3
  omega
 have hro := roles_spec l (by omega)
 ((conv => whnf); repeat ((first | (intro hq; try simp only [lnS] at hq) | refine sI ?_ | refine .intro _ (.intro rfl ?_)); (conv => whnf)))
 rw [List.length_map]
 refine loop_rule hty (fun j : Nat => ([(1, .ea 1 [[.sl 16 (l.map axR)]] 0 0), (2, .d (.int .i64 0)), (56, .d (.sl 16 (l.map axR))), (57, .d (.int .i64 l.length)), (58, .d (.int .i64 j))], NG)) (fun j => j ≤ l.length ∧ (l.take j).any secretB = false) (fun j => l.length - j) 0 ⟨by omega, rfl⟩ ⟨by repeat' (first | exact trivial | exact rfl | refine And.intro ?_ ?_), ⟨rfl, rfl, trivial⟩⟩ ?_
 rintro j ⟨hj, ha⟩
 ((conv => whnf); repeat ((first | (intro hq; try simp only [lnS] at hq) | refine sI ?_ | refine .intro _ (.intro rfl ?_)); (conv => whnf)))
 refine brB_dec (fun h4 => ?_) (fun h4 => ?_)
 ·have hjl : j < l.length := by omega
  have hrow := axR_rows hjl
  have c := isRole_spec l[j]
  have hbad : secretB l[j] = true → l.any secretB = true := fun h => List.any_eq_true.2 ⟨_, List.getElem_mem hjl, h⟩
  have hok : secretB l[j] = false → (l.take (j + 1)).any secretB = false := fun h => by
   rw [List.take_succ_eq_append_getElem hjl, List.any_append, ha]; simpa using h
  have hsv : secretB l[j] = (roleA l[j] && !l[j].isopen) := rfl
  rw [hsv] at hbad hok
  clear hsv
  generalize roleA l[j] = b at *
  obtain ⟨x, hx⟩ : ∃ x, x = l[j] := ⟨_, rfl⟩
  rw [← hx] at hrow c hbad hok
  clear hx
  obtain ⟨k, o, a1, a2, a3, a4, a5, a6⟩ := x
  dsimp only at hbad hok
  cases b <;> cases o
  all_goals ((conv => whnf); repeat' ((first | (intro hq; (try simp only [lnS] at hq); (try rewrite [List.length_map])) | refine sJ ?_ | refine .intro _ (.intro rfl ?_) | (refine .intro (show (_ : Nat) < List.length _ from by first | omega | (simp only [lnS]; omega) | simp) ?_) | (refine ⟨_, hrow, ?_⟩) | (refine call_tri [] c trivial (fun r hs => ?_); subst hs) | refine draw_rule hty (by kernel_rfl) (by kernel_rfl) ?_ | ((first | refine brB_dec ?_ ?_ | refine brB_ndec ?_ ?_) <;> intro hb <;> (first | contradiction | ((try simp only [lnS] at hb); try (exfalso; omega)))) | (refine brB_split ?_ ?_ <;> intro hb <;> (first | contradiction | exact bT hb (by assumption) | exact bF hb (by assumption) | skip))) <;> (conv => whnf)))
  ·exact ⟨j + 1, ⟨by omega, hok rfl⟩, by dsimp only; omega, ⟨by repeat' (first | exact trivial | exact rfl | refine And.intro ?_ ?_), ⟨rfl, rfl, trivial⟩⟩⟩
  ·exact ⟨j + 1, ⟨by omega, hok rfl⟩, by dsimp only; omega, ⟨by repeat' (first | exact trivial | exact rfl | refine And.intro ?_ ?_), ⟨rfl, rfl, trivial⟩⟩⟩
  ·rw [hcv2 hlen (hbad rfl)]; rfl
  ·exact ⟨j + 1, ⟨by omega, hok rfl⟩, by dsimp only; omega, ⟨by repeat' (first | exact trivial | exact rfl | refine And.intro ?_ ?_), ⟨rfl, rfl, trivial⟩⟩⟩
 ·have hjl : j = l.length := by omega
  subst hjl
  rw [List.take_length] at ha
  rw [hcv3 hlen ha]
  ((conv => whnf); repeat ((first | (intro hq; try simp only [lnS] at hq) | refine sI ?_ | refine .intro _ (.intro rfl ?_)); (conv => whnf)))
  refine call_tri NG hro ⟨rfl, rfl, trivial⟩ (fun r hs => ?_)
  obtain ⟨s, rfl⟩ := hs.ex
  ((conv => whnf); repeat' ((first | (intro hq; (try simp only [lnS] at hq); (try rewrite [List.length_map])) | refine sJ ?_ | refine .intro _ (.intro rfl ?_) | (refine .intro (show (_ : Nat) < List.length _ from by first | omega | (simp only [lnS]; omega) | simp) ?_) | fail | refine draw_rule hty (by kernel_rfl) (by kernel_rfl) ?_ | ((first | refine brB_dec ?_ ?_ | refine brB_ndec ?_ ?_) <;> intro hb <;> (first | contradiction | ((try simp only [lnS] at hb); try (exfalso; omega)))) | (refine brB_split ?_ ?_ <;> intro hb <;> (first | contradiction | exact bT hb (by assumption) | exact bF hb (by assumption) | skip))) <;> (conv => whnf)))
  rfl
end Go.Proofs.YtnemengadjimcaaGreatDoor
namespace Go.Proofs.YtnemengadjimcaaGreatDoor
open Go.Proofs
set_option maxRecDepth 10000
attribute [local irreducible] SemVC CallVC Tri Stuck YVC GenP GenVC
structure CutI (cf : SAx → SAx → Int) (A B : List SAx) (h s0 r0 u v : Nat) : Prop where
 le : s0 ≤ u ∧ u ≤ v ∧ v ≤ r0
 lo : ∀ x y, s0 < u → A[u - 1]? = some x → B[h - u]? = some y → ¬ cf y x < 0
 hi : ∀ x y, v < r0 → A[v]? = some x → B[h - 1 - v]? = some y → cf y x < 0
theorem symMerge_call {g : FuncId} {cf : SAx → SAx → Int} (G : CmpG g cf) : ∀ (sz : Nat) (Pr A B Q : List SAx) (_ : A.length + B.length ≤ sz) (_ : 0 < A.length) (_ : 0 < B.length) (_ : Srt cf A) (_ : Srt cf B) {L : List SAx} (_ : L = Pr ++ (A ++ (B ++ Q))) (_ : L.length ≤ 1000000) {n : Nat} {a m b : Int} (_ : n = L.length) (_ : a = (Pr.length : Nat)) (_ : m = (Pr.length + A.length : Nat)) (_ : b = (Pr.length + A.length + B.length : Nat)) (cap : Nat) (rest : Hp) {pin : List Nat} {fr : Fr} {K : SV → Hp → Prop}
  (_ : ∀ S, S.Perm (A ++ B) → Srt cf S → K (oneOf []) ((70, .mrow 49 16 cap ((Pr ++ (S ++ Q)).map saR)) :: rest)),
  CallVC Tryz.prog pin fr ((70, .mrow 49 16 cap (L.map saR)) :: rest) 157 [.mw 70 16 n, .d (.int .i64 a), .d (.int .i64 m), .d (.int .i64 b), .fn g [] []] K := by
 intro sz
 induction sz with
 | zero => intro Pr A B Q h h1; exact absurd h (by omega)
 | succ sz ih =>
  intro Pr A B Q hsz hA0 hB0 hA hB L hL hl n a m b hn ha hm hb cap rest pin fr K fin
  by_cases cA : A.length = 1
  ·obtain ⟨x, rfl⟩ := List.length_eq_one_iff.1 cA
   exact merge_left G Pr x B Q hB hL hl hn ha hm (by rw [hb, List.length_singleton]) cap rest fin
  by_cases cB : B.length = 1
  ·obtain ⟨y, rfl⟩ := List.length_eq_one_iff.1 cB
   exact merge_right G Pr A y Q hA cA hL hl hn ha hm (by rw [hb, List.length_singleton]) cap rest fin
  subst hn; subst ha; subst hb; subst hm
  have hlen : L.length = Pr.length + (A.length + (B.length + Q.length)) := by rw [hL]; simp only [List.length_append]
  have hMl : (L.map saR).length = L.length := List.length_map ..
  have hrA : ∀ (k : Nat) (x : SAx), A[k]? = some x → ∀ i : Nat, i = Pr.length + k → (L.map saR)[((i : Nat) : Int).toNat]? = some (saR x) := fun k x hx i hi =>
   row_in (Pr := Pr) (A := A) (R := B ++ Q) hL hx (by rw [Int.toNat_natCast, hi])
  have hrB : ∀ (k : Nat) (x : SAx), B[k]? = some x → ∀ i : Int, i = ((Pr.length + A.length + k : Nat) : Int) → (L.map saR)[i.toNat]? = some (saR x) := fun k x hx i hi =>
   row_in (Pr := Pr ++ A) (A := B) (R := Q) (by rw [hL]; simp) hx (by rw [hi, Int.toNat_natCast, List.length_append])
  generalize hN : L.length = N at *
  refine call_inline hty Tryz.func157 rfl (kp [0, 1, 2, 3, 4, 10, 11, 12, 13, 14, 15, 16, 17, 18, 19, 20, 21, 22, 23, 24, 28, 33, 50, 58, 80, 85, 103, 110, 140, 151, 171, 185, 199, 213]) 500 (by simp [Tryz.f157]) ?_
  obtain ⟨h, hh⟩ : ∃ h, h = (A.length + B.length) / 2 := ⟨_, rfl⟩
  have hh2 := half64 (i := Pr.length) (j := Pr.length + A.length + B.length) (by omega)
  have hmid : (Pr.length + (Pr.length + A.length + B.length)) / 2 = Pr.length + h := by omega
  rw [hmid] at hh2
  ((conv => whnf); repeat ((first | (intro hq; try simp only [lnS] at hq) | refine sI ?_ | refine .intro _ (.intro rfl ?_)); (conv => whnf)))
  refine brB_dec (fun h1 => ?_) (fun h1 => ?_)
  ·exfalso; omega
  ((conv => whnf); repeat ((first | (intro hq; try simp only [lnS] at hq) | refine sI ?_ | refine .intro _ (.intro rfl ?_)); (conv => whnf)))
  refine brB_dec (fun h2 => ?_) (fun h2 => ?_)
  ·exfalso; omega
  ((conv => whnf); repeat ((first | (intro hq; try simp only [lnS] at hq) | refine sI ?_ | refine .intro _ (.intro rfl ?_)); (conv => whnf)))
  rw [hh2]
  -- the ends of the search
  obtain ⟨s0, r0, hsr, hcase⟩ : ∃ s0 r0, (s0 ≤ r0 ∧ r0 ≤ A.length ∧ r0 ≤ h ∧ h - s0 ≤ B.length ∧ s0 ≤ h) ∧ ((h < A.length ∧ s0 = h - B.length ∧ B.length ≤ h ∧ r0 = h) ∨ (A.length ≤ h ∧ s0 = 0 ∧ r0 = A.length)) := by
   by_cases hc : h < A.length
   ·exact ⟨h - B.length, h, by omega, .inl ⟨hc, rfl, by omega, rfl⟩⟩
   ·exact ⟨0, A.length, by omega, .inr ⟨by omega, rfl, rfl⟩⟩
  ((conv => whnf); repeat ((first | (intro hq; try simp only [lnS] at hq) | refine sI ?_ | refine .intro _ (.intro rfl ?_)); (conv => whnf)))
  refine brB_dec (fun h3 => ?_) (fun h3 => ?_)
  all_goals (
   ((conv => whnf); repeat ((first | (intro hq; try simp only [lnS] at hq) | refine sI ?_ | refine .intro _ (.intro rfl ?_)); (conv => whnf)))
   refine loop_eq hty (fun y : Nat × Nat => ([(0, .mw 70 16 N), (1, .d (.int .i64 (Pr.length : Nat))), (2, .d (.int .i64 (Pr.length + A.length : Nat))), (3, .d (.int .i64 (Pr.length + A.length + B.length : Nat))), (4, .fn g [] []), (18, .d (.int .i64 (Pr.length + h : Nat))), (19, .d (.int .i64 (((Pr.length + h : Nat) : Int) + (Pr.length + A.length : Nat)))), (20, .d (.int .i64 (Pr.length + y.1 : Nat))), (21, .d (.int .i64 (Pr.length + y.2 : Nat))), (22, .d (.int .i64 (((Pr.length + h : Nat) : Int) + (Pr.length + A.length : Nat) - 1)))], (70, .mrow 49 16 cap (L.map saR)) :: rest))
    (fun y => CutI cf A B h s0 r0 y.1 y.2) (fun y => y.2 - y.1) (s0, r0) ⟨⟨Nat.le_refl _, hsr.1, Nat.le_refl _⟩, fun x y q => absurd q (Nat.lt_irrefl _), fun x y q => absurd q (Nat.lt_irrefl _)⟩ (by repeat' (first | exact trivial | exact rfl | exact wkInt (by (try dsimp only); omega) | refine And.intro ?_ ?_)) rfl ?_
   rintro ⟨u, v⟩ hI
   dsimp only at hI ⊢
   obtain ⟨i1, i2, i3⟩ := hI.le
   obtain ⟨w, hw⟩ : ∃ w, w = (u + v) / 2 := ⟨_, rfl⟩
   have hh3 := half64 (i := Pr.length + u) (j := Pr.length + v) (by omega)
   rw [show (Pr.length + u + (Pr.length + v)) / 2 = Pr.length + w by omega] at hh3
   ((conv => whnf); repeat ((first | (intro hq; try simp only [lnS] at hq) | refine sI ?_ | refine .intro _ (.intro rfl ?_)); (conv => whnf)))
   refine brB_dec (fun h4 => ?_) (fun h4 => ?_)
   ·have hw1 : u ≤ w ∧ w < v := by omega
    obtain ⟨x, hx⟩ : ∃ x, A[w]? = some x := ⟨_, List.getElem?_eq_getElem (by omega)⟩
    obtain ⟨y, hy⟩ : ∃ y, B[h - 1 - w]? = some y := ⟨_, List.getElem?_eq_getElem (by omega)⟩
    have rx := hrA _ x hx (Pr.length + w) rfl
    have ry := hrB _ y hy ((((Pr.length + h : Nat) : Int) + (Pr.length + A.length : Nat) - 1) - (Pr.length + w : Nat)) (by omega)
    have htr := G.tri y x
    generalize hc : cf y x = c at htr
    ((conv => whnf); repeat ((first | (intro hq; try simp only [lnS] at hq) | refine sI ?_ | refine .intro _ (.intro rfl ?_)); (conv => whnf)))
    rw [hh3]
    ((conv => whnf); repeat ((first | (intro hq; try simp only [lnS] at hq) | refine sI ?_ | refine .intro _ (.intro rfl ?_)); (conv => whnf)))
    refine draw_rule hty (by kernel_rfl) (by kernel_rfl) ?_
    ((conv => whnf); repeat ((first | (refine And.intro hMl.symm ?_) | (refine ⟨_, rx, ?_⟩) | (refine ⟨_, ry, ?_⟩) | (refine ⟨G.call, .d (.int .i64 _), _, [], rfl, trivial, htr, ?_⟩) | (intro hq; try simp only [lnS] at hq) | refine sI ?_ | refine .intro _ (.intro rfl ?_)); (conv => whnf)))
    refine brB_ndec (fun h5 => ?_) (fun h5 => ?_)
    ·((conv => whnf); repeat' ((first | (intro hq; (try simp only [lnS] at hq); (try rewrite [List.length_map])) | refine sJ ?_ | refine .intro _ (.intro rfl ?_) | (refine .intro (show (_ : Nat) < List.length _ from by first | omega | (simp only [lnS]; omega) | simp) ?_) | fail | refine draw_rule hty (by kernel_rfl) (by kernel_rfl) ?_ | ((first | refine brB_dec ?_ ?_ | refine brB_ndec ?_ ?_) <;> intro hb <;> (first | contradiction | ((try simp only [lnS] at hb); try (exfalso; omega)))) | (refine brB_split ?_ ?_ <;> intro hb <;> (first | contradiction | exact bT hb (by assumption) | exact bF hb (by assumption) | skip))) <;> (conv => whnf)))
     refine ⟨(w + 1, v), ⟨by dsimp only; omega, fun x' y' _ hx' hy' => ?_, hI.hi⟩, by dsimp only; omega, (by repeat' (first | exact trivial | exact rfl | exact wkInt (by (try dsimp only); omega) | refine And.intro ?_ ?_)), rfl⟩
     rw [Nat.add_sub_cancel, hx] at hx'
     rw [show h - (w + 1) = h - 1 - w by omega, hy] at hy'
     injection hx' with hx'
     injection hy' with hy'
     subst hx'; subst hy'
     rw [hc]; exact h5
    ·((conv => whnf); repeat' ((first | (intro hq; (try simp only [lnS] at hq); (try rewrite [List.length_map])) | refine sJ ?_ | refine .intro _ (.intro rfl ?_) | (refine .intro (show (_ : Nat) < List.length _ from by first | omega | (simp only [lnS]; omega) | simp) ?_) | fail | refine draw_rule hty (by kernel_rfl) (by kernel_rfl) ?_ | ((first | refine brB_dec ?_ ?_ | refine brB_ndec ?_ ?_) <;> intro hb <;> (first | contradiction | ((try simp only [lnS] at hb); try (exfalso; omega)))) | (refine brB_split ?_ ?_ <;> intro hb <;> (first | contradiction | exact bT hb (by assumption) | exact bF hb (by assumption) | skip))) <;> (conv => whnf)))
     refine ⟨(u, w), ⟨by dsimp only; omega, hI.lo, fun x' y' _ hx' hy' => ?_⟩, by dsimp only; omega, (by repeat' (first | exact trivial | exact rfl | exact wkInt (by (try dsimp only); omega) | refine And.intro ?_ ?_)), rfl⟩
     dsimp only at hx' hy'
     rw [hx] at hx'
     rw [hy] at hy'
     injection hx' with hx'
     injection hy' with hy'
     subst hx'; subst hy'
     rw [hc]; exact h5
   ·obtain rfl : u = v := by omega
    obtain ⟨t, ht⟩ : ∃ t, t = h - u := ⟨_, rfl⟩
    have hcross := sym_split G.ord hA hB (s := u) (t := t) (by omega) (by omega) (fun x y hx ht0 hy => G.ord.asym _ _ (hI.hi x y (by
      have := (List.getElem?_eq_some_iff.1 hx).1
      omega) hx (by rw [show h - 1 - u = t - 1 by omega]; exact hy))) (fun x y hu hx hy => hI.lo x y (by
      have := (List.getElem?_eq_some_iff.1 hy).1
      omega) hx (by rw [← ht]; exact hy))
    have eA : A = A.take u ++ A.drop u := (List.take_append_drop _ _).symm
    have eB : B = B.take t ++ B.drop t := (List.take_append_drop _ _).symm
    have lA1 : (A.take u).length = u := by rw [List.length_take]; omega
    have lA2 : (A.drop u).length = A.length - u := List.length_drop
    have lB1 : (B.take t).length = t := by rw [List.length_take]; omega
    have lB2 : (B.drop t).length = B.length - t := List.length_drop
    generalize A.take u = A1 at hcross eA lA1
    generalize A.drop u = A2 at hcross eA lA2
    generalize B.take t = B1 at hcross eB lB1
    generalize B.drop t = B2 at hcross eB lB2
    have sA : Srt cf (A1 ++ A2) := eA ▸ hA
    have sB : Srt cf (B1 ++ B2) := eB ▸ hB
    obtain ⟨sA1, sA2, _⟩ := Srt.app.1 sA
    obtain ⟨sB1, sB2, _⟩ := Srt.app.1 sB
    have lA : A.length = A1.length + A2.length := by rw [eA, List.length_append]
    have lB : B.length = B1.length + B2.length := by rw [eB, List.length_append]
    have hfin : ∀ S1 S2, S1.Perm (A1 ++ B1) → Srt cf S1 → S2.Perm (A2 ++ B2) → Srt cf S2 → ∀ M, M = Pr ++ (S1 ++ (S2 ++ Q)) → K (oneOf []) ((70, .mrow 49 16 cap (M.map saR)) :: rest) := fun S1 S2 p1 q1 p2 q2 M hM => by
     have := fin (S1 ++ S2) (by
      refine (p1.append p2).trans ?_
      rw [eA, eB]
      simp only [List.append_assoc]
      refine List.Perm.append_left A1 ?_
      rw [← List.append_assoc, ← List.append_assoc]
      exact List.Perm.append_right B2 List.perm_append_comm) (Srt.app.2 ⟨q1, q2, fun x hx y hy => hcross x (p1.mem_iff.1 hx) y (p2.mem_iff.1 hy)⟩)
     rw [hM]
     rw [List.append_assoc] at this
     exact this
    have eL : L = Pr ++ (A1 ++ (A2 ++ (B1 ++ (B2 ++ Q)))) := by rw [hL, eA, eB]; simp
    have lN : (Pr ++ (A1 ++ (B1 ++ (A2 ++ (B2 ++ Q))))).length = N := by rw [hlen]; simp only [List.length_append]; omega
    have noA : A1.length = 0 → Srt cf (A1 ++ B1) := fun q => by rw [List.eq_nil_of_length_eq_zero q]; exact sB1
    have noB : B1.length = 0 → Srt cf (A1 ++ B1) := fun q => by rw [List.eq_nil_of_length_eq_zero q, List.append_nil]; exact sA1
    have noA2 : A2.length = 0 → Srt cf (A2 ++ B2) := fun q => by rw [List.eq_nil_of_length_eq_zero q]; exact sB2
    have noB2 : B2.length = 0 → Srt cf (A2 ++ B2) := fun q => by rw [List.eq_nil_of_length_eq_zero q, List.append_nil]; exact sA2
    have ih1 := fun {pin : List Nat} {fr : Fr} {K : SV → Hp → Prop} (q1 : 0 < A1.length) (q2 : 0 < B1.length) => ih Pr A1 B1 (A2 ++ (B2 ++ Q)) (by omega) q1 q2 sA1 sB1 (L := Pr ++ (A1 ++ (B1 ++ (A2 ++ (B2 ++ Q))))) rfl (by omega) (n := N) (a := (Pr.length : Nat)) (m := (Pr.length + u : Nat)) (b := (Pr.length + h : Nat)) lN.symm rfl (by omega) (by omega) cap rest (pin := pin) (fr := fr) (K := K)
    have ih2 := fun {pin : List Nat} {fr : Fr} {K : SV → Hp → Prop} (S1 : List SAx) (p1 : S1.Perm (A1 ++ B1)) (q1 : 0 < A2.length) (q2 : 0 < B2.length) => ih (Pr ++ S1) A2 B2 Q (by omega) q1 q2 sA2 sB2 (L := Pr ++ (S1 ++ (A2 ++ (B2 ++ Q)))) (by simp) (by have := p1.length_eq; simp only [List.length_append] at this lN ⊢; omega) (n := N) (a := (Pr.length + h : Nat)) (m := ((Pr.length + h : Nat) : Int) + (Pr.length + A.length : Nat) - (Pr.length + u : Nat)) (b := (Pr.length + A.length + B.length : Nat)) (by have := p1.length_eq; simp only [List.length_append] at this lN ⊢; omega) (by have := p1.length_eq; simp only [List.length_append] at this ⊢; omega) (by have := p1.length_eq; simp only [List.length_append] at this ⊢; omega) (by have := p1.length_eq; simp only [List.length_append] at this ⊢; omega) cap rest (pin := pin) (fr := fr) (K := K)
    have hrot := fun {pin : List Nat} {fr : Fr} {K : SV → Hp → Prop} (q1 : 0 < A2.length) (q2 : 0 < B1.length) => rotate_call (g := g) (Pr ++ A1) A2 B1 (B2 ++ Q) (List.length_pos_iff.1 q1) (List.length_pos_iff.1 q2) (L := L) (by rw [eL]; simp) (by omega) (n := N) (a := (Pr.length + u : Nat)) (m := (Pr.length + A.length : Nat)) (b := ((Pr.length + h : Nat) : Int) + (Pr.length + A.length : Nat) - (Pr.length + u : Nat)) hN.symm (by rw [List.length_append]; omega) (by rw [List.length_append]; omega) (by rw [List.length_append]; omega) cap rest (pin := pin) (fr := fr) (K := K)
    have eRot : (Pr ++ A1) ++ (B1 ++ (A2 ++ (B2 ++ Q))) = Pr ++ (A1 ++ (B1 ++ (A2 ++ (B2 ++ Q)))) := by simp
    rw [eRot] at hrot
    have eNo : ¬ (0 < A2.length ∧ 0 < B1.length) → L = Pr ++ (A1 ++ (B1 ++ (A2 ++ (B2 ++ Q)))) := fun q => by
     rw [eL]
     by_cases q0 : A2.length = 0
     ·rw [List.eq_nil_of_length_eq_zero q0]; simp
     ·rw [List.eq_nil_of_length_eq_zero (show B1.length = 0 by omega)]; simp
    have ih2n := fun {pin : List Nat} {fr : Fr} {K : SV → Hp → Prop} => ih2 (pin := pin) (fr := fr) (K := K) (A1 ++ B1) (.refl _)
    rw [show Pr ++ ((A1 ++ B1) ++ (A2 ++ (B2 ++ Q))) = Pr ++ (A1 ++ (B1 ++ (A2 ++ (B2 ++ Q)))) by simp] at ih2n
    clear eRot hrA hrB hcross fin hI hA hB sA sB ih
    by_cases c1 : 0 < A2.length ∧ 0 < B1.length
    all_goals by_cases c2 : 0 < A1.length ∧ 0 < B1.length
    all_goals by_cases c3 : 0 < A2.length ∧ 0 < B2.length
    all_goals (try rw [eNo c1])
    all_goals ((conv => whnf); repeat' ((first | (intro hq; (try simp only [lnS] at hq); (try rewrite [List.length_map])) | refine sJ ?_ | refine .intro _ (.intro rfl ?_) | (refine .intro (show (_ : Nat) < List.length _ from by first | omega | (simp only [lnS]; omega) | simp) ?_) | (refine hrot c1.1 c1.2 ?_) | (refine ih1 c2.1 c2.2 (fun S1 p1 s1 => ?_)) | (refine ih2 _ p1 c3.1 c3.2 (fun S2 p2 s2 => ?_)) | (refine ih2n c3.1 c3.2 (fun S2 p2 s2 => ?_)) | refine draw_rule hty (by kernel_rfl) (by kernel_rfl) ?_ | ((first | refine brB_dec ?_ ?_ | refine brB_ndec ?_ ?_) <;> intro hb <;> (first | contradiction | ((try simp only [lnS] at hb); try (exfalso; omega)))) | (refine brB_split ?_ ?_ <;> intro hb <;> (first | contradiction | exact bT hb (by assumption) | exact bF hb (by assumption) | skip))) <;> (conv => whnf)))
    all_goals first
     | exact hfin S1 S2 p1 s1 p2 s2 _ (by simp)
     | exact hfin S1 (A2 ++ B2) p1 s1 (.refl _) (by first | exact noA2 (by omega) | exact noB2 (by omega)) _ (by simp)
     | exact hfin (A1 ++ B1) S2 (.refl _) (by first | exact noA (by omega) | exact noB (by omega)) p2 s2 _ (by simp)
     | exact hfin (A1 ++ B1) (A2 ++ B2) (.refl _) (by first | exact noA (by omega) | exact noB (by omega)) (.refl _) (by first | exact noA2 (by omega) | exact noB2 (by omega)) _ (by simp))
end Go.Proofs.YtnemengadjimcaaGreatDoor
namespace Go.Proofs.YtnemengadjimcaaGreatDoor
open Go.Proofs
set_option maxRecDepth 10000
attribute [local irreducible] SemVC CallVC Tri Stuck YVC GenP GenVC
theorem stable_call {g : FuncId} {cf : SAx → SAx → Int} (G : CmpG g cf) (l : List SAx) (hl : l.length ≤ 100000) {n : Nat} {k : Int} (hn : n = l.length) (hk : k = (l.length : Nat)) (cap : Nat) (rest : Hp) {pin : List Nat} {fr : Fr} {K : SV → Hp → Prop}
  (fin : ∀ S, S.Perm l → Srt cf S → K (oneOf []) ((70, .mrow 49 16 cap (S.map saR)) :: rest)) :
  CallVC Tryz.prog pin fr ((70, .mrow 49 16 cap (l.map saR)) :: rest) 111 [.mw 70 16 n, .d (.int .i64 k), .fn g [] []] K := by
 subst hn; subst hk
 generalize hN : l.length = N at *
 refine call_inline hty Tryz.func111 rfl (kp [0, 1, 2, 6, 7, 8, 9, 13, 30, 35, 54]) 500 (by simp [Tryz.f111]) ?_
 ((conv => whnf); repeat ((first | (intro hq; try simp only [lnS] at hq) | refine sI ?_ | refine .intro _ (.intro rfl ?_)); (conv => whnf)))
 refine loop_eq hty (fun y : List SAx × List SAx => ([(0, .mw 70 16 N), (1, .d (.int .i64 (N : Nat))), (2, .fn g [] []), (6, .d (.int .i64 20)), (7, .d (.int .i64 (y.1.length : Nat))), (8, .d (.int .i64 (y.1.length + 20 : Nat)))], (70, .mrow 49 16 cap ((y.1 ++ y.2).map saR)) :: rest)) (fun y => (y.1 ++ y.2).Perm l ∧ (∃ k, y.1.length = k * 20) ∧ Blk cf 20 y.1) (fun y => y.2.length) ([], l) ⟨.refl _, ⟨0, rfl⟩, .nil⟩ (by repeat' (first | exact trivial | exact rfl | exact wkInt (by (try dsimp only); omega) | refine And.intro ?_ ?_)) rfl ?_
 rintro ⟨U, V⟩ ⟨hp, ⟨k, hk⟩, hU⟩
 dsimp only at hp hk hU ⊢
 have hUV : U.length + V.length = N := by have := hp.length_eq; rw [List.length_append] at this; omega
 ((conv => whnf); repeat ((first | (intro hq; try simp only [lnS] at hq) | refine sI ?_ | refine .intro _ (.intro rfl ?_)); (conv => whnf)))
 refine brB_dec (fun h1 => ?_) (fun h1 => ?_)
 ·have hV : 20 ≤ V.length := by omega
  have eV : V = V.take 20 ++ V.drop 20 := (List.take_append_drop _ _).symm
  have l1 : (V.take 20).length = 20 := by rw [List.length_take]; omega
  generalize V.take 20 = A at eV l1
  generalize V.drop 20 = Q at eV
  subst eV
  rw [List.length_append] at hUV hV
  ((conv => whnf); repeat ((first | (intro hq; try simp only [lnS] at hq) | refine sI ?_ | refine .intro _ (.intro rfl ?_)); (conv => whnf)))
  refine insSort_call G U A Q rfl (by simp only [List.length_append]; omega) (by simp only [List.length_append]; omega) (by first | rfl | omega) (by omega) cap rest (fun S hS hs => ?_)
  have lS := hS.length_eq
  ((conv => whnf); repeat ((first | (intro hq; try simp only [lnS] at hq) | refine sI ?_ | refine .intro _ (.intro rfl ?_)); (conv => whnf)))
  refine ⟨(U ++ S, Q), ⟨?_, ⟨k + 1, ?_⟩, hU.app hk hs (by omega)⟩, by dsimp only; rw [List.length_append]; omega, (by repeat' (first | exact trivial | exact rfl | exact wkInt (by (try dsimp only); (try rw [List.length_append]); omega) | refine And.intro ?_ ?_)), ?_⟩
  ·dsimp only
   rw [List.append_assoc]
   exact (List.Perm.append_left U (List.Perm.append_right Q hS)).trans hp
  ·dsimp only
   rw [List.length_append, hk, Nat.add_mul]; omega
  ·dsimp only
   rw [List.append_assoc]
 have hV : V.length < 20 := by omega
 ((conv => whnf); repeat ((first | (intro hq; try simp only [lnS] at hq) | refine sI ?_ | refine .intro _ (.intro rfl ?_)); (conv => whnf)))
 refine insSort_call G U V [] (by simp) (by simp only [List.length_append]; omega) (by simp only [List.length_append]; omega) (by first | rfl | omega) (by omega) cap rest (fun S hS hs => ?_)
 have lS := hS.length_eq
 have hb0 : Blk cf 20 (U ++ S) := hU.app hk hs (by omega)
 have hp0 : (U ++ S).Perm l := (List.Perm.append_left U hS).trans hp
 rw [List.append_nil]
 generalize U ++ S = l1 at hb0 hp0
 clear hU hk hp hS hs lS hV hUV h1
 ((conv => whnf); repeat ((first | (intro hq; try simp only [lnS] at hq) | refine sI ?_ | refine .intro _ (.intro rfl ?_)); (conv => whnf)))
 refine loop_eq hty (fun y : Nat × List SAx => ([(0, .mw 70 16 N), (1, .d (.int .i64 (N : Nat))), (2, .fn g [] []), (6, .d (.int .i64 (y.1 : Nat)))], (70, .mrow 49 16 cap (y.2.map saR)) :: rest)) (fun y => (20 ≤ y.1 ∧ y.1 ≤ 200000) ∧ y.2.Perm l ∧ Blk cf y.1 y.2) (fun y => N - y.1) (20, l1) ⟨by dsimp only; omega, hp0, hb0⟩ (by repeat' (first | exact trivial | exact rfl | exact wkInt (by (try dsimp only); omega) | refine And.intro ?_ ?_)) rfl ?_
 rintro ⟨bs, l2⟩ ⟨⟨hb1, hb2⟩, hp, hB⟩
 dsimp only at hb1 hb2 hp hB ⊢
 have hl2 : l2.length = N := by have := hp.length_eq; omega
 ((conv => whnf); repeat ((first | (intro hq; try simp only [lnS] at hq) | refine sI ?_ | refine .intro _ (.intro rfl ?_)); (conv => whnf)))
 refine brB_dec (fun h1 => ?_) (fun h1 => ?_)
 ·((conv => whnf); repeat ((first | (intro hq; try simp only [lnS] at hq) | refine sI ?_ | refine .intro _ (.intro rfl ?_)); (conv => whnf)))
  refine loop_eq hty (fun y : List SAx × List SAx => ([(0, .mw 70 16 N), (1, .d (.int .i64 (N : Nat))), (2, .fn g [] []), (6, .d (.int .i64 (bs : Nat))), (7, .d (.int .i64 (y.1.length : Nat))), (8, .d (.int .i64 (y.1.length + 2 * bs : Nat)))], (70, .mrow 49 16 cap ((y.1 ++ y.2).map saR)) :: rest)) (fun y => (y.1 ++ y.2).Perm l ∧ (∃ k, y.1.length = k * (2 * bs)) ∧ Blk cf (2 * bs) y.1 ∧ Blk cf bs y.2) (fun y => y.2.length) ([], l2) ⟨hp, ⟨0, by simp⟩, .nil, hB⟩ (by repeat' (first | exact trivial | exact rfl | exact wkInt (by (try dsimp only); (try rw [List.length_nil]); omega) | refine And.intro ?_ ?_)) rfl ?_
  rintro ⟨U, V⟩ ⟨hq, ⟨k, hk⟩, hU, hV⟩
  dsimp only at hq hk hU hV ⊢
  have hUV : U.length + V.length = N := by have := hq.length_eq; rw [List.length_append] at this; omega
  ((conv => whnf); repeat ((first | (intro hq; try simp only [lnS] at hq) | refine sI ?_ | refine .intro _ (.intro rfl ?_)); (conv => whnf)))
  refine brB_dec (fun h2 => ?_) (fun h2 => ?_)
  ·have hVl : 2 * bs ≤ V.length := by omega
   have sA := hV.first
   have sB := hV.rest.first
   have sQ := hV.rest.rest
   have eV : V = V.take bs ++ ((V.drop bs).take bs ++ (V.drop bs).drop bs) := by rw [List.take_append_drop, List.take_append_drop]
   have l1 : (V.take bs).length = bs := by rw [List.length_take]; omega
   have l2 : ((V.drop bs).take bs).length = bs := by rw [List.length_take, List.length_drop]; omega
   generalize V.take bs = A at eV l1 sA
   generalize (V.drop bs).take bs = B at eV l2 sB
   generalize (V.drop bs).drop bs = Q at eV sQ
   subst eV
   simp only [List.length_append] at hUV hVl
   ((conv => whnf); repeat ((first | (intro hq; try simp only [lnS] at hq) | refine sI ?_ | refine .intro _ (.intro rfl ?_)); (conv => whnf)))
   refine symMerge_call G (2 * bs) U A B Q (by omega) (by omega) (by omega) sA sB rfl (by simp only [List.length_append]; omega) (by simp only [List.length_append]; omega) (by first | rfl | omega) (by omega) (by omega) cap rest (fun S hS hs => ?_)
   have lS := hS.length_eq
   rw [List.length_append] at lS
   ((conv => whnf); repeat ((first | (intro hq; try simp only [lnS] at hq) | refine sI ?_ | refine .intro _ (.intro rfl ?_)); (conv => whnf)))
   refine ⟨(U ++ S, Q), ⟨?_, ⟨k + 1, ?_⟩, hU.app hk hs (by omega), sQ⟩, by dsimp only; simp only [List.length_append]; omega, (by repeat' (first | exact trivial | exact rfl | exact wkInt (by (try dsimp only); (try rw [List.length_append]); omega) | refine And.intro ?_ ?_)), ?_⟩
   ·dsimp only
    rw [List.append_assoc]
    refine (List.Perm.append_left U (List.Perm.append_right Q hS)).trans ?_
    rw [List.append_assoc]
    exact hq
   ·dsimp only
    rw [List.length_append, hk, Nat.add_mul]; omega
   ·dsimp only
    rw [List.append_assoc]
  ·have hVl : V.length < 2 * bs := by omega
   ((conv => whnf); repeat ((first | (intro hq; try simp only [lnS] at hq) | refine sI ?_ | refine .intro _ (.intro rfl ?_)); (conv => whnf)))
   refine brB_dec (fun h3 => ?_) (fun h3 => ?_)
   ·have hVb : bs < V.length := by omega
    have sA := hV.first
    have sB := hV.rest.all (by rw [List.length_drop]; omega)
    have eV : V = V.take bs ++ V.drop bs := (List.take_append_drop _ _).symm
    have l1 : (V.take bs).length = bs := by rw [List.length_take]; omega
    have l2 : (V.drop bs).length = V.length - bs := List.length_drop
    generalize V.take bs = A at eV l1 sA
    generalize V.drop bs = B at eV l2 sB
    subst eV
    simp only [List.length_append] at hUV hVl hVb l2
    ((conv => whnf); repeat ((first | (intro hq; try simp only [lnS] at hq) | refine sI ?_ | refine .intro _ (.intro rfl ?_)); (conv => whnf)))
    refine symMerge_call G (2 * bs) U A B [] (by omega) (by omega) (by omega) sA sB (by simp) (by simp only [List.length_append]; omega) (by simp only [List.length_append]; omega) (by first | rfl | omega) (by omega) (by omega) cap rest (fun S hS hs => ?_)
    have lS := hS.length_eq
    rw [List.length_append] at lS
    ((conv => whnf); repeat ((first | (intro hq; try simp only [lnS] at hq) | refine sI ?_ | refine .intro _ (.intro rfl ?_)); (conv => whnf)))
    refine ⟨(2 * bs, U ++ S), ⟨by dsimp only; omega, (List.Perm.append_left U hS).trans hq, hU.app hk hs (by omega)⟩, by dsimp only; omega, (by repeat' (first | exact trivial | exact rfl | exact wkInt (by (try dsimp only); omega) | refine And.intro ?_ ?_)), ?_⟩
    dsimp only
    rw [List.append_nil]
   ·have hVb : V.length ≤ bs := by omega
    ((conv => whnf); repeat ((first | (intro hq; try simp only [lnS] at hq) | refine sI ?_ | refine .intro _ (.intro rfl ?_)); (conv => whnf)))
    refine ⟨(2 * bs, U ++ V), ⟨by dsimp only; omega, hq, hU.app hk (hV.all hVb) (by omega)⟩, by dsimp only; omega, (by repeat' (first | exact trivial | exact rfl | exact wkInt (by (try dsimp only); omega) | refine And.intro ?_ ?_)), rfl⟩
 ·((conv => whnf); repeat ((first | (intro hq; try simp only [lnS] at hq) | refine sI ?_ | refine .intro _ (.intro rfl ?_)); (conv => whnf)))
  exact fin l2 hp (hB.all (by omega))
theorem sortStable_call {g : FuncId} {cf : SAx → SAx → Int} (G : CmpG g cf) (l : List SAx) (hl : l.length ≤ 100000) {n : Nat} (hn : n = l.length) (cap : Nat) (rest : Hp) {pin : List Nat} {fr : Fr} {K : SV → Hp → Prop}
  (fin : ∀ S, S.Perm l → Srt cf S → K (oneOf []) ((70, .mrow 49 16 cap (S.map saR)) :: rest)) :
  CallVC Tryz.prog pin fr ((70, .mrow 49 16 cap (l.map saR)) :: rest) 59 [.mw 70 16 n, .fn g [] []] K := by
 subst hn
 refine call_inline hty Tryz.func59 rfl (kp [0, 1]) 500 (by simp [Tryz.f59]) ?_
 ((conv => whnf); repeat ((first | (intro hq; try simp only [lnS] at hq) | refine sI ?_ | refine .intro _ (.intro rfl ?_)); (conv => whnf)))
 refine stable_call G l hl rfl rfl cap rest (fun S hS hs => ?_)
 ((conv => whnf); repeat ((first | (intro hq; try simp only [lnS] at hq) | refine sI ?_ | refine .intro _ (.intro rfl ?_)); (conv => whnf)))
 exact fin S hS hs
end Go.Proofs.YtnemengadjimcaaGreatDoor
