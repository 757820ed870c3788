/-
  The library's sorts, as they lie in this program. Terms: tidy and meet. Terms: Tidy and TidyAxiom.
  Conditions: none.
-/
import Derived.Test.YtnemengadjimcaaGreatDoorMSng
import Derived.Test.YtnemengadjimcaaGreatDoorMTy
import Derived.Test.YtnemengadjimcaaGreatDoorMG2
import Derived.Test.YtnemengadjimcaaGreatDoorMLzp
import Derived.Ground.SlsfProg
import Derived.Ground.NamesProg
set_option linter.unnecessarySimpa false
set_option linter.unusedSectionVars false
set_option linter.unusedSimpArgs false
set_option linter.unusedVariables false
set_option maxHeartbeats 32000000
namespace Go.Proofs.YtnemengadjimcaaGreatDoor
open Go.Proofs Go.Shelf Go.Sort
theorem sortTree_t : Tryz.sortTree_ren.t 24 = 146 := rfl
theorem isAgg_tree : ∀ w, (isAgg (Tryz.sortTree_ren.t 24)).run Tryz.prog w = .ok true w := by
 intro w
 rw [sortTree_t]
 obtain ⟨d, i, z, h⟩ := tiOf_ok (hty 146 _ rfl)
 exact h.run_isAgg w
theorem size_tree : ∀ w, (Go.sizeOf (Tryz.sortTree_ren.t 24)).run Tryz.prog w = .ok 7 w := by
 intro w
 rw [sortTree_t]
 obtain ⟨d, i, z, h⟩ := tiOf_ok (hty 146 _ rfl)
 exact h.run_size w
end Go.Proofs.YtnemengadjimcaaGreatDoor
namespace Go.Proofs.YtnemengadjimcaaGreatDoor
open Go.Proofs
set_option maxRecDepth 10000
theorem Tri.resT {P : Program} {f : FuncId} {qs : List SV} {hp : Hp} {post post' : SV → Prop} (h : Tri P f qs hp post) (hw : ∀ s, post s → post' s ∨ ∃ ss ss', s = .tup ss ∧ WkSL ss ss' ∧ post' (.tup ss')) : Tri P f qs hp post' := by
 unfold Tri at h ⊢
 intro w ρ vs a b c
 refine (h w ρ vs a b c).mono ?_
 rintro e w' ⟨v, S', s, rfl, hp, h1, h2, h3, h4, hr⟩
 rcases hw s hp with hp' | ⟨ss, ss', rfl, hwk, hp'⟩
 ·exact ⟨v, S', _, rfl, hp', h1, h2, h3, h4, hr⟩
 obtain ⟨us, e1, hl, hh⟩ := hr.tup_inv
 obtain ⟨k1, k2⟩ := WkSL_at _ _ hwk
 refine ⟨v, S', _, rfl, hp', h1, h2, h3, h4, ?_⟩
 rw [e1]
 refine .tup _ _ (by omega) fun j q u hq hu => ?_
 obtain ⟨q0, r1, r2⟩ := k2 j q hq
 exact WkS_ok r2 (hh j q0 u r1 hu)
attribute [local irreducible] SemVC CallVC Tri Stuck YVC GenP GenVC
theorem swoC : Go.Sort.SWO (ltOf cmpC) := by
 refine ⟨fun x => ?_, fun x y z h1 h2 => ?_, fun x y z h1 h2 => ?_⟩
 ·simp [ltOf, cmpC_self]
 ·simp only [ltOf, decide_eq_true_eq] at *
  exact (cmpC_t3 x y z).1 h1 h2
 ·simp only [ltOf, decide_eq_false_iff_not] at *
  have a1 := cmpC_anti x y
  have a2 := cmpC_anti y z
  have a3 := cmpC_anti x z
  have t1 := (cmpC_t3 x z y).1
  have t2 := cmpC_t3 x z y
  have t3 := cmpC_t3 z y x
  unfold Cmp3 at t2 t3
  have b1 := cmpC_anti z x
  have b2 := cmpC_anti z y
  omega
theorem meet1_spec (a b : Cn) : Tri Tryz.prog 163 [.d (.agg (grR a)), .d (.agg (grR b))] [] (fun r => r = .d (.bool (eqCb a b))) := by
 have h := compare_spec a b
 rw [grR_eq, grR_eq] at h
 rw [grR_eq, grR_eq]
 refine tri_of_bodyF false [2, 3] hty Tryz.func163 rfl (kp [0, 1, 2, 3, 4]) [] _ _ _ (by simp [Tryz.f163]) (by simp) ?_
 ((conv => whnf); repeat' ((first | (intro hq; (try simp only [lnS] at hq); (try rewrite [List.length_map])) | refine sJ ?_ | refine .intro _ (.intro rfl ?_) | (refine .intro (show (_ : Nat) < List.length _ from by first | omega | (simp only [lnS]; omega) | simp) ?_) | (refine call_tri [] h trivial (fun r hs => ?_); subst hs) | refine draw_rule hty (by kernel_rfl) (by kernel_rfl) ?_ | ((first | refine brB_dec ?_ ?_ | refine brB_ndec ?_ ?_) <;> intro hb <;> (first | contradiction | ((try simp only [lnS] at hb); try (exfalso; omega)))) | (refine brB_split ?_ ?_ <;> intro hb <;> (first | contradiction | exact bT hb (by assumption) | exact bF hb (by assumption) | skip))) <;> (conv => whnf)))
 rfl
structure PairW (c : Cn) (e : Int) (s : SV) : Prop where
 ex : ∃ a, s = .tup [.d a, .d (.int .i64 e)] ∧ (a = .agg (cnR c) ∨ WkD a (.agg (cnR c)))
theorem Tri.pairW {P : Program} {f : FuncId} {qs : List SV} {hp : Hp} {c : Cn} {e : Int} (h : Tri P f qs hp (PairW c e)) : Tri P f qs hp (fun r => r = .tup [.d (.agg (cnR c)), .d (.int .i64 e)]) := by
 refine Tri.resT h ?_
 rintro s ⟨a, rfl, rfl | hw⟩
 ·exact .inl rfl
 ·exact .inr ⟨_, [.d (.agg (cnR c)), .d (.int .i64 e)], rfl, ⟨hw, by exact rfl, trivial⟩, rfl⟩
theorem partsF_top {c : Cn} (h : c.kind = 1) : partsF c = [] := if_pos h
theorem partsF_and {c : Cn} (h : c.kind = 5) : partsF c = c.parts := by rw [partsF, if_neg (by omega), if_pos h]
theorem partsF_else {c : Cn} (h1 : c.kind ≠ 1) (h5 : c.kind ≠ 5) : partsF c = [c] := by rw [partsF, if_neg h1, if_neg h5]
def accF (ps : List Cn) : List Cn := (ps.map tidyC).flatMap fun r => partsF r.1
theorem accF_take {ps : List Cn} {j : Nat} (h : j < ps.length) : accF (ps.take (j + 1)) = accF (ps.take j) ++ partsF (tidyC ps[j]).1 := by
 rw [accF, List.take_succ_eq_append_getElem h, List.map_append, List.flatMap_append]; simp [accF]
theorem accF_le (ps : List Cn) (j : Nat) : sumN (accF (ps.take j)) ≤ sumN ps := by
 have h1 := sumN_flat ((ps.take j).map tidyC)
 rw [← tidyL_map] at h1
 have h2 := tidyL_size (ps.take j)
 have h3 : sumN (ps.take j) ≤ sumN ps := nodesL_take_le ps j
 rw [accF, ← tidyL_map]
 omega
theorem len_sumN (l : List Cn) : l.length ≤ sumN l := len_nodesL l
theorem wkMw {i z a b : Nat} (h : a = b) : Wk (.mw i z a) (.mw i z b) := by subst h; exact rfl
theorem meetF_err {ps : List Cn} {j : Nat} (h : j < ps.length) (hn : ((ps.take j).map tidyC).find? (fun r => decide (r.2 ≠ 0)) = none) (he : ¬ (tidyC ps[j]).2 = 0) : meetF (ps.map tidyC) = (c0, (tidyC ps[j]).2) := by
 have e1 : ps.map tidyC = (ps.take j).map tidyC ++ tidyC ps[j] :: (ps.drop (j + 1)).map tidyC := by
  rw [← List.map_cons (f := tidyC), ← List.drop_eq_getElem_cons h, ← List.map_append, List.take_append_drop]
 have e2 : (ps.map tidyC).find? (fun r => decide (r.2 ≠ 0)) = some (tidyC ps[j]) := by
  rw [e1, List.find?_append, hn, List.find?_cons_of_pos (by simpa using he)]; rfl
 rw [meetF, e2]
theorem none_take {ps : List Cn} {j : Nat} (h : j < ps.length) (hn : ((ps.take j).map tidyC).find? (fun r => decide (r.2 ≠ 0)) = none) (he : (tidyC ps[j]).2 = 0) : ((ps.take (j + 1)).map tidyC).find? (fun r => decide (r.2 ≠ 0)) = none := by
 rw [List.take_succ_eq_append_getElem h, List.map_append, List.find?_append, hn]
 simp [he]
theorem meetF_ok {ps : List Cn} (hn : (ps.map tidyC).find? (fun r => decide (r.2 ≠ 0)) = none) : meetF (ps.map tidyC) = conjS (setC (accF ps)) := by
 rw [meetF, hn]; rfl
theorem zeroW (e : Int) : PairW c0 e (.tup [.d (.agg [.int .i64 0, .str [], .int .i64 0, .int .i64 0, .nil]), .d (.int .i64 e)]) := by
 refine ⟨_, rfl, .inr ?_⟩
 rw [cnR_eq]
 exact ⟨rfl, rfl, rfl, rfl, rfl, trivial⟩
theorem topW : PairW topC 0 (.tup [.d (.agg [.int .i64 1, .str [], .int .i64 0, .int .i64 0, .nil]), .d (.int .i64 0)]) := by
 refine ⟨_, rfl, .inr ?_⟩
 rw [cnR_eq]
 exact ⟨rfl, rfl, rfl, rfl, rfl, trivial⟩
theorem sameW (c : Cn) (e : Int) : PairW c e (.tup [.d (.agg [.int .i64 c.kind, .str c.name, .int .i64 c.lo, .int .i64 c.hi, .sl 5 (c.parts.map cnR)]), .d (.int .i64 e)]) := by
 exact ⟨_, rfl, .inl (by rw [cnR_eq])⟩
theorem find_take {s : List Cn} {i : Nat} (h : i < s.length) (hn : (s.take i).find? (fun t => decide (t.kind = 2)) = none) : (s[i].kind = 2 → s.find? (fun t => decide (t.kind = 2)) = some s[i]) ∧ (¬ s[i].kind = 2 → (s.take (i + 1)).find? (fun t => decide (t.kind = 2)) = none) := by
 have e1 : s = s.take i ++ s[i] :: s.drop (i + 1) := by rw [← List.drop_eq_getElem_cons h, List.take_append_drop]
 refine ⟨fun hk => ?_, fun hk => ?_⟩
 ·have : (s.take i ++ s[i] :: s.drop (i + 1)).find? (fun t => decide (t.kind = 2)) = some s[i] := by
   rw [List.find?_append, hn, List.find?_cons_of_pos (by simpa using hk)]; rfl
  rwa [← e1] at this
 ·rw [List.take_succ_eq_append_getElem h, List.find?_append, hn]
  simp [hk]
theorem conjS_some {s : List Cn} {t : Cn} (h : s.find? (fun t => decide (t.kind = 2)) = some t) : conjS s = (t, 0) := by rw [conjS, h]
theorem conjS_none {s : List Cn} (h : s.find? (fun t => decide (t.kind = 2)) = none) : conjS s = if s.length = 0 then (topC, 0) else if s.length = 1 then (s.headD c0, 0) else if 8 < s.length then (c0, 2) else (.mk 5 [] 0 0 s, 0) := by rw [conjS, h]
theorem meet_spec (ps : List Cn) (hs : sumN ps ≤ 1000000) (ht : ∀ p ∈ ps, Tri Tryz.prog 69 [.d (.agg (cnR p))] [] (fun r => r = .tup [.d (.agg (cnR (tidyC p).1)), .d (.int .i64 (tidyC p).2)])) :
  Tri Tryz.prog 121 [.d (.sl 5 (ps.map cnR))] [] (PairW (meetF (ps.map tidyC)).1 (meetF (ps.map tidyC)).2) := by
 refine tri_of_bodyF false [6, 7, 10, 12, 14] hty Tryz.func121 rfl (kp [0, 2, 3, 4, 6, 7, 8, 10, 12, 14, 15, 16, 17, 18, 27, 31, 37, 39, 42, 43, 44, 45, 59, 60, 61, 62, 68, 72, 77, 85, 91, 92, 93, 94]) [] _ _ _ (by simp [Tryz.f121]) (by simp) ?_
 ((conv => whnf); repeat ((first | (intro hq; try simp only [lnS] at hq) | refine sI ?_ | refine .intro _ (.intro rfl ?_)); (conv => whnf)))
 refine SemVC.mown 4 70 146 7 rfl (fresh_of (by with_unfolding_all exact rfl)) ?_
 refine loop_rule hty (fun y : Nat × Nat => ([(2, .ptr 2 0), (4, .mw 70 7 (accF (ps.take y.1)).length), (15, .d (.sl 5 (ps.map cnR))), (16, .d (.int .i64 ps.length)), (17, .d (.int .i64 y.1))], [(70, .mrow 146 7 y.2 ((accF (ps.take y.1)).map grR)), (2, .cells 47 [.d (.int .i64 0), .d (.str []), .d (.int .i64 0), .d (.int .i64 0), .d .nil])])) (fun y => y.1 ≤ ps.length ∧ ((ps.take y.1).map tidyC).find? (fun r => decide (r.2 ≠ 0)) = none) (fun y => ps.length - y.1) (0, 0) ⟨by dsimp only; omega, rfl⟩ ⟨by repeat' (first | exact trivial | exact rfl | (rw [List.length_map]; exact rfl) | refine And.intro ?_ ?_), ⟨rfl, rfl, trivial⟩⟩ ?_
 rintro ⟨j, cap⟩ ⟨hj, hnone⟩
 dsimp only at hj hnone
 ((conv => whnf); repeat ((first | (intro hq; try simp only [lnS] at hq) | refine sI ?_ | refine .intro _ (.intro rfl ?_)); (conv => whnf)))
 refine brB_dec (fun h1 => ?_) (fun h1 => ?_)
 ·have hjl : j < ps.length := by dsimp only at h1; omega
  have hrow : (ps.map cnR)[(j : Int).toNat]? = some (cnR ps[j]) := rowC_at hjl
  have hi := ht ps[j] (List.getElem_mem hjl)
  have herr := meetF_err hjl hnone
  have hnt := none_take hjl hnone
  have hacc := accF_take hjl
  have hle := accF_le ps (j + 1)
  rw [cnR_eq] at hrow hi
  have hxs : sizeF (tidyC ps[j]).1 ≤ 1000000 := by
   have h3 := tidyC_size ps[j]
   have h4 := sumN_mem (List.getElem_mem hjl)
   omega
  generalize (tidyC ps[j]).1 = x at *
  generalize (tidyC ps[j]).2 = e at *
  rw [cnR_eq x] at hi
  ((conv => whnf); repeat ((first | (refine ⟨_, hrow, ?_⟩) | (refine call_tri [] hi trivial (fun r hs => ?_); subst hs) | (intro hq; try simp only [lnS] at hq) | refine sI ?_ | refine .intro _ (.intro rfl ?_)); (conv => whnf)))
  refine brB_ndec (fun h2 => ?_) (fun h2 => ?_)
  ·((conv => whnf); repeat' ((first | (intro hq; (try simp only [lnS] at hq); (try rewrite [List.length_map])) | refine sJ ?_ | refine .intro _ (.intro rfl ?_) | (refine .intro (show (_ : Nat) < List.length _ from by first | omega | (simp only [lnS]; omega) | simp) ?_) | fail | refine draw_rule hty (by kernel_rfl) (by kernel_rfl) ?_ | ((first | refine brB_dec ?_ ?_ | refine brB_ndec ?_ ?_) <;> intro hb <;> (first | contradiction | ((try simp only [lnS] at hb); try (exfalso; omega)))) | (refine brB_split ?_ ?_ <;> intro hb <;> (first | contradiction | exact bT hb (by assumption) | exact bF hb (by assumption) | skip))) <;> (conv => whnf)))
   rw [herr h2]
   exact zeroW e
  ·have hnt := hnt h2
   rw [hacc, sumN_append] at hle
   have hlacc := len_sumN (accF (ps.take j))
   ((conv => whnf); repeat ((first | (intro hq; try simp only [lnS] at hq) | refine sI ?_ | refine .intro _ (.intro rfl ?_)); (conv => whnf)))
   refine brB_dec (fun h3 => ?_) (fun h3 => ?_)
   ·rw [partsF_top h3, List.append_nil] at hacc
    ((conv => whnf); repeat' ((first | (intro hq; (try simp only [lnS] at hq); (try rewrite [List.length_map])) | refine sJ ?_ | refine .intro _ (.intro rfl ?_) | (refine .intro (show (_ : Nat) < List.length _ from by first | omega | (simp only [lnS]; omega) | simp) ?_) | fail | refine draw_rule hty (by kernel_rfl) (by kernel_rfl) ?_ | ((first | refine brB_dec ?_ ?_ | refine brB_ndec ?_ ?_) <;> intro hb <;> (first | contradiction | ((try simp only [lnS] at hb); try (exfalso; omega)))) | (refine brB_split ?_ ?_ <;> intro hb <;> (first | contradiction | exact bT hb (by assumption) | exact bF hb (by assumption) | skip))) <;> (conv => whnf)))
    exact ⟨(j + 1, cap), ⟨by dsimp only; omega, hnt⟩, by dsimp only; omega, ⟨by dsimp only; rw [hacc]; exact by repeat' (first | exact trivial | exact rfl | refine And.intro ?_ ?_), by dsimp only; rw [hacc]; exact ⟨rfl, rfl, trivial⟩⟩⟩
   ·((conv => whnf); repeat ((first | (intro hq; try simp only [lnS] at hq) | refine sI ?_ | refine .intro _ (.intro rfl ?_)); (conv => whnf)))
    refine brB_dec (fun h5 => ?_) (fun h5 => ?_)
    ·rw [partsF_and h5] at hacc hle
     have hlp := len_sumN x.parts
     generalize accF (ps.take j) = acc at *
     ((conv => whnf); repeat ((first | (intro hq; try simp only [lnS] at hq) | refine sI ?_ | refine .intro _ (.intro rfl ?_)); (conv => whnf)))
     refine loop_rule hty (fun y : Nat × Nat => ([(2, .ptr 2 0), (4, .mw 70 7 (acc.length + y.1)), (15, .d (.sl 5 (ps.map cnR))), (16, .d (.int .i64 ps.length)), (17, .d (.int .i64 j)), (42, .d (.sl 5 (x.parts.map cnR))), (43, .d (.int .i64 x.parts.length)), (44, .d (.int .i64 y.1))], [(70, .mrow 146 7 y.2 ((acc ++ x.parts.take y.1).map grR)), (2, .cells 47 [.d (.int .i64 0), .d (.str []), .d (.int .i64 0), .d (.int .i64 0), .d .nil])])) (fun y => y.1 ≤ x.parts.length) (fun y => x.parts.length - y.1) (0, cap) (by dsimp only; omega) ⟨by repeat' (first | exact trivial | exact rfl | (rw [List.length_map]; exact rfl) | refine And.intro ?_ ?_), ⟨by dsimp only; rw [List.take_zero, List.append_nil]; rfl, rfl, trivial⟩⟩ ?_
     rintro ⟨i, cap2⟩ hi2
     dsimp only at hi2
     ((conv => whnf); repeat ((first | (intro hq; try simp only [lnS] at hq) | refine sI ?_ | refine .intro _ (.intro rfl ?_)); (conv => whnf)))
     refine brB_dec (fun h6 => ?_) (fun h6 => ?_)
     ·have hil : i < x.parts.length := by dsimp only at h6; omega
      have hrow2 : (x.parts.map cnR)[(i : Int).toNat]? = some (cnR x.parts[i]) := rowC_at hil
      have hps := sizeF_part (List.getElem_mem (l := x.parts) hil)
      have hgr := grow_spec x.parts[i] (by omega)
      have hgx := grR_eq x.parts[i]
      rw [cnR_eq] at hrow2 hgr
      rw [grR_eq] at hgr
      have hrl : ((acc ++ x.parts.take i).map grR).length = acc.length + i := by rw [List.length_map, List.length_append, List.length_take]; omega
      have hb63 : ((acc ++ x.parts.take i).map grR).length + 1 ≤ 9223372036854775807 := by rw [hrl]; omega
      have hb48 : (((acc ++ x.parts.take i).map grR).length + 1) * 96 ≤ 140737488355328 := by rw [hrl]; omega
      ((conv => whnf); repeat ((first | (refine ⟨_, hrow2, ?_⟩) | (refine call_tri [] hgr trivial (fun r hs => ?_); subst hs) | (refine And.intro hrl.symm ?_) | (refine And.intro hb63 ?_) | (refine And.intro hb48 ?_) | (intro hq; try simp only [lnS] at hq) | refine sI ?_ | refine .intro _ (.intro rfl ?_)); (conv => whnf)))
      rename_i cap'
      have hrows : (acc ++ x.parts.take (i + 1)).map grR = (acc ++ x.parts.take i).map grR ++ [grX x.parts[i] (sizeF x.parts[i]) x.parts[i].parts] := by
       rw [List.take_succ_eq_append_getElem hil, ← List.append_assoc, List.map_append, List.map_cons, List.map_nil, hgx]
      refine ⟨(i + 1, cap'), by dsimp only; omega, by dsimp only; omega, ⟨?_, ?_⟩⟩
      ·repeat' (first | exact trivial | exact wkMw (by show ((acc ++ x.parts.take i).map grR).length + 1 = _; rw [hrl]; dsimp only; omega) | exact rfl | refine And.intro ?_ ?_)
      ·dsimp only
       rw [hrows]
       exact ⟨rfl, rfl, trivial⟩
     ·have hil : i = x.parts.length := by dsimp only at h6; omega
      subst hil
      rw [List.take_length, ← hacc]
      ((conv => whnf); repeat' ((first | (intro hq; (try simp only [lnS] at hq); (try rewrite [List.length_map])) | refine sJ ?_ | refine .intro _ (.intro rfl ?_) | (refine .intro (show (_ : Nat) < List.length _ from by first | omega | (simp only [lnS]; omega) | simp) ?_) | fail | refine draw_rule hty (by kernel_rfl) (by kernel_rfl) ?_ | ((first | refine brB_dec ?_ ?_ | refine brB_ndec ?_ ?_) <;> intro hb <;> (first | contradiction | ((try simp only [lnS] at hb); try (exfalso; omega)))) | (refine brB_split ?_ ?_ <;> intro hb <;> (first | contradiction | exact bT hb (by assumption) | exact bF hb (by assumption) | skip))) <;> (conv => whnf)))
      refine ⟨(j + 1, cap2), ⟨by dsimp only; omega, hnt⟩, by dsimp only; omega, ⟨?_, ⟨rfl, rfl, trivial⟩⟩⟩
      repeat' (first | exact trivial | exact wkMw (by dsimp only; rw [hacc, List.length_append]) | exact rfl | refine And.intro ?_ ?_)
    ·rw [partsF_else h3 h5] at hacc hle
     rw [sumN_cons] at hle
     have hgr := grow_spec x hxs
     have hgx := grR_eq x
     rw [cnR_eq, hgx] at hgr
     generalize accF (ps.take j) = acc at *
     have hrl : (acc.map grR).length = acc.length := List.length_map ..
     have hb63 : (acc.map grR).length + 1 ≤ 9223372036854775807 := by rw [hrl]; omega
     have hb48 : ((acc.map grR).length + 1) * 96 ≤ 140737488355328 := by rw [hrl]; omega
     ((conv => whnf); repeat ((first | (refine call_tri [] hgr trivial (fun r hs => ?_); subst hs) | (refine And.intro hrl.symm ?_) | (refine And.intro hb63 ?_) | (refine And.intro hb48 ?_) | (intro hq; try simp only [lnS] at hq) | refine sI ?_ | refine .intro _ (.intro rfl ?_)); (conv => whnf)))
     rename_i cap'
     refine ⟨(j + 1, cap'), ⟨by dsimp only; omega, hnt⟩, by dsimp only; omega, ⟨?_, ?_⟩⟩
     ·repeat' (first | exact trivial | exact wkMw (by show (acc.map grR).length + 1 = _; rw [hrl, hacc, List.length_append]; rfl) | exact rfl | refine And.intro ?_ ?_)
     ·dsimp only
      rw [hacc, List.map_append, List.map_cons, List.map_nil, hgx]
      exact ⟨rfl, rfl, trivial⟩
 ·have hjl : j = ps.length := by dsimp only at h1; omega
  subst hjl
  rw [List.take_length] at hnone
  have hacl := len_sumN (accF ps)
  have hle := accF_le ps ps.length
  rw [List.take_length] at hle
  rw [meetF_ok hnone]
  ((conv => whnf); repeat ((first | (intro hq; try simp only [lnS] at hq) | refine sI ?_ | refine .intro _ (.intro rfl ?_)); (conv => whnf)))
  rw [List.take_length]
  refine sortFunc_call Tryz.sortTree (by decide) isAgg_tree size_tree (enters_of Tryz.func123 (by kernel_rfl) rfl) (accF ps) grR cmpC swoC (fun x _ y _ => compare_spec x y) (id := 70) rfl rfl (by omega) (fun l' hp' hs' => ?_)
  ((conv => whnf); repeat ((first | (intro hq; try simp only [lnS] at hq) | refine sI ?_ | refine .intro _ (.intro rfl ?_)); (conv => whnf)))
  have hll := hp'.length_eq
  refine compactFunc_spec 163 (by kernel_rfl) l' (by omega) (fun a _ b _ => meet1_spec a b) cap _ hll.symm [(2, .cells 47 [.d (.int .i64 0), .d (.str []), .d (.int .i64 0), .d (.int .i64 0), .d .nil])] (by simp) (bigF (by with_unfolding_all exact rfl)) (by simp [idsH, HObj.ids, SV.idsL, SV.ids]; omega) rfl (fun o => ⟨rfl, trivial⟩) (fun cap' => ?_)
  have hset : dedF eqCb l' = setC (accF ps) := dedF_sorted hp' hs'
  rw [hset]
  have hsl : (setC (accF ps)).length ≤ 1000000 := by rw [← hset]; have := dedF_len eqCb l'; omega
  generalize setC (accF ps) = s at hsl ⊢
  ((conv => whnf); repeat ((first | (intro hq; try simp only [lnS] at hq) | refine sI ?_ | refine .intro _ (.intro rfl ?_)); (conv => whnf)))
  have hsm : s.length = (s.map grR).length := (List.length_map ..).symm
  refine loop_rule hty (fun i : Nat => ([(2, .ptr 2 0), (4, .mw 170 7 s.length), (59, .mw 170 7 s.length), (60, .d (.int .i64 s.length)), (61, .d (.int .i64 i))], [(170, .mrow 146 7 cap' (s.map grR)), (2, .cells 47 [.d (.int .i64 0), .d (.str []), .d (.int .i64 0), .d (.int .i64 0), .d .nil])])) (fun i => i ≤ s.length ∧ (s.take i).find? (fun t => decide (t.kind = 2)) = none) (fun i => s.length - i) 0 ⟨by omega, rfl⟩ ⟨by repeat' (first | exact trivial | exact rfl | refine And.intro ?_ ?_), ⟨rfl, rfl, trivial⟩⟩ ?_
  rintro i ⟨hi, hin⟩
  ((conv => whnf); repeat ((first | (intro hq; try simp only [lnS] at hq) | refine sI ?_ | refine .intro _ (.intro rfl ?_)); (conv => whnf)))
  refine brB_dec (fun h2 => ?_) (fun h2 => ?_)
  ·have hil : i < s.length := by omega
   have hrow : (s.map grR)[(i : Int).toNat]? = some (grR s[i]) := rowC_at hil
   rw [grR_eq] at hrow
   obtain ⟨hf1, hf2⟩ := find_take hil hin
   ((conv => whnf); repeat ((first | (refine And.intro hsm ?_) | (refine ⟨_, hrow, ?_⟩) | (intro hq; try simp only [lnS] at hq) | refine sI ?_ | refine .intro _ (.intro rfl ?_)); (conv => whnf)))
   refine brB_dec (fun h3 => ?_) (fun h3 => ?_)
   ·((conv => whnf); repeat' ((first | (intro hq; (try simp only [lnS] at hq); (try rewrite [List.length_map])) | refine sJ ?_ | refine .intro _ (.intro rfl ?_) | (refine .intro (show (_ : Nat) < List.length _ from by first | omega | (simp only [lnS]; omega) | simp) ?_) | fail | refine draw_rule hty (by kernel_rfl) (by kernel_rfl) ?_ | ((first | refine brB_dec ?_ ?_ | refine brB_ndec ?_ ?_) <;> intro hb <;> (first | contradiction | ((try simp only [lnS] at hb); try (exfalso; omega)))) | (refine brB_split ?_ ?_ <;> intro hb <;> (first | contradiction | exact bT hb (by assumption) | exact bF hb (by assumption) | skip))) <;> (conv => whnf)))
    rw [conjS_some (hf1 h3)]
    exact sameW _ _
   ·((conv => whnf); repeat' ((first | (intro hq; (try simp only [lnS] at hq); (try rewrite [List.length_map])) | refine sJ ?_ | refine .intro _ (.intro rfl ?_) | (refine .intro (show (_ : Nat) < List.length _ from by first | omega | (simp only [lnS]; omega) | simp) ?_) | fail | refine draw_rule hty (by kernel_rfl) (by kernel_rfl) ?_ | ((first | refine brB_dec ?_ ?_ | refine brB_ndec ?_ ?_) <;> intro hb <;> (first | contradiction | ((try simp only [lnS] at hb); try (exfalso; omega)))) | (refine brB_split ?_ ?_ <;> intro hb <;> (first | contradiction | exact bT hb (by assumption) | exact bF hb (by assumption) | skip))) <;> (conv => whnf)))
    exact ⟨i + 1, ⟨by omega, hf2 h3⟩, by dsimp only; omega, ⟨by repeat' (first | exact trivial | exact rfl | refine And.intro ?_ ?_), ⟨rfl, rfl, trivial⟩⟩⟩
  ·have hil : i = s.length := by omega
   subst hil
   rw [List.take_length] at hin
   rw [conjS_none hin]
   ((conv => whnf); repeat ((first | (intro hq; try simp only [lnS] at hq) | refine sI ?_ | refine .intro _ (.intro rfl ?_)); (conv => whnf)))
   refine brB_dec (fun h3 => ?_) (fun h3 => ?_)
   ·((conv => whnf); repeat' ((first | (intro hq; (try simp only [lnS] at hq); (try rewrite [List.length_map])) | refine sJ ?_ | refine .intro _ (.intro rfl ?_) | (refine .intro (show (_ : Nat) < List.length _ from by first | omega | (simp only [lnS]; omega) | simp) ?_) | fail | refine draw_rule hty (by kernel_rfl) (by kernel_rfl) ?_ | ((first | refine brB_dec ?_ ?_ | refine brB_ndec ?_ ?_) <;> intro hb <;> (first | contradiction | ((try simp only [lnS] at hb); try (exfalso; omega)))) | (refine brB_split ?_ ?_ <;> intro hb <;> (first | contradiction | exact bT hb (by assumption) | exact bF hb (by assumption) | skip))) <;> (conv => whnf)))
    rw [if_pos (by omega)]
    exact topW
   ·((conv => whnf); repeat ((first | (intro hq; try simp only [lnS] at hq) | refine sI ?_ | refine .intro _ (.intro rfl ?_)); (conv => whnf)))
    rw [if_neg (by omega)]
    refine brB_dec (fun h4 => ?_) (fun h4 => ?_)
    ·have hl0 : 0 < s.length := by omega
     have hrow : (s.map grR)[(0 : Int).toNat]? = some (grR s[0]) := rowC_at (i := 0) hl0
     have hhd : s.headD c0 = s[0] := by cases s with | nil => simp at hl0 | cons a r => rfl
     rw [grR_eq] at hrow
     ((conv => whnf); repeat' ((first | (intro hq; (try simp only [lnS] at hq); (try rewrite [List.length_map])) | refine sJ ?_ | refine .intro _ (.intro rfl ?_) | (refine .intro (show (_ : Nat) < List.length _ from by first | omega | (simp only [lnS]; omega) | simp) ?_) | (refine And.intro hsm ?_) | (refine ⟨_, hrow, ?_⟩) | refine draw_rule hty (by kernel_rfl) (by kernel_rfl) ?_ | ((first | refine brB_dec ?_ ?_ | refine brB_ndec ?_ ?_) <;> intro hb <;> (first | contradiction | ((try simp only [lnS] at hb); try (exfalso; omega)))) | (refine brB_split ?_ ?_ <;> intro hb <;> (first | contradiction | exact bT hb (by assumption) | exact bF hb (by assumption) | skip))) <;> (conv => whnf)))
     rw [if_pos (by omega), hhd]
     exact sameW _ _
    ·((conv => whnf); repeat ((first | (intro hq; try simp only [lnS] at hq) | refine sI ?_ | refine .intro _ (.intro rfl ?_)); (conv => whnf)))
     rw [if_neg (by omega)]
     refine brB_dec (fun h5 => ?_) (fun h5 => ?_)
     ·((conv => whnf); repeat' ((first | (intro hq; (try simp only [lnS] at hq); (try rewrite [List.length_map])) | refine sJ ?_ | refine .intro _ (.intro rfl ?_) | (refine .intro (show (_ : Nat) < List.length _ from by first | omega | (simp only [lnS]; omega) | simp) ?_) | fail | refine draw_rule hty (by kernel_rfl) (by kernel_rfl) ?_ | ((first | refine brB_dec ?_ ?_ | refine brB_ndec ?_ ?_) <;> intro hb <;> (first | contradiction | ((try simp only [lnS] at hb); try (exfalso; omega)))) | (refine brB_split ?_ ?_ <;> intro hb <;> (first | contradiction | exact bT hb (by assumption) | exact bF hb (by assumption) | skip))) <;> (conv => whnf)))
      rw [if_pos (by omega)]
      exact zeroW 2
     ·rw [if_neg (by omega)]
      ((conv => whnf); repeat ((first | (intro hq; try simp only [lnS] at hq) | refine sI ?_ | refine .intro _ (.intro rfl ?_)); (conv => whnf)))
      refine SemVC.mownC 2 190 47 47 5 4 rfl rfl (fresh_of (by with_unfolding_all exact rfl)) ?_
      refine loop_rule hty (fun y : Nat × Nat => ([(2, .ptr 2 0), (91, .mw 170 7 s.length), (92, .d (.int .i64 s.length)), (93, .d (.int .i64 y.1))], [(190, .mrow 47 5 y.2 ((s.take y.1).map cnR)), (170, .mrow 146 7 cap' (s.map grR)), (2, .cells 47 [.d (.int .i64 5), .d (.str []), .d (.int .i64 0), .d (.int .i64 0), .mw 190 5 y.1])])) (fun y => y.1 ≤ s.length) (fun y => s.length - y.1) (0, 0) (by dsimp only; omega) ⟨by repeat' (first | exact trivial | exact rfl | refine And.intro ?_ ?_), ⟨rfl, rfl, rfl, trivial⟩⟩ ?_
      rintro ⟨k, cap3⟩ hk
      dsimp only at hk
      ((conv => whnf); repeat ((first | (intro hq; try simp only [lnS] at hq) | refine sI ?_ | refine .intro _ (.intro rfl ?_)); (conv => whnf)))
      refine brB_dec (fun h6 => ?_) (fun h6 => ?_)
      ·have hkl : k < s.length := by dsimp only at h6; omega
       have hrow : (s.map grR)[(k : Int).toNat]? = some (grR s[k]) := rowC_at hkl
       have hcx := cnR_eq s[k]
       rw [grR_eq] at hrow
       have hrl : ((s.take k).map cnR).length = k := by rw [List.length_map, List.length_take]; omega
       have hb63 : ((s.take k).map cnR).length + 1 ≤ 9223372036854775807 := by rw [hrl]; omega
       have hb48 : (((s.take k).map cnR).length + 1) * 64 ≤ 140737488355328 := by rw [hrl]; omega
       ((conv => whnf); repeat ((first | (refine And.intro hsm ?_) | (refine ⟨_, hrow, ?_⟩) | (refine And.intro hrl.symm ?_) | (refine And.intro hb63 ?_) | (refine And.intro hb48 ?_) | (intro hq; try simp only [lnS] at hq) | refine sI ?_ | refine .intro _ (.intro rfl ?_)); (conv => whnf)))
       rename_i cap4
       have hrows : (s.take (k + 1)).map cnR = (s.take k).map cnR ++ [[.int .i64 s[k].kind, .str s[k].name, .int .i64 s[k].lo, .int .i64 s[k].hi, .sl 5 (s[k].parts.map cnR)]] := by
        rw [List.take_succ_eq_append_getElem hkl, List.map_append, List.map_cons, List.map_nil, hcx]
       refine ⟨(k + 1, cap4), by dsimp only; omega, by dsimp only; omega, ⟨by repeat' (first | exact trivial | exact rfl | refine And.intro ?_ ?_), ?_⟩⟩
       dsimp only
       rw [hrows]
       refine ⟨rfl, rfl, ?_, trivial⟩
       have hmw : SV.mw 190 5 (k + 1) = SV.mw 190 5 (((s.take k).map cnR).length + 1) := by rw [hrl]
       rw [hmw]
       rfl
      ·have hkl : k = s.length := by dsimp only at h6; omega
       subst hkl
       rw [List.take_length]
       ((conv => whnf); repeat' ((first | (intro hq; (try simp only [lnS] at hq); (try rewrite [List.length_map])) | refine sJ ?_ | refine .intro _ (.intro rfl ?_) | (refine .intro (show (_ : Nat) < List.length _ from by first | omega | (simp only [lnS]; omega) | simp) ?_) | fail | refine draw_rule hty (by kernel_rfl) (by kernel_rfl) ?_ | ((first | refine brB_dec ?_ ?_ | refine brB_ndec ?_ ?_) <;> intro hb <;> (first | contradiction | ((try simp only [lnS] at hb); try (exfalso; omega)))) | (refine brB_split ?_ ?_ <;> intro hb <;> (first | contradiction | exact bT hb (by assumption) | exact bF hb (by assumption) | skip))) <;> (conv => whnf)))
       refine ⟨(List.length_map ..).symm, ?_⟩
       ((conv => whnf); repeat ((first | (intro hq; try simp only [lnS] at hq) | refine sI ?_ | refine .intro _ (.intro rfl ?_)); (conv => whnf)))
       exact sameW (.mk 5 [] 0 0 s) 0
def okC (c : Cn) : Prop := ∀ x ∈ nodes c, x.kind = 6 → x.parts ≠ []
theorem okC_part {c p : Cn} (h : okC c) (hp : p ∈ c.parts) : okC p := by
 intro x hx
 refine h x ?_
 rw [nodes_eq]
 refine List.mem_cons_of_mem _ ?_
 obtain ⟨a, b, e⟩ := List.append_of_mem hp
 rw [e, nodesL_append, nodesL]
 simp [hx]
theorem tidy_spec : ∀ (c : Cn) (_ : sizeF c ≤ 1000000) (_ : okC c), Tri Tryz.prog 69 [.d (.agg (cnR c))] [] (fun r => r = .tup [.d (.agg (cnR (tidyC c).1)), .d (.int .i64 (tidyC c).2)]) := by
 refine Cn.ind ?_
 intro c ih hs hok
 have ih' : ∀ p ∈ c.parts, Tri Tryz.prog 69 [.d (.agg (cnR p))] [] (fun r => r = .tup [.d (.agg (cnR (tidyC p).1)), .d (.int .i64 (tidyC p).2)]) := fun p hp =>
  ih p hp (by have := sizeF_part hp; omega) (okC_part hok hp)
 have hm := (meet_spec c.parts (by have := sizeF_sum c; omega) ih').pairW
 refine Tri.pairW ?_
 rw [tidyC_eq]
 rw [cnR_eq]
 refine tri_of_bodyF false [1, 4] hty Tryz.func69 rfl (kp [0, 1, 2, 3, 4, 5, 7, 8, 24, 32]) [] _ _ _ (by simp [Tryz.f69]) (by simp) ?_
 ((conv => whnf); repeat ((first | (intro hq; try simp only [lnS] at hq) | refine sI ?_ | refine .intro _ (.intro rfl ?_)); (conv => whnf)))
 refine brB_dec (fun h1 => ?_) (fun h1 => ?_)
 ·rw [if_pos h1]
  have hne : c.parts ≠ [] := hok c (by rw [nodes_eq]; simp) h1
  have hl0 : 0 < c.parts.length := List.length_pos_iff.2 hne
  have hrow : (c.parts.map cnR)[(0 : Int).toNat]? = some (cnR c.parts[0]) := rowC_at (i := 0) hl0
  have hi := ih' c.parts[0] (List.getElem_mem hl0)
  have hsome : someF c.name (c.parts.map tidyC) = if (tidyC c.parts[0]).2 ≠ 0 ∨ (tidyC c.parts[0]).1.kind = 2 then tidyC c.parts[0] else (.mk 6 c.name 0 0 [(tidyC c.parts[0]).1], 0) := by
   have : c.parts.map tidyC = tidyC c.parts[0] :: (c.parts.drop 1).map tidyC := by
    rw [← List.map_cons (f := tidyC), ← List.drop_eq_getElem_cons hl0, List.drop_zero]
   rw [this, someF]
  rw [hsome]
  obtain ⟨r, hr⟩ : ∃ r, r = tidyC c.parts[0] := ⟨_, rfl⟩
  rw [← hr] at hi ⊢
  rw [cnR_eq] at hrow hi
  rw [cnR_eq r.1] at hi
  ((conv => whnf); repeat' ((first | (intro hq; (try simp only [lnS] at hq); (try rewrite [List.length_map])) | refine sJ ?_ | refine .intro _ (.intro rfl ?_) | (refine .intro (show (_ : Nat) < List.length _ from by first | omega | (simp only [lnS]; omega) | simp) ?_) | (refine And.intro (by simpa using hl0) ?_) | (refine ⟨_, hrow, ?_⟩) | (refine call_tri [] hi trivial (fun r hs => ?_); subst hs) | refine draw_rule hty (by kernel_rfl) (by kernel_rfl) ?_ | ((first | refine brB_dec ?_ ?_ | refine brB_ndec ?_ ?_) <;> intro hb <;> (first | contradiction | ((try simp only [lnS] at hb); try (exfalso; omega)))) | (refine brB_split ?_ ?_ <;> intro hb <;> (first | contradiction | exact bT hb (by assumption) | exact bF hb (by assumption) | skip))) <;> (conv => whnf)))
  ·rw [if_pos (.inl hb)]
   exact sameW _ _
  ·rw [if_pos (.inr hb)]
   exact sameW _ _
  ·rename_i hb0
   have hn : ¬ (r.2 ≠ 0 ∨ r.1.kind = 2) := by
    rintro (h | h)
    ·exact h hb0
    ·exact hb h
   rw [if_neg hn]
   have h := sameW (.mk 6 c.name 0 0 [r.1]) 0
   simp only [Cn.kind, Cn.name, Cn.lo, Cn.hi, Cn.parts, List.map_cons, List.map_nil] at h
   rw [cnR_eq r.1] at h
   exact h
 ·rw [if_neg h1]
  ((conv => whnf); repeat ((first | (intro hq; try simp only [lnS] at hq) | refine sI ?_ | refine .intro _ (.intro rfl ?_)); (conv => whnf)))
  refine brB_dec (fun h2 => ?_) (fun h2 => ?_)
  ·rw [if_pos h2]
   rw [cnR_eq (meetF (c.parts.map tidyC)).1] at hm
   ((conv => whnf); repeat' ((first | (intro hq; (try simp only [lnS] at hq); (try rewrite [List.length_map])) | refine sJ ?_ | refine .intro _ (.intro rfl ?_) | (refine .intro (show (_ : Nat) < List.length _ from by first | omega | (simp only [lnS]; omega) | simp) ?_) | (refine call_tri [] hm trivial (fun r hs => ?_); subst hs) | refine draw_rule hty (by kernel_rfl) (by kernel_rfl) ?_ | ((first | refine brB_dec ?_ ?_ | refine brB_ndec ?_ ?_) <;> intro hb <;> (first | contradiction | ((try simp only [lnS] at hb); try (exfalso; omega)))) | (refine brB_split ?_ ?_ <;> intro hb <;> (first | contradiction | exact bT hb (by assumption) | exact bF hb (by assumption) | skip))) <;> (conv => whnf)))
   exact sameW _ _
  ·rw [if_neg h2]
   ((conv => whnf); repeat' ((first | (intro hq; (try simp only [lnS] at hq); (try rewrite [List.length_map])) | refine sJ ?_ | refine .intro _ (.intro rfl ?_) | (refine .intro (show (_ : Nat) < List.length _ from by first | omega | (simp only [lnS]; omega) | simp) ?_) | fail | refine draw_rule hty (by kernel_rfl) (by kernel_rfl) ?_ | ((first | refine brB_dec ?_ ?_ | refine brB_ndec ?_ ?_) <;> intro hb <;> (first | contradiction | ((try simp only [lnS] at hb); try (exfalso; omega)))) | (refine brB_split ?_ ?_ <;> intro hb <;> (first | contradiction | exact bT hb (by assumption) | exact bF hb (by assumption) | skip))) <;> (conv => whnf)))
   exact sameW _ _
end Go.Proofs.YtnemengadjimcaaGreatDoor
namespace Go.Proofs.YtnemengadjimcaaGreatDoor
open Go.Proofs
set_option maxRecDepth 10000
attribute [local irreducible] SemVC CallVC Tri Stuck YVC GenP GenVC
theorem firstE_zero : ∀ {l : List Cn}, firstE l = 0 → ∀ x ∈ l, fieldsE x = 0
 | [], _, x, hx => by simp at hx
 | a :: l, h, x, hx => by
  rw [firstE] at h
  split at h
  ·rename_i h1; exact absurd h h1
  ·rename_i h1
   rcases List.mem_cons.1 hx with rfl | hx
   ·simpa using h1
   ·exact firstE_zero h x hx
mutual
theorem fitsF_size : ∀ (c : Cn) (d n : Int), (fitsF c d n).1 = true → (fitsF c d n).2 = n + (sizeF c : Nat)
 | .mk k s lo hi ps, d, n => by
  have h := fitsL_size ps d (n + 1)
  have e : sizeF (.mk k s lo hi ps) = sumN ps + 1 := sizeF_sum _
  rw [fitsF]
  split
  ·simp
  ·intro h1
   rw [h h1, e]; omega
theorem fitsL_size : ∀ (l : List Cn) (d n : Int), (fitsL l d n).1 = true → (fitsL l d n).2 = n + (sumN l : Nat)
 | [], d, n => by rw [fitsL]; intro _; simp [sumN, nodesL]
 | c :: r, d, n => by
  have h1 := fitsF_size c (d + 1) n
  rw [fitsL]
  split
  ·rename_i hb
   have h2 := fitsL_size r d (fitsF c (d + 1) n).2
   intro h3
   rw [h2 h3, h1 hb, sumN_cons]; omega
  ·simp
end
theorem conceptE_ok {c : Cn} (h : conceptE c = 0) : sizeF c ≤ 64 ∧ okC c ∧ ∀ x ∈ nodes c, fieldsE x = 0 := by
 unfold conceptE at h
 split at h
 ·simp at h
 ·rename_i hf
  have hf : (fitsF c 0 0).1 = true := by simpa using hf
  have h0 := firstE_zero h
  refine ⟨?_, fun x hx hk => ?_, h0⟩
  ·have h1 := fitsF_size c 0 0 hf
   have h2 : (fitsF c 0 0).2 ≤ 64 := by
    have e := fitsF_eq c 0 0
    by_cases h3 : (8 : Int) < 0 ∨ (64 : Int) < 0 + 1
    ·omega
    ·rw [if_neg h3] at e
     rw [e] at hf ⊢
     exact (fitsL_bnd c.parts 0 (0 + 1) (by omega) (by omega)).2.2 hf
   omega
  ·have := h0 x hx
   unfold fieldsE at this
   rw [if_neg (by omega), hk] at this
   unfold fieldsN at this
   rw [show needAt 6 = ⟨1, 1, 1, false⟩ from rfl] at this
   split at this
   ·simp at this
   ·rename_i h1
    intro he
    apply h1
    left
    rw [he]; simp
def a0 : Ax := ⟨0, false, c0, c0, [], [], [], []⟩
def sideF (b : Bool) (c : Cn) : Cn × Int := if b = true then tidyC c else (c, 0)
def tidyU (u : Use) (x : Ax) : Ax × Int :=
 if (sideF u.left x.left).2 ≠ 0 then (a0, (sideF u.left x.left).2)
 else if (sideF u.right x.right).2 ≠ 0 then (a0, (sideF u.right x.right).2)
 else if (x.kind = 2 ∨ x.kind = 3) ∧ 0 < cmpC (sideF u.left x.left).1 (sideF u.right x.right).1 then ({ x with left := (sideF u.right x.right).1, right := (sideF u.left x.left).1 }, 0)
 else ({ x with left := (sideF u.left x.left).1, right := (sideF u.right x.right).1 }, 0)
def tidyA (x : Ax) : Ax × Int := if axiomE x ≠ 0 then (a0, axiomE x) else tidyU (useAt x.kind) x
structure PairA (x : Ax) (e : Int) (s : SV) : Prop where
 ex : ∃ a, s = .tup [.d a, .d (.int .i64 e)] ∧ (a = .agg (axR x) ∨ WkD a (.agg (axR x)))
theorem Tri.pairA {P : Program} {f : FuncId} {qs : List SV} {hp : Hp} {x : Ax} {e : Int} (h : Tri P f qs hp (PairA x e)) : Tri P f qs hp (fun r => r = .tup [.d (.agg (axR x)), .d (.int .i64 e)]) := by
 refine Tri.resT h ?_
 rintro s ⟨a, rfl, rfl | hw⟩
 ·exact .inl rfl
 ·exact .inr ⟨_, [.d (.agg (axR x)), .d (.int .i64 e)], rfl, ⟨hw, by exact rfl, trivial⟩, rfl⟩
theorem zeroA (e : Int) : PairA a0 e (.tup [.d (.agg [.int .i64 0, .bool false, .int .i64 0, .str [], .int .i64 0, .int .i64 0, .nil, .int .i64 0, .str [], .int .i64 0, .int .i64 0, .nil, .nil, .str [], .str [], .str []]), .d (.int .i64 e)]) := by
 refine ⟨_, rfl, .inr ?_⟩
 exact ⟨rfl, rfl, rfl, rfl, rfl, rfl, rfl, rfl, rfl, rfl, rfl, rfl, rfl, rfl, rfl, rfl, trivial⟩
theorem sameA (x : Ax) (e : Int) : PairA x e (.tup [.d (.agg (axR x)), .d (.int .i64 e)]) := ⟨_, rfl, .inl rfl⟩
theorem axiomE_ok {x : Ax} (h : axiomE x = 0) : (1 ≤ x.kind ∧ x.kind ≤ 9) ∧ ((useAt x.kind).left = true → conceptE x.left = 0) ∧ ((useAt x.kind).right = true → conceptE x.right = 0) := by
 unfold axiomE at h
 split at h
 ·simp at h
 ·rename_i hs
  refine ⟨?_, ?_⟩
  ·have hs : shapedF x = true := by simpa using hs
   unfold shapedF at hs
   split at hs
   ·cases hs
   ·omega
  ·unfold axiomU at h
   split at h
   ·simp at h
   ·split at h
    ·rename_i h1; exact absurd h h1.2
    ·split at h
     ·rename_i h1; exact absurd h h1.2
     ·rename_i h1 h2
      exact ⟨fun hu => Decidable.byContradiction fun hn => h1 ⟨hu, hn⟩, fun hu => Decidable.byContradiction fun hn => h2 ⟨hu, hn⟩⟩
theorem TidyAxiom_spec (x : Ax) : Tri Tryz.prog 28 [.d (.agg (axR x))] NG (fun r => r = .tup [.d (.agg (axR (tidyA x).1)), .d (.int .i64 (tidyA x).2)]) := by
 refine Tri.pairA ?_
 have hc := checkAxiom_spec x
 refine tri_of_bodyF false [1, 5] hty Tryz.func28 rfl (kp [0, 1, 2, 3, 4, 5, 9, 18, 27, 31, 40, 58]) [] _ _ _ (by simp [Tryz.f28]) (by decide) ?_
 unfold tidyA
 ((conv => whnf); repeat ((first | (intro hq; try simp only [lnS] at hq) | refine sI ?_ | refine .intro _ (.intro rfl ?_)); (conv => whnf)))
 refine call_tri NG hc ⟨rfl, rfl, trivial⟩ (fun r hs => ?_)
 subst hs
 ((conv => whnf); repeat ((first | (intro hq; try simp only [lnS] at hq) | refine sI ?_ | refine .intro _ (.intro rfl ?_)); (conv => whnf)))
 refine brB_ndec (fun h1 => ?_) (fun h1 => ?_)
 ·rw [if_pos h1]
  ((conv => whnf); repeat' ((first | (intro hq; (try simp only [lnS] at hq); (try rewrite [List.length_map])) | refine sJ ?_ | refine .intro _ (.intro rfl ?_) | (refine .intro (show (_ : Nat) < List.length _ from by first | omega | (simp only [lnS]; omega) | simp) ?_) | fail | refine draw_rule hty (by kernel_rfl) (by kernel_rfl) ?_ | ((first | refine brB_dec ?_ ?_ | refine brB_ndec ?_ ?_) <;> intro hb <;> (first | contradiction | ((try simp only [lnS] at hb); try (exfalso; omega)))) | (refine brB_split ?_ ?_ <;> intro hb <;> (first | contradiction | exact bT hb (by assumption) | exact bF hb (by assumption) | skip))) <;> (conv => whnf)))
  exact zeroA _
 ·rw [if_neg (by simpa using h1)]
  obtain ⟨hk, hl, hr⟩ := axiomE_ok h1
  have hrow := use_row (k := x.kind) hk
  have hcmp : (x.kind = 2 ∨ x.kind = 3) → (useAt x.kind).left = true ∧ (useAt x.kind).right = true := by
   rintro (h | h) <;> rw [h] <;> exact ⟨rfl, rfl⟩
  generalize useAt x.kind = u at *
  have tl : u.left = true → _ := fun h => tidy_spec x.left (by have := (conceptE_ok (hl h)).1; omega) (conceptE_ok (hl h)).2.1
  have tr : u.right = true → _ := fun h => tidy_spec x.right (by have := (conceptE_ok (hr h)).1; omega) (conceptE_ok (hr h)).2.1
  rw [cnR_eq, cnR_eq (tidyC x.left).1] at tl
  rw [cnR_eq, cnR_eq (tidyC x.right).1] at tr
  ((conv => whnf); repeat ((first | (refine index_glob (id := 91) hty rfl rfl rfl rfl rfl rfl rfl (by omega) (by omega) ?_) | (refine ⟨_, hrow, ?_⟩) | (intro hq; try simp only [lnS] at hq) | refine sI ?_ | refine .intro _ (.intro rfl ?_)); (conv => whnf)))
  have hU : ∀ (L R : Cn) (e f : Int), sideF u.left x.left = (L, e) → sideF u.right x.right = (R, f) → tidyU u x = if e ≠ 0 then (a0, e) else if f ≠ 0 then (a0, f) else if (x.kind = 2 ∨ x.kind = 3) ∧ 0 < cmpC L R then ({ x with left := R, right := L }, 0) else ({ x with left := L, right := R }, 0) := by
   intro L R e f h1 h2
   unfold tidyU
   rw [h1, h2]
  cases hul : u.left
  ·have hn : ¬ x.kind = 2 ∧ ¬ x.kind = 3 := ⟨fun h => by simp [hul] at hcmp; exact hcmp.1 h, fun h => by simp [hul] at hcmp; exact hcmp.2 h⟩
   have e1 : sideF u.left x.left = (x.left, 0) := by rw [hul]; rfl
   obtain ⟨hn2, hn3⟩ := hn
   ((conv => whnf); repeat ((first | (intro hq; try simp only [lnS] at hq) | refine sI ?_ | refine .intro _ (.intro rfl ?_)); (conv => whnf)))
   cases hur : u.right
   ·have e2 : sideF u.right x.right = (x.right, 0) := by rw [hur]; rfl
    rw [hU _ _ _ _ e1 e2, if_neg (by simp), if_neg (by simp), if_neg (by omega)]
    ((conv => whnf); repeat' ((first | (intro hq; (try simp only [lnS] at hq); (try rewrite [List.length_map])) | refine sJ ?_ | refine .intro _ (.intro rfl ?_) | (refine .intro (show (_ : Nat) < List.length _ from by first | omega | (simp only [lnS]; omega) | simp) ?_) | fail | refine draw_rule hty (by kernel_rfl) (by kernel_rfl) ?_ | ((first | refine brB_dec ?_ ?_ | refine brB_ndec ?_ ?_) <;> intro hb <;> (first | contradiction | ((try simp only [lnS] at hb); try (exfalso; omega)))) | (refine brB_split ?_ ?_ <;> intro hb <;> (first | contradiction | exact bT hb (by assumption) | exact bF hb (by assumption) | skip))) <;> (conv => whnf)))
    exact sameA _ _
   ·have e2 : sideF u.right x.right = ((tidyC x.right).1, (tidyC x.right).2) := by rw [hur]; rfl
    rw [hU _ _ _ _ e1 e2, if_neg (by simp)]
    have hi := tr hur
    generalize (tidyC x.right).1 = R at *
    generalize (tidyC x.right).2 = f at *
    ((conv => whnf); repeat ((first | (refine call_tri [] hi trivial (fun r hs => ?_); subst hs) | (intro hq; try simp only [lnS] at hq) | refine sI ?_ | refine .intro _ (.intro rfl ?_)); (conv => whnf)))
    refine brB_ndec (fun h2 => ?_) (fun h2 => ?_)
    ·((conv => whnf); repeat' ((first | (intro hq; (try simp only [lnS] at hq); (try rewrite [List.length_map])) | refine sJ ?_ | refine .intro _ (.intro rfl ?_) | (refine .intro (show (_ : Nat) < List.length _ from by first | omega | (simp only [lnS]; omega) | simp) ?_) | fail | refine draw_rule hty (by kernel_rfl) (by kernel_rfl) ?_ | ((first | refine brB_dec ?_ ?_ | refine brB_ndec ?_ ?_) <;> intro hb <;> (first | contradiction | ((try simp only [lnS] at hb); try (exfalso; omega)))) | (refine brB_split ?_ ?_ <;> intro hb <;> (first | contradiction | exact bT hb (by assumption) | exact bF hb (by assumption) | skip))) <;> (conv => whnf)))
     rw [if_pos h2]
     exact zeroA _
    ·rw [if_neg (by simpa using h2), if_neg (by omega)]
     ((conv => whnf); repeat' ((first | (intro hq; (try simp only [lnS] at hq); (try rewrite [List.length_map])) | refine sJ ?_ | refine .intro _ (.intro rfl ?_) | (refine .intro (show (_ : Nat) < List.length _ from by first | omega | (simp only [lnS]; omega) | simp) ?_) | fail | refine draw_rule hty (by kernel_rfl) (by kernel_rfl) ?_ | ((first | refine brB_dec ?_ ?_ | refine brB_ndec ?_ ?_) <;> intro hb <;> (first | contradiction | ((try simp only [lnS] at hb); try (exfalso; omega)))) | (refine brB_split ?_ ?_ <;> intro hb <;> (first | contradiction | exact bT hb (by assumption) | exact bF hb (by assumption) | skip))) <;> (conv => whnf)))
     exact sameA { x with right := R } 0
  ·have e1 : sideF u.left x.left = ((tidyC x.left).1, (tidyC x.left).2) := by rw [hul]; rfl
   have hi := tl hul
   have hs1 : sizeF (tidyC x.left).1 ≤ 1000000 := by
    have h3 := tidyC_size x.left
    have h4 := (conceptE_ok (hl hul)).1
    omega
   ((conv => whnf); repeat ((first | (refine call_tri [] hi trivial (fun r hs => ?_); subst hs) | (intro hq; try simp only [lnS] at hq) | refine sI ?_ | refine .intro _ (.intro rfl ?_)); (conv => whnf)))
   generalize (tidyC x.left).1 = L at *
   generalize (tidyC x.left).2 = e at *
   refine brB_ndec (fun h2 => ?_) (fun h2 => ?_)
   ·have hUe : tidyU u x = (a0, e) := by
     unfold tidyU
     rw [e1, if_pos h2]
    rw [hUe]
    ((conv => whnf); repeat' ((first | (intro hq; (try simp only [lnS] at hq); (try rewrite [List.length_map])) | refine sJ ?_ | refine .intro _ (.intro rfl ?_) | (refine .intro (show (_ : Nat) < List.length _ from by first | omega | (simp only [lnS]; omega) | simp) ?_) | fail | refine draw_rule hty (by kernel_rfl) (by kernel_rfl) ?_ | ((first | refine brB_dec ?_ ?_ | refine brB_ndec ?_ ?_) <;> intro hb <;> (first | contradiction | ((try simp only [lnS] at hb); try (exfalso; omega)))) | (refine brB_split ?_ ?_ <;> intro hb <;> (first | contradiction | exact bT hb (by assumption) | exact bF hb (by assumption) | skip))) <;> (conv => whnf)))
    exact zeroA _
   ·((conv => whnf); repeat ((first | (intro hq; try simp only [lnS] at hq) | refine sI ?_ | refine .intro _ (.intro rfl ?_)); (conv => whnf)))
    cases hur : u.right
    ·have hn : ¬ x.kind = 2 ∧ ¬ x.kind = 3 := ⟨fun h => by simp [hur] at hcmp; exact hcmp.1 h, fun h => by simp [hur] at hcmp; exact hcmp.2 h⟩
     obtain ⟨hn2, hn3⟩ := hn
     have e2 : sideF u.right x.right = (x.right, 0) := by rw [hur]; rfl
     rw [hU _ _ _ _ e1 e2, if_neg (by simpa using h2), if_neg (by simp), if_neg (by omega)]
     ((conv => whnf); repeat' ((first | (intro hq; (try simp only [lnS] at hq); (try rewrite [List.length_map])) | refine sJ ?_ | refine .intro _ (.intro rfl ?_) | (refine .intro (show (_ : Nat) < List.length _ from by first | omega | (simp only [lnS]; omega) | simp) ?_) | fail | refine draw_rule hty (by kernel_rfl) (by kernel_rfl) ?_ | ((first | refine brB_dec ?_ ?_ | refine brB_ndec ?_ ?_) <;> intro hb <;> (first | contradiction | ((try simp only [lnS] at hb); try (exfalso; omega)))) | (refine brB_split ?_ ?_ <;> intro hb <;> (first | contradiction | exact bT hb (by assumption) | exact bF hb (by assumption) | skip))) <;> (conv => whnf)))
     exact sameA { x with left := L } 0
    ·have e2 : sideF u.right x.right = ((tidyC x.right).1, (tidyC x.right).2) := by rw [hur]; rfl
     rw [hU _ _ _ _ e1 e2, if_neg (by simpa using h2)]
     have hj := tr hur
     have hs2 : sizeF (tidyC x.right).1 ≤ 1000000 := by
      have h3 := tidyC_size x.right
      have h4 := (conceptE_ok (hr hur)).1
      omega
     generalize (tidyC x.right).1 = R at *
     generalize (tidyC x.right).2 = f at *
     ((conv => whnf); repeat ((first | (refine call_tri [] hj trivial (fun r hs => ?_); subst hs) | (intro hq; try simp only [lnS] at hq) | refine sI ?_ | refine .intro _ (.intro rfl ?_)); (conv => whnf)))
     refine brB_ndec (fun h3 => ?_) (fun h3 => ?_)
     ·((conv => whnf); repeat' ((first | (intro hq; (try simp only [lnS] at hq); (try rewrite [List.length_map])) | refine sJ ?_ | refine .intro _ (.intro rfl ?_) | (refine .intro (show (_ : Nat) < List.length _ from by first | omega | (simp only [lnS]; omega) | simp) ?_) | fail | refine draw_rule hty (by kernel_rfl) (by kernel_rfl) ?_ | ((first | refine brB_dec ?_ ?_ | refine brB_ndec ?_ ?_) <;> intro hb <;> (first | contradiction | ((try simp only [lnS] at hb); try (exfalso; omega)))) | (refine brB_split ?_ ?_ <;> intro hb <;> (first | contradiction | exact bT hb (by assumption) | exact bF hb (by assumption) | skip))) <;> (conv => whnf)))
      rw [if_pos h3]
      exact zeroA _
     ·rw [if_neg (by simpa using h3)]
      have hcs := Compare_spec L R hs1 hs2
      rw [cnR_eq, cnR_eq] at hcs
      ((conv => whnf); repeat' ((first | (intro hq; (try simp only [lnS] at hq); (try rewrite [List.length_map])) | refine sJ ?_ | refine .intro _ (.intro rfl ?_) | (refine .intro (show (_ : Nat) < List.length _ from by first | omega | (simp only [lnS]; omega) | simp) ?_) | (refine call_tri [] hcs trivial (fun r hs => ?_); subst hs) | refine draw_rule hty (by kernel_rfl) (by kernel_rfl) ?_ | ((first | refine brB_dec ?_ ?_ | refine brB_ndec ?_ ?_) <;> intro hb <;> (first | contradiction | ((try simp only [lnS] at hb); try (exfalso; omega)))) | (refine brB_split ?_ ?_ <;> intro hb <;> (first | contradiction | exact bT hb (by assumption) | exact bF hb (by assumption) | skip))) <;> (conv => whnf)))
      all_goals first
       | (rw [if_pos ⟨by omega, by assumption⟩]; exact sameA { x with left := R, right := L } 0)
       | (rw [if_neg (by omega)]; exact sameA { x with left := L, right := R } 0)
end Go.Proofs.YtnemengadjimcaaGreatDoor
