/-
  Terms: the law of order and vocabulary against the reference, walked.
  Conditions: none.
-/
import Derived.Test.YtkbmlchceiglfaaGreatDoorMDj
import Derived.Test.YtkbmlchceiglfaaGreatDoorMDb
import Derived.Test.YtkbmlchceiglfaaGreatDoorMAu
import Derived.Test.YtkbmlchceiglfaaGreatDoorMBq
namespace Go.Proofs.YtkbmlchceiglfaaGreatDoor
set_option linter.unnecessarySimpa false
set_option linter.unusedSectionVars false
set_option linter.unusedSimpArgs false
set_option linter.unusedVariables false
open Go.Proofs
set_option maxRecDepth 10000
attribute [local irreducible] SemVC CallVC Tri Stuck YVC GenP GenVC

set_option maxHeartbeats 16000000 in
theorem orderSpec_spec (c d : Cn) (l : List Ax) (hl : ∀ x ∈ l, SzAx x) : Tri Tryz.prog 3 [.d (.agg (cnR c)), .d (.agg (cnR d)), .d (.sl 16 (l.map axR))] NG (fun r => r = .d (.bool true)) := by
  have f1 := few_spec c
  have f2 := few_spec d
  have f3 := fewAxioms_spec l 8 hl
  have c1 := fun h1 h2 => Compare_spec c d h1 h2
  have c2 := fun h1 h2 => rCompare_spec c d h1 h2
  simp only [cnR_eq] at f1 f2 c1 c2 ⊢
  refine tri_of_bodyF false [3, 4, 9, 11] hty Tryz.func3 rfl (kp [0, 1, 2, 3, 4, 6, 7, 8, 9, 10, 11, 12, 14, 27, 31, 37, 58]) [] _ _ _ (by simp [Tryz.f3]) (by decide) ?_
  ((conv => whnf); repeat ((first | (intro hq; try simp only [lnS] at hq) | refine sI ?_ | refine Exists.intro _ (And.intro rfl ?_)); (conv => whnf)))
  refine call_tri NG sane_spec ⟨rfl, rfl, trivial⟩ (fun r hs => ?_)
  subst hs
  cases e1 : fewF c <;> cases e2 : fewF d <;> cases e3 : (decide ((l.length : Int) ≤ 8) && l.all fewAx) <;> rw [e1] at f1 <;> rw [e2] at f2 <;> rw [e3] at f3
  case true.true.true =>
    have hl8 : l.length ≤ 8 := by simp at e3; omega
    have hfa : ∀ x ∈ l, fewAx x = true := by
      rw [Bool.and_eq_true] at e3
      exact List.all_eq_true.1 e3.2
    have s1 := fewF_size e1
    have s2 := fewF_size e2
    have c1 := c1 (by omega) (by omega)
    have c2 := c2 (by omega) (by omega)
    have v1 := Vocabulary_spec l (by omega)
    have v2 := rVocabulary_spec l (by omega) (fun x hx => by have := fewAx_bnd (hfa x hx); omega)
    rw [rvocR_eq] at v2
    have sn := sameNames_spec (vocR l).1 (vocR l).1
    clear e1 e2 e3
    ((conv => whnf); repeat' ((first | (intro hq; (try simp only [lnS] at hq); (try rewrite [List.length_map])) | refine sJ ?_ | refine Exists.intro _ (And.intro rfl ?_) | (refine Exists.intro (show (_ : Nat) < List.length _ from by first | omega | (simp only [List.length_cons, List.length_nil]; omega) | simp) ?_) | (refine call_tri [] f1 trivial (fun r hs => ?_); subst hs) | (refine call_tri [] f2 trivial (fun r hs => ?_); subst hs) | (refine call_tri [] f3 trivial (fun r hs => ?_); subst hs) | refine draw_rule hty (by kernel_rfl) (by kernel_rfl) ?_ | ((first | refine brB_dec (fun hb => ?_) (fun hb => ?_) | refine brB_ndec (fun hb => ?_) (fun hb => ?_)) <;> (first | contradiction | ((try simp only [lnS] at hb); (first | (exfalso; omega) | skip)))) | (refine brB_split (fun hb => ?_) (fun hb => ?_) <;> (first | contradiction | exact absurd (hb.symm.trans (by assumption) : false = true) (by decide) | exact absurd (hb.symm.trans (by assumption) : true = false) (by decide) | skip))) <;> (conv => whnf)))
    clear f1 f2 f3
    refine loop_rule hty (fun i : Nat => ([(2, .d (.sl 16 (l.map axR))), (3, .ea 5 [[.int .i64 c.kind, .str c.name, .int .i64 c.lo, .int .i64 c.hi, .sl 5 (c.parts.map cnR)]] 0 0), (4, .ea 5 [[.int .i64 d.kind, .str d.name, .int .i64 d.lo, .int .i64 d.hi, .sl 5 (d.parts.map cnR)]] 0 0), (6, .d (.bool false)), (7, .d (.int .i64 i))], NG)) (fun i => i ≤ l.length) (fun i => l.length - i) 0 (by omega) ⟨by repeat' (first | exact trivial | exact rfl | refine And.intro ?_ ?_), by repeat' (first | exact trivial | exact rfl | refine And.intro ?_ ?_)⟩ ?_
    intro i hi
    ((conv => whnf); repeat ((first | (intro hq; try simp only [lnS] at hq) | refine sI ?_ | refine Exists.intro _ (And.intro rfl ?_)); (conv => whnf)))
    refine brB_dec (fun h1 => ?_) (fun h1 => ?_)
    · have hil : i < l.length := by simp only [List.length_map] at h1; omega
      have hrow : (l.map axR)[(i : Int).toNat]? = some (axR l[i]) := rowC_at hil
      have hbi := fewAx_bnd (hfa _ (List.getElem_mem hil))
      ((conv => whnf); repeat ((first | (intro hq; try simp only [lnS] at hq) | refine sI ?_ | refine Exists.intro _ (And.intro rfl ?_)); (conv => whnf)))
      refine loop_rule hty (fun k : Nat => ([(2, .d (.sl 16 (l.map axR))), (3, .ea 5 [[.int .i64 c.kind, .str c.name, .int .i64 c.lo, .int .i64 c.hi, .sl 5 (c.parts.map cnR)]] 0 0), (4, .ea 5 [[.int .i64 d.kind, .str d.name, .int .i64 d.lo, .int .i64 d.hi, .sl 5 (d.parts.map cnR)]] 0 0), (6, .d (.bool false)), (7, .d (.int .i64 i)), (8, .d (.int .i64 k))], NG)) (fun k => k ≤ l.length) (fun k => l.length - k) 0 (by omega) ⟨by repeat' (first | exact trivial | exact rfl | refine And.intro ?_ ?_), by repeat' (first | exact trivial | exact rfl | refine And.intro ?_ ?_)⟩ ?_
      intro k hk
      ((conv => whnf); repeat ((first | (intro hq; try simp only [lnS] at hq) | refine sI ?_ | refine Exists.intro _ (And.intro rfl ?_)); (conv => whnf)))
      refine brB_dec (fun h2 => ?_) (fun h2 => ?_)
      · have hkl : k < l.length := by simp only [List.length_map] at h2; omega
        have hrow2 : (l.map axR)[(k : Int).toNat]? = some (axR l[k]) := rowC_at hkl
        have hbk := fewAx_bnd (hfa _ (List.getElem_mem hkl))
        have x1 := CompareAxiom_spec l[i] l[k] (by omega) (by omega) (by omega) (by omega) (by omega) (by omega)
        have x2 := rCompareAxiom_spec l[i] l[k] (by omega) (by omega) (by omega) (by omega) (by omega) (by omega)
        generalize l[i] = x at hrow x1 x2
        generalize l[k] = y at hrow2 x1 x2
        generalize cmpAx x y = z at x1 x2
        clear v1 v2 sn c1 c2
        ((conv => whnf); repeat' ((first | (intro hq; (try simp only [lnS] at hq); (try rewrite [List.length_map])) | refine sJ ?_ | refine Exists.intro _ (And.intro rfl ?_) | (refine Exists.intro (show (_ : Nat) < List.length _ from by first | omega | (simp only [List.length_cons, List.length_nil]; omega) | simp) ?_) | (refine ⟨_, hrow, ?_⟩) | (refine ⟨_, hrow2, ?_⟩) | (refine ⟨.d (.int .i64 _), _, [], rfl, trivial, x1, ?_⟩) | (refine ⟨.d (.int .i64 _), _, [], rfl, trivial, x2, ?_⟩) | refine draw_rule hty (by kernel_rfl) (by kernel_rfl) ?_ | ((first | refine brB_dec (fun hb => ?_) (fun hb => ?_) | refine brB_ndec (fun hb => ?_) (fun hb => ?_)) <;> (first | contradiction | ((try simp only [lnS] at hb); (first | (exfalso; omega) | skip)))) | (refine brB_split (fun hb => ?_) (fun hb => ?_) <;> (first | contradiction | exact absurd (hb.symm.trans (by assumption) : false = true) (by decide) | exact absurd (hb.symm.trans (by assumption) : true = false) (by decide) | skip))) <;> (conv => whnf)))
        all_goals first
          | (exfalso; simp_all; done)
          | exact ⟨k + 1, by dsimp only; omega, by dsimp only; omega, ⟨by repeat' (first | exact trivial | exact rfl | refine And.intro ?_ ?_), by repeat' (first | exact trivial | exact rfl | refine And.intro ?_ ?_)⟩⟩
      · ((conv => whnf); repeat' ((first | (intro hq; (try simp only [lnS] at hq); (try rewrite [List.length_map])) | refine sJ ?_ | refine Exists.intro _ (And.intro rfl ?_) | (refine Exists.intro (show (_ : Nat) < List.length _ from by first | omega | (simp only [List.length_cons, List.length_nil]; omega) | simp) ?_) | fail | refine draw_rule hty (by kernel_rfl) (by kernel_rfl) ?_ | ((first | refine brB_dec (fun hb => ?_) (fun hb => ?_) | refine brB_ndec (fun hb => ?_) (fun hb => ?_)) <;> (first | contradiction | ((try simp only [lnS] at hb); (first | (exfalso; omega) | skip)))) | (refine brB_split (fun hb => ?_) (fun hb => ?_) <;> (first | contradiction | exact absurd (hb.symm.trans (by assumption) : false = true) (by decide) | exact absurd (hb.symm.trans (by assumption) : true = false) (by decide) | skip))) <;> (conv => whnf)))
        exact ⟨i + 1, by dsimp only; omega, by dsimp only; omega, ⟨by repeat' (first | exact trivial | exact rfl | refine And.intro ?_ ?_), by repeat' (first | exact trivial | exact rfl | refine And.intro ?_ ?_)⟩⟩
    · clear hfa
      generalize (vocR l).2 = e at *
      generalize (vocR l).1 = V at *
      generalize cmpC c d = z at *
      ((conv => whnf); repeat ((first | (intro hq; try simp only [lnS] at hq) | refine sI ?_ | refine Exists.intro _ (And.intro rfl ?_)); (conv => whnf)))
      refine call_tri NG v1 ⟨rfl, rfl, trivial⟩ (fun r hs => ?_)
      subst hs
      ((conv => whnf); repeat ((first | (intro hq; try simp only [lnS] at hq) | refine sI ?_ | refine Exists.intro _ (And.intro rfl ?_)); (conv => whnf)))
      refine call_tri [] v2 trivial (fun r hs => ?_)
      subst hs
      clear v1 v2
      ((conv => whnf); repeat' ((first | (intro hq; (try simp only [lnS] at hq); (try rewrite [List.length_map])) | refine sJ ?_ | refine Exists.intro _ (And.intro rfl ?_) | (refine Exists.intro (show (_ : Nat) < List.length _ from by first | omega | (simp only [List.length_cons, List.length_nil]; omega) | simp) ?_) | (refine ⟨.d (.int .i64 _), _, [], rfl, trivial, c1, ?_⟩) | (refine ⟨.d (.int .i64 _), _, [], rfl, trivial, c2, ?_⟩) | (refine ⟨.d (.bool _), _, [], rfl, trivial, sn, ?_⟩) | refine draw_rule hty (by kernel_rfl) (by kernel_rfl) ?_ | ((first | refine brB_dec (fun hb => ?_) (fun hb => ?_) | refine brB_ndec (fun hb => ?_) (fun hb => ?_)) <;> (first | contradiction | ((try simp only [lnS] at hb); (first | (exfalso; omega) | skip)))) | (refine brB_split (fun hb => ?_) (fun hb => ?_) <;> (first | contradiction | exact absurd (hb.symm.trans (by assumption) : false = true) (by decide) | exact absurd (hb.symm.trans (by assumption) : true = false) (by decide) | skip))) <;> (conv => whnf)))
      all_goals first
        | rfl
        | (refine bool_eq ?_; simp; done)
        | (exfalso; simp_all; done)
  all_goals clear c1 c2
  all_goals ((conv => whnf); repeat' ((first | (intro hq; (try simp only [lnS] at hq); (try rewrite [List.length_map])) | refine sJ ?_ | refine Exists.intro _ (And.intro rfl ?_) | (refine Exists.intro (show (_ : Nat) < List.length _ from by first | omega | (simp only [List.length_cons, List.length_nil]; omega) | simp) ?_) | (refine call_tri [] f1 trivial (fun r hs => ?_); subst hs) | (refine call_tri [] f2 trivial (fun r hs => ?_); subst hs) | (refine call_tri [] f3 trivial (fun r hs => ?_); subst hs) | refine draw_rule hty (by kernel_rfl) (by kernel_rfl) ?_ | ((first | refine brB_dec (fun hb => ?_) (fun hb => ?_) | refine brB_ndec (fun hb => ?_) (fun hb => ?_)) <;> (first | contradiction | ((try simp only [lnS] at hb); (first | (exfalso; omega) | skip)))) | (refine brB_split (fun hb => ?_) (fun hb => ?_) <;> (first | contradiction | exact absurd (hb.symm.trans (by assumption) : false = true) (by decide) | exact absurd (hb.symm.trans (by assumption) : true = false) (by decide) | skip))) <;> (conv => whnf)))
  all_goals rfl
end Go.Proofs.YtkbmlchceiglfaaGreatDoor
