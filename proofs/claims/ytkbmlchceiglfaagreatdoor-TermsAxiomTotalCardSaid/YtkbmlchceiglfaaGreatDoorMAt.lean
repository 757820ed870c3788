/-
  Terms: the law of the axioms' order, walked.
  Conditions: none.
-/
import Derived.Test.YtkbmlchceiglfaaGreatDoorMAs
import Derived.Test.YtkbmlchceiglfaaGreatDoorMBq
namespace Go.Proofs.YtkbmlchceiglfaaGreatDoor
set_option linter.unnecessarySimpa false
set_option linter.unusedSectionVars false
set_option linter.unusedSimpArgs false
set_option linter.unusedVariables false
open Go.Proofs
set_option maxRecDepth 10000
attribute [local irreducible] SemVC CallVC Tri Stuck YVC GenP GenVC

set_option maxHeartbeats 8000000 in
theorem axiomTotal_spec (a b c : Ax) (ha : SzAx a) (hb : SzAx b) (hc : SzAx c) : Tri Tryz.prog 5 [.d (.agg (axR a)), .d (.agg (axR b)), .d (.agg (axR c))] NG (fun r => r = .d (.bool true)) := by
  have f1 := FewAxiom_spec a ha
  have f2 := FewAxiom_spec b hb
  have f3 := FewAxiom_spec c hc
  have hx := fun (x y : Ax) (p : fewAx x = true) (q : fewAx y = true) => CompareAxiom_spec x y (by have := fewAx_bnd p; omega) (by have := fewAx_bnd p; omega) (by have := fewAx_bnd p; omega) (by have := fewAx_bnd q; omega) (by have := fewAx_bnd q; omega) (by have := fewAx_bnd q; omega)
  refine tri_of_bodyF false [3, 4, 5] hty Tryz.func5 rfl (kp [0, 1, 2, 3, 4, 5, 6, 7, 8, 9, 10, 12, 25, 67]) [] _ _ _ (by simp [Tryz.f5]) (by decide) ?_
  ((conv => whnf); repeat ((first | (intro hq; try simp only [lnS] at hq) | refine sI ?_ | refine Exists.intro _ (And.intro rfl ?_)); (conv => whnf)))
  refine call_tri NG sane_spec ⟨rfl, rfl, trivial⟩ (fun r hs => ?_)
  subst hs
  have htot := axioms_total a b c
  obtain ⟨t1, t2, t3, t4, t5⟩ := htot
  cases e1 : fewAx a <;> cases e2 : fewAx b <;> cases e3 : fewAx c <;> rw [e1] at f1 <;> rw [e2] at f2 <;> rw [e3] at f3
  case true.true.true =>
    have c1 := hx a b e1 e2
    have c2 := hx b c e2 e3
    have c3 := hx a c e1 e3
    have c4 := hx b a e2 e1
    have c5 := hx a { b with isopen := a.isopen } e1 e2
    have c6 := sameAxiom_spec a { b with isopen := a.isopen }
    rw [cmpAx_open] at c5
    rw [← t4] at c6
    clear hx ha hb hc t4
    generalize cmpAx a b = x at *
    generalize cmpAx b c = y at *
    generalize cmpAx a c = z at *
    generalize cmpAx b a = v at *
    ((conv => whnf); repeat' ((first | (intro hq; (try simp only [lnS] at hq); (try rewrite [List.length_map])) | refine sJ ?_ | refine Exists.intro _ (And.intro rfl ?_) | (refine Exists.intro (show (_ : Nat) < List.length _ from by first | omega | (simp only [List.length_cons, List.length_nil]; omega) | simp) ?_) | (refine call_tri [] f1 trivial (fun r hs => ?_); subst hs) | (refine call_tri [] f2 trivial (fun r hs => ?_); subst hs) | (refine call_tri [] f3 trivial (fun r hs => ?_); subst hs) | (refine ⟨.d (.int .i64 _), _, [], rfl, trivial, c1, ?_⟩) | (refine ⟨.d (.int .i64 _), _, [], rfl, trivial, c2, ?_⟩) | (refine ⟨.d (.int .i64 _), _, [], rfl, trivial, c3, ?_⟩) | (refine call_tri [] c4 trivial (fun r hs => ?_); subst hs) | (refine call_tri [] c6 trivial (fun r hs => ?_); subst hs) | (refine call_tri [] c5 trivial (fun r hs => ?_); subst hs) | refine draw_rule hty (by kernel_rfl) (by kernel_rfl) ?_ | ((first | refine brB_dec (fun hb => ?_) (fun hb => ?_) | refine brB_ndec (fun hb => ?_) (fun hb => ?_)) <;> (first | contradiction | ((try simp only [lnS] at hb); (first | (exfalso; omega) | skip)))) | (refine brB_split (fun hb => ?_) (fun hb => ?_) <;> (first | contradiction | exact absurd (hb.symm.trans (by assumption) : false = true) (by decide) | exact absurd (hb.symm.trans (by assumption) : true = false) (by decide) | skip))) <;> (conv => whnf)))
    all_goals clear f1 f2 f3 c1 c2 c3 c4 c5 c6 e1 e2 e3
    all_goals first
      | rfl
      | (refine bool_eq ?_; simp; omega)
      | (refine bool_eq ?_; rw [Bool.eq_iff_iff]; simp; omega)
      | (exfalso; omega)
  all_goals clear hx t1 t2 t3 t4 t5
  all_goals ((conv => whnf); repeat' ((first | (intro hq; (try simp only [lnS] at hq); (try rewrite [List.length_map])) | refine sJ ?_ | refine Exists.intro _ (And.intro rfl ?_) | (refine Exists.intro (show (_ : Nat) < List.length _ from by first | omega | (simp only [List.length_cons, List.length_nil]; omega) | simp) ?_) | (refine call_tri [] f1 trivial (fun r hs => ?_); subst hs) | (refine call_tri [] f2 trivial (fun r hs => ?_); subst hs) | (refine call_tri [] f3 trivial (fun r hs => ?_); subst hs) | refine draw_rule hty (by kernel_rfl) (by kernel_rfl) ?_ | ((first | refine brB_dec (fun hb => ?_) (fun hb => ?_) | refine brB_ndec (fun hb => ?_) (fun hb => ?_)) <;> (first | contradiction | ((try simp only [lnS] at hb); (first | (exfalso; omega) | skip)))) | (refine brB_split (fun hb => ?_) (fun hb => ?_) <;> (first | contradiction | exact absurd (hb.symm.trans (by assumption) : false = true) (by decide) | exact absurd (hb.symm.trans (by assumption) : true = false) (by decide) | skip))) <;> (conv => whnf)))
  all_goals rfl
end Go.Proofs.YtkbmlchceiglfaaGreatDoor
