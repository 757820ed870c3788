/-
  Terms: the reference's CheckAxiom.
  Conditions: none.
-/
import Derived.Test.YtkbmlchceiglfaaGreatDoorMDd
import Derived.Test.YtkbmlchceiglfaaGreatDoorMAu
namespace Go.Proofs.YtkbmlchceiglfaaGreatDoor
set_option linter.unnecessarySimpa false
set_option linter.unusedSectionVars false
set_option linter.unusedSimpArgs false
set_option linter.unusedVariables false
open Go.Proofs
set_option maxRecDepth 10000
attribute [local irreducible] SemVC CallVC Tri Stuck YVC GenP GenVC

theorem kind_out {x : Ax} (h : x.kind < 1 ∨ 9 < x.kind) : axiomE x = 22 := by
  unfold axiomE shapedF
  rw [if_pos h, if_pos rfl]

theorem axiomE_in {x : Ax} (h : 1 ≤ x.kind ∧ x.kind ≤ 9) {u : Use} (hu : useAt x.kind = u) : axiomE x = if shapedU u x = false then 22 else axiomU u x := by
  have hs : shapedF x = shapedU u x := by unfold shapedF; rw [if_neg (by omega), hu]
  unfold axiomE
  rw [hs, hu]

set_option maxHeartbeats 8000000 in
theorem rCheckAxiom_out (x : Ax) (hk : x.kind < 1 ∨ 9 < x.kind) : Tri Tryz.prog 43 [.d (.agg (axR x))] [] (fun r => r = .d (.int .i64 (axiomE x))) := by
  have f := rFields_spec x.kind
  rw [use_out hk] at f
  rw [kind_out hk]
  refine tri_of_bodyF false [1] hty Tryz.func43 rfl (kp [0, 1, 2, 3, 4, 5, 6, 7, 8, 9, 10, 11, 12, 92, 99, 104, 113, 129, 130, 135, 137, 142, 164]) [] _ _ _ (by simp [Tryz.f43]) (by simp) ?_
  ((conv => whnf); repeat' ((first | (intro hq; (try simp only [lnS] at hq); (try rewrite [List.length_map])) | refine sJ ?_ | refine Exists.intro _ (And.intro rfl ?_) | (refine Exists.intro (show (_ : Nat) < List.length _ from by first | omega | (simp only [List.length_cons, List.length_nil]; omega) | simp) ?_) | (refine call_tri [] f trivial (fun r hs => ?_); subst hs) | refine draw_rule hty (by kernel_rfl) (by kernel_rfl) ?_ | ((first | refine brB_dec (fun hb => ?_) (fun hb => ?_) | refine brB_ndec (fun hb => ?_) (fun hb => ?_)) <;> (first | contradiction | ((try simp only [lnS] at hb); (first | (exfalso; omega) | skip)))) | (refine brB_split (fun hb => ?_) (fun hb => ?_) <;> (first | contradiction | exact absurd (hb.symm.trans (by assumption) : false = true) (by decide) | exact absurd (hb.symm.trans (by assumption) : true = false) (by decide) | skip))) <;> (conv => whnf)))
  all_goals first | rfl | (exfalso; omega)

theorem use_cases {k : Int} (h : 1 ≤ k ∧ k ≤ 9) : (useAt k = ⟨true, true, false, false, false, 0, 0⟩ ∧ 1 ≤ k ∧ k ≤ 3) ∨ (useAt k = ⟨false, true, true, false, false, 0, 0⟩ ∧ k = 4) ∨ (useAt k = ⟨false, false, true, false, false, 1, 1⟩ ∧ k = 5) ∨ (useAt k = ⟨false, false, true, false, false, 2, 4⟩ ∧ k = 6) ∨
    (useAt k = ⟨false, false, true, false, false, 0, 0⟩ ∧ k = 7) ∨ (useAt k = ⟨false, true, false, true, false, 0, 0⟩ ∧ k = 8) ∨ (useAt k = ⟨false, false, true, true, true, 0, 0⟩ ∧ k = 9) := by
  have hk : k = 1 ∨ k = 2 ∨ k = 3 ∨ k = 4 ∨ k = 5 ∨ k = 6 ∨ k = 7 ∨ k = 8 ∨ k = 9 := by omega
  rcases hk with rfl | rfl | rfl | rfl | rfl | rfl | rfl | rfl | rfl
  · exact .inl ⟨rfl, by decide⟩
  · exact .inl ⟨rfl, by decide⟩
  · exact .inl ⟨rfl, by decide⟩
  · exact .inr (.inl ⟨rfl, rfl⟩)
  · exact .inr (.inr (.inl ⟨rfl, rfl⟩))
  · exact .inr (.inr (.inr (.inl ⟨rfl, rfl⟩)))
  · exact .inr (.inr (.inr (.inr (.inl ⟨rfl, rfl⟩))))
  · exact .inr (.inr (.inr (.inr (.inr (.inl ⟨rfl, rfl⟩)))))
  · exact .inr (.inr (.inr (.inr (.inr (.inr ⟨rfl, rfl⟩)))))

set_option maxHeartbeats 16000000 in
theorem rCheckAxiom_in (x : Ax) (hin : 1 ≤ x.kind ∧ x.kind ≤ 9) (h1 : sizeF x.left ≤ 1000000) (h2 : sizeF x.right ≤ 1000000) : Tri Tryz.prog 43 [.d (.agg (axR x))] [] (fun r => r = .d (.int .i64 (axiomE x))) := by
  have f := rFields_spec x.kind
  have hT := use_cases hin
  have hE := axiomE_in hin rfl
  rw [hE]
  clear hE
  generalize useAt x.kind = u at *
  have e1 := rEmpty_spec x.left
  have e2 := rEmpty_spec x.right
  have p0 := rPlain_spec x.role
  have q1 := rPerson_spec x.a
  have q2 := rPerson_spec x.b
  have c1 := rCheckConcept_spec x.left h1
  have c2 := rCheckConcept_spec x.right h2
  have b1 := fun h => rBare_spec x.left ((conceptE_iff _).1 h).2.2
  have b2 := fun h => rBare_spec x.right ((conceptE_iff _).1 h).2.2
  rw [cnR_eq] at e1 e2 c1 c2
  simp only [cnR_eq] at b1 b2
  unfold shapedU axiomU namedF bareE
  generalize emptyF x.left = z1 at *
  generalize emptyF x.right = z2 at *
  generalize conceptE x.left = E1 at *
  generalize conceptE x.right = E2 at *
  generalize bareF x.left = B1 at *
  generalize bareF x.right = B2 at *
  generalize plainF x.role = P0 at *
  generalize nameF x.a = Q1 at *
  generalize nameF x.b = Q2 at *
  rcases hT with ⟨rfl, hk⟩ | ⟨rfl, hk⟩ | ⟨rfl, hk⟩ | ⟨rfl, hk⟩ | ⟨rfl, hk⟩ | ⟨rfl, hk⟩ | ⟨rfl, hk⟩
  all_goals (
    refine tri_of_bodyF false [1] hty Tryz.func43 rfl (kp [0, 1, 2, 3, 4, 5, 6, 7, 8, 9, 10, 11, 12, 92, 99, 104, 113, 129, 130, 135, 137, 142, 164]) [] _ _ _ (by simp [Tryz.f43]) (by simp) ?_
    ((conv => whnf); repeat' ((first | (intro hq; (try simp only [lnS] at hq); (try rewrite [List.length_map])) | refine sJ ?_ | refine Exists.intro _ (And.intro rfl ?_) | (refine Exists.intro (show (_ : Nat) < List.length _ from by first | omega | (simp only [List.length_cons, List.length_nil]; omega) | simp) ?_) | (refine call_tri [] f trivial (fun r hs => ?_); subst hs) | (refine call_tri [] e1 trivial (fun r hs => ?_); subst hs) | (refine call_tri [] e2 trivial (fun r hs => ?_); subst hs) | (refine call_tri [] p0 trivial (fun r hs => ?_); subst hs) | (refine call_tri [] q1 trivial (fun r hs => ?_); subst hs) | (refine call_tri [] q2 trivial (fun r hs => ?_); subst hs) | (refine call_tri [] c1 trivial (fun r hs => ?_); subst hs) | (refine call_tri [] c2 trivial (fun r hs => ?_); subst hs) | (refine call_tri [] (b1 (by omega)) trivial (fun r hs => ?_); subst hs) | (refine call_tri [] (b2 (by omega)) trivial (fun r hs => ?_); subst hs) | refine draw_rule hty (by kernel_rfl) (by kernel_rfl) ?_ | ((first | refine brB_dec (fun hb => ?_) (fun hb => ?_) | refine brB_ndec (fun hb => ?_) (fun hb => ?_)) <;> (first | contradiction | ((try simp only [lnS] at hb); (first | (exfalso; omega) | skip)))) | (refine brB_split (fun hb => ?_) (fun hb => ?_) <;> (first | contradiction | exact absurd (hb.symm.trans (by assumption) : false = true) (by decide) | exact absurd (hb.symm.trans (by assumption) : true = false) (by decide) | skip))) <;> (conv => whnf)))
    all_goals try (refine int_eq (Eq.symm ?_); clear f e1 e2 p0 q1 q2 c1 c2 b1 b2; simp [*]; done)
    all_goals try (refine int_eq (Eq.symm ?_); clear f e1 e2 p0 q1 q2 c1 c2 b1 b2; simp_all; done)
    all_goals try (refine int_eq (Eq.symm ?_); clear f e1 e2 p0 q1 q2 c1 c2 b1 b2; simp_all; omega)
    all_goals try (refine int_eq (Eq.symm ?_); clear f e1 e2 p0 q1 q2 c1 c2 b1 b2; generalize x.roles.length = m at *; simp_all; omega)
    clear f e1 e2 p0
    refine loop_rule hty (fun j : Nat => ([(1, .ea 16 [axR x] 0 0), (3, .d (.bool _)), (4, .d (.bool _)), (5, .d (.bool _)), (6, .d (.bool _)), (7, .d (.bool _)), (10, .d (.int .i64 j))], [])) (fun j => j ≤ x.roles.length ∧ x.roles.all plainF = (x.roles.drop j).all plainF) (fun j => x.roles.length - j) 0 ⟨by omega, rfl⟩ ⟨by repeat' (first | exact trivial | exact rfl | exact ⟨rfl, rfl⟩ | refine And.intro ?_ ?_), trivial⟩ ?_
    rintro j ⟨hj, hn⟩
    ((conv => whnf); repeat ((first | (intro hq; try simp only [lnS] at hq) | refine sI ?_ | refine Exists.intro _ (And.intro rfl ?_)); (conv => whnf)))
    refine brB_dec (fun h3 => ?_) (fun h3 => ?_)
    · have hjl : j < x.roles.length := by simp only [List.length_map] at h3; omega
      have hrow : (x.roles.map strR)[(j : Int).toNat]? = some (strR x.roles[j]) := rowC_at hjl
      have hc := rPlain_spec x.roles[j]
      rw [List.drop_eq_getElem_cons hjl, List.all_cons] at hn
      generalize x.roles[j] = s at hrow hc hn
      generalize plainF s = b at hc hn
      ((conv => whnf); repeat' ((first | (intro hq; (try simp only [lnS] at hq); (try rewrite [List.length_map])) | refine sJ ?_ | refine Exists.intro _ (And.intro rfl ?_) | (refine Exists.intro (show (_ : Nat) < List.length _ from by first | omega | (simp only [List.length_cons, List.length_nil]; omega) | simp) ?_) | (refine ⟨_, hrow, ?_⟩) | (refine call_tri [] hc trivial (fun r hs => ?_); subst hs) | refine draw_rule hty (by kernel_rfl) (by kernel_rfl) ?_ | ((first | refine brB_dec (fun hb => ?_) (fun hb => ?_) | refine brB_ndec (fun hb => ?_) (fun hb => ?_)) <;> (first | contradiction | ((try simp only [lnS] at hb); (first | (exfalso; omega) | skip)))) | (refine brB_split (fun hb => ?_) (fun hb => ?_) <;> (first | contradiction | exact absurd (hb.symm.trans (by assumption) : false = true) (by decide) | exact absurd (hb.symm.trans (by assumption) : true = false) (by decide) | skip))) <;> (conv => whnf)))
      · refine int_eq (Eq.symm ?_)
        rw [hn]
        simp_all
      · refine ⟨j + 1, ⟨by omega, ?_⟩, by dsimp only; omega, by repeat' (first | exact trivial | exact rfl | refine And.intro ?_ ?_), trivial⟩
        rw [hn]
        simp_all
    · have hjl : j = x.roles.length := by simp only [List.length_map] at h3; omega
      subst hjl
      rw [List.drop_length, List.all_nil] at hn
      rw [hn]
      clear hn
      ((conv => whnf); repeat' ((first | (intro hq; (try simp only [lnS] at hq); (try rewrite [List.length_map])) | refine sJ ?_ | refine Exists.intro _ (And.intro rfl ?_) | (refine Exists.intro (show (_ : Nat) < List.length _ from by first | omega | (simp only [List.length_cons, List.length_nil]; omega) | simp) ?_) | (refine call_tri [] q1 trivial (fun r hs => ?_); subst hs) | (refine call_tri [] q2 trivial (fun r hs => ?_); subst hs) | (refine call_tri [] c1 trivial (fun r hs => ?_); subst hs) | (refine call_tri [] c2 trivial (fun r hs => ?_); subst hs) | (refine call_tri [] (b1 (by omega)) trivial (fun r hs => ?_); subst hs) | (refine call_tri [] (b2 (by omega)) trivial (fun r hs => ?_); subst hs) | refine draw_rule hty (by kernel_rfl) (by kernel_rfl) ?_ | ((first | refine brB_dec (fun hb => ?_) (fun hb => ?_) | refine brB_ndec (fun hb => ?_) (fun hb => ?_)) <;> (first | contradiction | ((try simp only [lnS] at hb); (first | (exfalso; omega) | skip)))) | (refine brB_split (fun hb => ?_) (fun hb => ?_) <;> (first | contradiction | exact absurd (hb.symm.trans (by assumption) : false = true) (by decide) | exact absurd (hb.symm.trans (by assumption) : true = false) (by decide) | skip))) <;> (conv => whnf)))
      all_goals clear q1 q2 c1 c2 b1 b2
      all_goals first
        | (refine int_eq (Eq.symm ?_); simp_all; done)
        | (exfalso; simp_all; done)
        | (refine int_eq (Eq.symm ?_); rcases (show x.kind = 1 ∨ x.kind = 2 ∨ x.kind = 3 by omega) with h9 | h9 | h9 <;> simp_all; done)
        | (exfalso; omega))

theorem rCheckAxiom_spec (x : Ax) (h1 : sizeF x.left ≤ 1000000) (h2 : sizeF x.right ≤ 1000000) : Tri Tryz.prog 43 [.d (.agg (axR x))] [] (fun r => r = .d (.int .i64 (axiomE x))) := by
  by_cases h : 1 ≤ x.kind ∧ x.kind ≤ 9
  · exact rCheckAxiom_in x h h1 h2
  · exact rCheckAxiom_out x (by omega)
end Go.Proofs.YtkbmlchceiglfaaGreatDoor
