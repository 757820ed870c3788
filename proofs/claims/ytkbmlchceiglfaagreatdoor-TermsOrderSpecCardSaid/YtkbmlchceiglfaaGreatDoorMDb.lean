/-
  Terms: the reference's Weight and CompareAxiom.
  Conditions: none.
-/
import Derived.Test.YtkbmlchceiglfaaGreatDoorMGr
import Derived.Test.YtkbmlchceiglfaaGreatDoorMAk
namespace Go.Proofs.YtkbmlchceiglfaaGreatDoor
set_option linter.unnecessarySimpa false
set_option linter.unusedSectionVars false
set_option linter.unusedSimpArgs false
set_option linter.unusedVariables false
open Go.Proofs
set_option maxRecDepth 10000
attribute [local irreducible] SemVC CallVC Tri Stuck YVC GenP GenVC

set_option maxHeartbeats 4000000 in
theorem rWeight_spec (x : Ax) (h1 : sizeF x.left ≤ 1000000) (h2 : sizeF x.right ≤ 1000000) (h3 : x.roles.length ≤ 1000000) : Tri Tryz.prog 38 [.d (.agg (axR x))] [] (fun r => r = .d (.int .i64 (weightF x))) := by
  have s1 := rSize_spec x.left h1
  have s2 := rSize_spec x.right h2
  rw [cnR_eq] at s1 s2
  have hw : weightF x = (x.roles.length : Int) + kindW x.left + kindW x.right + strW x.role + strW x.a + strW x.b := by
    unfold weightF; simp only [sumK, sumS]; omega
  rw [hw, kindW, kindW, strW, strW, strW]
  clear hw
  generalize sizeF x.left = m1 at *
  generalize sizeF x.right = m2 at *
  refine tri_of_bodyF false [1] hty Tryz.func38 rfl (kp [0, 1, 2, 3, 10, 19, 27, 32, 37]) [] _ _ _ (by simp [Tryz.f38]) (by simp) ?_
  ((conv => whnf); repeat' ((first | (intro hq; (try simp only [lnS] at hq); (try rewrite [List.length_map])) | refine sJ ?_ | refine Exists.intro _ (And.intro rfl ?_) | (refine Exists.intro (show (_ : Nat) < List.length _ from by first | omega | (simp only [List.length_cons, List.length_nil]; omega) | simp) ?_) | (refine call_tri [] s1 trivial (fun r hs => ?_); subst hs) | (refine call_tri [] s2 trivial (fun r hs => ?_); subst hs) | refine draw_rule hty (by kernel_rfl) (by kernel_rfl) ?_ | ((first | refine brB_dec (fun hb => ?_) (fun hb => ?_) | refine brB_ndec (fun hb => ?_) (fun hb => ?_)) <;> (first | contradiction | ((try simp only [lnS] at hb); (first | (exfalso; omega) | skip)))) | (refine brB_split (fun hb => ?_) (fun hb => ?_) <;> (first | contradiction | exact absurd (hb.symm.trans (by assumption) : false = true) (by decide) | exact absurd (hb.symm.trans (by assumption) : true = false) (by decide) | skip))) <;> (conv => whnf)))
  all_goals (refine int_eq ?_; simp_all <;> omega)

theorem cmpAx_or (x y : Ax) : cmpAx x y = orF [cmpI (weightF x) (weightF y), cmpI x.kind y.kind, cmpC x.left y.left, cmpC x.right y.right, cmpSL x.roles y.roles, cmpB x.role y.role, cmpB x.a y.a, cmpB x.b y.b] := by
  unfold cmpAx axHead axTail
  simp only [orF]
  repeat' split
  all_goals first | rfl | omega

theorem orF_lex (a s : Int) (r : List Int) : orF (a :: s :: r) = orF ((if a ≠ 0 then a else s) :: r) := by
  by_cases h : a = 0 <;> simp [orF, h]

theorem cmpSL_end {l m : List (List UInt8)} {j : Nat} (h1 : j ≤ l.length) (h2 : j ≤ m.length) (h : ¬ (j < l.length ∧ j < m.length)) : cmpSL (l.drop j) (m.drop j) = cmpI l.length m.length := by
  unfold cmpI
  by_cases hl : j < l.length
  · have hm : m.drop j = [] := List.drop_eq_nil_of_le (by omega)
    rw [List.drop_eq_getElem_cons hl, hm, cmpSL, if_neg (by omega), if_pos (by omega)]
  · have hm : l.drop j = [] := List.drop_eq_nil_of_le (by omega)
    rw [hm]
    by_cases hm : j < m.length
    · rw [List.drop_eq_getElem_cons hm, cmpSL, if_pos (by omega)]
    · rw [show m.drop j = [] from List.drop_eq_nil_of_le (by omega), cmpSL, if_neg (by omega), if_neg (by omega)]

set_option maxHeartbeats 8000000 in
theorem rCompareAxiom_spec (x y : Ax) (h1 : sizeF x.left ≤ 1000000) (h2 : sizeF x.right ≤ 1000000) (h3 : x.roles.length ≤ 1000000) (h4 : sizeF y.left ≤ 1000000) (h5 : sizeF y.right ≤ 1000000) (h6 : y.roles.length ≤ 1000000) :
    Tri Tryz.prog 11 [.d (.agg (axR x)), .d (.agg (axR y))] [] (fun r => r = .d (.int .i64 (cmpAx x y))) := by
  have w1 := rWeight_spec x h1 h2 h3
  have w2 := rWeight_spec y h4 h5 h6
  have o0 := rOrder_spec (weightF x) (weightF y)
  have o1 := rOrder_spec x.kind y.kind
  have o2 := rCompare_spec x.left y.left h1 h4
  have o3 := rCompare_spec x.right y.right h2 h5
  have o5 := rOrder_spec x.roles.length y.roles.length
  have o6 := rStrings_spec x.role y.role
  have o7 := rStrings_spec x.a y.a
  have o8 := rStrings_spec x.b y.b
  rw [cnR_eq, cnR_eq] at o2 o3
  rw [cmpAx_or]
  generalize cmpI (weightF x) (weightF y) = n0 at o0 ⊢
  generalize cmpI x.kind y.kind = n1 at o1 ⊢
  generalize cmpC x.left y.left = n2 at o2 ⊢
  generalize cmpC x.right y.right = n3 at o3 ⊢
  generalize cmpB x.role y.role = n6 at o6 ⊢
  generalize cmpB x.a y.a = n7 at o7 ⊢
  generalize cmpB x.b y.b = n8 at o8 ⊢
  refine tri_of_bodyF false [2, 3] hty Tryz.func11 rfl (kp [0, 1, 2, 3, 4, 5, 6, 13, 20, 27, 48, 63, 72, 79, 86]) [] _ _ _ (by simp [Tryz.f11]) (by simp) ?_
  ((conv => whnf); repeat' ((first | (intro hq; (try simp only [lnS] at hq); (try rewrite [List.length_map])) | refine sJ ?_ | refine Exists.intro _ (And.intro rfl ?_) | (refine Exists.intro (show (_ : Nat) < List.length _ from by first | omega | (simp only [List.length_cons, List.length_nil]; omega) | simp) ?_) | (refine ⟨.d (.int .i64 _), _, [], rfl, trivial, w1, ?_⟩) | (refine ⟨.d (.int .i64 _), _, [], rfl, trivial, w2, ?_⟩) | (refine ⟨.d (.int .i64 _), _, [], rfl, trivial, o0, ?_⟩) | (refine call_tri [] o1 trivial (fun r hs => ?_); subst hs) | (refine call_tri [] o2 trivial (fun r hs => ?_); subst hs) | (refine call_tri [] o3 trivial (fun r hs => ?_); subst hs) | refine draw_rule hty (by kernel_rfl) (by kernel_rfl) ?_ | ((first | refine brB_dec (fun hb => ?_) (fun hb => ?_) | refine brB_ndec (fun hb => ?_) (fun hb => ?_)) <;> (first | contradiction | ((try simp only [lnS] at hb); (first | (exfalso; omega) | skip)))) | (refine brB_split (fun hb => ?_) (fun hb => ?_) <;> (first | contradiction | exact absurd (hb.symm.trans (by assumption) : false = true) (by decide) | exact absurd (hb.symm.trans (by assumption) : true = false) (by decide) | skip))) <;> (conv => whnf)))
  · refine loop_rule hty (fun q : Nat × Int => ([(2, .ea 16 [axR x] 0 0), (3, .ea 16 [axR y] 0 0), (5, .d (.int .i64 q.2)), (6, .d (.int .i64 q.1))], [])) (fun q => q.1 ≤ x.roles.length ∧ q.1 ≤ y.roles.length ∧ (if q.2 ≠ 0 then q.2 else cmpSL (x.roles.drop q.1) (y.roles.drop q.1)) = (if n3 ≠ 0 then n3 else cmpSL x.roles y.roles)) (fun q => x.roles.length - q.1) (0, n3) ⟨by dsimp only; omega, by dsimp only; omega, rfl⟩ ⟨by repeat' (first | exact trivial | exact rfl | exact ⟨rfl, rfl⟩ | refine And.intro ?_ ?_), trivial⟩ ?_
    rintro ⟨j, n⟩ ⟨hj, hjd, hn⟩
    dsimp only at hj hjd hn
    have hgoal : orF [n0, n1, n2, n3, cmpSL x.roles y.roles, n6, n7, n8] = orF [if n3 ≠ 0 then n3 else cmpSL x.roles y.roles, n6, n7, n8] := by
      have e0 : n0 = 0 := by assumption
      have e1 : n1 = 0 := by assumption
      have e2 : n2 = 0 := by assumption
      rw [e0, e1, e2]
      exact orF_lex n3 _ _
    rw [hgoal]
    clear hgoal o0 o1 o2 o3 w1 w2
    by_cases hlt : n = 0 ∧ j < x.roles.length ∧ j < y.roles.length
    · obtain ⟨rfl, h1, h2⟩ := hlt
      have hrow : (x.roles.map strR)[(j : Int).toNat]? = some (strR x.roles[j]) := rowC_at h1
      have hrow2 : (y.roles.map strR)[(j : Int).toNat]? = some (strR y.roles[j]) := rowC_at h2
      have hcall := rStrings_spec x.roles[j] y.roles[j]
      rw [if_neg (by simp), List.drop_eq_getElem_cons h1, List.drop_eq_getElem_cons h2, cmpSL] at hn
      generalize x.roles[j] = u at hrow hn hcall
      generalize y.roles[j] = z at hrow2 hn hcall
      ((conv => whnf); repeat' ((first | (intro hq; (try simp only [lnS] at hq); (try rewrite [List.length_map])) | refine sJ ?_ | refine Exists.intro _ (And.intro rfl ?_) | (refine Exists.intro (show (_ : Nat) < List.length _ from by first | omega | (simp only [List.length_cons, List.length_nil]; omega) | simp) ?_) | (refine ⟨_, hrow, ?_⟩) | (refine ⟨_, hrow2, ?_⟩) | (refine ⟨.d (.int .i64 _), _, [], rfl, trivial, hcall, ?_⟩) | refine draw_rule hty (by kernel_rfl) (by kernel_rfl) ?_ | ((first | refine brB_dec (fun hb => ?_) (fun hb => ?_) | refine brB_ndec (fun hb => ?_) (fun hb => ?_)) <;> (first | contradiction | ((try simp only [lnS] at hb); (first | (exfalso; omega) | skip)))) | (refine brB_split (fun hb => ?_) (fun hb => ?_) <;> (first | contradiction | exact absurd (hb.symm.trans (by assumption) : false = true) (by decide) | exact absurd (hb.symm.trans (by assumption) : true = false) (by decide) | skip))) <;> (conv => whnf)))
      exact ⟨(j + 1, cmpB u z), ⟨by dsimp only; omega, by dsimp only; omega, hn⟩, by dsimp only; omega, by repeat' (first | exact trivial | exact rfl | refine And.intro ?_ ?_), trivial⟩
    · by_cases hn0 : n = 0
      · subst hn0
        have hlt2 : ¬ (j < x.roles.length ∧ j < y.roles.length) := fun h => hlt ⟨rfl, h⟩
        rw [if_neg (by simp), cmpSL_end hj hjd hlt2] at hn
        rw [← hn]
        generalize cmpI x.roles.length y.roles.length = n5 at o5
        ((conv => whnf); repeat' ((first | (intro hq; (try simp only [lnS] at hq); (try rewrite [List.length_map])) | refine sJ ?_ | refine Exists.intro _ (And.intro rfl ?_) | (refine Exists.intro (show (_ : Nat) < List.length _ from by first | omega | (simp only [List.length_cons, List.length_nil]; omega) | simp) ?_) | (refine call_tri [] o5 trivial (fun r hs => ?_); subst hs) | (refine call_tri [] o6 trivial (fun r hs => ?_); subst hs) | (refine call_tri [] o7 trivial (fun r hs => ?_); subst hs) | (refine call_tri [] o8 trivial (fun r hs => ?_); subst hs) | refine draw_rule hty (by kernel_rfl) (by kernel_rfl) ?_ | ((first | refine brB_dec (fun hb => ?_) (fun hb => ?_) | refine brB_ndec (fun hb => ?_) (fun hb => ?_)) <;> (first | contradiction | ((try simp only [lnS] at hb); (first | (exfalso; omega) | skip)))) | (refine brB_split (fun hb => ?_) (fun hb => ?_) <;> (first | contradiction | exact absurd (hb.symm.trans (by assumption) : false = true) (by decide) | exact absurd (hb.symm.trans (by assumption) : true = false) (by decide) | skip))) <;> (conv => whnf)))
        all_goals (refine int_eq ?_; simp [orF, *])
      · rw [if_pos hn0] at hn
        rw [← hn]
        ((conv => whnf); repeat' ((first | (intro hq; (try simp only [lnS] at hq); (try rewrite [List.length_map])) | refine sJ ?_ | refine Exists.intro _ (And.intro rfl ?_) | (refine Exists.intro (show (_ : Nat) < List.length _ from by first | omega | (simp only [List.length_cons, List.length_nil]; omega) | simp) ?_) | fail | refine draw_rule hty (by kernel_rfl) (by kernel_rfl) ?_ | ((first | refine brB_dec (fun hb => ?_) (fun hb => ?_) | refine brB_ndec (fun hb => ?_) (fun hb => ?_)) <;> (first | contradiction | ((try simp only [lnS] at hb); (first | (exfalso; omega) | skip)))) | (refine brB_split (fun hb => ?_) (fun hb => ?_) <;> (first | contradiction | exact absurd (hb.symm.trans (by assumption) : false = true) (by decide) | exact absurd (hb.symm.trans (by assumption) : true = false) (by decide) | skip))) <;> (conv => whnf)))
        refine int_eq ?_
        clear hn
        simp [orF, *]
  all_goals
    refine loop_rule hty (fun _ : Unit => ([(2, .ea 16 [axR x] 0 0), (3, .ea 16 [axR y] 0 0), (5, .d (.int .i64 _)), (6, .d (.int .i64 0))], [])) (fun _ => True) (fun _ => 0) () trivial ⟨by repeat' (first | exact trivial | exact rfl | exact ⟨rfl, rfl⟩ | refine And.intro ?_ ?_), trivial⟩ ?_
    rintro ⟨⟩ _
    ((conv => whnf); repeat' ((first | (intro hq; (try simp only [lnS] at hq); (try rewrite [List.length_map])) | refine sJ ?_ | refine Exists.intro _ (And.intro rfl ?_) | (refine Exists.intro (show (_ : Nat) < List.length _ from by first | omega | (simp only [List.length_cons, List.length_nil]; omega) | simp) ?_) | fail | refine draw_rule hty (by kernel_rfl) (by kernel_rfl) ?_ | ((first | refine brB_dec (fun hb => ?_) (fun hb => ?_) | refine brB_ndec (fun hb => ?_) (fun hb => ?_)) <;> (first | contradiction | ((try simp only [lnS] at hb); (first | (exfalso; omega) | skip)))) | (refine brB_split (fun hb => ?_) (fun hb => ?_) <;> (first | contradiction | exact absurd (hb.symm.trans (by assumption) : false = true) (by decide) | exact absurd (hb.symm.trans (by assumption) : true = false) (by decide) | skip))) <;> (conv => whnf)))
    refine int_eq (Eq.symm ?_)
    simp [orF, *]
end Go.Proofs.YtkbmlchceiglfaaGreatDoor
