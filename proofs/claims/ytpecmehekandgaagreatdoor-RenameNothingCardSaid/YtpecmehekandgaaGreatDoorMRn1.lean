/-
  RenameNothing, walked.
  Conditions: none.
-/
import Derived.Test.YtpecmehekandgaaGreatDoorMRn2
set_option linter.unnecessarySimpa false
set_option linter.unusedSectionVars false
set_option linter.unusedSimpArgs false
set_option linter.unusedVariables false
namespace Go.Proofs.YtpecmehekandgaaGreatDoor
open Go.Proofs
set_option maxRecDepth 10000
attribute [local irreducible] SemVC CallVC Tri Stuck YVC GenP GenVC
theorem axm_nil_facts (xs : List Ax) : (∀ (j : Nat) (h : j < xs.length), ¬ (tidyA xs[j]).2 = 0 → ¬ (axmR [] xs).2 = 0 ∧ (axmR [] xs).1 = []) ∧
    (∀ (j : Nat) (h : j < xs.length), j < (axmR [] xs).1.length → (axmR [] xs).1[j]? = some (tidyA xs[j]).1) ∧
    ((∀ x ∈ xs, (tidyA x).2 = 0) → (axmR [] xs).2 = 0 ∧ (axmR [] xs).1.length = xs.length) ∧ ∀ x ∈ (axmR [] xs).1, Sm6 x := by
  have hl : (axmR [] xs).2 = 0 → (axmR [] xs).1 = xs.map fun x => (tidyA x).1 := axm_nil_list
  refine ⟨fun j h hb => ?_, fun j h hj => ?_, fun h => ?_, fun x hx => ?_⟩
  · have : ¬ (axmR [] xs).2 = 0 := fun e => hb ((axm_nil xs).1 e xs[j] (List.getElem_mem h))
    exact ⟨this, axmR_err this⟩
  · by_cases e : (axmR [] xs).2 = 0
    · rw [hl e, List.getElem?_map, List.getElem?_eq_getElem h]; rfl
    · rw [axmR_err e] at hj; simp at hj
  · have e := (axm_nil xs).2 h
    exact ⟨e, by rw [hl e, List.length_map]⟩
  · by_cases e : (axmR [] xs).2 = 0
    · have h0 := (axm_nil xs).1 e
      rw [hl e] at hx
      obtain ⟨y, hy, rfl⟩ := List.mem_map.1 hx
      exact sm6_ok (axiom_tidy (h0 y hy)).2.1
    · rw [axmR_err e] at hx; simp at hx
set_option maxHeartbeats 32000000 in
theorem nothing_spec (l : List Rn) (xs : List Ax) : Tri Tryz.prog 3 [.d (rnL l), .d (.sl 16 (xs.map axR))] NG (fun r => r = .d (.bool true)) := by
  have hfew := lFew_spec (l.map rnR) (xs.map axR)
  have hfx : fewRX (l.map rnR).length (xs.map axR).length = true → l.length ≤ 20 ∧ xs.length ≤ 20 := by
    intro h
    unfold fewRX at h
    simp only [List.length_map, Bool.and_eq_true, decide_eq_true_eq] at h
    exact h
  generalize fewRX (l.map rnR).length (xs.map axR).length = fw at hfew hfx
  have hfew : Tri Tryz.prog 10 [.d (rnL l), .d (.sl 16 (xs.map axR))] [] (fun r => r = .d (.bool fw)) := hfew
  refine tri_of_bodyF false [8, 9] hty Tryz.func3 rfl (kp [0, 1, 4, 5, 6, 7, 8, 9, 10, 11, 12, 13, 14, 16, 20, 26, 27, 28, 29, 39, 61, 75]) [] _ _ _ (by simp [Tryz.f3]) (by decide) ?_
  ((conv => whnf); repeat ((first | (intro hq; try simp only [lnS] at hq) | refine sI ?_ | refine .intro _ (.intro rfl ?_)); (conv => whnf)))
  refine call_tri NG rsane_spec ⟨rfl, rfl, trivial⟩ (fun r hs => ?_)
  subst hs
  ((conv => whnf); repeat ((first | (intro hq; try simp only [lnS] at hq) | refine sI ?_ | refine .intro _ (.intro rfl ?_)); (conv => whnf)))
  refine call_tri [] hfew trivial (fun r hs => ?_)
  subst hs
  cases fw with
  | false =>
    ((conv => whnf); repeat' ((first | (intro hq; (try simp only [lnS] at hq); (try rewrite [List.length_map])) | refine sJ ?_ | refine .intro _ (.intro rfl ?_) | (refine .intro (show (_ : Nat) < List.length _ from by first | omega | (simp only [lnS]; omega) | simp) ?_) | fail | refine draw_rule hty (by kernel_rfl) (by kernel_rfl) ?_ | ((first | refine brB_dec ?_ ?_ | refine brB_ndec ?_ ?_) <;> intro hb <;> (first | contradiction | ((try simp only [lnS] at hb); try (exfalso; omega)))) | (refine brB_split ?_ ?_ <;> intro hb <;> (first | contradiction | exact bT hb (by assumption) | exact bF hb (by assumption) | skip))) <;> (conv => whnf)))
    rfl
  | true =>
    obtain ⟨hl20, hx20⟩ := hfx rfl
    obtain ⟨fA, fB, fC, fS⟩ := axm_nil_facts xs
    have ka : Tri Tryz.prog 11 [.d .nil, .d (.sl 16 (xs.map axR))] NG (fun r => r = .tup [.d (.sl 16 ((axmR [] xs).1.map axR)), .d (.int .i64 (axmR [] xs).2)]) := Tri.weak (rnAxioms_spec [] xs (by omega)) (by repeat' (first | exact trivial | exact rfl | exact Wk_refl _ | exact ⟨rfl, rfl⟩ | refine And.intro ?_ ?_))
    have k1 : Tri Tryz.prog 14 [.d (rnL l), .d .nil] [] (fun r => r = .tup [.d (rnL (compR l []).1), .d (.int .i64 (compR l []).2)]) := Tri.weak (rnCompose_spec l []) (by repeat' (first | exact trivial | exact rfl | exact Wk_refl _ | exact ⟨rfl, rfl⟩ | refine And.intro ?_ ?_))
    have k2 : Tri Tryz.prog 14 [.d .nil, .d (rnL l)] [] (fun r => r = .tup [.d (rnL (compR [] l).1), .d (.int .i64 (compR [] l).2)]) := Tri.weak (rnCompose_spec [] l) (by repeat' (first | exact trivial | exact rfl | exact Wk_refl _ | exact ⟨rfl, rfl⟩ | refine And.intro ?_ ?_))
    generalize (axmR [] xs).1 = Y at *
    generalize (axmR [] xs).2 = e at *
    ((conv => whnf); repeat ((first | (intro hq; try simp only [lnS] at hq) | refine sI ?_ | refine .intro _ (.intro rfl ?_)); (conv => whnf)))
    refine call_tri NG ka ⟨rfl, rfl, trivial⟩ (fun r hs => ?_)
    subst hs
    clear ka
    ((conv => whnf); repeat ((first | (intro hq; try simp only [lnS] at hq) | refine sI ?_ | refine .intro _ (.intro rfl ?_)); (conv => whnf)))
    refine loop_rule hty (fun j : Nat => ([(0, .d (rnL l)), (1, .d (.sl 16 (xs.map axR))), (5, .d (.sl 16 (Y.map axR))), (6, .d (.int .i64 e)), (26, .d (.sl 16 (xs.map axR))), (27, .d (.int .i64 xs.length)), (28, .d (.int .i64 j))], NG)) (fun j => j ≤ xs.length ∧ ∀ x ∈ xs.take j, (tidyA x).2 = 0) (fun j => xs.length - j) 0 ⟨by omega, by simp⟩ ⟨by repeat' (first | exact trivial | exact rfl | (rw [List.length_map]; exact rfl) | refine And.intro ?_ ?_), ⟨rfl, rfl, trivial⟩⟩ ?_
    rintro j ⟨hj, hz⟩
    ((conv => whnf); repeat ((first | (intro hq; try simp only [lnS] at hq) | refine sI ?_ | refine .intro _ (.intro rfl ?_)); (conv => whnf)))
    refine brB_dec (fun h1 => ?_) (fun h1 => ?_)
    · have hjl : j < xs.length := by omega
      have hrow := axR_rows hjl
      have ht := TidyAxiom_spec xs[j]
      have a1 := fA j hjl
      have a2 := fB j hjl
      have htk : (tidyA xs[j]).2 = 0 → ∀ x ∈ xs.take (j + 1), (tidyA x).2 = 0 := by
        intro h2 x hx
        rw [List.take_succ_eq_append_getElem hjl] at hx
        rcases List.mem_append.1 hx with hx | hx
        · exact hz x hx
        · simp at hx; subst hx; exact h2
      generalize xs[j] = x at hrow ht a1 a2 htk
      generalize (tidyA x).1 = T at *
      generalize (tidyA x).2 = f at *
      ((conv => whnf); repeat ((first | (refine ⟨_, hrow, ?_⟩) | (refine call_tri NG ht ⟨rfl, rfl, trivial⟩ (fun r hs => ?_); subst hs) | (intro hq; try simp only [lnS] at hq) | refine sI ?_ | refine .intro _ (.intro rfl ?_)); (conv => whnf)))
      refine brB_ndec (fun h2 => ?_) (fun h2 => ?_)
      · obtain ⟨b1, b2⟩ := a1 h2
        subst b2
        ((conv => whnf); repeat' ((first | (intro hq; (try simp only [lnS] at hq); (try rewrite [List.length_map])) | refine sJ ?_ | refine .intro _ (.intro rfl ?_) | (refine .intro (show (_ : Nat) < List.length _ from by first | omega | (simp only [lnS]; omega) | simp) ?_) | fail | refine draw_rule hty (by kernel_rfl) (by kernel_rfl) ?_ | ((first | refine brB_dec ?_ ?_ | refine brB_ndec ?_ ?_) <;> intro hb <;> (first | contradiction | ((try simp only [lnS] at hb); try (exfalso; omega)))) | (refine brB_split ?_ ?_ <;> intro hb <;> (first | contradiction | exact bT hb (by assumption) | exact bF hb (by assumption) | skip))) <;> (conv => whnf)))
        all_goals first
          | rfl
          | (refine bool_eq ?_; simp [b1]; done)
          | (exfalso; omega)
      · have h2 : f = 0 := by simpa using h2
        have hfin : ∃ y, (y ≤ xs.length ∧ ∀ x ∈ xs.take y, (tidyA x).2 = 0) ∧ xs.length - y < xs.length - j ∧ y = j + 1 := ⟨j + 1, ⟨by omega, htk h2⟩, by omega, rfl⟩
        ((conv => whnf); repeat ((first | (intro hq; try simp only [lnS] at hq) | refine sI ?_ | refine .intro _ (.intro rfl ?_)); (conv => whnf)))
        by_cases hlt : j < Y.length
        · have hYj := a2 hlt
          have hS : Sm6 T := fS T (List.mem_of_getElem? hYj)
          have hsl : ((Y.map axR).take (j + 1)).drop j = [axR T] := by
            have h3 : (Y.map axR)[j]? = some (axR T) := by rw [List.getElem?_map, hYj]; rfl
            have h4 : j < (Y.map axR).length := by rw [List.length_map]; exact hlt
            rw [List.take_succ_eq_append_getElem h4, List.drop_append_of_le_length (by rw [List.length_take]; omega), List.drop_of_length_le (by rw [List.length_take]; omega), List.nil_append]
            rw [List.getElem?_eq_getElem h4] at h3
            injection h3 with h3
            rw [h3]
          have c : Tri Tryz.prog 13 [.osl 53 16 [axR T], .d (.sl 16 (((Y.map axR).take ((j : Int) + 1).toNat).drop (j : Int).toNat))] [] (fun r => r = .d (.bool true)) := by
            rw [show ((j : Int) + 1).toNat = j + 1 by omega, show (j : Int).toNat = j from rfl, hsl]
            exact Tri.osl2 (lSame_self [T] (by simpa using hS))
          (refine tree2_rule (id := 12) hty (.first 0 (.first 1 (.alt 2 (.first 3 (.first 4 (.first 5 (.first 7 (.first 8 (.first 9 (.first 10 (.first 11 (.alt 6 (.alt 12 (.first 13 (.first 14 .done)) .stop) .stop))))))))) .stop))) (by kernel_rfl) (by kernel_rfl) ?_)
          ((conv => whnf); repeat' ((first | exact trivial | refine altAnd ?_ ?_ | refine eqN rfl ?_ | refine leN rfl ?_ | refine ltN rfl ?_ | (refine call_tri [] c (by exact trivial) (fun r hs => ?_); subst hs) | (intro hq; (try simp only [lnS] at hq); (try rewrite [List.length_map])) | refine sJ ?_ | refine .intro _ (.intro rfl ?_) | (refine .intro (show (_ : Nat) < List.length _ from by first | omega | (simp only [lnS]; omega) | simp) ?_) | refine draw_rule hty (by kernel_rfl) (by kernel_rfl) ?_ | ((first | refine brB_dec ?_ ?_ | refine brB_ndec ?_ ?_) <;> intro hb <;> (first | contradiction | ((try simp only [lnS] at hb); try (exfalso; omega)))) | (refine brB_split ?_ ?_ <;> intro hb <;> (first | contradiction | exact bT hb (by assumption) | exact bF hb (by assumption) | skip))) <;> (conv => whnf)))
          all_goals exact ⟨j + 1, ⟨by omega, htk h2⟩, by dsimp only; omega, by repeat' (first | exact trivial | exact rfl | refine And.intro ?_ ?_), ⟨rfl, rfl, trivial⟩⟩
        · (refine tree2_rule (id := 12) hty (.first 0 (.first 1 (.alt 2 (.first 3 (.first 4 (.first 5 (.first 7 (.first 8 (.first 9 (.first 10 (.first 11 (.alt 6 (.alt 12 (.first 13 (.first 14 .done)) .stop) .stop))))))))) .stop))) (by kernel_rfl) (by kernel_rfl) ?_)
          ((conv => whnf); repeat' ((first | exact trivial | refine altAnd ?_ ?_ | refine eqN rfl ?_ | refine leN rfl ?_ | refine ltN rfl ?_ | (intro hq; (try simp only [lnS] at hq); (try rewrite [List.length_map])) | refine sJ ?_ | refine .intro _ (.intro rfl ?_) | (refine .intro (show (_ : Nat) < List.length _ from by first | omega | (simp only [lnS]; omega) | simp) ?_) | refine draw_rule hty (by kernel_rfl) (by kernel_rfl) ?_ | ((first | refine brB_dec ?_ ?_ | refine brB_ndec ?_ ?_) <;> intro hb <;> (first | contradiction | ((try simp only [lnS] at hb); try (exfalso; omega)))) | (refine brB_split ?_ ?_ <;> intro hb <;> (first | contradiction | exact bT hb (by assumption) | exact bF hb (by assumption) | skip))) <;> (conv => whnf)))
          all_goals exact ⟨j + 1, ⟨by omega, htk h2⟩, by dsimp only; omega, by repeat' (first | exact trivial | exact rfl | refine And.intro ?_ ?_), ⟨rfl, rfl, trivial⟩⟩
    · have hjl : j = xs.length := by omega
      subst hjl
      rw [List.take_length] at hz
      obtain ⟨c1, c2⟩ := fC hz
      subst c1
      have ck := rnCheck_spec l
      have s1 := rrSame_self l
      by_cases hc : checkR l = 0
      · obtain ⟨q1, q2⟩ := compR_nil hc
        rw [q1] at k1
        rw [q2] at k2
        rw [hc] at ck
        ((conv => whnf); repeat' ((first | (intro hq; (try simp only [lnS] at hq); (try rewrite [List.length_map])) | refine sJ ?_ | refine .intro _ (.intro rfl ?_) | (refine .intro (show (_ : Nat) < List.length _ from by first | omega | (simp only [lnS]; omega) | simp) ?_) | (refine call_tri [] k1 trivial (fun r hs => ?_); subst hs) | (refine call_tri [] k2 trivial (fun r hs => ?_); subst hs) | (refine call_tri [] ck trivial (fun r hs => ?_); subst hs) | (refine call_tri [] s1 trivial (fun r hs => ?_); subst hs) | refine draw_rule hty (by kernel_rfl) (by kernel_rfl) ?_ | ((first | refine brB_dec ?_ ?_ | refine brB_ndec ?_ ?_) <;> intro hb <;> (first | contradiction | ((try simp only [lnS] at hb); try (exfalso; omega)))) | (refine brB_split ?_ ?_ <;> intro hb <;> (first | contradiction | exact bT hb (by assumption) | exact bF hb (by assumption) | skip))) <;> (conv => whnf)))
        all_goals rfl
      · obtain ⟨q1, q2⟩ := compR_bad hc
        rw [q1] at k1
        rw [q2] at k2
        ((conv => whnf); repeat' ((first | (intro hq; (try simp only [lnS] at hq); (try rewrite [List.length_map])) | refine sJ ?_ | refine .intro _ (.intro rfl ?_) | (refine .intro (show (_ : Nat) < List.length _ from by first | omega | (simp only [lnS]; omega) | simp) ?_) | (refine call_tri [] k1 trivial (fun r hs => ?_); subst hs) | (refine call_tri [] k2 trivial (fun r hs => ?_); subst hs) | (refine call_tri [] ck trivial (fun r hs => ?_); subst hs) | (refine call_tri [] s1 trivial (fun r hs => ?_); subst hs) | refine draw_rule hty (by kernel_rfl) (by kernel_rfl) ?_ | ((first | refine brB_dec ?_ ?_ | refine brB_ndec ?_ ?_) <;> intro hb <;> (first | contradiction | ((try simp only [lnS] at hb); try (exfalso; omega)))) | (refine brB_split ?_ ?_ <;> intro hb <;> (first | contradiction | exact bT hb (by assumption) | exact bF hb (by assumption) | skip))) <;> (conv => whnf)))
        all_goals first
          | rfl
          | (refine bool_eq ?_; simp; done)
end Go.Proofs.YtpecmehekandgaaGreatDoor
