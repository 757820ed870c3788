/-
  Terms: the law of order, repetition and grouping, walked.
  Conditions: none.
-/
import Derived.Test.YtkbmlchceiglfaaGreatDoorMBa
import Derived.Test.YtkbmlchceiglfaaGreatDoorMBw
import Derived.Test.YtkbmlchceiglfaaGreatDoorMBq
namespace Go.Proofs.YtkbmlchceiglfaaGreatDoor
set_option linter.unnecessarySimpa false
set_option linter.unusedSectionVars false
set_option linter.unusedSimpArgs false
set_option linter.unusedVariables false
open Go.Proofs
set_option maxRecDepth 10000
attribute [local irreducible] SemVC CallVC Tri Stuck YVC GenP GenVC

theorem tidyE_ok {c : Cn} (h : conceptE c = 0) : tidyE c = tidyC c := by
  unfold tidyE
  rw [if_neg (by simp [h])]
theorem tidyE_zero {c : Cn} (h : (tidyE c).2 = 0) : conceptE c = 0 := by
  unfold tidyE at h
  split at h
  · exact h
  · rename_i h'; exact Classical.byContradiction fun h'' => h' h''
theorem tidyC_bo (l : List Cn) : tidyC (boC l) = meetF (l.map tidyC) := by
  rw [tidyC_eq]
  show (if (5 : Int) = 6 then _ else if (5 : Int) = 5 then meetF (l.map tidyC) else _) = _
  rw [if_neg (by decide), if_pos rfl]

theorem shuf_law {l m : List Cn} (h : ∀ x, x ∈ m ↔ x ∈ l) (h1 : conceptE (boC l) = 0) (h2 : conceptE (boC m) = 0) : tidyE (boC m) = tidyE (boC l) := by
  rw [tidyE_ok h1, tidyE_ok h2, tidyC_bo, tidyC_bo, meet_congr h]

theorem group_law {l : List Cn} {j : Nat} (h0 : (tidyE (boC l)).2 = 0) (hg : conceptE (boC (boC (l.take j) :: l.drop j)) = 0) :
    tidyE (boC (boC (l.take j) :: l.drop j)) = tidyE (boC l) ∨ ((tidyE (boC (boC (l.take j) :: l.drop j))).2 = 2 ∧ (tidyE (boC l)).1.kind = 2) := by
  have h1 := tidyE_zero h0
  have hok := ((conceptE_iff _).1 h1).2.2
  have hp := ((okn_iff _).1 hok).2
  have hl : l.take j ++ l.drop j = l := List.take_append_drop j l
  rw [tidyE_ok h1, tidyC_bo] at h0
  rw [tidyE_ok hg, tidyE_ok h1, tidyC_bo, tidyC_bo]
  rw [← hl] at h0
  have := meet_group (p := l.take j) (q := l.drop j) (fun c hc => hp c (List.mem_of_mem_take hc)) (fun c hc => hp c (List.mem_of_mem_drop hc)) h0
  rw [hl] at this
  exact this

def cnV (c : Cn) : List D := [.int .i64 c.kind, .str c.name, .int .i64 c.lo, .int .i64 c.hi, .sl 5 (c.parts.map cnR)]

set_option maxHeartbeats 16000000 in
theorem tidyGroups_spec (l : List Cn) (n k : Int) (hn : 0 ≤ n ∧ n < 18446744073709551616) : Tri Tryz.prog 4 [.d (.sl 5 (l.map cnR)), .d (.int .u64 n), .d (.int .i64 k)] NG (fun r => r = .d (.bool true)) := by
  have f1 := few_spec (boC l)
  have hboR : cnR (boC l) = boN (l.map cnR) := by rw [cnR_eq]; rfl
  rw [hboR] at f1
  refine tri_of_bodyF false [7, 8, 10, 11, 13, 14] hty Tryz.func4 rfl (kp [0, 1, 2, 6, 7, 8, 9, 10, 11, 12, 13, 14, 15, 17, 27, 44, 58, 66, 85]) [] _ _ _ (by simp [Tryz.f4]) (by decide) ?_
  ((conv => whnf); repeat ((first | (intro hq; try simp only [lnS] at hq) | refine sI ?_ | refine Exists.intro _ (And.intro rfl ?_)); (conv => whnf)))
  refine call_tri NG sane_spec ⟨rfl, rfl, trivial⟩ (fun r hs => ?_)
  subst hs
  by_cases hl8 : 8 < l.length
  · ((conv => whnf); repeat' ((first | (intro hq; (try simp only [lnS] at hq); (try rewrite [List.length_map])) | refine sJ ?_ | refine Exists.intro _ (And.intro rfl ?_) | (refine Exists.intro (show (_ : Nat) < List.length _ from by first | omega | (simp only [List.length_cons, List.length_nil]; omega) | simp) ?_) | (refine call_tri [] (both_spec _) trivial (fun r hs => ?_); subst hs) | refine draw_rule hty (by kernel_rfl) (by kernel_rfl) ?_ | ((first | refine brB_dec (fun hb => ?_) (fun hb => ?_) | refine brB_ndec (fun hb => ?_) (fun hb => ?_)) <;> (first | contradiction | ((try simp only [lnS] at hb); (first | (exfalso; omega) | skip)))) | (refine brB_split (fun hb => ?_) (fun hb => ?_) <;> (first | contradiction | exact absurd (hb.symm.trans (by assumption) : false = true) (by decide) | exact absurd (hb.symm.trans (by assumption) : true = false) (by decide) | skip))) <;> (conv => whnf)))
    all_goals rfl
  cases hf : fewF (boC l) <;> rw [hf] at f1
  · ((conv => whnf); repeat' ((first | (intro hq; (try simp only [lnS] at hq); (try rewrite [List.length_map])) | refine sJ ?_ | refine Exists.intro _ (And.intro rfl ?_) | (refine Exists.intro (show (_ : Nat) < List.length _ from by first | omega | (simp only [List.length_cons, List.length_nil]; omega) | simp) ?_) | (refine call_tri [] (both_spec _) trivial (fun r hs => ?_); subst hs) | (refine call_tri [] f1 trivial (fun r hs => ?_); subst hs) | refine draw_rule hty (by kernel_rfl) (by kernel_rfl) ?_ | ((first | refine brB_dec (fun hb => ?_) (fun hb => ?_) | refine brB_ndec (fun hb => ?_) (fun hb => ?_)) <;> (first | contradiction | ((try simp only [lnS] at hb); (first | (exfalso; omega) | skip)))) | (refine brB_split (fun hb => ?_) (fun hb => ?_) <;> (first | contradiction | exact absurd (hb.symm.trans (by assumption) : false = true) (by decide) | exact absurd (hb.symm.trans (by assumption) : true = false) (by decide) | skip))) <;> (conv => whnf)))
    all_goals rfl
  have t1 := Tidy_spec (boC l)
  have c1 := checkConcept_spec (boC l)
  rw [hboR] at t1 c1
  rw [cnR_eq (tidyE (boC l)).1] at t1
  ((conv => whnf); repeat ((first | (intro hq; try simp only [lnS] at hq) | refine sI ?_ | refine Exists.intro _ (And.intro rfl ?_)); (conv => whnf)))
  refine call_tri [] (both_spec _) trivial (fun r hs => ?_)
  subst hs
  ((conv => whnf); repeat ((first | (intro hq; try simp only [lnS] at hq) | refine sI ?_ | refine Exists.intro _ (And.intro rfl ?_)); (conv => whnf)))
  refine brB_dec (fun h => absurd h (by simp only [List.length_map]; omega)) (fun h => ?_)
  ((conv => whnf); repeat ((first | (intro hq; try simp only [lnS] at hq) | refine sI ?_ | refine Exists.intro _ (And.intro rfl ?_)); (conv => whnf)))
  refine call_tri [] f1 trivial (fun r hs => ?_)
  subst hs
  clear f1 hf
  ((conv => whnf); repeat ((first | (intro hq; try simp only [lnS] at hq) | refine sI ?_ | refine Exists.intro _ (And.intro rfl ?_)); (conv => whnf)))
  refine call_tri NG t1 ⟨rfl, rfl, trivial⟩ (fun r hs => ?_)
  subst hs
  clear t1
  ((conv => whnf); repeat ((first | (intro hq; try simp only [lnS] at hq) | refine sI ?_ | refine Exists.intro _ (And.intro rfl ?_)); (conv => whnf)))
  refine call_tri [] (shuffled_spec l n (by omega) hn) trivial (fun r hs => ?_)
  obtain ⟨m, rfl, hm, hml⟩ := hs.ex
  have hboM : cnR (boC m) = boN (m.map cnR) := by rw [cnR_eq]; rfl
  have t2 := Tidy_spec (boC m)
  have c2 := checkConcept_spec (boC m)
  rw [hboM] at t2 c2
  ((conv => whnf); repeat ((first | (intro hq; try simp only [lnS] at hq) | refine sI ?_ | refine Exists.intro _ (And.intro rfl ?_)); (conv => whnf)))
  refine call_tri [] (both_spec _) trivial (fun r hs => ?_)
  subst hs
  ((conv => whnf); repeat ((first | (intro hq; try simp only [lnS] at hq) | refine sI ?_ | refine Exists.intro _ (And.intro rfl ?_)); (conv => whnf)))
  have hgl := fun j => @group_law l j
  have hsl := @shuf_law l m hm
  generalize hT : tidyE (boC l) = T at *
  have sT := same_spec T.1 T.1
  rw [(sameC_iff _ _).2 rfl, cnR_eq] at sT
  by_cases hk : k < 2 ∨ (l.length : Int) ≤ k
  · by_cases hE : conceptE (boC l) = 0 ∧ conceptE (boC m) = 0
    · rw [hsl hE.1 hE.2, cnR_eq] at t2
      rw [hE.1] at c1
      rw [hE.2] at c2
      clear hgl hsl
      ((conv => whnf); repeat' ((first | (intro hq; (try simp only [lnS] at hq); (try rewrite [List.length_map])) | refine sJ ?_ | refine Exists.intro _ (And.intro rfl ?_) | (refine Exists.intro (show (_ : Nat) < List.length _ from by first | omega | (simp only [List.length_cons, List.length_nil]; omega) | simp) ?_) | (refine call_tri NG c1 ⟨rfl, rfl, trivial⟩ (fun r hs => ?_); subst hs) | (refine call_tri NG c2 ⟨rfl, rfl, trivial⟩ (fun r hs => ?_); subst hs) | (refine call_tri NG t2 ⟨rfl, rfl, trivial⟩ (fun r hs => ?_); subst hs) | (refine call_tri [] sT trivial (fun r hs => ?_); subst hs) | refine draw_rule hty (by kernel_rfl) (by kernel_rfl) ?_ | ((first | refine brB_dec (fun hb => ?_) (fun hb => ?_) | refine brB_ndec (fun hb => ?_) (fun hb => ?_)) <;> (first | contradiction | ((try simp only [lnS] at hb); (first | (exfalso; omega) | skip)))) | (refine brB_split (fun hb => ?_) (fun hb => ?_) <;> (first | contradiction | exact absurd (hb.symm.trans (by assumption) : false = true) (by decide) | exact absurd (hb.symm.trans (by assumption) : true = false) (by decide) | skip))) <;> (conv => whnf)))
      all_goals first | rfl | (exfalso; simp only [List.length_map] at *; omega)
    · clear hgl hsl t2 sT
      generalize conceptE (boC l) = E1 at *
      generalize conceptE (boC m) = E2 at *
      ((conv => whnf); repeat' ((first | (intro hq; (try simp only [lnS] at hq); (try rewrite [List.length_map])) | refine sJ ?_ | refine Exists.intro _ (And.intro rfl ?_) | (refine Exists.intro (show (_ : Nat) < List.length _ from by first | omega | (simp only [List.length_cons, List.length_nil]; omega) | simp) ?_) | (refine call_tri NG c1 ⟨rfl, rfl, trivial⟩ (fun r hs => ?_); subst hs) | (refine call_tri NG c2 ⟨rfl, rfl, trivial⟩ (fun r hs => ?_); subst hs) | refine draw_rule hty (by kernel_rfl) (by kernel_rfl) ?_ | ((first | refine brB_dec (fun hb => ?_) (fun hb => ?_) | refine brB_ndec (fun hb => ?_) (fun hb => ?_)) <;> (first | contradiction | ((try simp only [lnS] at hb); (first | (exfalso; omega) | skip)))) | (refine brB_split (fun hb => ?_) (fun hb => ?_) <;> (first | contradiction | exact absurd (hb.symm.trans (by assumption) : false = true) (by decide) | exact absurd (hb.symm.trans (by assumption) : true = false) (by decide) | skip))) <;> (conv => whnf)))
      all_goals first | rfl | (exfalso; simp only [List.length_map] at *; omega)
  · obtain ⟨j, rfl⟩ : ∃ j : Nat, k = j := ⟨k.toNat, by omega⟩
    have hj2 : 2 ≤ j := by omega
    have hjl : j < l.length := by omega
    have hgj := hgl j
    clear hgl
    by_cases hE : conceptE (boC l) = 0 ∧ conceptE (boC m) = 0
    · rw [hsl hE.1 hE.2, cnR_eq] at t2
      rw [hE.1] at c1
      rw [hE.2] at c2
      clear hsl
      refine call_tri NG c1 ⟨rfl, rfl, trivial⟩ (fun r hs => ?_)
      subst hs
      ((conv => whnf); repeat ((first | (intro hq; try simp only [lnS] at hq) | refine sI ?_ | refine Exists.intro _ (And.intro rfl ?_)); (conv => whnf)))
      refine call_tri NG c2 ⟨rfl, rfl, trivial⟩ (fun r hs => ?_)
      subst hs
      ((conv => whnf); repeat ((first | (intro hq; try simp only [lnS] at hq) | refine sI ?_ | refine Exists.intro _ (And.intro rfl ?_)); (conv => whnf)))
      refine call_tri NG t2 ⟨rfl, rfl, trivial⟩ (fun r hs => ?_)
      subst hs
      clear c1 c2 t2
      ((conv => whnf); repeat ((first | (intro hq; try simp only [lnS] at hq) | refine sI ?_ | refine Exists.intro _ (And.intro rfl ?_)); (conv => whnf)))
      refine brB_ndec (fun h2 => absurd rfl h2) (fun h2 => ?_)
      ((conv => whnf); repeat ((first | (intro hq; try simp only [lnS] at hq) | refine sI ?_ | refine Exists.intro _ (And.intro rfl ?_)); (conv => whnf)))
      refine call_tri [] sT trivial (fun r hs => ?_)
      subst hs
      ((conv => whnf); repeat ((first | (intro hq; try simp only [lnS] at hq) | refine sI ?_ | refine Exists.intro _ (And.intro rfl ?_)); (conv => whnf)))
      refine brB_dec (fun h2 => absurd h2 (by omega)) (fun h2 => ?_)
      ((conv => whnf); repeat ((first | (intro hq; try simp only [lnS] at hq) | refine sI ?_ | refine Exists.intro _ (And.intro rfl ?_)); (conv => whnf)))
      refine brB_dec (fun h3 => absurd h3 (by simp only [List.length_map]; omega)) (fun h3 => ?_)
      ((conv => whnf); repeat ((first | (intro hq; try simp only [lnS] at hq) | refine sI ?_ | refine Exists.intro _ (And.intro rfl ?_)); (conv => whnf)))
      refine SemVC.mid [(6, .d (.bool false)), (8, .ea 5 [cnV T.1] 0 0), (9, .d (.int .i64 T.2)), (13, .ptr 13 0)] ((13, .cells 24 ((boN (boN ((l.map cnR).take (j : Int).toNat) :: ((l.map cnR).take (l.map cnR).length).drop (j : Int).toNat)).map .d)) :: NG) ?_ ?_
      · (refine tree2_rule (id := 14) hty (.first 1 (.first 2 (.first 3 (.first 7 (.first 8 (.first 9 (.alt 0 (.alt 4 (.alt 5 (.alt 6 (.alt 10 (.alt 11 (.alt 12 (.alt 13 .done .stop) .stop) (.alt 12 (.alt 11 (.alt 13 .done .stop) .stop) .stop)) (.alt 12 (.alt 10 (.alt 11 (.alt 13 .done .stop) .stop) .stop) .stop)) (.alt 12 (.alt 6 (.alt 10 (.alt 11 (.alt 13 .done .stop) .stop) .stop) .stop) .stop)) (.alt 12 (.alt 5 (.alt 6 (.alt 10 (.alt 11 (.alt 13 .done .stop) .stop) .stop) .stop) .stop) .stop)) (.alt 12 (.alt 4 (.alt 5 (.alt 6 (.alt 10 (.alt 11 (.alt 13 .done .stop) .stop) .stop) .stop) .stop) .stop) .stop)) (.alt 12 (.alt 0 (.alt 4 (.alt 5 (.alt 6 (.alt 10 (.alt 11 (.alt 13 .done .stop) .stop) .stop) .stop) .stop) .stop) .stop) .stop)))))))) (by kernel_rfl) (by kernel_rfl) ?_)
        ((conv => whnf); repeat' ((first | (intro hq; (try simp only [lnS] at hq); (try rewrite [List.length_map])) | refine sJ ?_ | refine Exists.intro _ (And.intro rfl ?_) | (refine Exists.intro (show (_ : Nat) < List.length _ from by first | omega | (simp only [List.length_cons, List.length_nil]; omega) | simp) ?_) | (refine And.intro (by rw [List.length_append]; exact rfl) ?_) | (refine call_tri [] (Tri.osl (both_spec _)) trivial (fun r hs => ?_); subst hs) | exact trivial | (refine And.intro ?_ ?_) | refine draw_rule hty (by kernel_rfl) (by kernel_rfl) ?_ | ((first | refine brB_dec (fun hb => ?_) (fun hb => ?_) | refine brB_ndec (fun hb => ?_) (fun hb => ?_)) <;> (first | contradiction | ((try simp only [lnS] at hb); (first | (exfalso; omega) | skip)))) | (refine brB_split (fun hb => ?_) (fun hb => ?_) <;> (first | contradiction | exact absurd (hb.symm.trans (by assumption) : false = true) (by decide) | exact absurd (hb.symm.trans (by assumption) : true = false) (by decide) | skip))) <;> (conv => whnf)))
        all_goals exact ⟨by repeat' (first | exact trivial | exact rfl | refine And.intro ?_ ?_), by repeat' (first | exact trivial | exact rfl | refine And.intro ?_ ?_)⟩
      have hG : cnR (boC (boC (l.take j) :: l.drop j)) = boN (boN ((l.map cnR).take (j : Int).toNat) :: ((l.map cnR).take (l.map cnR).length).drop (j : Int).toNat) := by
        rw [cnR_eq]
        show boN ((boC (l.take j) :: l.drop j).map cnR) = _
        rw [List.map_cons, cnR_eq]
        show boN (boN ((l.take j).map cnR) :: (l.drop j).map cnR) = _
        rw [List.map_take, List.map_drop, List.take_length, Int.toNat_natCast]
      have cg := checkConcept_spec (boC (boC (l.take j) :: l.drop j))
      have tg := Tidy_spec (boC (boC (l.take j) :: l.drop j))
      rw [hG] at cg tg
      generalize boC (boC (l.take j) :: l.drop j) = g at *
      by_cases h0 : T.2 = 0
      · by_cases hg : conceptE g = 0
        · rw [hg] at cg
          rcases hgj h0 hg with e | ⟨e1, e2⟩
          · rw [e, cnR_eq] at tg
            ((conv => whnf); repeat' ((first | (intro hq; (try simp only [lnS] at hq); (try rewrite [List.length_map])) | refine sJ ?_ | refine Exists.intro _ (And.intro rfl ?_) | (refine Exists.intro (show (_ : Nat) < List.length _ from by first | omega | (simp only [List.length_cons, List.length_nil]; omega) | simp) ?_) | (refine call_tri NG cg ⟨rfl, rfl, trivial⟩ (fun r hs => ?_); subst hs) | (refine call_tri NG tg ⟨rfl, rfl, trivial⟩ (fun r hs => ?_); subst hs) | (refine call_tri [] sT trivial (fun r hs => ?_); subst hs) | refine draw_rule hty (by kernel_rfl) (by kernel_rfl) ?_ | ((first | refine brB_dec (fun hb => ?_) (fun hb => ?_) | refine brB_ndec (fun hb => ?_) (fun hb => ?_)) <;> (first | contradiction | ((try simp only [lnS] at hb); (first | (exfalso; omega) | skip)))) | (refine brB_split (fun hb => ?_) (fun hb => ?_) <;> (first | contradiction | exact absurd (hb.symm.trans (by assumption) : false = true) (by decide) | exact absurd (hb.symm.trans (by assumption) : true = false) (by decide) | skip))) <;> (conv => whnf)))
            all_goals first | rfl | (refine bool_eq ?_; simp_all; done) | (exfalso; omega)
          · rw [e1, cnR_eq] at tg
            ((conv => whnf); repeat' ((first | (intro hq; (try simp only [lnS] at hq); (try rewrite [List.length_map])) | refine sJ ?_ | refine Exists.intro _ (And.intro rfl ?_) | (refine Exists.intro (show (_ : Nat) < List.length _ from by first | omega | (simp only [List.length_cons, List.length_nil]; omega) | simp) ?_) | (refine call_tri NG cg ⟨rfl, rfl, trivial⟩ (fun r hs => ?_); subst hs) | (refine call_tri NG tg ⟨rfl, rfl, trivial⟩ (fun r hs => ?_); subst hs) | refine draw_rule hty (by kernel_rfl) (by kernel_rfl) ?_ | ((first | refine brB_dec (fun hb => ?_) (fun hb => ?_) | refine brB_ndec (fun hb => ?_) (fun hb => ?_)) <;> (first | contradiction | ((try simp only [lnS] at hb); (first | (exfalso; omega) | skip)))) | (refine brB_split (fun hb => ?_) (fun hb => ?_) <;> (first | contradiction | exact absurd (hb.symm.trans (by assumption) : false = true) (by decide) | exact absurd (hb.symm.trans (by assumption) : true = false) (by decide) | skip))) <;> (conv => whnf)))
            all_goals first | rfl | (refine bool_eq ?_; simp_all; done) | (exfalso; omega)
        · ((conv => whnf); repeat' ((first | (intro hq; (try simp only [lnS] at hq); (try rewrite [List.length_map])) | refine sJ ?_ | refine Exists.intro _ (And.intro rfl ?_) | (refine Exists.intro (show (_ : Nat) < List.length _ from by first | omega | (simp only [List.length_cons, List.length_nil]; omega) | simp) ?_) | (refine call_tri NG cg ⟨rfl, rfl, trivial⟩ (fun r hs => ?_); subst hs) | refine draw_rule hty (by kernel_rfl) (by kernel_rfl) ?_ | ((first | refine brB_dec (fun hb => ?_) (fun hb => ?_) | refine brB_ndec (fun hb => ?_) (fun hb => ?_)) <;> (first | contradiction | ((try simp only [lnS] at hb); (first | (exfalso; omega) | skip)))) | (refine brB_split (fun hb => ?_) (fun hb => ?_) <;> (first | contradiction | exact absurd (hb.symm.trans (by assumption) : false = true) (by decide) | exact absurd (hb.symm.trans (by assumption) : true = false) (by decide) | skip))) <;> (conv => whnf)))
          all_goals first | rfl | (exfalso; omega)
      · ((conv => whnf); repeat' ((first | (intro hq; (try simp only [lnS] at hq); (try rewrite [List.length_map])) | refine sJ ?_ | refine Exists.intro _ (And.intro rfl ?_) | (refine Exists.intro (show (_ : Nat) < List.length _ from by first | omega | (simp only [List.length_cons, List.length_nil]; omega) | simp) ?_) | (refine call_tri NG cg ⟨rfl, rfl, trivial⟩ (fun r hs => ?_); subst hs) | refine draw_rule hty (by kernel_rfl) (by kernel_rfl) ?_ | ((first | refine brB_dec (fun hb => ?_) (fun hb => ?_) | refine brB_ndec (fun hb => ?_) (fun hb => ?_)) <;> (first | contradiction | ((try simp only [lnS] at hb); (first | (exfalso; omega) | skip)))) | (refine brB_split (fun hb => ?_) (fun hb => ?_) <;> (first | contradiction | exact absurd (hb.symm.trans (by assumption) : false = true) (by decide) | exact absurd (hb.symm.trans (by assumption) : true = false) (by decide) | skip))) <;> (conv => whnf)))
        all_goals first | rfl | (exfalso; omega)
    · clear hsl t2
      by_cases hE1 : conceptE (boC l) = 0
      · have hE2 : conceptE (boC m) ≠ 0 := fun h => hE ⟨hE1, h⟩
        rw [hE1] at c1
        refine call_tri NG c1 ⟨rfl, rfl, trivial⟩ (fun r hs => ?_)
        subst hs
        ((conv => whnf); repeat ((first | (intro hq; try simp only [lnS] at hq) | refine sI ?_ | refine Exists.intro _ (And.intro rfl ?_)); (conv => whnf)))
        refine call_tri NG c2 ⟨rfl, rfl, trivial⟩ (fun r hs => ?_)
        subst hs
        clear c1 c2
        ((conv => whnf); repeat ((first | (intro hq; try simp only [lnS] at hq) | refine sI ?_ | refine Exists.intro _ (And.intro rfl ?_)); (conv => whnf)))
        refine brB_dec (fun h2 => absurd h2 hE2) (fun h2 => ?_)
        ((conv => whnf); repeat ((first | (intro hq; try simp only [lnS] at hq) | refine sI ?_ | refine Exists.intro _ (And.intro rfl ?_)); (conv => whnf)))
        refine brB_dec (fun h2 => absurd h2 (by omega)) (fun h2 => ?_)
        ((conv => whnf); repeat ((first | (intro hq; try simp only [lnS] at hq) | refine sI ?_ | refine Exists.intro _ (And.intro rfl ?_)); (conv => whnf)))
        refine brB_dec (fun h3 => absurd h3 (by simp only [List.length_map]; omega)) (fun h3 => ?_)
        ((conv => whnf); repeat ((first | (intro hq; try simp only [lnS] at hq) | refine sI ?_ | refine Exists.intro _ (And.intro rfl ?_)); (conv => whnf)))
        refine SemVC.mid [(6, .d (.bool false)), (8, .ea 5 [cnV T.1] 0 0), (9, .d (.int .i64 T.2)), (13, .ptr 13 0)] ((13, .cells 24 ((boN (boN ((l.map cnR).take (j : Int).toNat) :: ((l.map cnR).take (l.map cnR).length).drop (j : Int).toNat)).map .d)) :: NG) ?_ ?_
        · (refine tree2_rule (id := 14) hty (.first 1 (.first 2 (.first 3 (.first 7 (.first 8 (.first 9 (.alt 0 (.alt 4 (.alt 5 (.alt 6 (.alt 10 (.alt 11 (.alt 12 (.alt 13 .done .stop) .stop) (.alt 12 (.alt 11 (.alt 13 .done .stop) .stop) .stop)) (.alt 12 (.alt 10 (.alt 11 (.alt 13 .done .stop) .stop) .stop) .stop)) (.alt 12 (.alt 6 (.alt 10 (.alt 11 (.alt 13 .done .stop) .stop) .stop) .stop) .stop)) (.alt 12 (.alt 5 (.alt 6 (.alt 10 (.alt 11 (.alt 13 .done .stop) .stop) .stop) .stop) .stop) .stop)) (.alt 12 (.alt 4 (.alt 5 (.alt 6 (.alt 10 (.alt 11 (.alt 13 .done .stop) .stop) .stop) .stop) .stop) .stop) .stop)) (.alt 12 (.alt 0 (.alt 4 (.alt 5 (.alt 6 (.alt 10 (.alt 11 (.alt 13 .done .stop) .stop) .stop) .stop) .stop) .stop) .stop) .stop)))))))) (by kernel_rfl) (by kernel_rfl) ?_)
          ((conv => whnf); repeat' ((first | (intro hq; (try simp only [lnS] at hq); (try rewrite [List.length_map])) | refine sJ ?_ | refine Exists.intro _ (And.intro rfl ?_) | (refine Exists.intro (show (_ : Nat) < List.length _ from by first | omega | (simp only [List.length_cons, List.length_nil]; omega) | simp) ?_) | (refine And.intro (by rw [List.length_append]; exact rfl) ?_) | (refine call_tri [] (Tri.osl (both_spec _)) trivial (fun r hs => ?_); subst hs) | exact trivial | (refine And.intro ?_ ?_) | refine draw_rule hty (by kernel_rfl) (by kernel_rfl) ?_ | ((first | refine brB_dec (fun hb => ?_) (fun hb => ?_) | refine brB_ndec (fun hb => ?_) (fun hb => ?_)) <;> (first | contradiction | ((try simp only [lnS] at hb); (first | (exfalso; omega) | skip)))) | (refine brB_split (fun hb => ?_) (fun hb => ?_) <;> (first | contradiction | exact absurd (hb.symm.trans (by assumption) : false = true) (by decide) | exact absurd (hb.symm.trans (by assumption) : true = false) (by decide) | skip))) <;> (conv => whnf)))
          all_goals exact ⟨by repeat' (first | exact trivial | exact rfl | refine And.intro ?_ ?_), by repeat' (first | exact trivial | exact rfl | refine And.intro ?_ ?_)⟩
        have hG : cnR (boC (boC (l.take j) :: l.drop j)) = boN (boN ((l.map cnR).take (j : Int).toNat) :: ((l.map cnR).take (l.map cnR).length).drop (j : Int).toNat) := by
          rw [cnR_eq]
          show boN ((boC (l.take j) :: l.drop j).map cnR) = _
          rw [List.map_cons, cnR_eq]
          show boN (boN ((l.take j).map cnR) :: (l.drop j).map cnR) = _
          rw [List.map_take, List.map_drop, List.take_length, Int.toNat_natCast]
        have cg := checkConcept_spec (boC (boC (l.take j) :: l.drop j))
        have tg := Tidy_spec (boC (boC (l.take j) :: l.drop j))
        rw [hG] at cg tg
        generalize boC (boC (l.take j) :: l.drop j) = g at *
        by_cases h0 : T.2 = 0
        · by_cases hg : conceptE g = 0
          · rw [hg] at cg
            rcases hgj h0 hg with e | ⟨e1, e2⟩
            · rw [e, cnR_eq] at tg
              ((conv => whnf); repeat' ((first | (intro hq; (try simp only [lnS] at hq); (try rewrite [List.length_map])) | refine sJ ?_ | refine Exists.intro _ (And.intro rfl ?_) | (refine Exists.intro (show (_ : Nat) < List.length _ from by first | omega | (simp only [List.length_cons, List.length_nil]; omega) | simp) ?_) | (refine call_tri NG cg ⟨rfl, rfl, trivial⟩ (fun r hs => ?_); subst hs) | (refine call_tri NG tg ⟨rfl, rfl, trivial⟩ (fun r hs => ?_); subst hs) | (refine call_tri [] sT trivial (fun r hs => ?_); subst hs) | refine draw_rule hty (by kernel_rfl) (by kernel_rfl) ?_ | ((first | refine brB_dec (fun hb => ?_) (fun hb => ?_) | refine brB_ndec (fun hb => ?_) (fun hb => ?_)) <;> (first | contradiction | ((try simp only [lnS] at hb); (first | (exfalso; omega) | skip)))) | (refine brB_split (fun hb => ?_) (fun hb => ?_) <;> (first | contradiction | exact absurd (hb.symm.trans (by assumption) : false = true) (by decide) | exact absurd (hb.symm.trans (by assumption) : true = false) (by decide) | skip))) <;> (conv => whnf)))
              all_goals first | rfl | (refine bool_eq ?_; simp_all; done) | (exfalso; omega)
            · rw [e1, cnR_eq] at tg
              ((conv => whnf); repeat' ((first | (intro hq; (try simp only [lnS] at hq); (try rewrite [List.length_map])) | refine sJ ?_ | refine Exists.intro _ (And.intro rfl ?_) | (refine Exists.intro (show (_ : Nat) < List.length _ from by first | omega | (simp only [List.length_cons, List.length_nil]; omega) | simp) ?_) | (refine call_tri NG cg ⟨rfl, rfl, trivial⟩ (fun r hs => ?_); subst hs) | (refine call_tri NG tg ⟨rfl, rfl, trivial⟩ (fun r hs => ?_); subst hs) | refine draw_rule hty (by kernel_rfl) (by kernel_rfl) ?_ | ((first | refine brB_dec (fun hb => ?_) (fun hb => ?_) | refine brB_ndec (fun hb => ?_) (fun hb => ?_)) <;> (first | contradiction | ((try simp only [lnS] at hb); (first | (exfalso; omega) | skip)))) | (refine brB_split (fun hb => ?_) (fun hb => ?_) <;> (first | contradiction | exact absurd (hb.symm.trans (by assumption) : false = true) (by decide) | exact absurd (hb.symm.trans (by assumption) : true = false) (by decide) | skip))) <;> (conv => whnf)))
              all_goals first | rfl | (refine bool_eq ?_; simp_all; done) | (exfalso; omega)
          · ((conv => whnf); repeat' ((first | (intro hq; (try simp only [lnS] at hq); (try rewrite [List.length_map])) | refine sJ ?_ | refine Exists.intro _ (And.intro rfl ?_) | (refine Exists.intro (show (_ : Nat) < List.length _ from by first | omega | (simp only [List.length_cons, List.length_nil]; omega) | simp) ?_) | (refine call_tri NG cg ⟨rfl, rfl, trivial⟩ (fun r hs => ?_); subst hs) | refine draw_rule hty (by kernel_rfl) (by kernel_rfl) ?_ | ((first | refine brB_dec (fun hb => ?_) (fun hb => ?_) | refine brB_ndec (fun hb => ?_) (fun hb => ?_)) <;> (first | contradiction | ((try simp only [lnS] at hb); (first | (exfalso; omega) | skip)))) | (refine brB_split (fun hb => ?_) (fun hb => ?_) <;> (first | contradiction | exact absurd (hb.symm.trans (by assumption) : false = true) (by decide) | exact absurd (hb.symm.trans (by assumption) : true = false) (by decide) | skip))) <;> (conv => whnf)))
            all_goals first | rfl | (exfalso; omega)
        · ((conv => whnf); repeat' ((first | (intro hq; (try simp only [lnS] at hq); (try rewrite [List.length_map])) | refine sJ ?_ | refine Exists.intro _ (And.intro rfl ?_) | (refine Exists.intro (show (_ : Nat) < List.length _ from by first | omega | (simp only [List.length_cons, List.length_nil]; omega) | simp) ?_) | (refine call_tri NG cg ⟨rfl, rfl, trivial⟩ (fun r hs => ?_); subst hs) | refine draw_rule hty (by kernel_rfl) (by kernel_rfl) ?_ | ((first | refine brB_dec (fun hb => ?_) (fun hb => ?_) | refine brB_ndec (fun hb => ?_) (fun hb => ?_)) <;> (first | contradiction | ((try simp only [lnS] at hb); (first | (exfalso; omega) | skip)))) | (refine brB_split (fun hb => ?_) (fun hb => ?_) <;> (first | contradiction | exact absurd (hb.symm.trans (by assumption) : false = true) (by decide) | exact absurd (hb.symm.trans (by assumption) : true = false) (by decide) | skip))) <;> (conv => whnf)))
          all_goals first | rfl | (exfalso; omega)
      · refine call_tri NG c1 ⟨rfl, rfl, trivial⟩ (fun r hs => ?_)
        subst hs
        clear c1 c2
        ((conv => whnf); repeat ((first | (intro hq; try simp only [lnS] at hq) | refine sI ?_ | refine Exists.intro _ (And.intro rfl ?_)); (conv => whnf)))
        refine brB_dec (fun h2 => absurd h2 hE1) (fun h2 => ?_)
        ((conv => whnf); repeat ((first | (intro hq; try simp only [lnS] at hq) | refine sI ?_ | refine Exists.intro _ (And.intro rfl ?_)); (conv => whnf)))
        refine brB_dec (fun h2 => absurd h2 (by omega)) (fun h2 => ?_)
        ((conv => whnf); repeat ((first | (intro hq; try simp only [lnS] at hq) | refine sI ?_ | refine Exists.intro _ (And.intro rfl ?_)); (conv => whnf)))
        refine brB_dec (fun h3 => absurd h3 (by simp only [List.length_map]; omega)) (fun h3 => ?_)
        ((conv => whnf); repeat ((first | (intro hq; try simp only [lnS] at hq) | refine sI ?_ | refine Exists.intro _ (And.intro rfl ?_)); (conv => whnf)))
        refine SemVC.mid [(6, .d (.bool false)), (8, .ea 5 [cnV T.1] 0 0), (9, .d (.int .i64 T.2)), (13, .ptr 13 0)] ((13, .cells 24 ((boN (boN ((l.map cnR).take (j : Int).toNat) :: ((l.map cnR).take (l.map cnR).length).drop (j : Int).toNat)).map .d)) :: NG) ?_ ?_
        · (refine tree2_rule (id := 14) hty (.first 1 (.first 2 (.first 3 (.first 7 (.first 8 (.first 9 (.alt 0 (.alt 4 (.alt 5 (.alt 6 (.alt 10 (.alt 11 (.alt 12 (.alt 13 .done .stop) .stop) (.alt 12 (.alt 11 (.alt 13 .done .stop) .stop) .stop)) (.alt 12 (.alt 10 (.alt 11 (.alt 13 .done .stop) .stop) .stop) .stop)) (.alt 12 (.alt 6 (.alt 10 (.alt 11 (.alt 13 .done .stop) .stop) .stop) .stop) .stop)) (.alt 12 (.alt 5 (.alt 6 (.alt 10 (.alt 11 (.alt 13 .done .stop) .stop) .stop) .stop) .stop) .stop)) (.alt 12 (.alt 4 (.alt 5 (.alt 6 (.alt 10 (.alt 11 (.alt 13 .done .stop) .stop) .stop) .stop) .stop) .stop) .stop)) (.alt 12 (.alt 0 (.alt 4 (.alt 5 (.alt 6 (.alt 10 (.alt 11 (.alt 13 .done .stop) .stop) .stop) .stop) .stop) .stop) .stop) .stop)))))))) (by kernel_rfl) (by kernel_rfl) ?_)
          ((conv => whnf); repeat' ((first | (intro hq; (try simp only [lnS] at hq); (try rewrite [List.length_map])) | refine sJ ?_ | refine Exists.intro _ (And.intro rfl ?_) | (refine Exists.intro (show (_ : Nat) < List.length _ from by first | omega | (simp only [List.length_cons, List.length_nil]; omega) | simp) ?_) | (refine And.intro (by rw [List.length_append]; exact rfl) ?_) | (refine call_tri [] (Tri.osl (both_spec _)) trivial (fun r hs => ?_); subst hs) | exact trivial | (refine And.intro ?_ ?_) | refine draw_rule hty (by kernel_rfl) (by kernel_rfl) ?_ | ((first | refine brB_dec (fun hb => ?_) (fun hb => ?_) | refine brB_ndec (fun hb => ?_) (fun hb => ?_)) <;> (first | contradiction | ((try simp only [lnS] at hb); (first | (exfalso; omega) | skip)))) | (refine brB_split (fun hb => ?_) (fun hb => ?_) <;> (first | contradiction | exact absurd (hb.symm.trans (by assumption) : false = true) (by decide) | exact absurd (hb.symm.trans (by assumption) : true = false) (by decide) | skip))) <;> (conv => whnf)))
          all_goals exact ⟨by repeat' (first | exact trivial | exact rfl | refine And.intro ?_ ?_), by repeat' (first | exact trivial | exact rfl | refine And.intro ?_ ?_)⟩
        have hG : cnR (boC (boC (l.take j) :: l.drop j)) = boN (boN ((l.map cnR).take (j : Int).toNat) :: ((l.map cnR).take (l.map cnR).length).drop (j : Int).toNat) := by
          rw [cnR_eq]
          show boN ((boC (l.take j) :: l.drop j).map cnR) = _
          rw [List.map_cons, cnR_eq]
          show boN (boN ((l.take j).map cnR) :: (l.drop j).map cnR) = _
          rw [List.map_take, List.map_drop, List.take_length, Int.toNat_natCast]
        have cg := checkConcept_spec (boC (boC (l.take j) :: l.drop j))
        have tg := Tidy_spec (boC (boC (l.take j) :: l.drop j))
        rw [hG] at cg tg
        generalize boC (boC (l.take j) :: l.drop j) = g at *
        by_cases h0 : T.2 = 0
        · by_cases hg : conceptE g = 0
          · rw [hg] at cg
            rcases hgj h0 hg with e | ⟨e1, e2⟩
            · rw [e, cnR_eq] at tg
              ((conv => whnf); repeat' ((first | (intro hq; (try simp only [lnS] at hq); (try rewrite [List.length_map])) | refine sJ ?_ | refine Exists.intro _ (And.intro rfl ?_) | (refine Exists.intro (show (_ : Nat) < List.length _ from by first | omega | (simp only [List.length_cons, List.length_nil]; omega) | simp) ?_) | (refine call_tri NG cg ⟨rfl, rfl, trivial⟩ (fun r hs => ?_); subst hs) | (refine call_tri NG tg ⟨rfl, rfl, trivial⟩ (fun r hs => ?_); subst hs) | (refine call_tri [] sT trivial (fun r hs => ?_); subst hs) | refine draw_rule hty (by kernel_rfl) (by kernel_rfl) ?_ | ((first | refine brB_dec (fun hb => ?_) (fun hb => ?_) | refine brB_ndec (fun hb => ?_) (fun hb => ?_)) <;> (first | contradiction | ((try simp only [lnS] at hb); (first | (exfalso; omega) | skip)))) | (refine brB_split (fun hb => ?_) (fun hb => ?_) <;> (first | contradiction | exact absurd (hb.symm.trans (by assumption) : false = true) (by decide) | exact absurd (hb.symm.trans (by assumption) : true = false) (by decide) | skip))) <;> (conv => whnf)))
              all_goals first | rfl | (refine bool_eq ?_; simp_all; done) | (exfalso; omega)
            · rw [e1, cnR_eq] at tg
              ((conv => whnf); repeat' ((first | (intro hq; (try simp only [lnS] at hq); (try rewrite [List.length_map])) | refine sJ ?_ | refine Exists.intro _ (And.intro rfl ?_) | (refine Exists.intro (show (_ : Nat) < List.length _ from by first | omega | (simp only [List.length_cons, List.length_nil]; omega) | simp) ?_) | (refine call_tri NG cg ⟨rfl, rfl, trivial⟩ (fun r hs => ?_); subst hs) | (refine call_tri NG tg ⟨rfl, rfl, trivial⟩ (fun r hs => ?_); subst hs) | refine draw_rule hty (by kernel_rfl) (by kernel_rfl) ?_ | ((first | refine brB_dec (fun hb => ?_) (fun hb => ?_) | refine brB_ndec (fun hb => ?_) (fun hb => ?_)) <;> (first | contradiction | ((try simp only [lnS] at hb); (first | (exfalso; omega) | skip)))) | (refine brB_split (fun hb => ?_) (fun hb => ?_) <;> (first | contradiction | exact absurd (hb.symm.trans (by assumption) : false = true) (by decide) | exact absurd (hb.symm.trans (by assumption) : true = false) (by decide) | skip))) <;> (conv => whnf)))
              all_goals first | rfl | (refine bool_eq ?_; simp_all; done) | (exfalso; omega)
          · ((conv => whnf); repeat' ((first | (intro hq; (try simp only [lnS] at hq); (try rewrite [List.length_map])) | refine sJ ?_ | refine Exists.intro _ (And.intro rfl ?_) | (refine Exists.intro (show (_ : Nat) < List.length _ from by first | omega | (simp only [List.length_cons, List.length_nil]; omega) | simp) ?_) | (refine call_tri NG cg ⟨rfl, rfl, trivial⟩ (fun r hs => ?_); subst hs) | refine draw_rule hty (by kernel_rfl) (by kernel_rfl) ?_ | ((first | refine brB_dec (fun hb => ?_) (fun hb => ?_) | refine brB_ndec (fun hb => ?_) (fun hb => ?_)) <;> (first | contradiction | ((try simp only [lnS] at hb); (first | (exfalso; omega) | skip)))) | (refine brB_split (fun hb => ?_) (fun hb => ?_) <;> (first | contradiction | exact absurd (hb.symm.trans (by assumption) : false = true) (by decide) | exact absurd (hb.symm.trans (by assumption) : true = false) (by decide) | skip))) <;> (conv => whnf)))
            all_goals first | rfl | (exfalso; omega)
        · ((conv => whnf); repeat' ((first | (intro hq; (try simp only [lnS] at hq); (try rewrite [List.length_map])) | refine sJ ?_ | refine Exists.intro _ (And.intro rfl ?_) | (refine Exists.intro (show (_ : Nat) < List.length _ from by first | omega | (simp only [List.length_cons, List.length_nil]; omega) | simp) ?_) | (refine call_tri NG cg ⟨rfl, rfl, trivial⟩ (fun r hs => ?_); subst hs) | refine draw_rule hty (by kernel_rfl) (by kernel_rfl) ?_ | ((first | refine brB_dec (fun hb => ?_) (fun hb => ?_) | refine brB_ndec (fun hb => ?_) (fun hb => ?_)) <;> (first | contradiction | ((try simp only [lnS] at hb); (first | (exfalso; omega) | skip)))) | (refine brB_split (fun hb => ?_) (fun hb => ?_) <;> (first | contradiction | exact absurd (hb.symm.trans (by assumption) : false = true) (by decide) | exact absurd (hb.symm.trans (by assumption) : true = false) (by decide) | skip))) <;> (conv => whnf)))
          all_goals first | rfl | (exfalso; omega)
end Go.Proofs.YtkbmlchceiglfaaGreatDoor
