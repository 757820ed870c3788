/-
  Bases: the reference's Same at one list of axioms; few and same of the law of renamings. Rename: lists of the law's own; the chapter's examples. Rename: the laws of axioms with other names, plainly. Rename: the names of renamings. RenameTwice, walked.
  Conditions: none.
-/
import Derived.Test.YtpecmehekandgaaGreatDoorMDb
import Derived.Test.YtpecmehekandgaaGreatDoorMAq
import Derived.Test.YtpecmehekandgaaGreatDoorMBq
import Derived.Test.YtpecmehekandgaaGreatDoorMTcr
import Derived.Test.YtpecmehekandgaaGreatDoorMSyd
import Derived.Test.YtpecmehekandgaaGreatDoorMRu
set_option linter.unnecessarySimpa false
set_option linter.unusedSectionVars false
set_option linter.unusedSimpArgs false
set_option linter.unusedVariables false
namespace Go.Proofs.YtpecmehekandgaaGreatDoor
open Go.Proofs
set_option maxRecDepth 10000
attribute [local irreducible] SemVC CallVC Tri Stuck YVC GenP GenVC
structure Sm6 (x : Ax) : Prop where
  l : sizeF x.left ≤ 1000000
  r : sizeF x.right ≤ 1000000
  n : x.roles.length ≤ 1000000
theorem sm6_ok {x : Ax} (h : axiomE x = 0) : Sm6 x := by
  obtain ⟨h1, h2, h3⟩ := axiomE_bnd h
  exact ⟨by omega, by omega, by omega⟩
theorem bAxiom_self (x : Ax) (h : Sm6 x) : Tri Tryz.prog 90 [.d (.agg (axR x)), .d (.agg (axR x))] [] (fun r => r = .d (.bool true)) := by
  have c := rCompareAxiom_spec x x h.l h.r h.n h.l h.r h.n
  rw [show cmpAx x x = 0 from cmpAx_zero.2 rfl] at c
  refine tri_of_bodyF false [2, 3] hty Tryz.func90 rfl (kp [0, 1, 2, 3, 4]) [] _ _ _ (by simp [Tryz.f90]) (by simp) ?_
  ((conv => whnf); repeat' ((first | (intro hq; (try simp only [lnS] at hq); (try rewrite [List.length_map])) | refine sJ ?_ | refine .intro _ (.intro rfl ?_) | (refine .intro (show (_ : Nat) < List.length _ from by first | omega | (simp only [lnS]; omega) | simp) ?_) | (refine call_tri [] c trivial (fun r hs => ?_); subst hs) | refine draw_rule hty (by kernel_rfl) (by kernel_rfl) ?_ | ((first | refine brB_dec ?_ ?_ | refine brB_ndec ?_ ?_) <;> intro hb <;> (first | contradiction | ((try simp only [lnS] at hb); try (exfalso; omega)))) | (refine brB_split ?_ ?_ <;> intro hb <;> (first | contradiction | exact bT hb (by assumption) | exact bF hb (by assumption) | skip))) <;> (conv => whnf)))
  all_goals first
    | rfl
    | (refine bool_eq ?_; simp)
    | (exfalso; simp_all; done)
theorem bAxioms_self (l : List Ax) (h : ∀ x ∈ l, Sm6 x) : Tri Tryz.prog 55 [.d (.sl 16 (l.map axR)), .d (.sl 16 (l.map axR))] [] (fun r => r = .d (.bool true)) := by
  refine tri_of_bodyF false [] hty Tryz.func55 rfl (kp [0, 1, 4, 5, 10, 14, 26]) [] _ _ _ (by simp [Tryz.f55]) (by simp) ?_
  ((conv => whnf); repeat ((first | (intro hq; try simp only [lnS] at hq) | refine sI ?_ | refine .intro _ (.intro rfl ?_)); (conv => whnf)))
  refine brB_ndec (fun h1 => ?_) (fun h1 => ?_)
  · exact absurd rfl h1
  ((conv => whnf); repeat ((first | (intro hq; try simp only [lnS] at hq) | refine sI ?_ | refine .intro _ (.intro rfl ?_)); (conv => whnf)))
  refine loop_rule hty (fun j : Nat => ([(0, .d (.sl 16 (l.map axR))), (1, .d (.sl 16 (l.map axR))), (5, .d (.int .i64 j))], [])) (fun j => j ≤ l.length) (fun j => l.length - j) 0 (by omega) ⟨by repeat' (first | exact trivial | exact rfl | refine And.intro ?_ ?_), trivial⟩ ?_
  rintro j hj
  ((conv => whnf); repeat ((first | (intro hq; try simp only [lnS] at hq) | refine sI ?_ | refine .intro _ (.intro rfl ?_)); (conv => whnf)))
  refine brB_dec (fun h2 => ?_) (fun h2 => ?_)
  · have hjl : j < l.length := by have h2 : (j : Int) < ((l.map axR).length : Nat) := h2; rw [List.length_map] at h2; omega
    have hrow : (l.map axR)[(j : Int).toNat]? = some (axR l[j]) := rowC_at hjl
    have c := bAxiom_self l[j] (h _ (List.getElem_mem hjl))
    generalize l[j] = x at hrow c
    ((conv => whnf); repeat' ((first | (intro hq; (try simp only [lnS] at hq); (try rewrite [List.length_map])) | refine sJ ?_ | refine .intro _ (.intro rfl ?_) | (refine .intro (show (_ : Nat) < List.length _ from by first | omega | (simp only [lnS]; omega) | simp) ?_) | (refine ⟨_, hrow, ?_⟩) | (refine ⟨.d (.bool _), _, [], rfl, trivial, c, ?_⟩) | refine draw_rule hty (by kernel_rfl) (by kernel_rfl) ?_ | ((first | refine brB_dec ?_ ?_ | refine brB_ndec ?_ ?_) <;> intro hb <;> (first | contradiction | ((try simp only [lnS] at hb); try (exfalso; omega)))) | (refine brB_split ?_ ?_ <;> intro hb <;> (first | contradiction | exact bT hb (by assumption) | exact bF hb (by assumption) | skip))) <;> (conv => whnf)))
    exact ⟨j + 1, by dsimp only; omega, by dsimp only; omega, ⟨by repeat' (first | exact trivial | exact rfl | refine And.intro ?_ ?_), by repeat' (first | exact trivial | exact rfl | refine And.intro ?_ ?_)⟩⟩
  · ((conv => whnf); repeat' ((first | (intro hq; (try simp only [lnS] at hq); (try rewrite [List.length_map])) | refine sJ ?_ | refine .intro _ (.intro rfl ?_) | (refine .intro (show (_ : Nat) < List.length _ from by first | omega | (simp only [lnS]; omega) | simp) ?_) | fail | refine draw_rule hty (by kernel_rfl) (by kernel_rfl) ?_ | ((first | refine brB_dec ?_ ?_ | refine brB_ndec ?_ ?_) <;> intro hb <;> (first | contradiction | ((try simp only [lnS] at hb); try (exfalso; omega)))) | (refine brB_split ?_ ?_ <;> intro hb <;> (first | contradiction | exact bT hb (by assumption) | exact bF hb (by assumption) | skip))) <;> (conv => whnf)))
    rfl
theorem bSame_self (l : List Ax) (h : ∀ x ∈ l, Sm6 x) : Tri Tryz.prog 32 [.d (.agg [.sl 16 (l.map axR)]), .d (.agg [.sl 16 (l.map axR)])] [] (fun r => r = .d (.bool true)) := by
  have c := bAxioms_self l h
  refine tri_of_bodyF false [2, 3] hty Tryz.func32 rfl (kp [0, 1, 2, 3, 4]) [] _ _ _ (by simp [Tryz.f32]) (by simp) ?_
  ((conv => whnf); repeat' ((first | (intro hq; (try simp only [lnS] at hq); (try rewrite [List.length_map])) | refine sJ ?_ | refine .intro _ (.intro rfl ?_) | (refine .intro (show (_ : Nat) < List.length _ from by first | omega | (simp only [lnS]; omega) | simp) ?_) | (refine call_tri [] c trivial (fun r hs => ?_); subst hs) | refine draw_rule hty (by kernel_rfl) (by kernel_rfl) ?_ | ((first | refine brB_dec ?_ ?_ | refine brB_ndec ?_ ?_) <;> intro hb <;> (first | contradiction | ((try simp only [lnS] at hb); try (exfalso; omega)))) | (refine brB_split ?_ ?_ <;> intro hb <;> (first | contradiction | exact bT hb (by assumption) | exact bF hb (by assumption) | skip))) <;> (conv => whnf)))
  rfl
theorem lSame_self (l : List Ax) (h : ∀ x ∈ l, Sm6 x) : Tri Tryz.prog 13 [.d (.sl 16 (l.map axR)), .d (.sl 16 (l.map axR))] [] (fun r => r = .d (.bool true)) := by
  have c := bSame_self l h
  refine tri_of_bodyF false [] hty Tryz.func13 rfl (kp [0, 1, 4]) [] _ _ _ (by simp [Tryz.f13]) (by simp) ?_
  ((conv => whnf); repeat' ((first | (intro hq; (try simp only [lnS] at hq); (try rewrite [List.length_map])) | refine sJ ?_ | refine .intro _ (.intro rfl ?_) | (refine .intro (show (_ : Nat) < List.length _ from by first | omega | (simp only [lnS]; omega) | simp) ?_) | (refine call_tri [] c trivial (fun r hs => ?_); subst hs) | refine draw_rule hty (by kernel_rfl) (by kernel_rfl) ?_ | ((first | refine brB_dec ?_ ?_ | refine brB_ndec ?_ ?_) <;> intro hb <;> (first | contradiction | ((try simp only [lnS] at hb); try (exfalso; omega)))) | (refine brB_split ?_ ?_ <;> intro hb <;> (first | contradiction | exact bT hb (by assumption) | exact bF hb (by assumption) | skip))) <;> (conv => whnf)))
  rfl
def fewRX (n k : Nat) : Bool := decide (n ≤ 20) && decide (k ≤ 20)
theorem lFew_spec (rows : List (List D)) (rows2 : List (List D)) : Tri Tryz.prog 10 [.d (.sl 3 rows), .d (.sl 16 rows2)] [] (fun r => r = .d (.bool (fewRX rows.length rows2.length))) := by
  unfold fewRX
  refine tri_of_bodyF false [] hty Tryz.func10 rfl (kp [0, 1, 4]) [] _ _ _ (by simp [Tryz.f10]) (by simp) ?_
  ((conv => whnf); repeat' ((first | (intro hq; (try simp only [lnS] at hq); (try rewrite [List.length_map])) | refine sJ ?_ | refine .intro _ (.intro rfl ?_) | (refine .intro (show (_ : Nat) < List.length _ from by first | omega | (simp only [lnS]; omega) | simp) ?_) | fail | refine draw_rule hty (by kernel_rfl) (by kernel_rfl) ?_ | ((first | refine brB_dec ?_ ?_ | refine brB_ndec ?_ ?_) <;> intro hb <;> (first | contradiction | ((try simp only [lnS] at hb); try (exfalso; omega)))) | (refine brB_split ?_ ?_ <;> intro hb <;> (first | contradiction | exact bT hb (by assumption) | exact bF hb (by assumption) | skip))) <;> (conv => whnf)))
  all_goals refine bool_eq (Eq.symm ?_)
  · have h9 : rows.length ≤ 20 := by omega
    rw [decide_eq_true h9, Bool.true_and, decide_eq_decide]
    omega
  · have h9 : ¬ rows.length ≤ 20 := by omega
    rw [decide_eq_false h9]
    rfl
end Go.Proofs.YtpecmehekandgaaGreatDoor
namespace Go.Proofs.YtpecmehekandgaaGreatDoor
open Go.Proofs
set_option maxRecDepth 10000
attribute [local irreducible] SemVC CallVC Tri Stuck YVC GenP GenVC
set_option maxHeartbeats 4000000 in
theorem of2_spec (a b : List UInt8) : Tri Tryz.prog 26 [.d (.sl 1 [[.str a], [.str b]])] [] (fun r => r = .d (rnL [⟨1, a, b⟩])) := by
  refine tri_of_bodyF false [] hty Tryz.func26 rfl (kp [0, 2, 3, 8]) [] _ _ _ (by simp [Tryz.f26]) (by simp) ?_
  ((conv => whnf); repeat ((first | (intro hq; try simp only [lnS] at hq) | refine sI ?_ | refine .intro _ (.intro rfl ?_)); (conv => whnf)))
  refine SemVC.own 2 120 54 3 rfl (fresh_of (by with_unfolding_all exact rfl)) ?_
  refine unroll hty 2 ?_
  ((conv => whnf); repeat' ((first | exact trivial | refine altAnd ?_ ?_ | (refine tree2_rule (id := 4) hty (.first 0 (.first 1 (.first 2 (.first 3 (.first 4 (.first 5 (.first 6 (.first 7 (.first 8 (.first 9 (.first 10 (.alt 11 (.alt 12 (.first 13 .done) .stop) .stop)))))))))))) (by kernel_rfl) (by kernel_rfl) ?_) | (intro hq; (try simp only [lnS] at hq); (try rewrite [List.length_map])) | refine sJ ?_ | refine .intro _ (.intro rfl ?_) | (refine .intro (show (_ : Nat) < List.length _ from by first | omega | (simp only [lnS]; omega) | simp) ?_) | refine draw_rule hty (by kernel_rfl) (by kernel_rfl) ?_ | ((first | refine brB_dec ?_ ?_ | refine brB_ndec ?_ ?_) <;> intro hb <;> (first | contradiction | ((try simp only [lnS] at hb); try (exfalso; omega)))) | (refine brB_split ?_ ?_ <;> intro hb <;> (first | contradiction | exact bT hb (by assumption) | exact bF hb (by assumption) | skip))) <;> (conv => whnf)))
  rfl
set_option maxHeartbeats 4000000 in
theorem of4_spec (a b c d : List UInt8) : Tri Tryz.prog 26 [.d (.sl 1 [[.str a], [.str b], [.str c], [.str d]])] [] (fun r => r = .d (rnL [⟨1, a, b⟩, ⟨1, c, d⟩])) := by
  refine tri_of_bodyF false [] hty Tryz.func26 rfl (kp [0, 2, 3, 8]) [] _ _ _ (by simp [Tryz.f26]) (by simp) ?_
  ((conv => whnf); repeat ((first | (intro hq; try simp only [lnS] at hq) | refine sI ?_ | refine .intro _ (.intro rfl ?_)); (conv => whnf)))
  refine SemVC.own 2 120 54 3 rfl (fresh_of (by with_unfolding_all exact rfl)) ?_
  refine loop_rule hty (fun j : Nat => ([(0, .d (.sl 1 [[.str a], [.str b], [.str c], [.str d]])), (2, .osl 120 3 ((([⟨1, a, b⟩, ⟨1, c, d⟩] : List Rn).take j).map rnR)), (3, .d (.int .i64 ((2 * j : Nat) : Int)))], [(120, .own 54 3 ((([⟨1, a, b⟩, ⟨1, c, d⟩] : List Rn).take j).map rnR).length)])) (fun j => j ≤ 2) (fun j => 2 - j) 0 (by omega) ⟨by repeat' (first | exact trivial | exact rfl | refine And.intro ?_ ?_), by repeat' (first | exact trivial | exact rfl | refine And.intro ?_ ?_)⟩ ?_
  intro j hj
  have hj3 : j = 0 ∨ j = 1 ∨ j = 2 := by omega
  rcases hj3 with rfl | rfl | rfl
  · ((conv => whnf); repeat' ((first | exact trivial | refine altAnd ?_ ?_ | (refine tree2_rule (id := 4) hty (.first 0 (.first 1 (.first 2 (.first 3 (.first 4 (.first 5 (.first 6 (.first 7 (.first 8 (.first 9 (.first 10 (.alt 11 (.alt 12 (.first 13 .done) .stop) .stop)))))))))))) (by kernel_rfl) (by kernel_rfl) ?_) | (intro hq; (try simp only [lnS] at hq); (try rewrite [List.length_map])) | refine sJ ?_ | refine .intro _ (.intro rfl ?_) | (refine .intro (show (_ : Nat) < List.length _ from by first | omega | (simp only [lnS]; omega) | simp) ?_) | refine draw_rule hty (by kernel_rfl) (by kernel_rfl) ?_ | ((first | refine brB_dec ?_ ?_ | refine brB_ndec ?_ ?_) <;> intro hb <;> (first | contradiction | ((try simp only [lnS] at hb); try (exfalso; omega)))) | (refine brB_split ?_ ?_ <;> intro hb <;> (first | contradiction | exact bT hb (by assumption) | exact bF hb (by assumption) | skip))) <;> (conv => whnf)))
    exact ⟨1, by decide, by decide, ⟨by repeat' (first | exact trivial | exact rfl | refine And.intro ?_ ?_), by repeat' (first | exact trivial | exact rfl | refine And.intro ?_ ?_)⟩⟩
  · ((conv => whnf); repeat' ((first | exact trivial | refine altAnd ?_ ?_ | (refine tree2_rule (id := 4) hty (.first 0 (.first 1 (.first 2 (.first 3 (.first 4 (.first 5 (.first 6 (.first 7 (.first 8 (.first 9 (.first 10 (.alt 11 (.alt 12 (.first 13 .done) .stop) .stop)))))))))))) (by kernel_rfl) (by kernel_rfl) ?_) | (intro hq; (try simp only [lnS] at hq); (try rewrite [List.length_map])) | refine sJ ?_ | refine .intro _ (.intro rfl ?_) | (refine .intro (show (_ : Nat) < List.length _ from by first | omega | (simp only [lnS]; omega) | simp) ?_) | refine draw_rule hty (by kernel_rfl) (by kernel_rfl) ?_ | ((first | refine brB_dec ?_ ?_ | refine brB_ndec ?_ ?_) <;> intro hb <;> (first | contradiction | ((try simp only [lnS] at hb); try (exfalso; omega)))) | (refine brB_split ?_ ?_ <;> intro hb <;> (first | contradiction | exact bT hb (by assumption) | exact bF hb (by assumption) | skip))) <;> (conv => whnf)))
    exact ⟨2, by decide, by decide, ⟨by repeat' (first | exact trivial | exact rfl | refine And.intro ?_ ?_), by repeat' (first | exact trivial | exact rfl | refine And.intro ?_ ?_)⟩⟩
  · ((conv => whnf); repeat' ((first | (intro hq; (try simp only [lnS] at hq); (try rewrite [List.length_map])) | refine sJ ?_ | refine .intro _ (.intro rfl ?_) | (refine .intro (show (_ : Nat) < List.length _ from by first | omega | (simp only [lnS]; omega) | simp) ?_) | fail | refine draw_rule hty (by kernel_rfl) (by kernel_rfl) ?_ | ((first | refine brB_dec ?_ ?_ | refine brB_ndec ?_ ?_) <;> intro hb <;> (first | contradiction | ((try simp only [lnS] at hb); try (exfalso; omega)))) | (refine brB_split ?_ ?_ <;> intro hb <;> (first | contradiction | exact bT hb (by assumption) | exact bF hb (by assumption) | skip))) <;> (conv => whnf)))
    rfl
def rAB : List Rn := [⟨1, [65], [66]⟩]
def rABBA : List Rn := [⟨1, [65], [66]⟩, ⟨1, [66], [65]⟩]
def rBC : List Rn := [⟨1, [66], [67]⟩]
def rACBA : List Rn := [⟨1, [65], [67]⟩, ⟨1, [66], [65]⟩]
def axRA : Ax := ⟨8, false, c0, .mk 3 [65] 0 0 [], [], [], [65], []⟩
def axRB : Ax := ⟨8, false, c0, .mk 3 [66] 0 0 [], [], [], [65], []⟩
theorem comp1 : compR rABBA rBC = (rACBA, 0) := by kernel_rfl
theorem comp2 : compR rAB rBC = ([], 330) := by kernel_rfl
theorem axm1 : axmR rAB [axRA] = ([axRB], 0) := by kernel_rfl
theorem chk1 : checkR [⟨1, [65], [65]⟩] = 330 := by kernel_rfl
theorem chk2 : checkR [⟨1, [65], [66]⟩, ⟨1, [65], [67]⟩] = 330 := by kernel_rfl
theorem chk3 : checkR [⟨1, [65], [67]⟩, ⟨1, [66], [67]⟩] = 330 := by kernel_rfl
theorem Tri.oslN2 {P : Program} {f : FuncId} {s0 : SV} {id z : Nat} {rows rows' : List (List D)} {hp : Hp} {post : SV → Prop} (h : Tri P f [s0, .d (.sl z rows')] hp post) (hw : WkDR rows rows') : Tri P f [s0, .osl id z rows] hp post := by
  unfold Tri at h ⊢
  intro w ρ vs a b c
  refine h w ρ vs a ⟨b.1, fun j s v hs hv => ?_⟩ c
  match j, hs with
  | 0, hs => exact b.2 0 s v hs hv
  | 1, hs =>
    injection hs with hs; subst hs
    exact .d _ _ (WkD_ok (b.2 1 _ v rfl hv).osl_inv.1 _ (by simpa [WkD] using hw))
def axRow : List D := [.int .i64 8, .bool false, .int .i64 0, .str [], .int .i64 0, .int .i64 0, .nil, .int .i64 3, .str [65], .int .i64 0, .int .i64 0, .nil, .nil, .str [], .str [65], .str []]
set_option maxHeartbeats 16000000 in
theorem rsane_spec : Tri Tryz.prog 9 [] NG (fun r => r = .d (.bool true)) := by
  have o1 := fun (id : Nat) => Tri.osl (id := id) (of4_spec [65] [66] [66] [65])
  have o2 := fun (id : Nat) => Tri.osl (id := id) (of2_spec [66] [67])
  have o3 := fun (id : Nat) => Tri.osl (id := id) (of2_spec [65] [66])
  have o4 := fun (id : Nat) => Tri.osl (id := id) (of2_spec [65] [65])
  have o5 := fun (id : Nat) => Tri.osl (id := id) (of4_spec [65] [66] [65] [67])
  have o6 := fun (id : Nat) => Tri.osl (id := id) (of4_spec [65] [67] [66] [67])
  have o7 := fun (id : Nat) => Tri.osl (id := id) (of4_spec [65] [67] [66] [65])
  have k1 := rnCompose_spec rABBA rBC
  have k2 := rnCompose_spec rAB rBC
  rw [comp1] at k1
  rw [comp2] at k2
  have k3 := rnAxioms_spec rAB [axRA] (by decide)
  rw [axm1] at k3
  have c1 := rnCheck_spec [⟨1, [65], [65]⟩]
  have c2 := rnCheck_spec [⟨1, [65], [66]⟩, ⟨1, [65], [67]⟩]
  have c3 := rnCheck_spec [⟨1, [65], [67]⟩, ⟨1, [66], [67]⟩]
  rw [chk1] at c1
  rw [chk2] at c2
  rw [chk3] at c3
  have s1 := rrSame_self rACBA
  refine tri_of_bodyF false [5] hty Tryz.func9 rfl (kp [0, 1, 2, 4, 5, 6, 7, 8]) [] _ _ _ (by simp [Tryz.f9]) (by decide) ?_
  ((conv => whnf); repeat ((first | (intro hq; try simp only [lnS] at hq) | refine sI ?_ | refine .intro _ (.intro rfl ?_)); (conv => whnf)))
  refine call_tri [] (o1 _) trivial (fun r hs => ?_)
  subst hs
  ((conv => whnf); repeat ((first | (intro hq; try simp only [lnS] at hq) | refine sI ?_ | refine .intro _ (.intro rfl ?_)); (conv => whnf)))
  refine call_tri [] (o2 _) trivial (fun r hs => ?_)
  subst hs
  ((conv => whnf); repeat ((first | (intro hq; try simp only [lnS] at hq) | refine sI ?_ | refine .intro _ (.intro rfl ?_)); (conv => whnf)))
  refine call_tri [] k1 trivial (fun r hs => ?_)
  subst hs
  ((conv => whnf); repeat ((first | (intro hq; try simp only [lnS] at hq) | refine sI ?_ | refine .intro _ (.intro rfl ?_)); (conv => whnf)))
  refine call_tri [] (o3 _) trivial (fun r hs => ?_)
  subst hs
  ((conv => whnf); repeat ((first | (intro hq; try simp only [lnS] at hq) | refine sI ?_ | refine .intro _ (.intro rfl ?_)); (conv => whnf)))
  refine call_tri [] (o2 _) trivial (fun r hs => ?_)
  subst hs
  ((conv => whnf); repeat ((first | (intro hq; try simp only [lnS] at hq) | refine sI ?_ | refine .intro _ (.intro rfl ?_)); (conv => whnf)))
  refine call_tri [] k2 trivial (fun r hs => ?_)
  subst hs
  ((conv => whnf); repeat ((first | (intro hq; try simp only [lnS] at hq) | refine sI ?_ | refine .intro _ (.intro rfl ?_)); (conv => whnf)))
  refine SemVC.mid [(0, .d (.bool false)), (1, .d (rnL rACBA)), (2, .d (.int .i64 0)), (4, .d (.int .i64 330)), (6, .d (.sl 16 [axR axRB])), (7, .d (.int .i64 0))] NG ?_ ?_
  · have k4 : Tri Tryz.prog 11 [.d (rnL rAB), .d (.sl 16 [axR axRA])] NG (fun r => r = .tup [.d (.sl 16 [axR axRB]), .d (.int .i64 0)]) := k3
    have k5 := fun (id : Nat) => Tri.oslN2 (id := id) (rows := [axRow]) k4 (by repeat' (first | exact trivial | exact rfl | refine And.intro ?_ ?_))
    (refine tree2_rule (id := 4) hty (.first 2 (.alt 0 (.alt 1 (.alt 3 (.alt 4 (.first 5 (.first 6 (.first 7 (.first 8 (.first 9 .done))))) .stop) .stop) (.alt 3 (.alt 1 (.alt 4 (.first 5 (.first 6 (.first 7 (.first 8 (.first 9 .done))))) .stop) .stop) .stop)) (.alt 3 (.alt 0 (.alt 1 (.alt 4 (.first 5 (.first 6 (.first 7 (.first 8 (.first 9 .done))))) .stop) .stop) .stop) .stop))) (by kernel_rfl) (by kernel_rfl) ?_)
    ((conv => whnf); repeat' ((first | exact trivial | refine altAnd ?_ ?_ | refine eqN rfl ?_ | refine leN rfl ?_ | refine ltN rfl ?_ | (refine call_tri [] (o3 _) trivial (fun r hs => ?_); subst hs) | (refine call_tri NG (k5 _) (by exact ⟨rfl, rfl, trivial⟩) (fun r hs => ?_); subst hs) | refine sJ ?_ | (refine Exists.intro _ (And.intro rfl ?_))) <;> (conv => whnf)))
    all_goals exact ⟨by repeat' (first | exact trivial | exact rfl | refine And.intro ?_ ?_), by repeat' (first | exact trivial | exact rfl | refine And.intro ?_ ?_)⟩
  ((conv => whnf); repeat ((first | (intro hq; try simp only [lnS] at hq) | refine sI ?_ | refine .intro _ (.intro rfl ?_)); (conv => whnf)))
  refine call_tri [] (o4 _) trivial (fun r hs => ?_)
  subst hs
  ((conv => whnf); repeat ((first | (intro hq; try simp only [lnS] at hq) | refine sI ?_ | refine .intro _ (.intro rfl ?_)); (conv => whnf)))
  refine call_tri [] c1 trivial (fun r hs => ?_)
  subst hs
  ((conv => whnf); repeat ((first | (intro hq; try simp only [lnS] at hq) | refine sI ?_ | refine .intro _ (.intro rfl ?_)); (conv => whnf)))
  refine call_tri [] (o5 _) trivial (fun r hs => ?_)
  subst hs
  ((conv => whnf); repeat ((first | (intro hq; try simp only [lnS] at hq) | refine sI ?_ | refine .intro _ (.intro rfl ?_)); (conv => whnf)))
  refine call_tri [] c2 trivial (fun r hs => ?_)
  subst hs
  ((conv => whnf); repeat ((first | (intro hq; try simp only [lnS] at hq) | refine sI ?_ | refine .intro _ (.intro rfl ?_)); (conv => whnf)))
  refine call_tri [] (o6 _) trivial (fun r hs => ?_)
  subst hs
  ((conv => whnf); repeat ((first | (intro hq; try simp only [lnS] at hq) | refine sI ?_ | refine .intro _ (.intro rfl ?_)); (conv => whnf)))
  refine call_tri [] c3 trivial (fun r hs => ?_)
  subst hs
  ((conv => whnf); repeat ((first | (intro hq; try simp only [lnS] at hq) | refine sI ?_ | refine .intro _ (.intro rfl ?_)); (conv => whnf)))
  refine call_tri [] (o7 _) trivial (fun r hs => ?_)
  subst hs
  ((conv => whnf); repeat ((first | (intro hq; try simp only [lnS] at hq) | refine sI ?_ | refine .intro _ (.intro rfl ?_)); (conv => whnf)))
  refine call_tri [] s1 trivial (fun r hs => ?_)
  subst hs
  ((conv => whnf); repeat ((first | (intro hq; try simp only [lnS] at hq) | refine sI ?_ | refine .intro _ (.intro rfl ?_)); (conv => whnf)))
  rfl
end Go.Proofs.YtpecmehekandgaaGreatDoor
namespace Go.Proofs.YtpecmehekandgaaGreatDoor
open Go.Proofs
theorem tidyA_kind {x : Ax} (h0 : (tidyA x).2 = 0) : (tidyA x).1.kind = x.kind ∧ (tidyA x).1.isopen = x.isopen := by
  obtain ⟨hE, _, _⟩ := axiom_tidy h0
  rw [tidyA_ok hE] at h0 ⊢
  obtain ⟨z1, z2⟩ := tidyU_zero h0
  rw [tidyU_eq z1 z2]
  split <;> exact ⟨rfl, rfl⟩
theorem firstA_tidy {xs : List Ax} {f : Ax → Ax} (h : ∀ x ∈ xs, (tidyA (f x)).2 = 0) : firstA (xs.map fun x => (tidyA (f x)).1) = 0 := by
  rw [firstA_iff]
  intro y hy
  obtain ⟨x, hx, rfl⟩ := List.mem_map.1 hy
  exact (axiom_tidy (h x hx)).2.1
def freeR (l : List Rn) (xs : List Ax) : Prop := ∀ r ∈ l, (∃ s ∈ l, s.kind = r.kind ∧ s.old = r.new) ∨ ∀ s ∈ lst (vocN xs) (r.kind - 1).toNat, s ≠ r.new
theorem free_name {l i : List Rn} (hl : Good l) (hi : Inv l i) {xs : List Ax} (hf : freeR l xs) {x : Ax} (hx : x ∈ xs) {n : Nat} (hn : n < 4) {s : List UInt8} (hs : axI x s n) : nameR i (n + 1 : Nat) (nameR l (n + 1 : Nat) s) = s := by
  refine hi.name hl ?_
  by_cases h : ∃ r ∈ l, keyN r = (((n + 1 : Nat) : Int), s)
  · obtain ⟨r, hr, e⟩ := h
    unfold keyN at e
    rw [Prod.mk.injEq] at e
    rcases hf r hr with ⟨q, hq, e1, e2⟩ | h2
    · left
      refine ⟨q, hq, ?_⟩
      unfold keyO
      rw [e1, e2, e.1, e.2]
    · exfalso
      refine h2 s ?_ e.2.symm
      rw [e.1, show ((((n + 1 : Nat) : Int) - 1).toNat) = n by omega]
      exact (mem_lst xs n s).2 ⟨x, hx, hs⟩
  · exact .inr fun r hr e => h ⟨r, hr, e⟩
theorem axm_back {l i : List Rn} {xs : List Ax} (hl : Good l) (hlen : l.length ≤ 1024) (hi : Inv l i) (hilen : i.length ≤ 1024) (hf : freeR l xs) (ht : ∀ x ∈ xs, (tidyA x).2 = 0) :
    (axmR l (xs.map fun x => (tidyA x).1)).2 = 0 ∧ axmR i (axmR l (xs.map fun x => (tidyA x).1)).1 = (xs.map fun x => (tidyA x).1, 0) := by
  have gl := good_ren hl
  have gi := good_ren (hi.good hl)
  have c1 : checkR l = 0 := (checkR_zero hlen).2 hl
  have c2 : checkR i = 0 := (checkR_zero hilen).2 (hi.good hl)
  have f1 : firstA (xs.map fun x => (tidyA x).1) = 0 := firstA_tidy (f := fun x => x) ht
  have t1 : ∀ x ∈ xs, (tidyA (renX (nameR l) (tidyA x).1)).2 = 0 := fun x hx => (tidyA_ren gl (by rw [tidyA_twice (ht x hx)])).1
  have e1 : axmR l (xs.map fun x => (tidyA x).1) = (xs.map fun x => (tidyA (renX (nameR l) (tidyA x).1)).1, 0) := by
    unfold axmR
    rw [if_neg (by omega), if_neg (by omega), tidL_all, List.map_map]
    · rfl
    · intro y hy
      obtain ⟨x, hx, rfl⟩ := List.mem_map.1 hy
      exact t1 x hx
  rw [e1]
  refine ⟨rfl, ?_⟩
  dsimp only
  have f2 : firstA (xs.map fun x => (tidyA (renX (nameR l) (tidyA x).1)).1) = 0 := firstA_tidy (f := fun x => renX (nameR l) (tidyA x).1) t1
  have key : ∀ x ∈ xs, tidyA (renX (nameR i) (tidyA (renX (nameR l) (tidyA x).1)).1) = ((tidyA x).1, 0) := fun x hx => by
    rw [(tidyA_ren gi (t1 x hx)).2, renX_two]
    have hsame : renX (fun k s => nameR i k (nameR l k s)) (tidyA x).1 = (tidyA x).1 := by
      have sub := (axiom_tidy (ht x hx)).2.2
      have nm := fun (n : Nat) (hn : n < 4) (s : List UInt8) (hs : axI x s n) => free_name hl hi hf hx hn hs
      have nil : ∀ k, nameR i k (nameR l k []) = [] := fun k => by rw [gl.nil, gi.nil]
      refine renX_same (fun s hs => nm 0 (by omega) s (sub.a s hs)) (fun s hs => ?_) (fun s hs => nm 2 (by omega) s (sub.c s hs)) fun s hs => ?_
      · by_cases h : s = []
        · rw [h]; exact nil 2
        · exact nm 1 (by omega) s ⟨sub.b s hs, h⟩
      · by_cases h : s = []
        · rw [h]; exact nil 4
        · exact nm 3 (by omega) s ⟨sub.d s hs, h⟩
    rw [hsame, tidyA_twice (ht x hx)]
  unfold axmR
  rw [if_neg (by omega), if_neg (by omega), tidL_all]
  · rw [List.map_map]
    refine Prod.ext ?_ rfl
    refine List.map_congr_left fun x hx => ?_
    show (tidyA (renX (nameR i) (tidyA (renX (nameR l) (tidyA x).1)).1)).1 = _
    rw [key x hx]
  · intro y hy
    obtain ⟨x, hx, rfl⟩ := List.mem_map.1 hy
    rw [key x hx]
theorem axm_apart {l : List Rn} {xs : List Ax} (h : (axmR l xs).2 = 0) {n : Nat} (hn : n < 4) {s : List UInt8} (hs : s ∈ lst (vocN (axmR l xs).1) n) : ∃ t ∈ lst (vocN xs) n, nameR l (n + 1 : Nat) t = s := by
  obtain ⟨g, _, t, e⟩ := axmR_ok h
  rw [e] at hs
  obtain ⟨y, hy, hs⟩ := (mem_lst _ n s).1 hs
  obtain ⟨x, hx, rfl⟩ := List.mem_map.1 hy
  obtain ⟨u, hu, e⟩ := renX_names (good_ren g).nil hn (axI_tidy (t x hx) n hs)
  exact ⟨u, (mem_lst _ n u).2 ⟨x, hx, hu⟩, e⟩
theorem axm_firsts {l : List Rn} {xs : List Ax} (h : (axmR l xs).2 = 0) : firstA xs = 0 ∧ firstA (axmR l xs).1 = 0 := by
  obtain ⟨g, e, t, e1⟩ := axmR_ok h
  rw [e1]
  exact ⟨(firstA_iff xs).2 e, firstA_tidy (f := fun x => renX (nameR l) x) t⟩
theorem axm_at {l : List Rn} {xs : List Ax} (h : (axmR l xs).2 = 0) {j : Nat} (hj : j < xs.length) : ∃ hj2 : j < (axmR l xs).1.length, (axmR l xs).1[j].kind = xs[j].kind ∧ (axmR l xs).1[j].isopen = xs[j].isopen := by
  obtain ⟨g, e, t, e1⟩ := axmR_ok h
  have hl : (axmR l xs).1.length = xs.length := by rw [e1, List.length_map]
  refine ⟨by omega, ?_⟩
  have hg : (axmR l xs).1[j]'(by omega) = (tidyA (renX (nameR l) xs[j])).1 := by
    simp only [e1, List.getElem_map]
  rw [hg]
  exact tidyA_kind (t _ (List.getElem_mem hj))
theorem axm_nil (xs : List Ax) : (axmR [] xs).2 = 0 ↔ ∀ x ∈ xs, (tidyA x).2 = 0 := by
  have hn : ∀ x, renX (nameR []) x = x := fun x => renX_id x
  constructor
  · intro h x hx
    have := (axmR_ok h).2.2.1 x hx
    rwa [hn] at this
  · intro h
    have f : firstA xs = 0 := (firstA_iff xs).2 fun x hx => (axiom_tidy (h x hx)).1
    unfold axmR
    rw [if_neg (by decide), if_neg (by omega), tidL_all]
    intro x hx
    rw [hn]; exact h x hx
theorem axm_nil_list {xs : List Ax} (h : (axmR [] xs).2 = 0) : (axmR [] xs).1 = xs.map fun x => (tidyA x).1 := by
  rw [(axmR_ok h).2.2.2]
  refine List.map_congr_left fun x _ => ?_
  rw [show renX (nameR []) x = x from renX_id x]
theorem compR_nil {l : List Rn} (h : checkR l = 0) : compR l [] = (l, 0) ∧ compR [] l = (l, 0) := by
  have g := (checkR_ok h).1
  have c0 : checkR [] = 0 := by decide
  have e1 : compL l [] = l := comp_nil g (comp_compL g.str .nil)
  have e2 : compL [] l = l := nil_comp g (comp_compL .nil g.str)
  unfold compR
  rw [e1, e2, h, c0]
  exact ⟨rfl, rfl⟩
theorem compR_bad {l : List Rn} (h : checkR l ≠ 0) : compR l [] = ([], checkR l) ∧ compR [] l = ([], checkR l) := by
  have c0 : checkR [] = 0 := by decide
  unfold compR
  rw [c0, if_pos h, if_neg (by simp), if_pos h]
  exact ⟨rfl, rfl⟩
end Go.Proofs.YtpecmehekandgaaGreatDoor
namespace Go.Proofs.YtpecmehekandgaaGreatDoor
open Go.Proofs
set_option maxRecDepth 10000
attribute [local irreducible] SemVC CallVC Tri Stuck YVC GenP GenVC
def nmsL (l : List Rn) : List (List UInt8) := l.flatMap fun r => [r.old, r.new]
theorem nmsL_take {l : List Rn} {j : Nat} (h : j < l.length) : nmsL (l.take (j + 1)) = nmsL (l.take j) ++ [l[j].old, l[j].new] := by
  unfold nmsL
  rw [List.take_succ_eq_append_getElem h, List.flatMap_append]; rfl
theorem nmsL_len (l : List Rn) : (nmsL l).length = 2 * l.length := by
  induction l with
  | nil => rfl
  | cons a r ih =>
    unfold nmsL at *
    rw [List.flatMap_cons, List.length_append, ih, List.length_cons, List.length_cons, List.length_cons, List.length_nil]; omega
set_option maxHeartbeats 4000000 in
theorem rnNames_spec (l : List Rn) (hl : l.length ≤ 1000) : Tri Tryz.prog 19 [.d (rnL l)] [] (fun r => r = .d (.sl 1 ((nmsL l).map strR))) := by
  refine tri_of_bodyF false [5] hty Tryz.func19 rfl (kp [0, 2, 3, 5, 7, 8, 9, 10]) [] _ _ _ (by simp [Tryz.f19]) (by simp) ?_
  ((conv => whnf); repeat ((first | (intro hq; try simp only [lnS] at hq) | refine sI ?_ | refine .intro _ (.intro rfl ?_)); (conv => whnf)))
  refine loop_rule hty (fun j : Nat => ([(3, .osl 6 1 ((nmsL (l.take j)).map strR)), (7, .d (rnL l)), (8, .d (.int .i64 l.length)), (9, .d (.int .i64 j))], [(6, .own 9 1 ((nmsL (l.take j)).map strR).length)])) (fun j => j ≤ l.length) (fun j => l.length - j) 0 (by omega) ⟨by repeat' (first | exact trivial | exact rfl | (rw [List.length_map]; exact rfl) | refine And.intro ?_ ?_), ⟨rfl, trivial⟩⟩ ?_
  rintro j hj
  ((conv => whnf); repeat ((first | (intro hq; try simp only [lnS] at hq) | refine sI ?_ | refine .intro _ (.intro rfl ?_)); (conv => whnf)))
  refine brB_dec (fun h1 => ?_) (fun h1 => ?_)
  · have hjl : j < l.length := by omega
    have hrow : (l.map rnR)[(j : Int).toNat]? = some (rnR l[j]) := rowC_at hjl
    have hnt := nmsL_take hjl
    have hln := nmsL_len (l.take j)
    have hlt : (l.take j).length ≤ 1000 := by rw [List.length_take]; omega
    generalize l[j] = x at hrow hnt
    have hrows : (nmsL (l.take (j + 1))).map strR = (nmsL (l.take j)).map strR ++ [strR x.old, strR x.new] := by rw [hnt, List.map_append]; rfl
    ((conv => whnf); repeat' ((first | (intro hq; (try simp only [lnS] at hq); (try rewrite [List.length_map])) | refine sJ ?_ | refine .intro _ (.intro rfl ?_) | (refine .intro (show (_ : Nat) < List.length _ from by first | omega | (simp only [lnS]; omega) | simp) ?_) | (refine ⟨_, hrow, ?_⟩) | refine draw_rule hty (by kernel_rfl) (by kernel_rfl) ?_ | ((first | refine brB_dec ?_ ?_ | refine brB_ndec ?_ ?_) <;> intro hb <;> (first | contradiction | ((try simp only [lnS] at hb); try (exfalso; omega)))) | (refine brB_split ?_ ?_ <;> intro hb <;> (first | contradiction | exact bT hb (by assumption) | exact bF hb (by assumption) | skip))) <;> (conv => whnf)))
    refine ⟨j + 1, by dsimp only; omega, by dsimp only; omega, ?_⟩
    dsimp only
    rw [hrows, List.length_append]
    exact ⟨by repeat' (first | exact trivial | exact rfl | refine And.intro ?_ ?_), by repeat' (first | exact trivial | exact rfl | refine And.intro ?_ ?_)⟩
  have hjl : j = l.length := by omega
  subst hjl
  rw [List.take_length]
  ((conv => whnf); repeat' ((first | (intro hq; (try simp only [lnS] at hq); (try rewrite [List.length_map])) | refine sJ ?_ | refine .intro _ (.intro rfl ?_) | (refine .intro (show (_ : Nat) < List.length _ from by first | omega | (simp only [lnS]; omega) | simp) ?_) | fail | refine draw_rule hty (by kernel_rfl) (by kernel_rfl) ?_ | ((first | refine brB_dec ?_ ?_ | refine brB_ndec ?_ ?_) <;> intro hb <;> (first | contradiction | ((try simp only [lnS] at hb); try (exfalso; omega)))) | (refine brB_split ?_ ?_ <;> intro hb <;> (first | contradiction | exact bT hb (by assumption) | exact bF hb (by assumption) | skip))) <;> (conv => whnf)))
  rfl
end Go.Proofs.YtpecmehekandgaaGreatDoor
namespace Go.Proofs.YtpecmehekandgaaGreatDoor
open Go.Proofs
set_option maxRecDepth 10000
attribute [local irreducible] SemVC CallVC Tri Stuck YVC GenP GenVC
theorem axm_sm {l : List Rn} {xs : List Ax} : ∀ x ∈ (axmR l xs).1, Sm6 x := by
  intro x hx
  by_cases e : (axmR l xs).2 = 0
  · exact sm6_ok ((firstA_iff _).1 (axm_firsts e).2 x hx)
  · rw [axmR_err e] at hx; simp at hx
set_option maxHeartbeats 32000000 in
theorem twice_spec (l m : List Rn) (xs : List Ax) (kind : Int) (name : List UInt8) : Tri Tryz.prog 5 [.d (rnL l), .d (rnL m), .d (.sl 16 (xs.map axR)), .d (.int .i64 kind), .d (.str name)] NG (fun r => r = .d (.bool true)) := by
  have hfew := lFew_spec (l.map rnR) (xs.map axR)
  have hfx : fewRX (l.map rnR).length (xs.map axR).length = true → l.length ≤ 20 ∧ xs.length ≤ 20 := by
    intro h
    unfold fewRX at h
    simp only [List.length_map, Bool.and_eq_true, decide_eq_true_eq] at h
    exact h
  have hfew2 := lFew_spec (m.map rnR) []
  have hfm : fewRX (m.map rnR).length ([] : List (List D)).length = true → m.length ≤ 20 := by
    intro h
    unfold fewRX at h
    simp only [List.length_map, Bool.and_eq_true, decide_eq_true_eq] at h
    exact h.1
  generalize fewRX (l.map rnR).length (xs.map axR).length = fw at hfew hfx
  generalize fewRX (m.map rnR).length ([] : List (List D)).length = fm at hfew2 hfm
  have hfew : Tri Tryz.prog 10 [.d (rnL l), .d (.sl 16 (xs.map axR))] [] (fun r => r = .d (.bool fw)) := hfew
  have hfew2 : Tri Tryz.prog 10 [.d (rnL m), .d .nil] [] (fun r => r = .d (.bool fm)) := Tri.weak (bs := [.d (rnL m), .d (.sl 16 [])]) hfew2 (by repeat' (first | exact trivial | exact rfl | exact Wk_refl _ | exact ⟨rfl, rfl⟩ | refine And.intro ?_ ?_))
  refine tri_of_bodyF false [] hty Tryz.func5 rfl (kp [0, 1, 2, 3, 4, 10, 11, 12, 14, 16, 17, 18, 19, 20, 21, 22, 24, 38, 46, 48, 49, 50, 51, 61, 62, 63, 64, 78, 104]) [] _ _ _ (by simp [Tryz.f5]) (by decide) ?_
  ((conv => whnf); repeat ((first | (intro hq; try simp only [lnS] at hq) | refine sI ?_ | refine .intro _ (.intro rfl ?_)); (conv => whnf)))
  refine call_tri NG rsane_spec ⟨rfl, rfl, trivial⟩ (fun r hs => ?_)
  subst hs
  ((conv => whnf); repeat ((first | (intro hq; try simp only [lnS] at hq) | refine sI ?_ | refine .intro _ (.intro rfl ?_)); (conv => whnf)))
  refine call_tri [] hfew trivial (fun r hs => ?_)
  subst hs
  cases fw with
  | false =>
    ((conv => whnf); repeat' ((first | (intro hq; (try simp only [lnS] at hq); (try rewrite [List.length_map])) | refine sJ ?_ | refine .intro _ (.intro rfl ?_) | (refine .intro (show (_ : Nat) < List.length _ from by first | omega | (simp only [lnS]; omega) | simp) ?_) | (refine call_tri [] hfew2 trivial (fun r hs => ?_); subst hs) | refine draw_rule hty (by kernel_rfl) (by kernel_rfl) ?_ | ((first | refine brB_dec ?_ ?_ | refine brB_ndec ?_ ?_) <;> intro hb <;> (first | contradiction | ((try simp only [lnS] at hb); try (exfalso; omega)))) | (refine brB_split ?_ ?_ <;> intro hb <;> (first | contradiction | exact bT hb (by assumption) | exact bF hb (by assumption) | skip))) <;> (conv => whnf)))
    all_goals rfl
  | true =>
    obtain ⟨hl20, hx20⟩ := hfx rfl
    ((conv => whnf); repeat ((first | (intro hq; try simp only [lnS] at hq) | refine sI ?_ | refine .intro _ (.intro rfl ?_)); (conv => whnf)))
    refine call_tri [] hfew2 trivial (fun r hs => ?_)
    subst hs
    cases fm with
    | false =>
      ((conv => whnf); repeat' ((first | (intro hq; (try simp only [lnS] at hq); (try rewrite [List.length_map])) | refine sJ ?_ | refine .intro _ (.intro rfl ?_) | (refine .intro (show (_ : Nat) < List.length _ from by first | omega | (simp only [lnS]; omega) | simp) ?_) | fail | refine draw_rule hty (by kernel_rfl) (by kernel_rfl) ?_ | ((first | refine brB_dec ?_ ?_ | refine brB_ndec ?_ ?_) <;> intro hb <;> (first | contradiction | ((try simp only [lnS] at hb); try (exfalso; omega)))) | (refine brB_split ?_ ?_ <;> intro hb <;> (first | contradiction | exact bT hb (by assumption) | exact bF hb (by assumption) | skip))) <;> (conv => whnf)))
      all_goals rfl
    | true =>
      have hm20 := hfm rfl
      have k1 := rnCompose_spec l m
      have hco := compR_ok (l := l) (m := m)
      have hcl := compR_len l m
      generalize (compR l m).1 = C at *
      generalize (compR l m).2 = e at *
      ((conv => whnf); repeat' ((first | (intro hq; (try simp only [lnS] at hq); (try rewrite [List.length_map])) | refine sJ ?_ | refine .intro _ (.intro rfl ?_) | (refine .intro (show (_ : Nat) < List.length _ from by first | omega | (simp only [lnS]; omega) | simp) ?_) | (refine call_tri [] k1 trivial (fun r hs => ?_); subst hs) | refine draw_rule hty (by kernel_rfl) (by kernel_rfl) ?_ | ((first | refine brB_dec ?_ ?_ | refine brB_ndec ?_ ?_) <;> intro hb <;> (first | contradiction | ((try simp only [lnS] at hb); try (exfalso; omega)))) | (refine brB_split ?_ ?_ <;> intro hb <;> (first | contradiction | exact bT hb (by assumption) | exact bF hb (by assumption) | skip))) <;> (conv => whnf)))
      · rfl
      · rfl
      obtain ⟨gl, gm, gC, hC⟩ := hco hb
      clear hfew hfew2 hfx hfm k1 hco
      refine loop_rule hty (fun j : Nat => ([(0, .d (rnL l)), (1, .d (rnL m)), (2, .d (.sl 16 (xs.map axR))), (4, .d (.str name)), (11, .d (rnL C)), (48, .d (.sl 1 [[.int .i64 kind], [.int .i64 1], [.int .i64 2], [.int .i64 3], [.int .i64 4]])), (49, .d (.int .i64 5)), (50, .d (.int .i64 j))], NG)) (fun j => j ≤ 5) (fun j => 5 - j) 0 (by omega) ⟨by repeat' (first | exact trivial | exact rfl | exact ⟨rfl, rfl⟩ | refine And.intro ?_ ?_), ⟨rfl, rfl, trivial⟩⟩ ?_
      intro j hj
      ((conv => whnf); repeat ((first | (intro hq; try simp only [lnS] at hq) | refine sI ?_ | refine .intro _ (.intro rfl ?_)); (conv => whnf)))
      refine brB_dec (fun h1 => ?_) (fun h1 => ?_)
      · have hj5 : j < 5 := by omega
        obtain ⟨k, hrow⟩ : ∃ k : Int, ([[.int .i64 kind], [.int .i64 1], [.int .i64 2], [.int .i64 3], [.int .i64 4]] : List (List D))[(j : Int).toNat]? = some [.int .i64 k] := by
          have h9 : j = 0 ∨ j = 1 ∨ j = 2 ∨ j = 3 ∨ j = 4 := by omega
          rcases h9 with rfl | rfl | rfl | rfl | rfl <;> exact ⟨_, rfl⟩
        ((conv => whnf); repeat ((first | (refine ⟨_, hrow, ?_⟩) | (intro hq; try simp only [lnS] at hq) | refine sI ?_ | refine .intro _ (.intro rfl ?_)); (conv => whnf)))
        refine call_inlineF false [5] hty Tryz.func19 rfl (kp [0, 2, 3, 5, 7, 8, 9, 10]) 200 (by simp [Tryz.f19]) ?_
        ((conv => whnf); repeat ((first | (intro hq; try simp only [lnS] at hq) | refine sI ?_ | refine .intro _ (.intro rfl ?_)); (conv => whnf)))
        refine loop_rule hty (fun i : Nat => ([(3, .osl 206 1 ((nmsL (l.take i)).map strR)), (7, .d (rnL l)), (8, .d (.int .i64 l.length)), (9, .d (.int .i64 i))], (206, .own 9 1 ((nmsL (l.take i)).map strR).length) :: NG)) (fun i => i ≤ l.length) (fun i => l.length - i) 0 (by omega) ⟨by repeat' (first | exact trivial | exact rfl | (rw [List.length_map]; exact rfl) | refine And.intro ?_ ?_), ⟨rfl, rfl, rfl, trivial⟩⟩ ?_
        rintro i hi
        ((conv => whnf); repeat ((first | (intro hq; try simp only [lnS] at hq) | refine sI ?_ | refine .intro _ (.intro rfl ?_)); (conv => whnf)))
        refine brB_dec (fun h2 => ?_) (fun h2 => ?_)
        · have hjl : i < l.length := by omega
          have hrow : (l.map rnR)[(i : Int).toNat]? = some (rnR l[i]) := rowC_at hjl
          have hnt := nmsL_take hjl
          have hln := nmsL_len (l.take i)
          have hlt : (l.take i).length ≤ 1000 := by rw [List.length_take]; omega
          generalize l[i] = x at hrow hnt
          have hrows : (nmsL (l.take (i + 1))).map strR = (nmsL (l.take i)).map strR ++ [strR x.old, strR x.new] := by rw [hnt, List.map_append]; rfl
          ((conv => whnf); repeat' ((first | (intro hq; (try simp only [lnS] at hq); (try rewrite [List.length_map])) | refine sJ ?_ | refine .intro _ (.intro rfl ?_) | (refine .intro (show (_ : Nat) < List.length _ from by first | omega | (simp only [lnS]; omega) | simp) ?_) | (refine ⟨_, hrow, ?_⟩) | refine draw_rule hty (by kernel_rfl) (by kernel_rfl) ?_ | ((first | refine brB_dec ?_ ?_ | refine brB_ndec ?_ ?_) <;> intro hb <;> (first | contradiction | ((try simp only [lnS] at hb); try (exfalso; omega)))) | (refine brB_split ?_ ?_ <;> intro hb <;> (first | contradiction | exact bT hb (by assumption) | exact bF hb (by assumption) | skip))) <;> (conv => whnf)))
          refine ⟨i + 1, by dsimp only; omega, by dsimp only; omega, ?_⟩
          dsimp only
          rw [hrows, List.length_append]
          exact ⟨by repeat' (first | exact trivial | exact rfl | refine And.intro ?_ ?_), by repeat' (first | exact trivial | exact rfl | refine And.intro ?_ ?_)⟩
        have hjl : i = l.length := by omega
        subst hjl
        rw [List.take_length]
        have hnl := nmsL_len l
        have hnm := nmsL_len m
        ((conv => whnf); repeat' ((first | (intro hq; (try simp only [lnS] at hq); (try rewrite [List.length_map])) | refine sJ ?_ | refine .intro _ (.intro rfl ?_) | (refine .intro (show (_ : Nat) < List.length _ from by first | omega | (simp only [lnS]; omega) | simp) ?_) | (refine call_tri [] (rnNames_spec m (by omega)) trivial (fun r hs => ?_); subst hs) | refine draw_rule hty (by kernel_rfl) (by kernel_rfl) ?_ | ((first | refine brB_dec ?_ ?_ | refine brB_ndec ?_ ?_) <;> intro hb <;> (first | contradiction | ((try simp only [lnS] at hb); try (exfalso; omega)))) | (refine brB_split ?_ ?_ <;> intro hb <;> (first | contradiction | exact bT hb (by assumption) | exact bF hb (by assumption) | skip))) <;> (conv => whnf)))
        have hrows : ((nmsL l).map strR ++ (nmsL m).map strR ++ [strR name]) = (nmsL l ++ nmsL m ++ [name]).map strR := by rw [List.map_append, List.map_append]; rfl
        have hrl : ((nmsL l).map strR ++ (nmsL m).map strR ++ [strR name]).length = (nmsL l ++ nmsL m ++ [name]).length := by rw [hrows, List.length_map]
        have hget : ∀ i : Nat, i < ((nmsL l).map strR ++ (nmsL m).map strR ++ [strR name]).length → ∃ s, ((nmsL l).map strR ++ (nmsL m).map strR ++ [strR name])[(i : Int).toNat]? = some (strR s) := by
          intro i hi
          rw [hrows, List.length_map] at hi
          rw [hrows]
          exact ⟨_, rowC_at hi⟩
        refine loop_rule hty (fun i : Nat => ([(0, .d (rnL l)), (1, .d (rnL m)), (2, .d (.sl 16 (xs.map axR))), (4, .d (.str name)), (11, .d (rnL C)), (14, .d (.int .i64 k)), (48, .d (.sl 1 [[.int .i64 kind], [.int .i64 1], [.int .i64 2], [.int .i64 3], [.int .i64 4]])), (49, .d (.int .i64 5)), (50, .d (.int .i64 j)), (61, .d (.sl 1 ((nmsL l).map strR ++ (nmsL m).map strR ++ [strR name]))), (62, .d (.int .i64 (((nmsL l).map strR ++ (nmsL m).map strR ++ [strR name]).length : Nat))), (63, .d (.int .i64 i))], NG)) (fun i => i ≤ ((nmsL l).map strR ++ (nmsL m).map strR ++ [strR name]).length) (fun i => ((nmsL l).map strR ++ (nmsL m).map strR ++ [strR name]).length - i) 0 (by omega) ⟨by repeat' (first | exact trivial | exact rfl | exact ⟨rfl, rfl⟩ | refine And.intro ?_ ?_), ⟨rfl, rfl, trivial⟩⟩ ?_
        intro i hi
        ((conv => whnf); repeat ((first | (intro hq; try simp only [lnS] at hq) | refine sI ?_ | refine .intro _ (.intro rfl ?_)); (conv => whnf)))
        refine brB_dec (fun h3 => ?_) (fun h3 => ?_)
        · have hil : i < ((nmsL l).map strR ++ (nmsL m).map strR ++ [strR name]).length := by omega
          obtain ⟨s, hrow⟩ := hget i hil
          generalize ((nmsL l).map strR ++ (nmsL m).map strR ++ [strR name]) = rows at *
          have c1 := rnName_spec C k s
          have c2 := rnName_spec l k s
          have c3 := rnName_spec m k (nameR l k s)
          rw [hC.name] at c1
          generalize nameR m k (nameR l k s) = v at c1 c3
          generalize nameR l k s = u at c2 c3
          ((conv => whnf); repeat' ((first | (intro hq; (try simp only [lnS] at hq); (try rewrite [List.length_map])) | refine sJ ?_ | refine .intro _ (.intro rfl ?_) | (refine .intro (show (_ : Nat) < List.length _ from by first | omega | (simp only [lnS]; omega) | simp) ?_) | (refine ⟨_, hrow, ?_⟩) | (refine call_tri [] c1 trivial (fun r hs => ?_); subst hs) | (refine call_tri [] c2 trivial (fun r hs => ?_); subst hs) | (refine call_tri [] c3 trivial (fun r hs => ?_); subst hs) | refine draw_rule hty (by kernel_rfl) (by kernel_rfl) ?_ | ((first | refine brB_dec ?_ ?_ | refine brB_ndec ?_ ?_) <;> intro hb <;> (first | contradiction | ((try simp only [lnS] at hb); try (exfalso; omega)))) | (refine brB_split ?_ ?_ <;> intro hb <;> (first | contradiction | exact bT hb (by assumption) | exact bF hb (by assumption) | skip))) <;> (conv => whnf)))
          all_goals first
            | exact ⟨i + 1, by dsimp only; omega, by dsimp only; omega, by repeat' (first | exact trivial | exact rfl | refine And.intro ?_ ?_), ⟨rfl, rfl, trivial⟩⟩
            | (exfalso; simp at hb; done)
            | (exfalso; rename_i hb9; simp at hb9; done)
        · ((conv => whnf); repeat' ((first | (intro hq; (try simp only [lnS] at hq); (try rewrite [List.length_map])) | refine sJ ?_ | refine .intro _ (.intro rfl ?_) | (refine .intro (show (_ : Nat) < List.length _ from by first | omega | (simp only [lnS]; omega) | simp) ?_) | fail | refine draw_rule hty (by kernel_rfl) (by kernel_rfl) ?_ | ((first | refine brB_dec ?_ ?_ | refine brB_ndec ?_ ?_) <;> intro hb <;> (first | contradiction | ((try simp only [lnS] at hb); try (exfalso; omega)))) | (refine brB_split ?_ ?_ <;> intro hb <;> (first | contradiction | exact bT hb (by assumption) | exact bF hb (by assumption) | skip))) <;> (conv => whnf)))
          exact ⟨j + 1, by dsimp only; omega, by dsimp only; omega, by repeat' (first | exact trivial | exact rfl | refine And.intro ?_ ?_), ⟨rfl, rfl, trivial⟩⟩
      · have ka := rnAxioms_spec l xs (by omega)
        have la := axmR_len l xs
        have kb := rnAxioms_spec m (axmR l xs).1 (by omega)
        have kc := rnAxioms_spec C xs (by omega)
        have hfin : (axmR l xs).2 = 0 → (axmR m (axmR l xs).1).2 = 0 → (axmR C xs).2 = 0 → (axmR C xs).1 = (axmR m (axmR l xs).1).1 := axm_twice hC
        have hS := axm_sm (l := m) (xs := (axmR l xs).1)
        generalize (axmR C xs).1 = W at *
        generalize (axmR C xs).2 = eW at *
        generalize (axmR m (axmR l xs).1).1 = Z at *
        generalize (axmR m (axmR l xs).1).2 = eZ at *
        generalize (axmR l xs).1 = Y at *
        generalize (axmR l xs).2 = eY at *
        by_cases hall : eY = 0 ∧ eZ = 0 ∧ eW = 0
        · obtain ⟨y0, z0, w0⟩ := hall
          have hW := hfin y0 z0 w0
          subst hW
          have c := lSame_self W hS
          subst y0 z0 w0
          ((conv => whnf); repeat' ((first | (intro hq; (try simp only [lnS] at hq); (try rewrite [List.length_map])) | refine sJ ?_ | refine .intro _ (.intro rfl ?_) | (refine .intro (show (_ : Nat) < List.length _ from by first | omega | (simp only [lnS]; omega) | simp) ?_) | (refine call_tri NG ka ⟨rfl, rfl, trivial⟩ (fun r hs => ?_); subst hs) | (refine call_tri NG kb ⟨rfl, rfl, trivial⟩ (fun r hs => ?_); subst hs) | (refine call_tri NG kc ⟨rfl, rfl, trivial⟩ (fun r hs => ?_); subst hs) | (refine call_tri [] c trivial (fun r hs => ?_); subst hs) | refine draw_rule hty (by kernel_rfl) (by kernel_rfl) ?_ | ((first | refine brB_dec ?_ ?_ | refine brB_ndec ?_ ?_) <;> intro hb <;> (first | contradiction | ((try simp only [lnS] at hb); try (exfalso; omega)))) | (refine brB_split ?_ ?_ <;> intro hb <;> (first | contradiction | exact bT hb (by assumption) | exact bF hb (by assumption) | skip))) <;> (conv => whnf)))
          all_goals rfl
        · ((conv => whnf); repeat' ((first | (intro hq; (try simp only [lnS] at hq); (try rewrite [List.length_map])) | refine sJ ?_ | refine .intro _ (.intro rfl ?_) | (refine .intro (show (_ : Nat) < List.length _ from by first | omega | (simp only [lnS]; omega) | simp) ?_) | (refine call_tri NG ka ⟨rfl, rfl, trivial⟩ (fun r hs => ?_); subst hs) | (refine call_tri NG kb ⟨rfl, rfl, trivial⟩ (fun r hs => ?_); subst hs) | (refine call_tri NG kc ⟨rfl, rfl, trivial⟩ (fun r hs => ?_); subst hs) | refine draw_rule hty (by kernel_rfl) (by kernel_rfl) ?_ | ((first | refine brB_dec ?_ ?_ | refine brB_ndec ?_ ?_) <;> intro hb <;> (first | contradiction | ((try simp only [lnS] at hb); try (exfalso; omega)))) | (refine brB_split ?_ ?_ <;> intro hb <;> (first | contradiction | exact bT hb (by assumption) | exact bF hb (by assumption) | skip))) <;> (conv => whnf)))
          all_goals first
            | rfl
            | (exfalso; omega)
end Go.Proofs.YtpecmehekandgaaGreatDoor
