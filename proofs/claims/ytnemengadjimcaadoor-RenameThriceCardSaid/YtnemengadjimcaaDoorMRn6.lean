/-
  Bases: the reference's Same at one list of axioms; few and same of the law of renamings. Rename: lists of the law's own; the chapter's examples. Rename: the laws of axioms with other names, plainly. RenameThrice, walked.
  Conditions: none.
-/
import Derived.Test.YtnemengadjimcaaDoorMDb
import Derived.Test.YtnemengadjimcaaDoorMBt
import Derived.Test.YtnemengadjimcaaDoorMBq
import Derived.Test.YtnemengadjimcaaDoorMTcr
import Derived.Test.YtnemengadjimcaaDoorMSyd
import Derived.Test.YtnemengadjimcaaDoorMRu
set_option linter.unnecessarySimpa false
set_option linter.unusedSectionVars false
set_option linter.unusedSimpArgs false
set_option linter.unusedVariables false
namespace Go.Proofs.YtnemengadjimcaaDoor
open Go.Proofs
set_option maxRecDepth 10000
attribute [local irreducible] SemVC CallVC Tri Stuck YVC GenP GenVC
def fewRX (n k : Nat) : Bool := decide (n ≤ 20) && decide (k ≤ 20)
theorem lFew_spec (rows : List (List D)) (rows2 : List (List D)) : Tri Tryd.prog 5 [.d (.sl 3 rows), .d (.sl 16 rows2)] [] (fun r => r = .d (.bool (fewRX rows.length rows2.length))) := by
  unfold fewRX
  refine tri_of_bodyF false [] hty Tryd.func5 rfl (kp [0, 1, 4]) [] _ _ _ (by simp [Tryd.f5]) (by simp) ?_
  ((conv => whnf); repeat' ((first | (intro hq; (try simp only [lnS] at hq); (try rewrite [List.length_map])) | refine sJ ?_ | refine .intro _ (.intro rfl ?_) | (refine .intro (show (_ : Nat) < List.length _ from by first | omega | (simp only [lnS]; omega) | simp) ?_) | fail | refine draw_rule hty (by kernel_rfl) (by kernel_rfl) ?_ | ((first | refine brB_dec ?_ ?_ | refine brB_ndec ?_ ?_) <;> intro hb <;> (first | contradiction | ((try simp only [lnS] at hb); try (exfalso; omega)))) | (refine brB_split ?_ ?_ <;> intro hb <;> (first | contradiction | exact bT hb (by assumption) | exact bF hb (by assumption) | skip))) <;> (conv => whnf)))
  all_goals refine bool_eq (Eq.symm ?_)
  · have h9 : rows.length ≤ 20 := by omega
    rw [decide_eq_true h9, Bool.true_and, decide_eq_decide]
    omega
  · have h9 : ¬ rows.length ≤ 20 := by omega
    rw [decide_eq_false h9]
    rfl
end Go.Proofs.YtnemengadjimcaaDoor
namespace Go.Proofs.YtnemengadjimcaaDoor
open Go.Proofs
set_option maxRecDepth 10000
attribute [local irreducible] SemVC CallVC Tri Stuck YVC GenP GenVC
set_option maxHeartbeats 4000000 in
theorem of2_spec (a b : List UInt8) : Tri Tryd.prog 8 [.d (.sl 1 [[.str a], [.str b]])] [] (fun r => r = .d (rnL [⟨1, a, b⟩])) := by
  refine tri_of_bodyF false [] hty Tryd.func8 rfl (kp [0, 2, 3, 8]) [] _ _ _ (by simp [Tryd.f8]) (by simp) ?_
  ((conv => whnf); repeat ((first | (intro hq; try simp only [lnS] at hq) | refine sI ?_ | refine .intro _ (.intro rfl ?_)); (conv => whnf)))
  refine SemVC.own 2 120 45 3 rfl (fresh_of (by with_unfolding_all exact rfl)) ?_
  refine unroll hty 2 ?_
  ((conv => whnf); repeat' ((first | exact trivial | refine altAnd ?_ ?_ | (refine tree2_rule (id := 4) hty (.first 0 (.first 1 (.first 2 (.first 3 (.first 4 (.first 5 (.first 6 (.first 7 (.first 8 (.first 9 (.first 10 (.alt 11 (.alt 12 (.first 13 .done) .stop) .stop)))))))))))) (by kernel_rfl) (by kernel_rfl) ?_) | (intro hq; (try simp only [lnS] at hq); (try rewrite [List.length_map])) | refine sJ ?_ | refine .intro _ (.intro rfl ?_) | (refine .intro (show (_ : Nat) < List.length _ from by first | omega | (simp only [lnS]; omega) | simp) ?_) | refine draw_rule hty (by kernel_rfl) (by kernel_rfl) ?_ | ((first | refine brB_dec ?_ ?_ | refine brB_ndec ?_ ?_) <;> intro hb <;> (first | contradiction | ((try simp only [lnS] at hb); try (exfalso; omega)))) | (refine brB_split ?_ ?_ <;> intro hb <;> (first | contradiction | exact bT hb (by assumption) | exact bF hb (by assumption) | skip))) <;> (conv => whnf)))
  rfl
set_option maxHeartbeats 4000000 in
theorem of4_spec (a b c d : List UInt8) : Tri Tryd.prog 8 [.d (.sl 1 [[.str a], [.str b], [.str c], [.str d]])] [] (fun r => r = .d (rnL [⟨1, a, b⟩, ⟨1, c, d⟩])) := by
  refine tri_of_bodyF false [] hty Tryd.func8 rfl (kp [0, 2, 3, 8]) [] _ _ _ (by simp [Tryd.f8]) (by simp) ?_
  ((conv => whnf); repeat ((first | (intro hq; try simp only [lnS] at hq) | refine sI ?_ | refine .intro _ (.intro rfl ?_)); (conv => whnf)))
  refine SemVC.own 2 120 45 3 rfl (fresh_of (by with_unfolding_all exact rfl)) ?_
  refine loop_rule hty (fun j : Nat => ([(0, .d (.sl 1 [[.str a], [.str b], [.str c], [.str d]])), (2, .osl 120 3 ((([⟨1, a, b⟩, ⟨1, c, d⟩] : List Rn).take j).map rnR)), (3, .d (.int .i64 ((2 * j : Nat) : Int)))], [(120, .own 45 3 ((([⟨1, a, b⟩, ⟨1, c, d⟩] : List Rn).take j).map rnR).length)])) (fun j => j ≤ 2) (fun j => 2 - j) 0 (by omega) ⟨by repeat' (first | exact trivial | exact rfl | refine And.intro ?_ ?_), by repeat' (first | exact trivial | exact rfl | refine And.intro ?_ ?_)⟩ ?_
  intro j hj
  have hj3 : j = 0 ∨ j = 1 ∨ j = 2 := by omega
  rcases hj3 with rfl | rfl | rfl
  · ((conv => whnf); repeat' ((first | exact trivial | refine altAnd ?_ ?_ | (refine tree2_rule (id := 4) hty (.first 0 (.first 1 (.first 2 (.first 3 (.first 4 (.first 5 (.first 6 (.first 7 (.first 8 (.first 9 (.first 10 (.alt 11 (.alt 12 (.first 13 .done) .stop) .stop)))))))))))) (by kernel_rfl) (by kernel_rfl) ?_) | (intro hq; (try simp only [lnS] at hq); (try rewrite [List.length_map])) | refine sJ ?_ | refine .intro _ (.intro rfl ?_) | (refine .intro (show (_ : Nat) < List.length _ from by first | omega | (simp only [lnS]; omega) | simp) ?_) | refine draw_rule hty (by kernel_rfl) (by kernel_rfl) ?_ | ((first | refine brB_dec ?_ ?_ | refine brB_ndec ?_ ?_) <;> intro hb <;> (first | contradiction | ((try simp only [lnS] at hb); try (exfalso; omega)))) | (refine brB_split ?_ ?_ <;> intro hb <;> (first | contradiction | exact bT hb (by assumption) | exact bF hb (by assumption) | skip))) <;> (conv => whnf)))
    exact ⟨1, by decide, by decide, ⟨by repeat' (first | exact trivial | exact rfl | refine And.intro ?_ ?_), by repeat' (first | exact trivial | exact rfl | refine And.intro ?_ ?_)⟩⟩
  · ((conv => whnf); repeat' ((first | exact trivial | refine altAnd ?_ ?_ | (refine tree2_rule (id := 4) hty (.first 0 (.first 1 (.first 2 (.first 3 (.first 4 (.first 5 (.first 6 (.first 7 (.first 8 (.first 9 (.first 10 (.alt 11 (.alt 12 (.first 13 .done) .stop) .stop)))))))))))) (by kernel_rfl) (by kernel_rfl) ?_) | (intro hq; (try simp only [lnS] at hq); (try rewrite [List.length_map])) | refine sJ ?_ | refine .intro _ (.intro rfl ?_) | (refine .intro (show (_ : Nat) < List.length _ from by first | omega | (simp only [lnS]; omega) | simp) ?_) | refine draw_rule hty (by kernel_rfl) (by kernel_rfl) ?_ | ((first | refine brB_dec ?_ ?_ | refine brB_ndec ?_ ?_) <;> intro hb <;> (first | contradiction | ((try simp only [lnS] at hb); try (exfalso; omega)))) | (refine brB_split ?_ ?_ <;> intro hb <;> (first | contradiction | exact bT hb (by assumption) | exact bF hb (by assumption) | skip))) <;> (conv => whnf)))
    exact ⟨2, by decide, by decide, ⟨by repeat' (first | exact trivial | exact rfl | refine And.intro ?_ ?_), by repeat' (first | exact trivial | exact rfl | refine And.intro ?_ ?_)⟩⟩
  · ((conv => whnf); repeat' ((first | (intro hq; (try simp only [lnS] at hq); (try rewrite [List.length_map])) | refine sJ ?_ | refine .intro _ (.intro rfl ?_) | (refine .intro (show (_ : Nat) < List.length _ from by first | omega | (simp only [lnS]; omega) | simp) ?_) | fail | refine draw_rule hty (by kernel_rfl) (by kernel_rfl) ?_ | ((first | refine brB_dec ?_ ?_ | refine brB_ndec ?_ ?_) <;> intro hb <;> (first | contradiction | ((try simp only [lnS] at hb); try (exfalso; omega)))) | (refine brB_split ?_ ?_ <;> intro hb <;> (first | contradiction | exact bT hb (by assumption) | exact bF hb (by assumption) | skip))) <;> (conv => whnf)))
    rfl
def rAB : List Rn := [⟨1, [65], [66]⟩]
def rABBA : List Rn := [⟨1, [65], [66]⟩, ⟨1, [66], [65]⟩]
def rBC : List Rn := [⟨1, [66], [67]⟩]
def rACBA : List Rn := [⟨1, [65], [67]⟩, ⟨1, [66], [65]⟩]
def axRA : Ax := ⟨8, false, c0, .mk 3 [65] 0 0 [], [], [], [65], []⟩
def axRB : Ax := ⟨8, false, c0, .mk 3 [66] 0 0 [], [], [], [65], []⟩
theorem comp1 : compR rABBA rBC = (rACBA, 0) := by kernel_rfl
theorem comp2 : compR rAB rBC = ([], 330) := by kernel_rfl
theorem axm1 : axmR rAB [axRA] = ([axRB], 0) := by kernel_rfl
theorem chk1 : checkR [⟨1, [65], [65]⟩] = 330 := by kernel_rfl
theorem chk2 : checkR [⟨1, [65], [66]⟩, ⟨1, [65], [67]⟩] = 330 := by kernel_rfl
theorem chk3 : checkR [⟨1, [65], [67]⟩, ⟨1, [66], [67]⟩] = 330 := by kernel_rfl
theorem Tri.oslN2 {P : Program} {f : FuncId} {s0 : SV} {id z : Nat} {rows rows' : List (List D)} {hp : Hp} {post : SV → Prop} (h : Tri P f [s0, .d (.sl z rows')] hp post) (hw : WkDR rows rows') : Tri P f [s0, .osl id z rows] hp post := by
  unfold Tri at h ⊢
  intro w ρ vs a b c
  refine h w ρ vs a ⟨b.1, fun j s v hs hv => ?_⟩ c
  match j, hs with
  | 0, hs => exact b.2 0 s v hs hv
  | 1, hs =>
    injection hs with hs; subst hs
    exact .d _ _ (WkD_ok (b.2 1 _ v rfl hv).osl_inv.1 _ (by simpa [WkD] using hw))
def axRow : List D := [.int .i64 8, .bool false, .int .i64 0, .str [], .int .i64 0, .int .i64 0, .nil, .int .i64 3, .str [65], .int .i64 0, .int .i64 0, .nil, .nil, .str [], .str [65], .str []]
set_option maxHeartbeats 16000000 in
theorem rsane_spec : Tri Tryd.prog 4 [] NG (fun r => r = .d (.bool true)) := by
  have o1 := fun (id : Nat) => Tri.osl (id := id) (of4_spec [65] [66] [66] [65])
  have o2 := fun (id : Nat) => Tri.osl (id := id) (of2_spec [66] [67])
  have o3 := fun (id : Nat) => Tri.osl (id := id) (of2_spec [65] [66])
  have o4 := fun (id : Nat) => Tri.osl (id := id) (of2_spec [65] [65])
  have o5 := fun (id : Nat) => Tri.osl (id := id) (of4_spec [65] [66] [65] [67])
  have o6 := fun (id : Nat) => Tri.osl (id := id) (of4_spec [65] [67] [66] [67])
  have o7 := fun (id : Nat) => Tri.osl (id := id) (of4_spec [65] [67] [66] [65])
  have k1 := rnCompose_spec rABBA rBC
  have k2 := rnCompose_spec rAB rBC
  rw [comp1] at k1
  rw [comp2] at k2
  have k3 := rnAxioms_spec rAB [axRA] (by decide)
  rw [axm1] at k3
  have c1 := rnCheck_spec [⟨1, [65], [65]⟩]
  have c2 := rnCheck_spec [⟨1, [65], [66]⟩, ⟨1, [65], [67]⟩]
  have c3 := rnCheck_spec [⟨1, [65], [67]⟩, ⟨1, [66], [67]⟩]
  rw [chk1] at c1
  rw [chk2] at c2
  rw [chk3] at c3
  have s1 := rrSame_self rACBA
  refine tri_of_bodyF false [5] hty Tryd.func4 rfl (kp [0, 1, 2, 4, 5, 6, 7, 8]) [] _ _ _ (by simp [Tryd.f4]) (by decide) ?_
  ((conv => whnf); repeat ((first | (intro hq; try simp only [lnS] at hq) | refine sI ?_ | refine .intro _ (.intro rfl ?_)); (conv => whnf)))
  refine call_tri [] (o1 _) trivial (fun r hs => ?_)
  subst hs
  ((conv => whnf); repeat ((first | (intro hq; try simp only [lnS] at hq) | refine sI ?_ | refine .intro _ (.intro rfl ?_)); (conv => whnf)))
  refine call_tri [] (o2 _) trivial (fun r hs => ?_)
  subst hs
  ((conv => whnf); repeat ((first | (intro hq; try simp only [lnS] at hq) | refine sI ?_ | refine .intro _ (.intro rfl ?_)); (conv => whnf)))
  refine call_tri [] k1 trivial (fun r hs => ?_)
  subst hs
  ((conv => whnf); repeat ((first | (intro hq; try simp only [lnS] at hq) | refine sI ?_ | refine .intro _ (.intro rfl ?_)); (conv => whnf)))
  refine call_tri [] (o3 _) trivial (fun r hs => ?_)
  subst hs
  ((conv => whnf); repeat ((first | (intro hq; try simp only [lnS] at hq) | refine sI ?_ | refine .intro _ (.intro rfl ?_)); (conv => whnf)))
  refine call_tri [] (o2 _) trivial (fun r hs => ?_)
  subst hs
  ((conv => whnf); repeat ((first | (intro hq; try simp only [lnS] at hq) | refine sI ?_ | refine .intro _ (.intro rfl ?_)); (conv => whnf)))
  refine call_tri [] k2 trivial (fun r hs => ?_)
  subst hs
  ((conv => whnf); repeat ((first | (intro hq; try simp only [lnS] at hq) | refine sI ?_ | refine .intro _ (.intro rfl ?_)); (conv => whnf)))
  refine SemVC.mid [(0, .d (.bool false)), (1, .d (rnL rACBA)), (2, .d (.int .i64 0)), (4, .d (.int .i64 330)), (6, .d (.sl 16 [axR axRB])), (7, .d (.int .i64 0))] NG ?_ ?_
  · have k4 : Tri Tryd.prog 9 [.d (rnL rAB), .d (.sl 16 [axR axRA])] NG (fun r => r = .tup [.d (.sl 16 [axR axRB]), .d (.int .i64 0)]) := k3
    have k5 := fun (id : Nat) => Tri.oslN2 (id := id) (rows := [axRow]) k4 (by repeat' (first | exact trivial | exact rfl | refine And.intro ?_ ?_))
    (refine tree2_rule (id := 4) hty (.first 2 (.alt 0 (.alt 1 (.alt 3 (.alt 4 (.first 5 (.first 6 (.first 7 (.first 8 (.first 9 .done))))) .stop) .stop) (.alt 3 (.alt 1 (.alt 4 (.first 5 (.first 6 (.first 7 (.first 8 (.first 9 .done))))) .stop) .stop) .stop)) (.alt 3 (.alt 0 (.alt 1 (.alt 4 (.first 5 (.first 6 (.first 7 (.first 8 (.first 9 .done))))) .stop) .stop) .stop) .stop))) (by kernel_rfl) (by kernel_rfl) ?_)
    ((conv => whnf); repeat' ((first | exact trivial | refine altAnd ?_ ?_ | refine eqN rfl ?_ | refine leN rfl ?_ | refine ltN rfl ?_ | (refine call_tri [] (o3 _) trivial (fun r hs => ?_); subst hs) | (refine call_tri NG (k5 _) (by exact ⟨rfl, rfl, trivial⟩) (fun r hs => ?_); subst hs) | refine sJ ?_ | (refine Exists.intro _ (And.intro rfl ?_))) <;> (conv => whnf)))
    all_goals exact ⟨by repeat' (first | exact trivial | exact rfl | refine And.intro ?_ ?_), by repeat' (first | exact trivial | exact rfl | refine And.intro ?_ ?_)⟩
  ((conv => whnf); repeat ((first | (intro hq; try simp only [lnS] at hq) | refine sI ?_ | refine .intro _ (.intro rfl ?_)); (conv => whnf)))
  refine call_tri [] (o4 _) trivial (fun r hs => ?_)
  subst hs
  ((conv => whnf); repeat ((first | (intro hq; try simp only [lnS] at hq) | refine sI ?_ | refine .intro _ (.intro rfl ?_)); (conv => whnf)))
  refine call_tri [] c1 trivial (fun r hs => ?_)
  subst hs
  ((conv => whnf); repeat ((first | (intro hq; try simp only [lnS] at hq) | refine sI ?_ | refine .intro _ (.intro rfl ?_)); (conv => whnf)))
  refine call_tri [] (o5 _) trivial (fun r hs => ?_)
  subst hs
  ((conv => whnf); repeat ((first | (intro hq; try simp only [lnS] at hq) | refine sI ?_ | refine .intro _ (.intro rfl ?_)); (conv => whnf)))
  refine call_tri [] c2 trivial (fun r hs => ?_)
  subst hs
  ((conv => whnf); repeat ((first | (intro hq; try simp only [lnS] at hq) | refine sI ?_ | refine .intro _ (.intro rfl ?_)); (conv => whnf)))
  refine call_tri [] (o6 _) trivial (fun r hs => ?_)
  subst hs
  ((conv => whnf); repeat ((first | (intro hq; try simp only [lnS] at hq) | refine sI ?_ | refine .intro _ (.intro rfl ?_)); (conv => whnf)))
  refine call_tri [] c3 trivial (fun r hs => ?_)
  subst hs
  ((conv => whnf); repeat ((first | (intro hq; try simp only [lnS] at hq) | refine sI ?_ | refine .intro _ (.intro rfl ?_)); (conv => whnf)))
  refine call_tri [] (o7 _) trivial (fun r hs => ?_)
  subst hs
  ((conv => whnf); repeat ((first | (intro hq; try simp only [lnS] at hq) | refine sI ?_ | refine .intro _ (.intro rfl ?_)); (conv => whnf)))
  refine call_tri [] s1 trivial (fun r hs => ?_)
  subst hs
  ((conv => whnf); repeat ((first | (intro hq; try simp only [lnS] at hq) | refine sI ?_ | refine .intro _ (.intro rfl ?_)); (conv => whnf)))
  rfl
end Go.Proofs.YtnemengadjimcaaDoor
namespace Go.Proofs.YtnemengadjimcaaDoor
open Go.Proofs
theorem compR_thrice {l m n : List Rn} (h1 : (compR l m).2 = 0) (h2 : (compR m n).2 = 0) (h3 : (compR (compR l m).1 n).2 = 0) (h4 : (compR l (compR m n).1).2 = 0) : (compR (compR l m).1 n).1 = (compR l (compR m n).1).1 :=
  comp_thrice (compR_ok h1).2.2.2 (compR_ok h2).2.2.2 (compR_ok h3).2.2.2 (compR_ok h4).2.2.2
end Go.Proofs.YtnemengadjimcaaDoor
namespace Go.Proofs.YtnemengadjimcaaDoor
open Go.Proofs
set_option maxRecDepth 10000
attribute [local irreducible] SemVC CallVC Tri Stuck YVC GenP GenVC
set_option maxHeartbeats 32000000 in
theorem thrice_spec (l m n : List Rn) : Tri Tryd.prog 3 [.d (rnL l), .d (rnL m), .d (rnL n)] NG (fun r => r = .d (.bool true)) := by
  have hfew1 := lFew_spec (l.map rnR) []
  have hfew2 := lFew_spec (m.map rnR) []
  have hfew3 := lFew_spec (n.map rnR) []
  generalize fewRX (l.map rnR).length ([] : List (List D)).length = fl at hfew1
  generalize fewRX (m.map rnR).length ([] : List (List D)).length = fm at hfew2
  generalize fewRX (n.map rnR).length ([] : List (List D)).length = fn at hfew3
  have hfew1 : Tri Tryd.prog 5 [.d (rnL l), .d .nil] [] (fun r => r = .d (.bool fl)) := Tri.weak (bs := [.d (rnL l), .d (.sl 16 [])]) hfew1 (by repeat' (first | exact trivial | exact rfl | exact Wk_refl _ | exact ⟨rfl, rfl⟩ | refine And.intro ?_ ?_))
  have hfew2 : Tri Tryd.prog 5 [.d (rnL m), .d .nil] [] (fun r => r = .d (.bool fm)) := Tri.weak (bs := [.d (rnL m), .d (.sl 16 [])]) hfew2 (by repeat' (first | exact trivial | exact rfl | exact Wk_refl _ | exact ⟨rfl, rfl⟩ | refine And.intro ?_ ?_))
  have hfew3 : Tri Tryd.prog 5 [.d (rnL n), .d .nil] [] (fun r => r = .d (.bool fn)) := Tri.weak (bs := [.d (rnL n), .d (.sl 16 [])]) hfew3 (by repeat' (first | exact trivial | exact rfl | exact Wk_refl _ | exact ⟨rfl, rfl⟩ | refine And.intro ?_ ?_))
  have k1 := rnCompose_spec l m
  have k2 := rnCompose_spec m n
  have k3 := rnCompose_spec (compR l m).1 n
  have k4 := rnCompose_spec l (compR m n).1
  have ht := compR_thrice (l := l) (m := m) (n := n)
  generalize (compR (compR l m).1 n).1 = C at *
  generalize (compR (compR l m).1 n).2 = eC at *
  generalize (compR l (compR m n).1).1 = E at *
  generalize (compR l (compR m n).1).2 = eE at *
  generalize (compR l m).1 = A at *
  generalize (compR l m).2 = eA at *
  generalize (compR m n).1 = B at *
  generalize (compR m n).2 = eB at *
  have s1 := rrSame_self C
  refine tri_of_bodyF false [] hty Tryd.func3 rfl (kp [0, 1, 2, 6, 7, 8, 9, 10, 11, 12, 13, 14, 16, 29, 47]) [] _ _ _ (by simp [Tryd.f3]) (by decide) ?_
  ((conv => whnf); repeat ((first | (intro hq; try simp only [lnS] at hq) | refine sI ?_ | refine .intro _ (.intro rfl ?_)); (conv => whnf)))
  refine call_tri NG rsane_spec ⟨rfl, rfl, trivial⟩ (fun r hs => ?_)
  subst hs
  by_cases hall : eA = 0 ∧ eB = 0 ∧ eC = 0 ∧ eE = 0
  · obtain ⟨a0, b0, c0, e0⟩ := hall
    have hCE := ht a0 b0 c0 e0
    subst hCE
    subst a0 b0 c0 e0
    ((conv => whnf); repeat' ((first | (intro hq; (try simp only [lnS] at hq); (try rewrite [List.length_map])) | refine sJ ?_ | refine .intro _ (.intro rfl ?_) | (refine .intro (show (_ : Nat) < List.length _ from by first | omega | (simp only [lnS]; omega) | simp) ?_) | (refine call_tri [] hfew1 trivial (fun r hs => ?_); subst hs) | (refine call_tri [] hfew2 trivial (fun r hs => ?_); subst hs) | (refine call_tri [] hfew3 trivial (fun r hs => ?_); subst hs) | (refine call_tri [] k1 trivial (fun r hs => ?_); subst hs) | (refine call_tri [] k2 trivial (fun r hs => ?_); subst hs) | (refine call_tri [] k3 trivial (fun r hs => ?_); subst hs) | (refine call_tri [] k4 trivial (fun r hs => ?_); subst hs) | (refine call_tri [] s1 trivial (fun r hs => ?_); subst hs) | refine draw_rule hty (by kernel_rfl) (by kernel_rfl) ?_ | ((first | refine brB_dec ?_ ?_ | refine brB_ndec ?_ ?_) <;> intro hb <;> (first | contradiction | ((try simp only [lnS] at hb); try (exfalso; omega)))) | (refine brB_split ?_ ?_ <;> intro hb <;> (first | contradiction | exact bT hb (by assumption) | exact bF hb (by assumption) | skip))) <;> (conv => whnf)))
    all_goals first
      | rfl
      | (refine bool_eq ?_; simp; done)
      | (exfalso; simp_all; done)
  · ((conv => whnf); repeat' ((first | (intro hq; (try simp only [lnS] at hq); (try rewrite [List.length_map])) | refine sJ ?_ | refine .intro _ (.intro rfl ?_) | (refine .intro (show (_ : Nat) < List.length _ from by first | omega | (simp only [lnS]; omega) | simp) ?_) | (refine call_tri [] hfew1 trivial (fun r hs => ?_); subst hs) | (refine call_tri [] hfew2 trivial (fun r hs => ?_); subst hs) | (refine call_tri [] hfew3 trivial (fun r hs => ?_); subst hs) | (refine call_tri [] k1 trivial (fun r hs => ?_); subst hs) | (refine call_tri [] k2 trivial (fun r hs => ?_); subst hs) | (refine call_tri [] k3 trivial (fun r hs => ?_); subst hs) | (refine call_tri [] k4 trivial (fun r hs => ?_); subst hs) | refine draw_rule hty (by kernel_rfl) (by kernel_rfl) ?_ | ((first | refine brB_dec ?_ ?_ | refine brB_ndec ?_ ?_) <;> intro hb <;> (first | contradiction | ((try simp only [lnS] at hb); try (exfalso; omega)))) | (refine brB_split ?_ ?_ <;> intro hb <;> (first | contradiction | exact bT hb (by assumption) | exact bF hb (by assumption) | skip))) <;> (conv => whnf)))
    all_goals first
      | rfl
      | (refine bool_eq ?_; simp; done)
      | (exfalso; simp_all; done)
end Go.Proofs.YtnemengadjimcaaDoor
