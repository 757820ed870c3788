/-
  Bases: the reference's Same at one list of axioms; few and same of the law of renamings. Rename: lists of the law's own; the chapter's examples. Rename: the reference's Less, Name and Check.
  Conditions: none.
-/
import Derived.Test.YtpecmehekandgaaGreatDoorMDb
import Derived.Test.YtpecmehekandgaaGreatDoorMAq
import Derived.Test.YtpecmehekandgaaGreatDoorMBq
import Derived.Test.YtpecmehekandgaaGreatDoorMTcr
import Derived.Test.YtpecmehekandgaaGreatDoorMSyd
import Derived.Test.YtpecmehekandgaaGreatDoorMBv
import Derived.Test.YtpecmehekandgaaGreatDoorMRf
import Derived.Test.YtpecmehekandgaaGreatDoorMG4
set_option linter.unnecessarySimpa false
set_option linter.unusedSectionVars false
set_option linter.unusedSimpArgs false
set_option linter.unusedVariables false
namespace Go.Proofs.YtpecmehekandgaaGreatDoor
open Go.Proofs
set_option maxRecDepth 10000
attribute [local irreducible] SemVC CallVC Tri Stuck YVC GenP GenVC
def fewRX (n k : Nat) : Bool := decide (n ≤ 20) && decide (k ≤ 20)
theorem lFew_spec (rows : List (List D)) (rows2 : List (List D)) : Tri Tryz.prog 10 [.d (.sl 3 rows), .d (.sl 16 rows2)] [] (fun r => r = .d (.bool (fewRX rows.length rows2.length))) := by
  unfold fewRX
  refine tri_of_bodyF false [] hty Tryz.func10 rfl (kp [0, 1, 4]) [] _ _ _ (by simp [Tryz.f10]) (by simp) ?_
  ((conv => whnf); repeat' ((first | (intro hq; (try simp only [lnS] at hq); (try rewrite [List.length_map])) | refine sJ ?_ | refine .intro _ (.intro rfl ?_) | (refine .intro (show (_ : Nat) < List.length _ from by first | omega | (simp only [lnS]; omega) | simp) ?_) | fail | refine draw_rule hty (by kernel_rfl) (by kernel_rfl) ?_ | ((first | refine brB_dec ?_ ?_ | refine brB_ndec ?_ ?_) <;> intro hb <;> (first | contradiction | ((try simp only [lnS] at hb); try (exfalso; omega)))) | (refine brB_split ?_ ?_ <;> intro hb <;> (first | contradiction | exact bT hb (by assumption) | exact bF hb (by assumption) | skip))) <;> (conv => whnf)))
  all_goals refine bool_eq (Eq.symm ?_)
  · have h9 : rows.length ≤ 20 := by omega
    rw [decide_eq_true h9, Bool.true_and, decide_eq_decide]
    omega
  · have h9 : ¬ rows.length ≤ 20 := by omega
    rw [decide_eq_false h9]
    rfl
end Go.Proofs.YtpecmehekandgaaGreatDoor
namespace Go.Proofs.YtpecmehekandgaaGreatDoor
open Go.Proofs
set_option maxRecDepth 10000
attribute [local irreducible] SemVC CallVC Tri Stuck YVC GenP GenVC
set_option maxHeartbeats 4000000 in
theorem of2_spec (a b : List UInt8) : Tri Tryz.prog 26 [.d (.sl 1 [[.str a], [.str b]])] [] (fun r => r = .d (rnL [⟨1, a, b⟩])) := by
  refine tri_of_bodyF false [] hty Tryz.func26 rfl (kp [0, 2, 3, 8]) [] _ _ _ (by simp [Tryz.f26]) (by simp) ?_
  ((conv => whnf); repeat ((first | (intro hq; try simp only [lnS] at hq) | refine sI ?_ | refine .intro _ (.intro rfl ?_)); (conv => whnf)))
  refine SemVC.own 2 120 54 3 rfl (fresh_of (by with_unfolding_all exact rfl)) ?_
  refine unroll hty 2 ?_
  ((conv => whnf); repeat' ((first | exact trivial | refine altAnd ?_ ?_ | (refine tree2_rule (id := 4) hty (.first 0 (.first 1 (.first 2 (.first 3 (.first 4 (.first 5 (.first 6 (.first 7 (.first 8 (.first 9 (.first 10 (.alt 11 (.alt 12 (.first 13 .done) .stop) .stop)))))))))))) (by kernel_rfl) (by kernel_rfl) ?_) | (intro hq; (try simp only [lnS] at hq); (try rewrite [List.length_map])) | refine sJ ?_ | refine .intro _ (.intro rfl ?_) | (refine .intro (show (_ : Nat) < List.length _ from by first | omega | (simp only [lnS]; omega) | simp) ?_) | refine draw_rule hty (by kernel_rfl) (by kernel_rfl) ?_ | ((first | refine brB_dec ?_ ?_ | refine brB_ndec ?_ ?_) <;> intro hb <;> (first | contradiction | ((try simp only [lnS] at hb); try (exfalso; omega)))) | (refine brB_split ?_ ?_ <;> intro hb <;> (first | contradiction | exact bT hb (by assumption) | exact bF hb (by assumption) | skip))) <;> (conv => whnf)))
  rfl
set_option maxHeartbeats 4000000 in
theorem of4_spec (a b c d : List UInt8) : Tri Tryz.prog 26 [.d (.sl 1 [[.str a], [.str b], [.str c], [.str d]])] [] (fun r => r = .d (rnL [⟨1, a, b⟩, ⟨1, c, d⟩])) := by
  refine tri_of_bodyF false [] hty Tryz.func26 rfl (kp [0, 2, 3, 8]) [] _ _ _ (by simp [Tryz.f26]) (by simp) ?_
  ((conv => whnf); repeat ((first | (intro hq; try simp only [lnS] at hq) | refine sI ?_ | refine .intro _ (.intro rfl ?_)); (conv => whnf)))
  refine SemVC.own 2 120 54 3 rfl (fresh_of (by with_unfolding_all exact rfl)) ?_
  refine loop_rule hty (fun j : Nat => ([(0, .d (.sl 1 [[.str a], [.str b], [.str c], [.str d]])), (2, .osl 120 3 ((([⟨1, a, b⟩, ⟨1, c, d⟩] : List Rn).take j).map rnR)), (3, .d (.int .i64 ((2 * j : Nat) : Int)))], [(120, .own 54 3 ((([⟨1, a, b⟩, ⟨1, c, d⟩] : List Rn).take j).map rnR).length)])) (fun j => j ≤ 2) (fun j => 2 - j) 0 (by omega) ⟨by repeat' (first | exact trivial | exact rfl | refine And.intro ?_ ?_), by repeat' (first | exact trivial | exact rfl | refine And.intro ?_ ?_)⟩ ?_
  intro j hj
  have hj3 : j = 0 ∨ j = 1 ∨ j = 2 := by omega
  rcases hj3 with rfl | rfl | rfl
  · ((conv => whnf); repeat' ((first | exact trivial | refine altAnd ?_ ?_ | (refine tree2_rule (id := 4) hty (.first 0 (.first 1 (.first 2 (.first 3 (.first 4 (.first 5 (.first 6 (.first 7 (.first 8 (.first 9 (.first 10 (.alt 11 (.alt 12 (.first 13 .done) .stop) .stop)))))))))))) (by kernel_rfl) (by kernel_rfl) ?_) | (intro hq; (try simp only [lnS] at hq); (try rewrite [List.length_map])) | refine sJ ?_ | refine .intro _ (.intro rfl ?_) | (refine .intro (show (_ : Nat) < List.length _ from by first | omega | (simp only [lnS]; omega) | simp) ?_) | refine draw_rule hty (by kernel_rfl) (by kernel_rfl) ?_ | ((first | refine brB_dec ?_ ?_ | refine brB_ndec ?_ ?_) <;> intro hb <;> (first | contradiction | ((try simp only [lnS] at hb); try (exfalso; omega)))) | (refine brB_split ?_ ?_ <;> intro hb <;> (first | contradiction | exact bT hb (by assumption) | exact bF hb (by assumption) | skip))) <;> (conv => whnf)))
    exact ⟨1, by decide, by decide, ⟨by repeat' (first | exact trivial | exact rfl | refine And.intro ?_ ?_), by repeat' (first | exact trivial | exact rfl | refine And.intro ?_ ?_)⟩⟩
  · ((conv => whnf); repeat' ((first | exact trivial | refine altAnd ?_ ?_ | (refine tree2_rule (id := 4) hty (.first 0 (.first 1 (.first 2 (.first 3 (.first 4 (.first 5 (.first 6 (.first 7 (.first 8 (.first 9 (.first 10 (.alt 11 (.alt 12 (.first 13 .done) .stop) .stop)))))))))))) (by kernel_rfl) (by kernel_rfl) ?_) | (intro hq; (try simp only [lnS] at hq); (try rewrite [List.length_map])) | refine sJ ?_ | refine .intro _ (.intro rfl ?_) | (refine .intro (show (_ : Nat) < List.length _ from by first | omega | (simp only [lnS]; omega) | simp) ?_) | refine draw_rule hty (by kernel_rfl) (by kernel_rfl) ?_ | ((first | refine brB_dec ?_ ?_ | refine brB_ndec ?_ ?_) <;> intro hb <;> (first | contradiction | ((try simp only [lnS] at hb); try (exfalso; omega)))) | (refine brB_split ?_ ?_ <;> intro hb <;> (first | contradiction | exact bT hb (by assumption) | exact bF hb (by assumption) | skip))) <;> (conv => whnf)))
    exact ⟨2, by decide, by decide, ⟨by repeat' (first | exact trivial | exact rfl | refine And.intro ?_ ?_), by repeat' (first | exact trivial | exact rfl | refine And.intro ?_ ?_)⟩⟩
  · ((conv => whnf); repeat' ((first | (intro hq; (try simp only [lnS] at hq); (try rewrite [List.length_map])) | refine sJ ?_ | refine .intro _ (.intro rfl ?_) | (refine .intro (show (_ : Nat) < List.length _ from by first | omega | (simp only [lnS]; omega) | simp) ?_) | fail | refine draw_rule hty (by kernel_rfl) (by kernel_rfl) ?_ | ((first | refine brB_dec ?_ ?_ | refine brB_ndec ?_ ?_) <;> intro hb <;> (first | contradiction | ((try simp only [lnS] at hb); try (exfalso; omega)))) | (refine brB_split ?_ ?_ <;> intro hb <;> (first | contradiction | exact bT hb (by assumption) | exact bF hb (by assumption) | skip))) <;> (conv => whnf)))
    rfl
def rAB : List Rn := [⟨1, [65], [66]⟩]
def rABBA : List Rn := [⟨1, [65], [66]⟩, ⟨1, [66], [65]⟩]
def rBC : List Rn := [⟨1, [66], [67]⟩]
def rACBA : List Rn := [⟨1, [65], [67]⟩, ⟨1, [66], [65]⟩]
def axRA : Ax := ⟨8, false, c0, .mk 3 [65] 0 0 [], [], [], [65], []⟩
def axRB : Ax := ⟨8, false, c0, .mk 3 [66] 0 0 [], [], [], [65], []⟩
theorem comp1 : compR rABBA rBC = (rACBA, 0) := by kernel_rfl
theorem comp2 : compR rAB rBC = ([], 330) := by kernel_rfl
theorem axm1 : axmR rAB [axRA] = ([axRB], 0) := by kernel_rfl
theorem chk1 : checkR [⟨1, [65], [65]⟩] = 330 := by kernel_rfl
theorem chk2 : checkR [⟨1, [65], [66]⟩, ⟨1, [65], [67]⟩] = 330 := by kernel_rfl
theorem chk3 : checkR [⟨1, [65], [67]⟩, ⟨1, [66], [67]⟩] = 330 := by kernel_rfl
theorem Tri.oslN2 {P : Program} {f : FuncId} {s0 : SV} {id z : Nat} {rows rows' : List (List D)} {hp : Hp} {post : SV → Prop} (h : Tri P f [s0, .d (.sl z rows')] hp post) (hw : WkDR rows rows') : Tri P f [s0, .osl id z rows] hp post := by
  unfold Tri at h ⊢
  intro w ρ vs a b c
  refine h w ρ vs a ⟨b.1, fun j s v hs hv => ?_⟩ c
  match j, hs with
  | 0, hs => exact b.2 0 s v hs hv
  | 1, hs =>
    injection hs with hs; subst hs
    exact .d _ _ (WkD_ok (b.2 1 _ v rfl hv).osl_inv.1 _ (by simpa [WkD] using hw))
def axRow : List D := [.int .i64 8, .bool false, .int .i64 0, .str [], .int .i64 0, .int .i64 0, .nil, .int .i64 3, .str [65], .int .i64 0, .int .i64 0, .nil, .nil, .str [], .str [65], .str []]
set_option maxHeartbeats 16000000 in
theorem rsane_spec : Tri Tryz.prog 9 [] NG (fun r => r = .d (.bool true)) := by
  have o1 := fun (id : Nat) => Tri.osl (id := id) (of4_spec [65] [66] [66] [65])
  have o2 := fun (id : Nat) => Tri.osl (id := id) (of2_spec [66] [67])
  have o3 := fun (id : Nat) => Tri.osl (id := id) (of2_spec [65] [66])
  have o4 := fun (id : Nat) => Tri.osl (id := id) (of2_spec [65] [65])
  have o5 := fun (id : Nat) => Tri.osl (id := id) (of4_spec [65] [66] [65] [67])
  have o6 := fun (id : Nat) => Tri.osl (id := id) (of4_spec [65] [67] [66] [67])
  have o7 := fun (id : Nat) => Tri.osl (id := id) (of4_spec [65] [67] [66] [65])
  have k1 := rnCompose_spec rABBA rBC
  have k2 := rnCompose_spec rAB rBC
  rw [comp1] at k1
  rw [comp2] at k2
  have k3 := rnAxioms_spec rAB [axRA] (by decide)
  rw [axm1] at k3
  have c1 := rnCheck_spec [⟨1, [65], [65]⟩]
  have c2 := rnCheck_spec [⟨1, [65], [66]⟩, ⟨1, [65], [67]⟩]
  have c3 := rnCheck_spec [⟨1, [65], [67]⟩, ⟨1, [66], [67]⟩]
  rw [chk1] at c1
  rw [chk2] at c2
  rw [chk3] at c3
  have s1 := rrSame_self rACBA
  refine tri_of_bodyF false [5] hty Tryz.func9 rfl (kp [0, 1, 2, 4, 5, 6, 7, 8]) [] _ _ _ (by simp [Tryz.f9]) (by decide) ?_
  ((conv => whnf); repeat ((first | (intro hq; try simp only [lnS] at hq) | refine sI ?_ | refine .intro _ (.intro rfl ?_)); (conv => whnf)))
  refine call_tri [] (o1 _) trivial (fun r hs => ?_)
  subst hs
  ((conv => whnf); repeat ((first | (intro hq; try simp only [lnS] at hq) | refine sI ?_ | refine .intro _ (.intro rfl ?_)); (conv => whnf)))
  refine call_tri [] (o2 _) trivial (fun r hs => ?_)
  subst hs
  ((conv => whnf); repeat ((first | (intro hq; try simp only [lnS] at hq) | refine sI ?_ | refine .intro _ (.intro rfl ?_)); (conv => whnf)))
  refine call_tri [] k1 trivial (fun r hs => ?_)
  subst hs
  ((conv => whnf); repeat ((first | (intro hq; try simp only [lnS] at hq) | refine sI ?_ | refine .intro _ (.intro rfl ?_)); (conv => whnf)))
  refine call_tri [] (o3 _) trivial (fun r hs => ?_)
  subst hs
  ((conv => whnf); repeat ((first | (intro hq; try simp only [lnS] at hq) | refine sI ?_ | refine .intro _ (.intro rfl ?_)); (conv => whnf)))
  refine call_tri [] (o2 _) trivial (fun r hs => ?_)
  subst hs
  ((conv => whnf); repeat ((first | (intro hq; try simp only [lnS] at hq) | refine sI ?_ | refine .intro _ (.intro rfl ?_)); (conv => whnf)))
  refine call_tri [] k2 trivial (fun r hs => ?_)
  subst hs
  ((conv => whnf); repeat ((first | (intro hq; try simp only [lnS] at hq) | refine sI ?_ | refine .intro _ (.intro rfl ?_)); (conv => whnf)))
  refine SemVC.mid [(0, .d (.bool false)), (1, .d (rnL rACBA)), (2, .d (.int .i64 0)), (4, .d (.int .i64 330)), (6, .d (.sl 16 [axR axRB])), (7, .d (.int .i64 0))] NG ?_ ?_
  · have k4 : Tri Tryz.prog 11 [.d (rnL rAB), .d (.sl 16 [axR axRA])] NG (fun r => r = .tup [.d (.sl 16 [axR axRB]), .d (.int .i64 0)]) := k3
    have k5 := fun (id : Nat) => Tri.oslN2 (id := id) (rows := [axRow]) k4 (by repeat' (first | exact trivial | exact rfl | refine And.intro ?_ ?_))
    (refine tree2_rule (id := 4) hty (.first 2 (.alt 0 (.alt 1 (.alt 3 (.alt 4 (.first 5 (.first 6 (.first 7 (.first 8 (.first 9 .done))))) .stop) .stop) (.alt 3 (.alt 1 (.alt 4 (.first 5 (.first 6 (.first 7 (.first 8 (.first 9 .done))))) .stop) .stop) .stop)) (.alt 3 (.alt 0 (.alt 1 (.alt 4 (.first 5 (.first 6 (.first 7 (.first 8 (.first 9 .done))))) .stop) .stop) .stop) .stop))) (by kernel_rfl) (by kernel_rfl) ?_)
    ((conv => whnf); repeat' ((first | exact trivial | refine altAnd ?_ ?_ | refine eqN rfl ?_ | refine leN rfl ?_ | refine ltN rfl ?_ | (refine call_tri [] (o3 _) trivial (fun r hs => ?_); subst hs) | (refine call_tri NG (k5 _) (by exact ⟨rfl, rfl, trivial⟩) (fun r hs => ?_); subst hs) | refine sJ ?_ | (refine Exists.intro _ (And.intro rfl ?_))) <;> (conv => whnf)))
    all_goals exact ⟨by repeat' (first | exact trivial | exact rfl | refine And.intro ?_ ?_), by repeat' (first | exact trivial | exact rfl | refine And.intro ?_ ?_)⟩
  ((conv => whnf); repeat ((first | (intro hq; try simp only [lnS] at hq) | refine sI ?_ | refine .intro _ (.intro rfl ?_)); (conv => whnf)))
  refine call_tri [] (o4 _) trivial (fun r hs => ?_)
  subst hs
  ((conv => whnf); repeat ((first | (intro hq; try simp only [lnS] at hq) | refine sI ?_ | refine .intro _ (.intro rfl ?_)); (conv => whnf)))
  refine call_tri [] c1 trivial (fun r hs => ?_)
  subst hs
  ((conv => whnf); repeat ((first | (intro hq; try simp only [lnS] at hq) | refine sI ?_ | refine .intro _ (.intro rfl ?_)); (conv => whnf)))
  refine call_tri [] (o5 _) trivial (fun r hs => ?_)
  subst hs
  ((conv => whnf); repeat ((first | (intro hq; try simp only [lnS] at hq) | refine sI ?_ | refine .intro _ (.intro rfl ?_)); (conv => whnf)))
  refine call_tri [] c2 trivial (fun r hs => ?_)
  subst hs
  ((conv => whnf); repeat ((first | (intro hq; try simp only [lnS] at hq) | refine sI ?_ | refine .intro _ (.intro rfl ?_)); (conv => whnf)))
  refine call_tri [] (o6 _) trivial (fun r hs => ?_)
  subst hs
  ((conv => whnf); repeat ((first | (intro hq; try simp only [lnS] at hq) | refine sI ?_ | refine .intro _ (.intro rfl ?_)); (conv => whnf)))
  refine call_tri [] c3 trivial (fun r hs => ?_)
  subst hs
  ((conv => whnf); repeat ((first | (intro hq; try simp only [lnS] at hq) | refine sI ?_ | refine .intro _ (.intro rfl ?_)); (conv => whnf)))
  refine call_tri [] (o7 _) trivial (fun r hs => ?_)
  subst hs
  ((conv => whnf); repeat ((first | (intro hq; try simp only [lnS] at hq) | refine sI ?_ | refine .intro _ (.intro rfl ?_)); (conv => whnf)))
  refine call_tri [] s1 trivial (fun r hs => ?_)
  subst hs
  ((conv => whnf); repeat ((first | (intro hq; try simp only [lnS] at hq) | refine sI ?_ | refine .intro _ (.intro rfl ?_)); (conv => whnf)))
  rfl
end Go.Proofs.YtpecmehekandgaaGreatDoor
namespace Go.Proofs.YtpecmehekandgaaGreatDoor
open Go.Proofs
set_option maxRecDepth 10000
attribute [local irreducible] SemVC CallVC Tri Stuck YVC GenP GenVC
theorem rname_spec (s : List UInt8) : Tri Tryz.prog 40 [.d (.str s)] [] (fun r => r = .d (.bool (rnN s))) := by
  have c := rCheckName_spec s
  unfold rnN
  cases s with
  | nil =>
    rw [show nameF [] = false by kernel_rfl]
    refine tri_of_bodyF false [] hty Tryz.func40 rfl (kp [0, 2]) [] _ _ _ (by simp [Tryz.f40]) (by simp) ?_
    ((conv => whnf); repeat' ((first | (intro hq; (try simp only [lnS] at hq); (try rewrite [List.length_map])) | refine sJ ?_ | refine .intro _ (.intro rfl ?_) | (refine .intro (show (_ : Nat) < List.length _ from by first | omega | (simp only [lnS]; omega) | simp) ?_) | fail | refine draw_rule hty (by kernel_rfl) (by kernel_rfl) ?_ | ((first | refine brB_dec ?_ ?_ | refine brB_ndec ?_ ?_) <;> intro hb <;> (first | contradiction | ((try simp only [lnS] at hb); try (exfalso; omega)))) | (refine brB_split ?_ ?_ <;> intro hb <;> (first | contradiction | exact bT hb (by assumption) | exact bF hb (by assumption) | skip))) <;> (conv => whnf)))
    all_goals first
      | rfl
      | (exfalso; simp_all; done)
  | cons a r =>
    rw [List.head?_cons]
    generalize nameF (a :: r) = b at *
    refine tri_of_bodyF false [] hty Tryz.func40 rfl (kp [0, 2]) [] _ _ _ (by simp [Tryz.f40]) (by simp) ?_
    ((conv => whnf); repeat' ((first | (intro hq; (try simp only [lnS] at hq); (try rewrite [List.length_map])) | refine sJ ?_ | refine .intro _ (.intro rfl ?_) | (refine .intro (show (_ : Nat) < List.length _ from by first | omega | (simp only [lnS]; omega) | simp) ?_) | (refine call_tri [] c trivial (fun r hs => ?_); subst hs) | refine draw_rule hty (by kernel_rfl) (by kernel_rfl) ?_ | ((first | refine brB_dec ?_ ?_ | refine brB_ndec ?_ ?_) <;> intro hb <;> (first | contradiction | ((try simp only [lnS] at hb); try (exfalso; omega)))) | (refine brB_split ?_ ?_ <;> intro hb <;> (first | contradiction | exact bT hb (by assumption) | exact bF hb (by assumption) | skip))) <;> (conv => whnf)))
    · have hb : ¬ ((a.toNat : Nat) : Int) = 95 := hb
      refine bool_eq ?_
      have h9 : ¬ a = 95 := fun e => hb (by rw [e]; rfl)
      cases b <;> simp [h9]
    · have hb : ((a.toNat : Nat) : Int) = 95 := hb
      refine bool_eq ?_
      have h9 : a = 95 := UInt8.toNat_inj.1 (by have e : (95 : UInt8).toNat = 95 := rfl; omega)
      simp [h9]
theorem cmpI_neg (a b : Int) : cmpI a b < 0 ↔ a < b := by
  unfold cmpI; split
  · simp; assumption
  · split <;> simp <;> omega
theorem rless_spec (x y : Rn) : Tri Tryz.prog 41 [.d (.agg (rnR x)), .d (.agg (rnR y))] [] (fun r => r = .d (.bool (decide (cmpR x y < 0)))) := by
  refine tri_of_bodyF false [2, 3] hty Tryz.func41 rfl (kp [0, 1, 2, 3, 4, 9]) [] _ _ _ (by simp [Tryz.f41]) (by simp) ?_
  ((conv => whnf); repeat' ((first | (intro hq; (try simp only [lnS] at hq); (try rewrite [List.length_map])) | refine sJ ?_ | refine .intro _ (.intro rfl ?_) | (refine .intro (show (_ : Nat) < List.length _ from by first | omega | (simp only [lnS]; omega) | simp) ?_) | fail | refine draw_rule hty (by kernel_rfl) (by kernel_rfl) ?_ | ((first | refine brB_dec ?_ ?_ | refine brB_ndec ?_ ?_) <;> intro hb <;> (first | contradiction | ((try simp only [lnS] at hb); try (exfalso; omega)))) | (refine brB_split ?_ ?_ <;> intro hb <;> (first | contradiction | exact bT hb (by assumption) | exact bF hb (by assumption) | skip))) <;> (conv => whnf)))
  · refine bool_eq (decide_eq_decide.2 ?_)
    unfold cmpR
    rw [orF_cons, lex, if_pos (by rw [ne_eq, cmpI_zero]; exact hb)]
    exact (cmpI_neg _ _).symm
  · refine bool_eq ?_
    rw [bytesLess_eq]
    refine decide_eq_decide.2 ?_
    unfold cmpR
    rw [orF_cons, lex, if_neg (by rw [ne_eq, cmpI_zero]; simpa using hb), orF_cons, lex]
    split
    · exact Iff.rfl
    · rename_i h; rw [show orF [] = 0 from rfl]; omega
theorem rrName_spec (l : List Rn) (k : Int) (s : List UInt8) : Tri Tryz.prog 21 [.d (rnL l), .d (.int .i64 k), .d (.str s)] [] (fun r => r = .d (.str (nameR l k s))) := by
  refine tri_of_bodyF false [] hty Tryz.func21 rfl (kp [0, 1, 2, 6, 7, 11, 29]) [] _ _ _ (by simp [Tryz.f21]) (by simp) ?_
  ((conv => whnf); repeat ((first | (intro hq; try simp only [lnS] at hq) | refine sI ?_ | refine .intro _ (.intro rfl ?_)); (conv => whnf)))
  refine loop_rule hty (fun j : Nat => ([(0, .d (rnL l)), (1, .d (.int .i64 k)), (2, .d (.str s)), (7, .d (.int .i64 j))], [])) (fun j => j ≤ l.length ∧ nameR l k s = nameR (l.drop j) k s) (fun j => l.length - j) 0 ⟨by omega, rfl⟩ ⟨by repeat' (first | exact trivial | exact rfl | (rw [List.length_map]; exact rfl) | refine And.intro ?_ ?_), trivial⟩ ?_
  rintro j ⟨hj, hn⟩
  ((conv => whnf); repeat ((first | (intro hq; try simp only [lnS] at hq) | refine sI ?_ | refine .intro _ (.intro rfl ?_)); (conv => whnf)))
  refine brB_dec (fun h1 => ?_) (fun h1 => ?_)
  · have hjl : j < l.length := by have h1 : (j : Int) < ((l.map rnR).length : Nat) := h1; rw [List.length_map] at h1; omega
    have hrow : (l.map rnR)[(j : Int).toNat]? = some (rnR l[j]) := rowC_at hjl
    rw [List.drop_eq_getElem_cons hjl] at hn
    generalize l[j] = x at hrow hn
    ((conv => whnf); repeat' ((first | (intro hq; (try simp only [lnS] at hq); (try rewrite [List.length_map])) | refine sJ ?_ | refine .intro _ (.intro rfl ?_) | (refine .intro (show (_ : Nat) < List.length _ from by first | omega | (simp only [lnS]; omega) | simp) ?_) | (refine ⟨_, hrow, ?_⟩) | refine draw_rule hty (by kernel_rfl) (by kernel_rfl) ?_ | ((first | refine brB_dec ?_ ?_ | refine brB_ndec ?_ ?_) <;> intro hb <;> (first | contradiction | ((try simp only [lnS] at hb); try (exfalso; omega)))) | (refine brB_split ?_ ?_ <;> intro hb <;> (first | contradiction | exact bT hb (by assumption) | exact bF hb (by assumption) | skip))) <;> (conv => whnf)))
    · rw [hn, nameR, List.find?_cons_of_pos (by simp_all)]
      rfl
    all_goals (
      refine ⟨j + 1, ⟨by (try dsimp only); omega, ?_⟩, by (try dsimp only); omega, ⟨by repeat' (first | exact trivial | exact rfl | refine And.intro ?_ ?_), by repeat' (first | exact trivial | exact rfl | refine And.intro ?_ ?_)⟩⟩
      rw [hn, nameR, List.find?_cons_of_neg (by simp_all)]
      rfl)
  · have hjl : j = l.length := by have h1 : ¬ (j : Int) < ((l.map rnR).length : Nat) := h1; rw [List.length_map] at h1; omega
    subst hjl
    rw [List.drop_length] at hn
    ((conv => whnf); repeat' ((first | (intro hq; (try simp only [lnS] at hq); (try rewrite [List.length_map])) | refine sJ ?_ | refine .intro _ (.intro rfl ?_) | (refine .intro (show (_ : Nat) < List.length _ from by first | omega | (simp only [lnS]; omega) | simp) ?_) | fail | refine draw_rule hty (by kernel_rfl) (by kernel_rfl) ?_ | ((first | refine brB_dec ?_ ?_ | refine brB_ndec ?_ ?_) <;> intro hb <;> (first | contradiction | ((try simp only [lnS] at hb); try (exfalso; omega)))) | (refine brB_split ?_ ?_ <;> intro hb <;> (first | contradiction | exact bT hb (by assumption) | exact bF hb (by assumption) | skip))) <;> (conv => whnf)))
    rw [hn]
    rfl
theorem pw_snoc {α : Type} {R : α → α → Prop} (tr : ∀ x y z, R x y → R y z → R x z) {l : List α} {j : Nat} (hj : j < l.length) (h : (l.take j).Pairwise R) (h2 : ∀ h0 : 0 < j, R (l[j - 1]'(by omega)) l[j]) : (l.take (j + 1)).Pairwise R := by
  rw [List.take_succ_eq_append_getElem hj, List.pairwise_append]
  refine ⟨h, by simp, fun a ha b hb => ?_⟩
  simp only [List.mem_singleton] at hb
  subst hb
  have h0 : 0 < j := by
    rcases Nat.eq_zero_or_pos j with rfl | h0
    · simp at ha
    · exact h0
  have hl := h2 h0
  obtain ⟨i, hi, rfl⟩ := List.mem_iff_getElem.1 ha
  rw [List.length_take] at hi
  rw [List.getElem_take]
  by_cases e : i = j - 1
  · subst e; exact hl
  · have hp := List.pairwise_iff_getElem.1 h i (j - 1) (by rw [List.length_take]; omega) (by rw [List.length_take]; omega) (by omega)
    rw [List.getElem_take, List.getElem_take] at hp
    exact tr _ _ _ hp hl
set_option maxHeartbeats 8000000 in
theorem rrCheck_spec (l : List Rn) : Tri Tryz.prog 18 [.d (rnL l)] [] (fun r => r = .d (.int .i64 (checkR l))) := by
  refine tri_of_bodyF false [4] hty Tryz.func18 rfl (kp [0, 2, 3, 4, 5, 6, 9, 13, 46, 58, 62, 67, 93]) [] _ _ _ (by simp [Tryz.f18]) (by simp) ?_
  ((conv => whnf); repeat ((first | (intro hq; try simp only [lnS] at hq) | refine sI ?_ | refine .intro _ (.intro rfl ?_)); (conv => whnf)))
  refine brB_dec (fun h1 => ?_) (fun h1 => ?_)
  · have h1 : 1024 < (l.map rnR).length := by omega
    rw [List.length_map] at h1
    rw [checkR, if_pos h1]
    ((conv => whnf); repeat' ((first | (intro hq; (try simp only [lnS] at hq); (try rewrite [List.length_map])) | refine sJ ?_ | refine .intro _ (.intro rfl ?_) | (refine .intro (show (_ : Nat) < List.length _ from by first | omega | (simp only [lnS]; omega) | simp) ?_) | fail | refine draw_rule hty (by kernel_rfl) (by kernel_rfl) ?_ | ((first | refine brB_dec ?_ ?_ | refine brB_ndec ?_ ?_) <;> intro hb <;> (first | contradiction | ((try simp only [lnS] at hb); try (exfalso; omega)))) | (refine brB_split ?_ ?_ <;> intro hb <;> (first | contradiction | exact bT hb (by assumption) | exact bF hb (by assumption) | skip))) <;> (conv => whnf)))
    rfl
  have hl : l.length ≤ 1024 := by have h1 : ¬ 1024 < ((l.map rnR).length : Int) := h1; rw [List.length_map] at h1; omega
  have hbad : ¬ Good l → SV.d (.int .i64 330) = SV.d (.int .i64 (checkR l)) := fun h => by rw [checkR_bad hl h]
  ((conv => whnf); repeat ((first | (intro hq; try simp only [lnS] at hq) | refine sI ?_ | refine .intro _ (.intro rfl ?_)); (conv => whnf)))
  refine loop_rule hty (fun j : Nat => ([(0, .d (rnL l)), (3, .d (.int .i64 j))], [])) (fun j => j ≤ l.length ∧ (∀ r ∈ l.take j, rnV r = true) ∧ (l.take j).Pairwise fun a b => cmpR a b < 0) (fun j => l.length - j) 0 ⟨by omega, by simp, by simp⟩ ⟨by repeat' (first | exact trivial | exact rfl | refine And.intro ?_ ?_), by repeat' (first | exact trivial | exact rfl | refine And.intro ?_ ?_)⟩ ?_
  rintro j ⟨hj, iv, ip⟩
  ((conv => whnf); repeat ((first | (intro hq; try simp only [lnS] at hq) | refine sI ?_ | refine .intro _ (.intro rfl ?_)); (conv => whnf)))
  refine brB_dec (fun h2 => ?_) (fun h2 => ?_)
  · have hjl : j < l.length := by have h2 : (j : Int) < ((l.map rnR).length : Nat) := h2; rw [List.length_map] at h2; omega
    have hrow : (l.map rnR)[(j : Int).toNat]? = some (rnR l[j]) := rowC_at hjl
    have hgv : Good l → rnV l[j] = true := fun g => g.val _ (List.getElem_mem hjl)
    have hiv : rnV l[j] = true → ∀ r ∈ l.take (j + 1), rnV r = true := fun h r hr => by
      rw [List.take_succ_eq_append_getElem hjl] at hr
      rcases List.mem_append.1 hr with hr | hr
      · exact iv r hr
      · simp only [List.mem_singleton] at hr; rw [hr]; exact h
    have hip := pw_snoc (R := fun a b => cmpR a b < 0) (fun a b d h1 h2 => cmpR_tr h1 h2) hjl ip
    by_cases j0 : j = 0
    · have hgs : Good l → True := fun _ => trivial
      replace hip := fun (_ : True) => hip (fun h => absurd j0 (by omega))
      generalize l[j] = x at *
      have n1 := rname_spec x.old
      have n2 := rname_spec x.new
      have hv : rnV x = (decide (1 ≤ x.kind) && (decide (x.kind ≤ 4) && (rnN x.old && (rnN x.new && !decide (x.old = x.new))))) := rfl
      generalize rnN x.old = b1 at *
      generalize rnN x.new = b2 at *
      have lt := trivial
      ((conv => whnf); repeat' ((first | (intro hq; (try simp only [lnS] at hq); (try rewrite [List.length_map])) | refine sJ ?_ | refine .intro _ (.intro rfl ?_) | (refine .intro (show (_ : Nat) < List.length _ from by first | omega | (simp only [lnS]; omega) | simp) ?_) | (refine ⟨_, hrow, ?_⟩) | (refine call_tri [] n1 trivial (fun r hs => ?_); subst hs) | (refine call_tri [] n2 trivial (fun r hs => ?_); subst hs) | refine draw_rule hty (by kernel_rfl) (by kernel_rfl) ?_ | ((first | refine brB_dec ?_ ?_ | refine brB_ndec ?_ ?_) <;> intro hb <;> (first | contradiction | ((try simp only [lnS] at hb); try (exfalso; omega)))) | (refine brB_split ?_ ?_ <;> intro hb <;> (first | contradiction | exact bT hb (by assumption) | exact bF hb (by assumption) | skip))) <;> (conv => whnf)))
      all_goals first
        | (refine hbad (fun g => ?_)
           have g1 := hgv g
           have g2 := hgs g
           rw [hv] at g1
           clear hbad hgv hgs hiv hip lt n1 n2 hrow hv
           simp only [Bool.and_eq_true, decide_eq_true_eq, Bool.not_eq_true', decide_eq_false_iff_not] at g1
           first
             | omega
             | (simp_all; done)
             | (exact g1.2.2.2.2 (by assumption)))
        | (have g1 : rnV x = true := by
             rw [hv]
             clear hbad hgv hgs hiv hip lt n1 n2 hrow hv
             simp only [Bool.and_eq_true, decide_eq_true_eq, Bool.not_eq_true', decide_eq_false_iff_not]
             refine ⟨by omega, by omega, by simp_all, by simp_all, by assumption⟩
           exact ⟨j + 1, ⟨by (try dsimp only); omega, hiv g1, hip (by first | assumption | (exfalso; omega))⟩, by (try dsimp only); omega, ⟨by repeat' (first | exact trivial | exact rfl | refine And.intro ?_ ?_), by repeat' (first | exact trivial | exact rfl | refine And.intro ?_ ?_)⟩⟩)
    · have hjp : j - 1 < l.length := by omega
      have hrow2 : (l.map rnR)[((j : Int) - 1).toNat]? = some (rnR l[j - 1]) := by
        rw [show ((j : Int) - 1).toNat = j - 1 by omega, List.getElem?_map, List.getElem?_eq_getElem hjp]; rfl
      have hgs : Good l → cmpR l[j - 1] l[j] < 0 := fun g => List.pairwise_iff_getElem.1 g.str (j - 1) j hjp hjl (by omega)
      replace hip := fun (h : cmpR l[j - 1] l[j] < 0) => hip (fun _ => h)
      have lt := rless_spec l[j - 1] l[j]
      generalize l[j - 1] = q at *
      generalize l[j] = x at *
      have n1 := rname_spec x.old
      have n2 := rname_spec x.new
      have hv : rnV x = (decide (1 ≤ x.kind) && (decide (x.kind ≤ 4) && (rnN x.old && (rnN x.new && !decide (x.old = x.new))))) := rfl
      generalize rnN x.old = b1 at *
      generalize rnN x.new = b2 at *
      generalize cmpR q x = c at *
      ((conv => whnf); repeat' ((first | (intro hq; (try simp only [lnS] at hq); (try rewrite [List.length_map])) | refine sJ ?_ | refine .intro _ (.intro rfl ?_) | (refine .intro (show (_ : Nat) < List.length _ from by first | omega | (simp only [lnS]; omega) | simp) ?_) | (refine ⟨_, hrow, ?_⟩) | (refine call_tri [] n1 trivial (fun r hs => ?_); subst hs) | (refine call_tri [] n2 trivial (fun r hs => ?_); subst hs) | (refine ⟨_, hrow2, ?_⟩) | (refine ⟨.d (.bool _), _, [], rfl, trivial, lt, ?_⟩) | refine draw_rule hty (by kernel_rfl) (by kernel_rfl) ?_ | ((first | refine brB_dec ?_ ?_ | refine brB_ndec ?_ ?_) <;> intro hb <;> (first | contradiction | ((try simp only [lnS] at hb); try (exfalso; omega)))) | (refine brB_split ?_ ?_ <;> intro hb <;> (first | contradiction | exact bT hb (by assumption) | exact bF hb (by assumption) | skip))) <;> (conv => whnf)))
      all_goals first
        | (refine hbad (fun g => ?_)
           have g1 := hgv g
           have g2 := hgs g
           rw [hv] at g1
           clear hbad hgv hgs hiv hip lt n1 n2 hrow hv
           simp only [Bool.and_eq_true, decide_eq_true_eq, Bool.not_eq_true', decide_eq_false_iff_not] at g1
           first
             | omega
             | (simp_all; done)
             | (exact g1.2.2.2.2 (by assumption)))
        | (have g1 : rnV x = true := by
             rw [hv]
             clear hbad hgv hgs hiv hip lt n1 n2 hrow hv
             simp only [Bool.and_eq_true, decide_eq_true_eq, Bool.not_eq_true', decide_eq_false_iff_not]
             refine ⟨by omega, by omega, by simp_all, by simp_all, by assumption⟩
           exact ⟨j + 1, ⟨by (try dsimp only); omega, hiv g1, hip (by first | assumption | (exfalso; omega))⟩, by (try dsimp only); omega, ⟨by repeat' (first | exact trivial | exact rfl | refine And.intro ?_ ?_), by repeat' (first | exact trivial | exact rfl | refine And.intro ?_ ?_)⟩⟩)
  have hjl : j = l.length := by have h2 : ¬ (j : Int) < ((l.map rnR).length : Nat) := h2; rw [List.length_map] at h2; omega
  subst hjl
  rw [List.take_length] at iv ip
  ((conv => whnf); repeat ((first | (intro hq; try simp only [lnS] at hq) | refine sI ?_ | refine .intro _ (.intro rfl ?_)); (conv => whnf)))
  refine loop_rule hty (fun j : Nat => ([(0, .d (rnL l)), (5, .d (.int .i64 j))], [])) (fun j => j ≤ l.length ∧ ((l.take j).map keyN).Nodup) (fun j => l.length - j) 0 ⟨by omega, by simp⟩ ⟨by repeat' (first | exact trivial | exact rfl | refine And.intro ?_ ?_), by repeat' (first | exact trivial | exact rfl | refine And.intro ?_ ?_)⟩ ?_
  rintro j ⟨hj, ik⟩
  ((conv => whnf); repeat ((first | (intro hq; try simp only [lnS] at hq) | refine sI ?_ | refine .intro _ (.intro rfl ?_)); (conv => whnf)))
  refine brB_dec (fun h2 => ?_) (fun h2 => ?_)
  · have hjl : j < l.length := by have h2 : (j : Int) < ((l.map rnR).length : Nat) := h2; rw [List.length_map] at h2; omega
    have hrow : (l.map rnR)[(j : Int).toNat]? = some (rnR l[j]) := rowC_at hjl
    have hik : (∀ r ∈ l.take j, keyN r ≠ keyN l[j]) → ((l.take (j + 1)).map keyN).Nodup := fun h => by
      rw [List.take_succ_eq_append_getElem hjl, List.map_append, List.nodup_append]
      refine ⟨ik, by simp, fun a ha b hb => ?_⟩
      obtain ⟨r, hr, rfl⟩ := List.mem_map.1 ha
      simp only [List.map_cons, List.map_nil, List.mem_singleton] at hb
      rw [hb]
      exact h r hr
    have hgk : ∀ k, (h : k < j) → keyN (l[k]'(by omega)) = keyN l[j] → ¬ Good l := fun k h e g => by
      have := List.pairwise_iff_getElem.1 g.nod k j (by rw [List.length_map]; omega) (by rw [List.length_map]; omega) h
      rw [List.getElem_map, List.getElem_map] at this
      exact this e
    ((conv => whnf); repeat ((first | (intro hq; try simp only [lnS] at hq) | refine sI ?_ | refine .intro _ (.intro rfl ?_)); (conv => whnf)))
    refine loop_rule hty (fun k : Nat => ([(0, .d (rnL l)), (5, .d (.int .i64 j)), (6, .d (.int .i64 k))], [])) (fun k => k ≤ j ∧ ∀ r ∈ l.take k, keyN r ≠ keyN l[j]) (fun k => j - k) 0 ⟨by omega, by simp⟩ ⟨by repeat' (first | exact trivial | exact rfl | refine And.intro ?_ ?_), by repeat' (first | exact trivial | exact rfl | refine And.intro ?_ ?_)⟩ ?_
    rintro k ⟨hk, ih⟩
    ((conv => whnf); repeat ((first | (intro hq; try simp only [lnS] at hq) | refine sI ?_ | refine .intro _ (.intro rfl ?_)); (conv => whnf)))
    refine brB_dec (fun h3 => ?_) (fun h3 => ?_)
    · have hkj : k < j := by omega
      have hkl : k < l.length := by omega
      have hrow2 : (l.map rnR)[(k : Int).toNat]? = some (rnR l[k]) := rowC_at hkl
      replace hgk := hgk k hkj
      have hih : ¬ keyN l[k] = keyN l[j] → ∀ r ∈ l.take (k + 1), keyN r ≠ keyN l[j] := fun h r hr => by
        rw [List.take_succ_eq_append_getElem hkl] at hr
        rcases List.mem_append.1 hr with hr | hr
        · exact ih r hr
        · simp only [List.mem_singleton] at hr; rw [hr]; exact h
      generalize l[j] = x at *
      generalize l[k] = y at *
      ((conv => whnf); repeat' ((first | (intro hq; (try simp only [lnS] at hq); (try rewrite [List.length_map])) | refine sJ ?_ | refine .intro _ (.intro rfl ?_) | (refine .intro (show (_ : Nat) < List.length _ from by first | omega | (simp only [lnS]; omega) | simp) ?_) | (refine ⟨_, hrow, ?_⟩) | (refine ⟨_, hrow2, ?_⟩) | refine draw_rule hty (by kernel_rfl) (by kernel_rfl) ?_ | ((first | refine brB_dec ?_ ?_ | refine brB_ndec ?_ ?_) <;> intro hb <;> (first | contradiction | ((try simp only [lnS] at hb); try (exfalso; omega)))) | (refine brB_split ?_ ?_ <;> intro hb <;> (first | contradiction | exact bT hb (by assumption) | exact bF hb (by assumption) | skip))) <;> (conv => whnf)))
      all_goals first
        | (refine hbad (hgk ?_)
           unfold keyN
           rw [Prod.mk.injEq]
           exact ⟨by simp_all, by simp_all⟩)
        | (refine ⟨k + 1, ⟨by (try dsimp only); omega, hih ?_⟩, by (try dsimp only); omega, ⟨by repeat' (first | exact trivial | exact rfl | refine And.intro ?_ ?_), by repeat' (first | exact trivial | exact rfl | refine And.intro ?_ ?_)⟩⟩
           unfold keyN
           rw [Prod.mk.injEq]
           intro h9
           simp_all)
    · have hkj : k = j := by omega
      subst hkj
      ((conv => whnf); repeat' ((first | (intro hq; (try simp only [lnS] at hq); (try rewrite [List.length_map])) | refine sJ ?_ | refine .intro _ (.intro rfl ?_) | (refine .intro (show (_ : Nat) < List.length _ from by first | omega | (simp only [lnS]; omega) | simp) ?_) | fail | refine draw_rule hty (by kernel_rfl) (by kernel_rfl) ?_ | ((first | refine brB_dec ?_ ?_ | refine brB_ndec ?_ ?_) <;> intro hb <;> (first | contradiction | ((try simp only [lnS] at hb); try (exfalso; omega)))) | (refine brB_split ?_ ?_ <;> intro hb <;> (first | contradiction | exact bT hb (by assumption) | exact bF hb (by assumption) | skip))) <;> (conv => whnf)))
      exact ⟨k + 1, ⟨by (try dsimp only); omega, hik ih⟩, by (try dsimp only); omega, ⟨by repeat' (first | exact trivial | exact rfl | refine And.intro ?_ ?_), by repeat' (first | exact trivial | exact rfl | refine And.intro ?_ ?_)⟩⟩
  · have hjl : j = l.length := by have h2 : ¬ (j : Int) < ((l.map rnR).length : Nat) := h2; rw [List.length_map] at h2; omega
    subst hjl
    rw [List.take_length] at ik
    ((conv => whnf); repeat' ((first | (intro hq; (try simp only [lnS] at hq); (try rewrite [List.length_map])) | refine sJ ?_ | refine .intro _ (.intro rfl ?_) | (refine .intro (show (_ : Nat) < List.length _ from by first | omega | (simp only [lnS]; omega) | simp) ?_) | fail | refine draw_rule hty (by kernel_rfl) (by kernel_rfl) ?_ | ((first | refine brB_dec ?_ ?_ | refine brB_ndec ?_ ?_) <;> intro hb <;> (first | contradiction | ((try simp only [lnS] at hb); try (exfalso; omega)))) | (refine brB_split ?_ ?_ <;> intro hb <;> (first | contradiction | exact bT hb (by assumption) | exact bF hb (by assumption) | skip))) <;> (conv => whnf)))
    rw [(checkR_zero hl).2 ⟨iv, ip, ik⟩]
    rfl
end Go.Proofs.YtpecmehekandgaaGreatDoor
