/-
  Terms: named and both of the law; the chapter's examples.
  Conditions: none.
-/
import Derived.Test.YtkbmlchceiglfaaGreatDoorMAq
import Derived.Test.YtkbmlchceiglfaaGreatDoorMAk
import Derived.Test.YtkbmlchceiglfaaGreatDoorMAa
import Derived.Test.YtkbmlchceiglfaaGreatDoorMSyd
namespace Go.Proofs.YtkbmlchceiglfaaGreatDoor
set_option linter.unnecessarySimpa false
set_option linter.unusedSectionVars false
set_option linter.unusedSimpArgs false
set_option linter.unusedVariables false
open Go.Proofs
set_option maxRecDepth 10000
attribute [local irreducible] SemVC CallVC Tri Stuck YVC GenP GenVC

def nmC (s : List UInt8) : Cn := .mk 3 s 0 0 []
def boC (l : List Cn) : Cn := .mk 5 [] 0 0 l
def botC : Cn := .mk 2 [] 0 0 []
def someC (l : List Cn) : Cn := .mk 6 [114] 0 0 l
def oneC : Cn := .mk 4 [97] 0 0 []

theorem tidy1 : tidyE (boC [nmC [66], topC, boC [nmC [66], nmC [65]]]) = (boC [nmC [65], nmC [66]], 0) := by kernel_rfl
theorem tidy2 : tidyE (boC [topC, topC]) = (topC, 0) := by kernel_rfl
theorem tidy3 : tidyE (someC [boC [nmC [65], botC]]) = (botC, 0) := by kernel_rfl

def nmN (s : List UInt8) : List D := [.int .i64 3, .str s, .int .i64 0, .int .i64 0, .nil]
def topN : List D := [.int .i64 1, .str [], .int .i64 0, .int .i64 0, .nil]
def botN : List D := [.int .i64 2, .str [], .int .i64 0, .int .i64 0, .nil]
def soN (rows : List (List D)) : List D := [.int .i64 6, .str [114], .int .i64 0, .int .i64 0, .sl 5 rows]
def boN (rows : List (List D)) : List D := [.int .i64 5, .str [], .int .i64 0, .int .i64 0, .sl 5 rows]

def oneN : List D := [.int .i64 4, .str [97], .int .i64 0, .int .i64 0, .nil]
def linkA : Ax := ⟨9, false, c0, c0, [], [114], [97], [98]⟩
def typeA : Ax := ⟨8, false, c0, oneC, [], [], [98], []⟩
def subA : Ax := ⟨1, false, nmC [65], someC [oneC], [], [], [], []⟩
def zedA : Ax := ⟨1, false, nmC [90], nmC [90], [], [], [], []⟩
def vocL : Nm := ⟨[], [[114]], [], [[97], [98]]⟩

theorem voc0 : vocV [linkA] = vocL := by kernel_rfl
theorem voc1 : vocR [linkA] = (vocL, 0) := by
  have e : firstA [linkA] = 0 := by kernel_rfl
  rw [vocR, if_neg (by rw [e]; decide), vocN, voc0]
  have e2 : ([[114]] : List (List UInt8)).erase [] = [[114]] := by decide
  have e3 : ([[97], [98]] : List (List UInt8)).erase [] = [[97], [98]] := by decide
  have e4 : sortK [[97], [98]] = [[97], [98]] := List.mergeSort_of_pairwise (by decide)
  have e5 : sortK [] = [] := List.mergeSort_of_pairwise (by decide)
  have e6 : sortK [[114]] = [[114]] := List.mergeSort_of_pairwise (by decide)
  simp only [vocL, e2, e3, e4, e5, e6]
theorem same1 : sameC (boC [nmC [65], nmC [66]]) (boC [nmC [65], nmC [66]]) = true := by kernel_rfl
theorem same2 : sameC topC topC = true := by kernel_rfl
theorem same3 : sameC botC botC = true := by kernel_rfl
theorem size1 : sizeF (boC [nmC [65], someC [nmC [66]]]) = 4 := by kernel_rfl
theorem depth1 : depthF (boC [nmC [65], someC [nmC [66]]]) = 2 := by kernel_rfl
theorem concept1 : conceptE (boC [topC]) = 21 := by kernel_rfl
theorem concept2 : conceptE (nmC [95, 49, 95, 120]) = 20 := by kernel_rfl
theorem axiom1 : axiomE a0 = 22 := by kernel_rfl
theorem axiom2 : axiomE typeA = 22 := by kernel_rfl
theorem axiom3 : axiomE subA = 0 := by kernel_rfl
theorem order1 : cmpAx zedA subA = -1 := by kernel_rfl

/-- A struct that holds rows made here, handed to a callee. -/
theorem Tri.aggS {P : Program} {f : FuncId} {cs : List SV} {ds ds' : List D} {hp : Hp} {post : SV → Prop} (h : Tri P f [.d (.agg ds)] hp post) (hx : asDL cs = some ds') (hw : WkDL ds' ds) : Tri P f [.agg cs] hp post := by
  unfold Tri at h ⊢
  intro w ρ vs a b c
  refine h w ρ vs a ⟨b.1, fun j s v hs hv => ?_⟩ c
  match j, hs with
  | 0, hs =>
    injection hs with hs; subst hs
    obtain ⟨us, rfl, e1, e2⟩ := (b.2 0 _ v rfl hv).agg_inv
    obtain ⟨l1, l2⟩ := asDL_ok hx
    refine .d _ _ (WkD_ok (a := .agg ds') (.agg ds' us (by rw [e1, l1]) fun j x v hx' hv' => ?_) _ (by simpa [WkD] using hw))
    obtain ⟨s, hs, hd⟩ := l2 j x hx'
    exact asD_ok hd (e2 j s v hs hv')

theorem Tri.oslN {P : Program} {f : FuncId} {id z : Nat} {rows rows' : List (List D)} {hp : Hp} {post : SV → Prop} (h : Tri P f [.d (.sl z rows')] hp post) (hw : WkDR rows rows') : Tri P f [.osl id z rows] hp post := by
  unfold Tri at h ⊢
  intro w ρ vs a b c
  refine h w ρ vs a ⟨b.1, fun j s v hs hv => ?_⟩ c
  match j, hs with
  | 0, hs =>
    injection hs with hs; subst hs
    exact .d _ _ (WkD_ok (b.2 0 _ v rfl hv).osl_inv.1 _ (by simpa [WkD] using hw))

theorem Tri.aggS2 {P : Program} {f : FuncId} {s0 : SV} {cs : List SV} {ds ds' : List D} {hp : Hp} {post : SV → Prop} (h : Tri P f [s0, .d (.agg ds)] hp post) (hx : asDL cs = some ds') (hw : WkDL ds' ds) : Tri P f [s0, .agg cs] hp post := by
  unfold Tri at h ⊢
  intro w ρ vs a b c
  refine h w ρ vs a ⟨b.1, fun j s v hs hv => ?_⟩ c
  match j, hs with
  | 0, hs =>
    injection hs with hs; subst hs
    exact b.2 0 _ v rfl hv
  | 1, hs =>
    injection hs with hs; subst hs
    obtain ⟨us, rfl, e1, e2⟩ := (b.2 1 _ v rfl hv).agg_inv
    obtain ⟨l1, l2⟩ := asDL_ok hx
    refine .d _ _ (WkD_ok (a := .agg ds') (.agg ds' us (by rw [e1, l1]) fun j x v hx' hv' => ?_) _ (by simpa [WkD] using hw))
    obtain ⟨s, hs, hd⟩ := l2 j x hx'
    exact asD_ok hd (e2 j s v hs hv')

theorem named_spec (s : List UInt8) : Tri Tryz.prog 27 [.d (.str s)] [] (fun r => r = .d (.agg (nmN s))) := by
  refine tri_of_bodyF false [] hty Tryz.func27 rfl (kp [0, 2]) [] _ _ _ (by simp [Tryz.f27]) (by simp) ?_
  ((conv => whnf); repeat' ((first | (intro hq; (try simp only [lnS] at hq); (try rewrite [List.length_map])) | refine sJ ?_ | refine Exists.intro _ (And.intro rfl ?_) | (refine Exists.intro (show (_ : Nat) < List.length _ from by first | omega | (simp only [List.length_cons, List.length_nil]; omega) | simp) ?_) | fail | refine draw_rule hty (by kernel_rfl) (by kernel_rfl) ?_ | ((first | refine brB_dec (fun hb => ?_) (fun hb => ?_) | refine brB_ndec (fun hb => ?_) (fun hb => ?_)) <;> (first | contradiction | ((try simp only [lnS] at hb); (first | (exfalso; omega) | skip)))) | (refine brB_split (fun hb => ?_) (fun hb => ?_) <;> (first | contradiction | exact absurd (hb.symm.trans (by assumption) : false = true) (by decide) | exact absurd (hb.symm.trans (by assumption) : true = false) (by decide) | skip))) <;> (conv => whnf)))
  rfl

theorem both_spec (rows : List (List D)) : Tri Tryz.prog 17 [.d (.sl 5 rows)] [] (fun r => r = .d (.agg (boN rows))) := by
  refine tri_of_bodyF false [] hty Tryz.func17 rfl (kp [0, 2]) [] _ _ _ (by simp [Tryz.f17]) (by simp) ?_
  ((conv => whnf); repeat' ((first | (intro hq; (try simp only [lnS] at hq); (try rewrite [List.length_map])) | refine sJ ?_ | refine Exists.intro _ (And.intro rfl ?_) | (refine Exists.intro (show (_ : Nat) < List.length _ from by first | omega | (simp only [List.length_cons, List.length_nil]; omega) | simp) ?_) | fail | refine draw_rule hty (by kernel_rfl) (by kernel_rfl) ?_ | ((first | refine brB_dec (fun hb => ?_) (fun hb => ?_) | refine brB_ndec (fun hb => ?_) (fun hb => ?_)) <;> (first | contradiction | ((try simp only [lnS] at hb); (first | (exfalso; omega) | skip)))) | (refine brB_split (fun hb => ?_) (fun hb => ?_) <;> (first | contradiction | exact absurd (hb.symm.trans (by assumption) : false = true) (by decide) | exact absurd (hb.symm.trans (by assumption) : true = false) (by decide) | skip))) <;> (conv => whnf)))
  rfl

set_option maxHeartbeats 8000000 in
theorem sane_spec : Tri Tryz.prog 7 [] NG (fun r => r = .d (.bool true)) := by
  refine tri_of_bodyF false [1, 2, 3, 4, 6, 8, 10, 12, 13, 14] hty Tryz.func7 rfl (kp [0, 1, 2, 3, 4, 5, 6, 7, 8, 9, 10, 11, 12, 13, 14, 99, 113, 139, 160]) [] _ _ _ (by simp [Tryz.f7]) (by decide) ?_
  ((conv => whnf); repeat ((first | (intro hq; try simp only [lnS] at hq) | refine sI ?_ | refine Exists.intro _ (And.intro rfl ?_)); (conv => whnf)))
  refine call_tri [] (named_spec _) trivial (fun r hs => ?_)
  subst hs
  ((conv => whnf); repeat ((first | (intro hq; try simp only [lnS] at hq) | refine sI ?_ | refine Exists.intro _ (And.intro rfl ?_)); (conv => whnf)))
  refine SemVC.soft 3 rfl rfl ?_
  refine SemVC.sub (fr' := [(0, .d (.bool false)), (1, .ea 5 [topN] 0 0), (2, .ea 5 [botN] 0 0), (3, .ptr 3 0)]) (hp' := (3, .cells 24 ((soN [nmN [66]]).map .d)) :: NG) ⟨by repeat' (first | exact trivial | exact rfl | refine And.intro ?_ ?_), by repeat' (first | exact trivial | exact rfl | refine And.intro ?_ ?_)⟩ ?_
  refine SemVC.mid [(0, .d (.bool false)), (1, .ea 5 [topN] 0 0), (2, .ea 5 [botN] 0 0), (3, .ptr 3 0), (4, .ptr 4 0), (5, .d (.int .i64 0))] ((3, .cells 24 ((soN [nmN [66]]).map .d)) :: (4, .cells 24 ((cnR (boC [nmC [65], nmC [66]])).map .d)) :: NG) ?_ ?_
  · have ht := Tidy_spec (boC [nmC [66], topC, boC [nmC [66], nmC [65]]])
    rw [tidy1] at ht
    (refine tree2_rule (id := 4) hty (.first 1 (.alt 0 (.alt 2 (.alt 3 (.alt 4 (.alt 5 (.alt 6 (.alt 7 (.alt 8 (.first 9 (.first 10 (.first 11 (.alt 12 (.alt 13 (.first 14 .done) .stop) .stop)))) (.alt 12 (.alt 8 (.first 9 (.first 10 (.first 11 (.alt 13 (.first 14 .done) .stop)))) .stop) .stop)) (.alt 12 (.alt 7 (.alt 8 (.first 9 (.first 10 (.first 11 (.alt 13 (.first 14 .done) .stop)))) .stop) .stop) .stop)) (.alt 12 (.alt 6 (.alt 7 (.alt 8 (.first 9 (.first 10 (.first 11 (.alt 13 (.first 14 .done) .stop)))) .stop) .stop) .stop) .stop)) (.alt 12 (.alt 5 (.alt 6 (.alt 7 (.alt 8 (.first 9 (.first 10 (.first 11 (.alt 13 (.first 14 .done) .stop)))) .stop) .stop) .stop) .stop) .stop)) (.alt 12 (.alt 4 (.alt 5 (.alt 6 (.alt 7 (.alt 8 (.first 9 (.first 10 (.first 11 (.alt 13 (.first 14 .done) .stop)))) .stop) .stop) .stop) .stop) .stop) .stop)) (.alt 12 (.alt 3 (.alt 4 (.alt 5 (.alt 6 (.alt 7 (.alt 8 (.first 9 (.first 10 (.first 11 (.alt 13 (.first 14 .done) .stop)))) .stop) .stop) .stop) .stop) .stop) .stop) .stop)) (.alt 12 (.alt 2 (.alt 3 (.alt 4 (.alt 5 (.alt 6 (.alt 7 (.alt 8 (.first 9 (.first 10 (.first 11 (.alt 13 (.first 14 .done) .stop)))) .stop) .stop) .stop) .stop) .stop) .stop) .stop) .stop)) (.alt 12 (.alt 0 (.alt 2 (.alt 3 (.alt 4 (.alt 5 (.alt 6 (.alt 7 (.alt 8 (.first 9 (.first 10 (.first 11 (.alt 13 (.first 14 .done) .stop)))) .stop) .stop) .stop) .stop) .stop) .stop) .stop) .stop) .stop))) (by kernel_rfl) (by kernel_rfl) ?_)
    ((conv => whnf); repeat' ((first | (intro hq; (try simp only [lnS] at hq); (try rewrite [List.length_map])) | refine sJ ?_ | refine Exists.intro _ (And.intro rfl ?_) | (refine Exists.intro (show (_ : Nat) < List.length _ from by first | omega | (simp only [List.length_cons, List.length_nil]; omega) | simp) ?_) | (refine call_tri [] (named_spec _) trivial (fun r hs => ?_); subst hs) | (refine call_tri [] (Tri.osl (both_spec _)) trivial (fun r hs => ?_); subst hs) | (refine call_tri NG (Tri.weakD ht (by repeat' (first | exact trivial | exact rfl | refine And.intro ?_ ?_))) ⟨rfl, rfl, trivial⟩ (fun r hs => ?_); subst hs) | exact trivial | (refine And.intro ?_ ?_) | refine draw_rule hty (by kernel_rfl) (by kernel_rfl) ?_ | ((first | refine brB_dec (fun hb => ?_) (fun hb => ?_) | refine brB_ndec (fun hb => ?_) (fun hb => ?_)) <;> (first | contradiction | ((try simp only [lnS] at hb); (first | (exfalso; omega) | skip)))) | (refine brB_split (fun hb => ?_) (fun hb => ?_) <;> (first | contradiction | exact absurd (hb.symm.trans (by assumption) : false = true) (by decide) | exact absurd (hb.symm.trans (by assumption) : true = false) (by decide) | skip))) <;> (conv => whnf)))
    all_goals exact ⟨by repeat' (first | exact trivial | exact rfl | refine And.intro ?_ ?_), by repeat' (first | exact trivial | exact rfl | refine And.intro ?_ ?_)⟩
  have ht := Tidy_spec (boC [topC, topC])
  rw [tidy2] at ht
  ((conv => whnf); repeat ((first | (intro hq; try simp only [lnS] at hq) | refine sI ?_ | refine Exists.intro _ (And.intro rfl ?_)); (conv => whnf)))
  refine call_tri [] (Tri.osl (both_spec _)) trivial (fun r hs => ?_)
  subst hs
  ((conv => whnf); repeat ((first | (intro hq; try simp only [lnS] at hq) | refine sI ?_ | refine Exists.intro _ (And.intro rfl ?_)); (conv => whnf)))
  refine call_tri NG (Tri.weakD ht (by repeat' (first | exact trivial | exact rfl | refine And.intro ?_ ?_))) ⟨rfl, rfl, trivial⟩ (fun r hs => ?_)
  subst hs
  clear ht
  ((conv => whnf); repeat ((first | (intro hq; try simp only [lnS] at hq) | refine sI ?_ | refine Exists.intro _ (And.intro rfl ?_)); (conv => whnf)))
  refine SemVC.mid [(0, .d (.bool false)), (1, .ea 5 [topN] 0 0), (2, .ea 5 [botN] 0 0), (3, .ea 5 [soN [nmN [66]]] 0 0), (4, .ea 5 [cnR (boC [nmC [65], nmC [66]])] 0 0), (5, .d (.int .i64 0)), (6, .ea 5 [cnR topC] 0 0), (7, .d (.int .i64 0)), (8, .ptr 8 0), (9, .d (.int .i64 0))] ((8, .cells 24 ((cnR botC).map .d)) :: NG) ?_ ?_
  · have ht := Tidy_spec (someC [boC [nmC [65], botC]])
    rw [tidy3] at ht
    (refine tree2_rule (id := 6) hty (.first 1 (.alt 0 (.alt 2 (.alt 3 (.alt 4 (.first 5 (.alt 6 (.first 7 (.first 8 (.first 9 (.alt 10 (.alt 11 (.first 12 .done) .stop) .stop)))) (.alt 10 (.alt 6 (.first 7 (.first 8 (.first 9 (.alt 11 (.first 12 .done) .stop)))) .stop) .stop))) (.alt 10 (.alt 4 (.first 5 (.alt 6 (.first 7 (.first 8 (.first 9 (.alt 11 (.first 12 .done) .stop)))) .stop)) .stop) .stop)) (.alt 10 (.alt 3 (.alt 4 (.first 5 (.alt 6 (.first 7 (.first 8 (.first 9 (.alt 11 (.first 12 .done) .stop)))) .stop)) .stop) .stop) .stop)) (.alt 10 (.alt 2 (.alt 3 (.alt 4 (.first 5 (.alt 6 (.first 7 (.first 8 (.first 9 (.alt 11 (.first 12 .done) .stop)))) .stop)) .stop) .stop) .stop) .stop)) (.alt 10 (.alt 0 (.alt 2 (.alt 3 (.alt 4 (.first 5 (.alt 6 (.first 7 (.first 8 (.first 9 (.alt 11 (.first 12 .done) .stop)))) .stop)) .stop) .stop) .stop) .stop) .stop))) (by kernel_rfl) (by kernel_rfl) ?_)
    ((conv => whnf); repeat' ((first | (intro hq; (try simp only [lnS] at hq); (try rewrite [List.length_map])) | refine sJ ?_ | refine Exists.intro _ (And.intro rfl ?_) | (refine Exists.intro (show (_ : Nat) < List.length _ from by first | omega | (simp only [List.length_cons, List.length_nil]; omega) | simp) ?_) | (refine call_tri [] (named_spec _) trivial (fun r hs => ?_); subst hs) | (refine call_tri [] (Tri.osl (both_spec _)) trivial (fun r hs => ?_); subst hs) | (refine call_tri NG (Tri.aggS ht rfl (by repeat' (first | exact trivial | exact rfl | refine And.intro ?_ ?_))) ⟨rfl, rfl, trivial⟩ (fun r hs => ?_); subst hs) | exact trivial | (refine And.intro ?_ ?_) | refine draw_rule hty (by kernel_rfl) (by kernel_rfl) ?_ | ((first | refine brB_dec (fun hb => ?_) (fun hb => ?_) | refine brB_ndec (fun hb => ?_) (fun hb => ?_)) <;> (first | contradiction | ((try simp only [lnS] at hb); (first | (exfalso; omega) | skip)))) | (refine brB_split (fun hb => ?_) (fun hb => ?_) <;> (first | contradiction | exact absurd (hb.symm.trans (by assumption) : false = true) (by decide) | exact absurd (hb.symm.trans (by assumption) : true = false) (by decide) | skip))) <;> (conv => whnf)))
    all_goals exact ⟨by repeat' (first | exact trivial | exact rfl | refine And.intro ?_ ?_), by repeat' (first | exact trivial | exact rfl | refine And.intro ?_ ?_)⟩
  have hv := Vocabulary_spec [linkA] (by decide)
  rw [voc1] at hv
  ((conv => whnf); repeat ((first | (intro hq; try simp only [lnS] at hq) | refine sI ?_ | refine Exists.intro _ (And.intro rfl ?_)); (conv => whnf)))
  refine call_tri NG (Tri.oslN hv (by repeat' (first | exact trivial | exact rfl | refine And.intro ?_ ?_))) ⟨rfl, rfl, trivial⟩ (fun r hs => ?_)
  subst hs
  clear hv
  ((conv => whnf); repeat ((first | (intro hq; try simp only [lnS] at hq) | refine sI ?_ | refine Exists.intro _ (And.intro rfl ?_)); (conv => whnf)))
  refine SemVC.mid [(0, .d (.bool false)), (1, .ea 5 [topN] 0 0), (3, .ea 5 [soN [nmN [66]]] 0 0), (12, .ea 5 [oneN] 0 0), (99, .d (.bool false))] NG ?_ ?_
  · have s1 := same_spec (boC [nmC [65], nmC [66]]) (boC [nmC [65], nmC [66]])
    have s2 := same_spec topC topC
    have s3 := same_spec botC botC
    have s4 := sameNames_spec vocL vocL
    rw [same1] at s1
    rw [same2] at s2
    rw [same3] at s3
    rw [show (decide (vocL.a = vocL.a) && decide (vocL.b = vocL.b) && decide (vocL.c = vocL.c) && decide (vocL.d = vocL.d)) = true by simp] at s4
    have s1 : Tri Tryz.prog 21 [.d (.agg (cnR (boC [nmC [65], nmC [66]]))), .d (.agg (boN [nmN [65], nmN [66]]))] [] (fun r => r = .d (.bool true)) := Tri.weakD s1 (by repeat' (first | exact trivial | exact rfl | refine And.intro ?_ ?_))
    have s2 : Tri Tryz.prog 21 [.d (.agg (cnR topC)), .d (.agg topN)] [] (fun r => r = .d (.bool true)) := Tri.weakD s2 (by repeat' (first | exact trivial | exact rfl | refine And.intro ?_ ?_))
    have s3 : Tri Tryz.prog 21 [.d (.agg (cnR botC)), .d (.agg botN)] [] (fun r => r = .d (.bool true)) := Tri.weakD s3 (by repeat' (first | exact trivial | exact rfl | refine And.intro ?_ ?_))
    (refine tree2_rule (id := 9) hty (.first 0 (.first 1 (.first 2 (.first 3 (.first 4 (.first 5 (.first 6 (.first 7 (.first 8 (.first 9 (.first 10 (.first 11 (.first 12 (.first 13 (.first 14 (.first 15 (.alt 16 (.alt 17 (.alt 18 (.alt 19 (.alt 20 (.first 21 (.first 22 (.first 23 (.first 24 (.first 25 (.alt 26 (.first 27 (.first 28 (.first 29 (.first 30 (.first 31 (.alt 32 (.first 33 (.first 34 (.first 35 (.first 36 (.alt 37 (.alt 38 (.first 39 (.alt 40 (.first 41 (.first 42 .done)) .stop)) .stop) (.alt 38 (.alt 37 (.first 39 (.alt 40 (.first 41 (.first 42 .done)) .stop)) .stop) .stop)))))) .stop)))))) .stop)))))) .stop) .stop) .stop) .stop) .stop))))))))))))))))) (by kernel_rfl) (by kernel_rfl) ?_)
    ((conv => whnf); repeat' ((first | (intro hq; (try simp only [lnS] at hq); (try rewrite [List.length_map])) | refine sJ ?_ | refine Exists.intro _ (And.intro rfl ?_) | (refine Exists.intro (show (_ : Nat) < List.length _ from by first | omega | (simp only [List.length_cons, List.length_nil]; omega) | simp) ?_) | (refine call_tri [] (named_spec _) trivial (fun r hs => ?_); subst hs) | (refine call_tri [] (Tri.osl (both_spec _)) trivial (fun r hs => ?_); subst hs) | (refine call_tri [] s1 trivial (fun r hs => ?_); subst hs) | (refine call_tri [] s2 trivial (fun r hs => ?_); subst hs) | (refine call_tri [] s3 trivial (fun r hs => ?_); subst hs) | (refine call_tri [] (Tri.aggS2 s4 rfl (by repeat' (first | exact trivial | exact rfl | refine And.intro ?_ ?_))) trivial (fun r hs => ?_); subst hs) | exact trivial | (refine And.intro ?_ ?_) | refine draw_rule hty (by kernel_rfl) (by kernel_rfl) ?_ | ((first | refine brB_dec (fun hb => ?_) (fun hb => ?_) | refine brB_ndec (fun hb => ?_) (fun hb => ?_)) <;> (first | contradiction | ((try simp only [lnS] at hb); (first | (exfalso; omega) | skip)))) | (refine brB_split (fun hb => ?_) (fun hb => ?_) <;> (first | contradiction | exact absurd (hb.symm.trans (by assumption) : false = true) (by decide) | exact absurd (hb.symm.trans (by assumption) : true = false) (by decide) | skip))) <;> (conv => whnf)))
    all_goals exact ⟨by repeat' (first | exact trivial | exact rfl | refine And.intro ?_ ?_), by repeat' (first | exact trivial | exact rfl | refine And.intro ?_ ?_)⟩
  ((conv => whnf); repeat ((first | (intro hq; try simp only [lnS] at hq) | refine sI ?_ | refine Exists.intro _ (And.intro rfl ?_)); (conv => whnf)))
  refine SemVC.mid [(0, .d (.bool false)), (1, .ea 5 [topN] 0 0), (12, .ea 5 [oneN] 0 0), (113, .d (.bool false))] NG ?_ ?_
  · have z1 := size_spec (boC [nmC [65], someC [nmC [66]]]) (by rw [size1]; decide)
    have z2 := depth_spec (boC [nmC [65], someC [nmC [66]]]) (by rw [size1]; decide)
    rw [size1] at z1
    rw [depth1] at z2
    (refine tree2_rule (id := 11) hty (.first 1 (.alt 0 (.alt 2 (.alt 3 (.alt 4 (.first 5 (.first 6 (.first 8 (.alt 7 (.alt 9 (.alt 10 (.alt 11 (.first 12 (.first 13 .done)) .stop) .stop) .stop) .stop)))) .stop) .stop) .stop) .stop)) (by kernel_rfl) (by kernel_rfl) ?_)
    ((conv => whnf); repeat' ((first | (intro hq; (try simp only [lnS] at hq); (try rewrite [List.length_map])) | refine sJ ?_ | refine Exists.intro _ (And.intro rfl ?_) | (refine Exists.intro (show (_ : Nat) < List.length _ from by first | omega | (simp only [List.length_cons, List.length_nil]; omega) | simp) ?_) | (refine call_tri [] (named_spec _) trivial (fun r hs => ?_); subst hs) | (refine call_tri [] (Tri.osl (both_spec _)) trivial (fun r hs => ?_); subst hs) | (refine call_tri [] (Tri.weakD z1 (by repeat' (first | exact trivial | exact rfl | refine And.intro ?_ ?_))) trivial (fun r hs => ?_); subst hs) | (refine call_tri [] (Tri.weakD z2 (by repeat' (first | exact trivial | exact rfl | refine And.intro ?_ ?_))) trivial (fun r hs => ?_); subst hs) | exact trivial | (refine And.intro ?_ ?_) | refine draw_rule hty (by kernel_rfl) (by kernel_rfl) ?_ | ((first | refine brB_dec (fun hb => ?_) (fun hb => ?_) | refine brB_ndec (fun hb => ?_) (fun hb => ?_)) <;> (first | contradiction | ((try simp only [lnS] at hb); (first | (exfalso; omega) | skip)))) | (refine brB_split (fun hb => ?_) (fun hb => ?_) <;> (first | contradiction | exact absurd (hb.symm.trans (by assumption) : false = true) (by decide) | exact absurd (hb.symm.trans (by assumption) : true = false) (by decide) | skip))) <;> (conv => whnf)))
    all_goals exact ⟨by repeat' (first | exact trivial | exact rfl | refine And.intro ?_ ?_), by repeat' (first | exact trivial | exact rfl | refine And.intro ?_ ?_)⟩
  have n1 := checkName_spec [72, 101, 97, 114, 116]
  have n2 := checkName_spec [103, 111, 58, 112, 97, 114, 116, 95, 111, 102]
  have n3 := checkName_spec [95, 51, 95, 120]
  have n4 := checkName_spec [97, 110, 100]
  have n5 := checkName_spec [97, 58, 98, 58, 99]
  have n6 := checkName_spec [51, 120]
  have n7 := checkName_spec [95]
  rw [show (if nameF [72, 101, 97, 114, 116] then (0 : Int) else 20) = 0 by kernel_rfl] at n1
  rw [show (if nameF [103, 111, 58, 112, 97, 114, 116, 95, 111, 102] then (0 : Int) else 20) = 0 by kernel_rfl] at n2
  rw [show (if nameF [95, 51, 95, 120] then (0 : Int) else 20) = 0 by kernel_rfl] at n3
  rw [show (if nameF [97, 110, 100] then (0 : Int) else 20) = 20 by kernel_rfl] at n4
  rw [show (if nameF [97, 58, 98, 58, 99] then (0 : Int) else 20) = 20 by kernel_rfl] at n5
  rw [show (if nameF [51, 120] then (0 : Int) else 20) = 20 by kernel_rfl] at n6
  rw [show (if nameF [95] then (0 : Int) else 20) = 20 by kernel_rfl] at n7
  ((conv => whnf); repeat ((first | (intro hq; try simp only [lnS] at hq) | refine sI ?_ | refine Exists.intro _ (And.intro rfl ?_)); (conv => whnf)))
  refine call_tri [] n1 trivial (fun r hs => ?_)
  subst hs
  ((conv => whnf); repeat ((first | (intro hq; try simp only [lnS] at hq) | refine sI ?_ | refine Exists.intro _ (And.intro rfl ?_)); (conv => whnf)))
  refine call_tri [] n2 trivial (fun r hs => ?_)
  subst hs
  ((conv => whnf); repeat ((first | (intro hq; try simp only [lnS] at hq) | refine sI ?_ | refine Exists.intro _ (And.intro rfl ?_)); (conv => whnf)))
  refine call_tri [] n3 trivial (fun r hs => ?_)
  subst hs
  ((conv => whnf); repeat ((first | (intro hq; try simp only [lnS] at hq) | refine sI ?_ | refine Exists.intro _ (And.intro rfl ?_)); (conv => whnf)))
  refine call_tri [] n4 trivial (fun r hs => ?_)
  subst hs
  ((conv => whnf); repeat ((first | (intro hq; try simp only [lnS] at hq) | refine sI ?_ | refine Exists.intro _ (And.intro rfl ?_)); (conv => whnf)))
  refine call_tri [] n5 trivial (fun r hs => ?_)
  subst hs
  ((conv => whnf); repeat ((first | (intro hq; try simp only [lnS] at hq) | refine sI ?_ | refine Exists.intro _ (And.intro rfl ?_)); (conv => whnf)))
  refine call_tri [] n6 trivial (fun r hs => ?_)
  subst hs
  ((conv => whnf); repeat ((first | (intro hq; try simp only [lnS] at hq) | refine sI ?_ | refine Exists.intro _ (And.intro rfl ?_)); (conv => whnf)))
  refine call_tri [] n7 trivial (fun r hs => ?_)
  subst hs
  clear n1 n2 n3 n4 n5 n6 n7
  have k1 := checkConcept_spec (boC [topC])
  have k2 := checkConcept_spec (nmC [95, 49, 95, 120])
  have k3 := checkAxiom_spec a0
  have k4 := checkAxiom_spec typeA
  rw [concept1] at k1
  rw [concept2] at k2
  rw [axiom1] at k3
  rw [axiom2] at k4
  ((conv => whnf); repeat ((first | (intro hq; try simp only [lnS] at hq) | refine sI ?_ | refine Exists.intro _ (And.intro rfl ?_)); (conv => whnf)))
  refine call_tri [] (Tri.osl (both_spec _)) trivial (fun r hs => ?_)
  subst hs
  ((conv => whnf); repeat ((first | (intro hq; try simp only [lnS] at hq) | refine sI ?_ | refine Exists.intro _ (And.intro rfl ?_)); (conv => whnf)))
  refine call_tri NG (Tri.weakD k1 (by repeat' (first | exact trivial | exact rfl | refine And.intro ?_ ?_))) ⟨rfl, rfl, trivial⟩ (fun r hs => ?_)
  subst hs
  ((conv => whnf); repeat ((first | (intro hq; try simp only [lnS] at hq) | refine sI ?_ | refine Exists.intro _ (And.intro rfl ?_)); (conv => whnf)))
  refine call_tri [] (named_spec _) trivial (fun r hs => ?_)
  subst hs
  ((conv => whnf); repeat ((first | (intro hq; try simp only [lnS] at hq) | refine sI ?_ | refine Exists.intro _ (And.intro rfl ?_)); (conv => whnf)))
  refine call_tri NG (Tri.weakD k2 (by repeat' (first | exact trivial | exact rfl | refine And.intro ?_ ?_))) ⟨rfl, rfl, trivial⟩ (fun r hs => ?_)
  subst hs
  ((conv => whnf); repeat ((first | (intro hq; try simp only [lnS] at hq) | refine sI ?_ | refine Exists.intro _ (And.intro rfl ?_)); (conv => whnf)))
  refine call_tri NG (Tri.weakD k3 (by repeat' (first | exact trivial | exact rfl | refine And.intro ?_ ?_))) ⟨rfl, rfl, trivial⟩ (fun r hs => ?_)
  subst hs
  ((conv => whnf); repeat ((first | (intro hq; try simp only [lnS] at hq) | refine sI ?_ | refine Exists.intro _ (And.intro rfl ?_)); (conv => whnf)))
  refine call_tri NG (Tri.weakD k4 (by repeat' (first | exact trivial | exact rfl | refine And.intro ?_ ?_))) ⟨rfl, rfl, trivial⟩ (fun r hs => ?_)
  subst hs
  clear k1 k2 k3 k4
  ((conv => whnf); repeat ((first | (intro hq; try simp only [lnS] at hq) | refine sI ?_ | refine Exists.intro _ (And.intro rfl ?_)); (conv => whnf)))
  refine SemVC.mid [(0, .d (.bool false)), (13, .ptr 13 0)] ((13, .cells 32 [.d (.int .i64 1), .d (.bool false), .d (.int .i64 3), .d (.str [65]), .d (.int .i64 0), .d (.int .i64 0), .d .nil, .d (.int .i64 6), .d (.str [114]), .d (.int .i64 0), .d (.int .i64 0), .osl 163 5 [oneN], .d .nil, .d (.str []), .d (.str []), .d (.str [])]) :: (163, .own 24 5 1) :: NG) ?_ ?_
  · (refine tree2_rule (id := 17) hty (.first 1 (.alt 0 (.alt 2 (.first 3 (.first 4 (.alt 5 (.alt 6 .done .stop) .stop))) (.alt 5 (.alt 2 (.first 3 (.first 4 (.alt 6 .done .stop))) .stop) .stop)) (.alt 2 (.first 3 (.alt 0 (.first 4 (.alt 5 (.alt 6 .done .stop) .stop)) (.alt 5 (.alt 0 (.first 4 (.alt 6 .done .stop)) .stop) .stop))) (.alt 5 (.alt 0 (.alt 2 (.first 3 (.first 4 (.alt 6 .done .stop))) .stop) (.alt 2 (.first 3 (.alt 0 (.first 4 (.alt 6 .done .stop)) .stop)) .stop)) .stop)))) (by kernel_rfl) (by kernel_rfl) ?_)
    ((conv => whnf); repeat' ((first | (intro hq; (try simp only [lnS] at hq); (try rewrite [List.length_map])) | refine sJ ?_ | refine Exists.intro _ (And.intro rfl ?_) | (refine Exists.intro (show (_ : Nat) < List.length _ from by first | omega | (simp only [List.length_cons, List.length_nil]; omega) | simp) ?_) | (refine call_tri [] (named_spec _) trivial (fun r hs => ?_); subst hs) | exact trivial | (refine And.intro ?_ ?_) | refine draw_rule hty (by kernel_rfl) (by kernel_rfl) ?_ | ((first | refine brB_dec (fun hb => ?_) (fun hb => ?_) | refine brB_ndec (fun hb => ?_) (fun hb => ?_)) <;> (first | contradiction | ((try simp only [lnS] at hb); (first | (exfalso; omega) | skip)))) | (refine brB_split (fun hb => ?_) (fun hb => ?_) <;> (first | contradiction | exact absurd (hb.symm.trans (by assumption) : false = true) (by decide) | exact absurd (hb.symm.trans (by assumption) : true = false) (by decide) | skip))) <;> (conv => whnf)))
    all_goals exact ⟨by repeat' (first | exact trivial | exact rfl | refine And.intro ?_ ?_), by repeat' (first | exact trivial | exact rfl | refine And.intro ?_ ?_)⟩
  ((conv => whnf); repeat ((first | (intro hq; try simp only [lnS] at hq) | refine sI ?_ | refine Exists.intro _ (And.intro rfl ?_)); (conv => whnf)))
  refine call_tri [] (named_spec _) trivial (fun r hs => ?_)
  subst hs
  ((conv => whnf); repeat ((first | (intro hq; try simp only [lnS] at hq) | refine sI ?_ | refine Exists.intro _ (And.intro rfl ?_)); (conv => whnf)))
  refine call_tri [] (named_spec _) trivial (fun r hs => ?_)
  subst hs
  ((conv => whnf); repeat ((first | (intro hq; try simp only [lnS] at hq) | refine sI ?_ | refine Exists.intro _ (And.intro rfl ?_)); (conv => whnf)))
  have m1 := checkAxiom_spec subA
  rw [axiom3] at m1
  have m2 := CompareAxiom_spec zedA subA (by decide) (by decide) (by decide) (by decide) (by decide) (by decide)
  rw [order1] at m2
  have m3 : Tri Tryz.prog 10 [.d (.agg [.int .i64 1, .bool false, .int .i64 3, .str [90], .int .i64 0, .int .i64 0, .nil, .int .i64 3, .str [90], .int .i64 0, .int .i64 0, .nil, .nil, .str [], .str [], .str []]), .d (.agg (axR subA))] [] (fun r => r = .d (.int .i64 (-1))) := Tri.weakD m2 (by repeat' (first | exact trivial | exact rfl | refine And.intro ?_ ?_))
  refine call_tri NG (Tri.aggS m1 rfl (by repeat' (first | exact trivial | exact rfl | refine And.intro ?_ ?_))) ⟨rfl, rfl, trivial⟩ (fun r hs => ?_)
  subst hs
  ((conv => whnf); repeat ((first | (intro hq; try simp only [lnS] at hq) | refine sI ?_ | refine Exists.intro _ (And.intro rfl ?_)); (conv => whnf)))
  refine call_tri [] (Tri.aggS2 m3 rfl (by repeat' (first | exact trivial | exact rfl | refine And.intro ?_ ?_))) trivial (fun r hs => ?_)
  subst hs
  ((conv => whnf); repeat ((first | (intro hq; try simp only [lnS] at hq) | refine sI ?_ | refine Exists.intro _ (And.intro rfl ?_)); (conv => whnf)))
  rfl
end Go.Proofs.YtkbmlchceiglfaaGreatDoor
