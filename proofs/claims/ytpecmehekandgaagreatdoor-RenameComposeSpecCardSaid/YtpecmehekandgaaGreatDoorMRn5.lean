/-
  Rename: the reference's Compose and Inverse. Rename: the reference's Compose. RenameComposeSpec, walked.
  Conditions: none.
-/
import Derived.Test.YtpecmehekandgaaGreatDoorMRq
import Derived.Test.YtpecmehekandgaaGreatDoorMDb
set_option linter.unnecessarySimpa false
set_option linter.unusedSectionVars false
set_option linter.unusedSimpArgs false
set_option linter.unusedVariables false
namespace Go.Proofs.YtpecmehekandgaaGreatDoor
open Go.Proofs
set_option maxRecDepth 10000
attribute [local irreducible] SemVC CallVC Tri Stuck YVC GenP GenVC
set_option maxHeartbeats 8000000 in
theorem rwith_spec (l : List Rn) (x : Rn) (hll : l.length ≤ 100000) : Tri Tryz.prog 42 [.d (rnL l), .d (.agg (rnR x))] [] (fun r => r = .d (rnL (withR l x))) := by
  have hta : (l.map rnR).take l.length = l.map rnR := List.take_of_length_le (by simp)
  refine tri_of_bodyF false [3] hty Tryz.func42 rfl (kp [0, 1, 3, 4, 5, 17, 32]) [] _ _ _ (by simp [Tryz.f42]) (by simp) ?_
  ((conv => whnf); repeat ((first | (intro hq; try simp only [lnS] at hq) | refine sI ?_ | refine .intro _ (.intro rfl ?_)); (conv => whnf)))
  refine loop_rule hty (fun j : Nat => ([(0, .d (rnL l)), (3, .ea 3 [rnR x] 0 0), (5, .d (.int .i64 j))], [])) (fun j => j ≤ l.length ∧ ∀ a ∈ l.take j, cmpR a x < 0) (fun j => l.length - j) 0 ⟨by omega, by simp⟩ ⟨by repeat' (first | exact trivial | exact rfl | refine And.intro ?_ ?_), by repeat' (first | exact trivial | exact rfl | refine And.intro ?_ ?_)⟩ ?_
  rintro j ⟨hj, ih⟩
  ((conv => whnf); repeat ((first | (intro hq; try simp only [lnS] at hq) | refine sI ?_ | refine .intro _ (.intro rfl ?_)); (conv => whnf)))
  by_cases hjl : j < l.length
  · have hrow : (l.map rnR)[(j : Int).toNat]? = some (rnR l[j]) := rowC_at hjl
    have c := rless_spec l[j] x
    have d := rless_spec x l[j]
    have hw := withR_at l x j hj ih
    rw [dif_pos hjl] at hw
    have hih : cmpR l[j] x < 0 → ∀ a ∈ l.take (j + 1), cmpR a x < 0 := fun h a ha => by
      rw [List.take_succ_eq_append_getElem hjl] at ha
      rcases List.mem_append.1 ha with ha | ha
      · exact ih a ha
      · simp only [List.mem_singleton] at ha; rw [ha]; exact h
    replace hw := fun (h : ¬ cmpR l[j] x < 0) => hw (fun _ => h)
    generalize l[j] = y at *
    generalize cmpR y x = c1 at *
    generalize cmpR x y = c2 at *
    ((conv => whnf); repeat' ((first | exact trivial | refine altAnd ?_ ?_ | ((have h9 : c2 < 0 := by assumption); (refine tree2_rule (id := 6) hty (.first 1 (.first 2 (.first 3 (.first 5 (.first 8 (.first 9 (.first 10 (.alt 0 (.alt 4 (.alt 6 (.alt 7 (.alt 11 (.first 12 .done) .stop) .stop) .stop) (.alt 6 (.alt 4 (.alt 7 (.alt 11 (.first 12 .done) .stop) .stop) .stop) .stop)) (.alt 6 (.alt 0 (.alt 4 (.alt 7 (.alt 11 (.first 12 .done) .stop) .stop) .stop) .stop) .stop))))))))) (by kernel_rfl) (by kernel_rfl) ?_)) | (refine And.intro (by simp only [List.length_replicate, List.length_drop, List.length_take, List.length_map, List.length_append, List.length_cons, List.length_nil]; omega) ?_) | (refine ⟨_, hrow, ?_⟩) | (refine ⟨.d (.bool _), _, [], rfl, trivial, c, ?_⟩) | (refine ⟨.d (.bool _), _, [], rfl, trivial, d, ?_⟩) | (intro hq; (try simp only [lnS] at hq); (try rewrite [List.length_map])) | refine sJ ?_ | refine .intro _ (.intro rfl ?_) | (refine .intro (show (_ : Nat) < List.length _ from by first | omega | (simp only [lnS]; omega) | simp) ?_) | refine draw_rule hty (by kernel_rfl) (by kernel_rfl) ?_ | ((first | refine brB_dec ?_ ?_ | refine brB_ndec ?_ ?_) <;> intro hb <;> (first | contradiction | ((try simp only [lnS] at hb); try (exfalso; omega)))) | (refine brB_split ?_ ?_ <;> intro hb <;> (first | contradiction | exact bT hb (by assumption) | exact bF hb (by assumption) | skip))) <;> (conv => whnf)))
    · exact ⟨j + 1, ⟨by omega, hih hb⟩, by dsimp only; omega, ⟨by repeat' (first | exact trivial | exact rfl | refine And.intro ?_ ?_), by repeat' (first | exact trivial | exact rfl | refine And.intro ?_ ?_)⟩⟩
    all_goals first
      | (rw [hw (by assumption), if_neg (by assumption)]; rfl)
      | (rw [hw (by assumption), if_pos (by assumption)]
         refine congrArg (fun q => SV.d (.sl 3 q)) ?_
         simp [List.map_append, List.map_take, List.map_drop, rnR, hta])
  · have hw := withR_at l x j hj ih (fun h => absurd h hjl)
    rw [dif_neg hjl] at hw
    have hje : j = l.length := by omega
    subst hje
    refine draw_rule hty (by kernel_rfl) (by kernel_rfl) ?_
    ((conv => whnf); repeat ((first | (intro hq; try simp only [lnS] at hq) | refine sI ?_ | refine .intro _ (.intro rfl ?_)); (conv => whnf)))
    refine brB_dec (fun h1 => ?_) (fun h1 => ?_)
    · exact absurd (by have h1 : ((l.length : Nat) : Int) < ((l.map rnR).length : Nat) := h1; rw [List.length_map] at h1; omega) hjl
    ((conv => whnf); repeat ((first | (intro hq; try simp only [lnS] at hq) | refine sI ?_ | refine .intro _ (.intro rfl ?_)); (conv => whnf)))
    refine draw_rule hty (by kernel_rfl) (by kernel_rfl) ?_
    ((conv => whnf); repeat ((first | (intro hq; try simp only [lnS] at hq) | refine sI ?_ | refine .intro _ (.intro rfl ?_)); (conv => whnf)))
    refine brB_dec (fun h1 => ?_) (fun h1 => ?_)
    · exact absurd (by have h1 : ((l.length : Nat) : Int) < ((l.map rnR).length : Nat) := h1; rw [List.length_map] at h1; omega) hjl
    ((conv => whnf); repeat ((first | (intro hq; try simp only [lnS] at hq) | refine sI ?_ | refine .intro _ (.intro rfl ?_)); (conv => whnf)))
    ((conv => whnf); repeat' ((first | exact trivial | refine altAnd ?_ ?_ | (refine tree2_rule (id := 6) hty (.first 1 (.first 2 (.first 3 (.first 5 (.first 8 (.first 9 (.first 10 (.alt 0 (.alt 4 (.alt 6 (.alt 7 (.alt 11 (.first 12 .done) .stop) .stop) .stop) (.alt 6 (.alt 4 (.alt 7 (.alt 11 (.first 12 .done) .stop) .stop) .stop) .stop)) (.alt 6 (.alt 0 (.alt 4 (.alt 7 (.alt 11 (.first 12 .done) .stop) .stop) .stop) .stop) .stop))))))))) (by kernel_rfl) (by kernel_rfl) ?_) | (refine And.intro (by simp only [List.length_replicate, List.length_drop, List.length_take, List.length_map, List.length_append, List.length_cons, List.length_nil]; omega) ?_) | (intro hq; (try simp only [lnS] at hq); (try rewrite [List.length_map])) | refine sJ ?_ | refine .intro _ (.intro rfl ?_) | (refine .intro (show (_ : Nat) < List.length _ from by first | omega | (simp only [lnS]; omega) | simp) ?_) | refine draw_rule hty (by kernel_rfl) (by kernel_rfl) ?_ | ((first | refine brB_dec ?_ ?_ | refine brB_ndec ?_ ?_) <;> intro hb <;> (first | contradiction | ((try simp only [lnS] at hb); try (exfalso; omega)))) | (refine brB_split ?_ ?_ <;> intro hb <;> (first | contradiction | exact bT hb (by assumption) | exact bF hb (by assumption) | skip))) <;> (conv => whnf)))
    all_goals (
      rw [hw]
      refine congrArg (fun q => SV.d (.sl 3 q)) ?_
      simp [List.map_append, List.map_take, List.map_drop, rnR, hta])
theorem fold_inv_len : ∀ (todo out : List Rn), (todo.foldl (fun o r => withR o (invR r)) out).length ≤ out.length + todo.length
  | [], out => by simp
  | x :: t, out => by
    have h1 := fold_inv_len t (withR out (invR x))
    have h2 := len_withR (invR x) out
    rw [List.foldl_cons, List.length_cons]
    omega
set_option maxHeartbeats 8000000 in
theorem rrInverse_spec (l : List Rn) : Tri Tryz.prog 24 [.d (rnL l)] [] (fun r => r = .tup [.d (rnL (invE l).1), .d (.int .i64 (invE l).2)]) := by
  unfold rnL
  refine Tri.pairS ?_
  have ck := rrCheck_spec l
  refine tri_of_bodyF false [] hty Tryz.func24 rfl (kp [0, 2, 3, 4, 5, 6, 10, 16]) [] _ _ _ (by simp [Tryz.f24]) (by simp) ?_
  ((conv => whnf); repeat ((first | (intro hq; try simp only [lnS] at hq) | refine sI ?_ | refine .intro _ (.intro rfl ?_)); (conv => whnf)))
  refine call_tri [] ck trivial (fun r hs => ?_)
  subst hs
  ((conv => whnf); repeat ((first | (intro hq; try simp only [lnS] at hq) | refine sI ?_ | refine .intro _ (.intro rfl ?_)); (conv => whnf)))
  refine brB_ndec (fun h1 => ?_) (fun h1 => ?_)
  · have hv : invE l = ([], checkR l) := by unfold invE; rw [if_pos h1]
    rw [hv]
    ((conv => whnf); repeat' ((first | (intro hq; (try simp only [lnS] at hq); (try rewrite [List.length_map])) | refine sJ ?_ | refine .intro _ (.intro rfl ?_) | (refine .intro (show (_ : Nat) < List.length _ from by first | omega | (simp only [lnS]; omega) | simp) ?_) | fail | refine draw_rule hty (by kernel_rfl) (by kernel_rfl) ?_ | ((first | refine brB_dec ?_ ?_ | refine brB_ndec ?_ ?_) <;> intro hb <;> (first | contradiction | ((try simp only [lnS] at hb); try (exfalso; omega)))) | (refine brB_split ?_ ?_ <;> intro hb <;> (first | contradiction | exact bT hb (by assumption) | exact bF hb (by assumption) | skip))) <;> (conv => whnf)))
    exact nilP _ _
  have h0 : checkR l = 0 := by simpa using h1
  obtain ⟨hg, hlen⟩ := checkR_ok h0
  have hv : invE l = (invL l, 0) := by unfold invE; rw [if_neg (by omega)]
  rw [hv]
  clear h1 ck hv
  ((conv => whnf); repeat ((first | (intro hq; try simp only [lnS] at hq) | refine sI ?_ | refine .intro _ (.intro rfl ?_)); (conv => whnf)))
  refine loop_rule hty (fun j : Nat => ([(0, .d (rnL l)), (5, .d (rnL ((l.take j).foldl (fun o r => withR o (invR r)) []))), (6, .d (.int .i64 j))], [])) (fun j => j ≤ l.length) (fun j => l.length - j) 0 (by omega) ⟨by repeat' (first | exact trivial | exact rfl | refine And.intro ?_ ?_), by repeat' (first | exact trivial | exact rfl | refine And.intro ?_ ?_)⟩ ?_
  rintro j hj
  ((conv => whnf); repeat ((first | (intro hq; try simp only [lnS] at hq) | refine sI ?_ | refine .intro _ (.intro rfl ?_)); (conv => whnf)))
  refine brB_dec (fun h2 => ?_) (fun h2 => ?_)
  · have hjl : j < l.length := by have h2 : (j : Int) < ((l.map rnR).length : Nat) := h2; rw [List.length_map] at h2; omega
    have hrow : (l.map rnR)[(j : Int).toNat]? = some (rnR l[j]) := rowC_at hjl
    have hst : (l.take (j + 1)).foldl (fun o r => withR o (invR r)) [] = withR ((l.take j).foldl (fun o r => withR o (invR r)) []) (invR l[j]) := by
      rw [List.take_succ_eq_append_getElem hjl, List.foldl_append]; rfl
    generalize l[j] = x at hrow hst
    have w := rwith_spec ((l.take j).foldl (fun o r => withR o (invR r)) []) (invR x) (by have h9 := fold_inv_len (l.take j) []; rw [List.length_take, List.length_nil] at h9; omega)
    rw [← hst] at w
    (refine tree2_rule (id := 8) hty (.first 0 (.first 1 (.first 2 (.first 3 (.first 4 (.first 5 (.first 6 (.first 7 (.first 8 (.first 9 (.first 10 (.first 11 (.first 12 (.first 13 (.first 14 (.first 15 (.first 16 (.alt 17 (.first 18 .done) .stop)))))))))))))))))) (by kernel_rfl) (by kernel_rfl) ?_)
    ((conv => whnf); repeat' ((first | exact trivial | refine altAnd ?_ ?_ | (refine ⟨_, hrow, ?_⟩) | (refine call_tri [] w trivial (fun r hs => ?_); subst hs) | (intro hq; (try simp only [lnS] at hq); (try rewrite [List.length_map])) | refine sJ ?_ | refine .intro _ (.intro rfl ?_) | (refine .intro (show (_ : Nat) < List.length _ from by first | omega | (simp only [lnS]; omega) | simp) ?_) | refine draw_rule hty (by kernel_rfl) (by kernel_rfl) ?_ | ((first | refine brB_dec ?_ ?_ | refine brB_ndec ?_ ?_) <;> intro hb <;> (first | contradiction | ((try simp only [lnS] at hb); try (exfalso; omega)))) | (refine brB_split ?_ ?_ <;> intro hb <;> (first | contradiction | exact bT hb (by assumption) | exact bF hb (by assumption) | skip))) <;> (conv => whnf)))
    all_goals exact ⟨j + 1, by dsimp only; omega, by dsimp only; omega, ⟨by repeat' (first | exact trivial | exact rfl | refine And.intro ?_ ?_), by repeat' (first | exact trivial | exact rfl | refine And.intro ?_ ?_)⟩⟩
  have hjl : j = l.length := by have h2 : ¬ (j : Int) < ((l.map rnR).length : Nat) := h2; rw [List.length_map] at h2; omega
  subst hjl
  rw [List.take_length]
  ((conv => whnf); repeat' ((first | (intro hq; (try simp only [lnS] at hq); (try rewrite [List.length_map])) | refine sJ ?_ | refine .intro _ (.intro rfl ?_) | (refine .intro (show (_ : Nat) < List.length _ from by first | omega | (simp only [lnS]; omega) | simp) ?_) | fail | refine draw_rule hty (by kernel_rfl) (by kernel_rfl) ?_ | ((first | refine brB_dec ?_ ?_ | refine brB_ndec ?_ ?_) <;> intro hb <;> (first | contradiction | ((try simp only [lnS] at hb); try (exfalso; omega)))) | (refine brB_split ?_ ?_ <;> intro hb <;> (first | contradiction | exact bT hb (by assumption) | exact bF hb (by assumption) | skip))) <;> (conv => whnf)))
  exact sameP _ _ _
end Go.Proofs.YtpecmehekandgaaGreatDoor
namespace Go.Proofs.YtpecmehekandgaaGreatDoor
open Go.Proofs
set_option maxRecDepth 10000
attribute [local irreducible] SemVC CallVC Tri Stuck YVC GenP GenVC
theorem compL_take (l m : List Rn) {j : Nat} (hj : j < (l ++ m).length) : ((l ++ m).take (j + 1)).foldl (stepC l m) [] = stepC l m (((l ++ m).take j).foldl (stepC l m) []) (l ++ m)[j] := by
  rw [List.take_succ_eq_append_getElem hj, List.foldl_append]; rfl
set_option maxHeartbeats 16000000 in
theorem rrCompose_spec (l m : List Rn) : Tri Tryz.prog 22 [.d (rnL l), .d (rnL m)] [] (fun r => r = .tup [.d (rnL (compR l m).1), .d (.int .i64 (compR l m).2)]) := by
  refine Tri.pairS (z := 3) ?_
  have ck := rrCheck_spec l
  have ck2 := rrCheck_spec m
  refine tri_of_bodyF false [11] hty Tryz.func22 rfl (kp [0, 1, 4, 5, 6, 7, 8, 9, 10, 11, 12, 16, 21, 32, 69, 76]) [] _ _ _ (by simp [Tryz.f22]) (by simp) ?_
  ((conv => whnf); repeat ((first | (intro hq; try simp only [lnS] at hq) | refine sI ?_ | refine .intro _ (.intro rfl ?_)); (conv => whnf)))
  refine call_tri [] ck trivial (fun r hs => ?_)
  subst hs
  ((conv => whnf); repeat ((first | (intro hq; try simp only [lnS] at hq) | refine sI ?_ | refine .intro _ (.intro rfl ?_)); (conv => whnf)))
  refine brB_ndec (fun h1 => ?_) (fun h1 => ?_)
  · have hv : compR l m = ([], checkR l) := by unfold compR; rw [if_pos h1]
    rw [hv]
    ((conv => whnf); repeat' ((first | (intro hq; (try simp only [lnS] at hq); (try rewrite [List.length_map])) | refine sJ ?_ | refine .intro _ (.intro rfl ?_) | (refine .intro (show (_ : Nat) < List.length _ from by first | omega | (simp only [lnS]; omega) | simp) ?_) | fail | refine draw_rule hty (by kernel_rfl) (by kernel_rfl) ?_ | ((first | refine brB_dec ?_ ?_ | refine brB_ndec ?_ ?_) <;> intro hb <;> (first | contradiction | ((try simp only [lnS] at hb); try (exfalso; omega)))) | (refine brB_split ?_ ?_ <;> intro hb <;> (first | contradiction | exact bT hb (by assumption) | exact bF hb (by assumption) | skip))) <;> (conv => whnf)))
    exact nilP _ _
  have h0 : checkR l = 0 := by simpa using h1
  obtain ⟨hg, hlen⟩ := checkR_ok h0
  ((conv => whnf); repeat ((first | (intro hq; try simp only [lnS] at hq) | refine sI ?_ | refine .intro _ (.intro rfl ?_)); (conv => whnf)))
  refine call_tri [] ck2 trivial (fun r hs => ?_)
  subst hs
  ((conv => whnf); repeat ((first | (intro hq; try simp only [lnS] at hq) | refine sI ?_ | refine .intro _ (.intro rfl ?_)); (conv => whnf)))
  refine brB_ndec (fun h2 => ?_) (fun h2 => ?_)
  · have hv : compR l m = ([], checkR m) := by unfold compR; rw [if_neg (by omega), if_pos h2]
    rw [hv]
    ((conv => whnf); repeat' ((first | (intro hq; (try simp only [lnS] at hq); (try rewrite [List.length_map])) | refine sJ ?_ | refine .intro _ (.intro rfl ?_) | (refine .intro (show (_ : Nat) < List.length _ from by first | omega | (simp only [lnS]; omega) | simp) ?_) | fail | refine draw_rule hty (by kernel_rfl) (by kernel_rfl) ?_ | ((first | refine brB_dec ?_ ?_ | refine brB_ndec ?_ ?_) <;> intro hb <;> (first | contradiction | ((try simp only [lnS] at hb); try (exfalso; omega)))) | (refine brB_split ?_ ?_ <;> intro hb <;> (first | contradiction | exact bT hb (by assumption) | exact bF hb (by assumption) | skip))) <;> (conv => whnf)))
    exact nilP _ _
  have h0' : checkR m = 0 := by simpa using h2
  obtain ⟨hg2, hlen2⟩ := checkR_ok h0'
  have hv : compR l m = if checkR (compL l m) ≠ 0 then ([], checkR (compL l m)) else (compL l m, 0) := by
    unfold compR
    rw [if_neg (by omega), if_neg (by omega)]
  rw [hv]
  clear h1 h2 ck ck2 hv
  ((conv => whnf); repeat' ((first | (intro hq; (try simp only [lnS] at hq); (try rewrite [List.length_map])) | refine sJ ?_ | refine .intro _ (.intro rfl ?_) | (refine .intro (show (_ : Nat) < List.length _ from by first | omega | (simp only [lnS]; omega) | simp) ?_) | (refine And.intro (by simp only [List.length_replicate, List.length_drop, List.length_take, List.length_map, List.length_append, List.length_cons, List.length_nil]; omega) ?_) | refine draw_rule hty (by kernel_rfl) (by kernel_rfl) ?_ | ((first | refine brB_dec ?_ ?_ | refine brB_ndec ?_ ?_) <;> intro hb <;> (first | contradiction | ((try simp only [lnS] at hb); try (exfalso; omega)))) | (refine brB_split ?_ ?_ <;> intro hb <;> (first | contradiction | exact bT hb (by assumption) | exact bF hb (by assumption) | skip))) <;> (conv => whnf)))
  have hmp : (l ++ m).map rnR = l.map rnR ++ m.map rnR := List.map_append
  refine loop_rule hty (fun j : Nat => ([(0, .d (rnL l)), (1, .d (rnL m)), (8, .d (.sl 3 (l.map rnR ++ m.map rnR))), (9, .d (rnL (((l ++ m).take j).foldl (stepC l m) []))), (10, .d (.int .i64 j))], [])) (fun j => j ≤ (l ++ m).length) (fun j => (l ++ m).length - j) 0 (by omega) ⟨by repeat' (first | exact trivial | exact rfl | refine And.intro ?_ ?_), by repeat' (first | exact trivial | exact rfl | refine And.intro ?_ ?_)⟩ ?_
  rintro j hj
  ((conv => whnf); repeat ((first | (intro hq; try simp only [lnS] at hq) | refine sI ?_ | refine .intro _ (.intro rfl ?_)); (conv => whnf)))
  refine brB_dec (fun h2 => ?_) (fun h2 => ?_)
  · have hjl : j < (l ++ m).length := by have h2 : (j : Int) < ((l.map rnR ++ m.map rnR).length : Nat) := h2; rw [← hmp, List.length_map] at h2; omega
    have hrow : (l.map rnR ++ m.map rnR)[(j : Int).toNat]? = some (rnR (l ++ m)[j]) := by rw [← hmp]; exact rowC_at hjl
    have hst := compL_take l m hjl
    have hfl := len_fold l m ((l ++ m).take j) []
    rw [List.length_take, List.length_nil, List.length_append] at hfl
    generalize (l ++ m)[j] = x at hrow hst
    generalize ((l ++ m).take j).foldl (stepC l m) [] = out at *
    have n1 := rrName_spec l x.kind x.old
    have n2 := rrName_spec m x.kind (nameR l x.kind x.old)
    have w := rwith_spec out (newR l m x) (by omega)
    rw [stepC] at hst
    (refine tree2_rule (id := 12) hty (.first 0 (.first 1 (.first 2 (.first 3 (.first 4 (.first 5 (.first 6 (.first 7 (.first 8 (.first 9 (.first 10 (.first 11 (.first 12 (.first 13 (.first 14 (.first 15 (.first 16 (.first 17 (.first 18 (.first 19 (.first 20 (.first 21 (.first 22 (.first 23 (.first 24 (.first 25 (.first 26 (.alt 27 (.alt 28 (.first 29 (.alt 30 (.alt 31 .done .stop) .stop)) (.alt 30 (.alt 28 (.first 29 (.alt 31 .done .stop)) .stop) .stop)) (.alt 30 (.alt 27 (.alt 28 (.first 29 (.alt 31 .done .stop)) .stop) .stop) .stop))))))))))))))))))))))))))))) (by kernel_rfl) (by kernel_rfl) ?_)
    ((conv => whnf); repeat' ((first | exact trivial | refine altAnd ?_ ?_ | (refine ⟨_, hrow, ?_⟩) | (refine call_tri [] n1 trivial (fun r hs => ?_); subst hs) | (refine call_tri [] n2 trivial (fun r hs => ?_); subst hs) | (refine call_tri [] w trivial (fun r hs => ?_); subst hs) | (intro hq; (try simp only [lnS] at hq); (try rewrite [List.length_map])) | refine sJ ?_ | refine .intro _ (.intro rfl ?_) | (refine .intro (show (_ : Nat) < List.length _ from by first | omega | (simp only [lnS]; omega) | simp) ?_) | refine draw_rule hty (by kernel_rfl) (by kernel_rfl) ?_ | ((first | refine brB_dec ?_ ?_ | refine brB_ndec ?_ ?_) <;> intro hb <;> (first | contradiction | ((try simp only [lnS] at hb); try (exfalso; omega)))) | (refine brB_split ?_ ?_ <;> intro hb <;> (first | contradiction | exact bT hb (by assumption) | exact bF hb (by assumption) | skip))) <;> (conv => whnf)))
    all_goals (
      refine ⟨j + 1, by omega, by dsimp only; omega, ?_⟩
      first
        | (rw [if_pos (by assumption)] at hst)
        | (rw [if_neg (by assumption)] at hst)
      dsimp only
      rw [hst]
      exact ⟨by repeat' (first | exact trivial | exact rfl | refine And.intro ?_ ?_), by repeat' (first | exact trivial | exact rfl | refine And.intro ?_ ?_)⟩)
  have hjl : j = (l ++ m).length := by have h2 : ¬ (j : Int) < ((l.map rnR ++ m.map rnR).length : Nat) := h2; rw [← hmp, List.length_map] at h2; omega
  subst hjl
  rw [List.take_length]
  have ck := rrCheck_spec (compL l m)
  rw [show (l ++ m).foldl (stepC l m) [] = compL l m from rfl]
  ((conv => whnf); repeat ((first | (intro hq; try simp only [lnS] at hq) | refine sI ?_ | refine .intro _ (.intro rfl ?_)); (conv => whnf)))
  refine call_tri [] ck trivial (fun r hs => ?_)
  subst hs
  ((conv => whnf); repeat ((first | (intro hq; try simp only [lnS] at hq) | refine sI ?_ | refine .intro _ (.intro rfl ?_)); (conv => whnf)))
  refine brB_ndec (fun h1 => ?_) (fun h1 => ?_)
  · rw [if_pos h1]
    ((conv => whnf); repeat' ((first | (intro hq; (try simp only [lnS] at hq); (try rewrite [List.length_map])) | refine sJ ?_ | refine .intro _ (.intro rfl ?_) | (refine .intro (show (_ : Nat) < List.length _ from by first | omega | (simp only [lnS]; omega) | simp) ?_) | fail | refine draw_rule hty (by kernel_rfl) (by kernel_rfl) ?_ | ((first | refine brB_dec ?_ ?_ | refine brB_ndec ?_ ?_) <;> intro hb <;> (first | contradiction | ((try simp only [lnS] at hb); try (exfalso; omega)))) | (refine brB_split ?_ ?_ <;> intro hb <;> (first | contradiction | exact bT hb (by assumption) | exact bF hb (by assumption) | skip))) <;> (conv => whnf)))
    exact nilP _ _
  rw [if_neg (by simpa using h1)]
  ((conv => whnf); repeat' ((first | (intro hq; (try simp only [lnS] at hq); (try rewrite [List.length_map])) | refine sJ ?_ | refine .intro _ (.intro rfl ?_) | (refine .intro (show (_ : Nat) < List.length _ from by first | omega | (simp only [lnS]; omega) | simp) ?_) | fail | refine draw_rule hty (by kernel_rfl) (by kernel_rfl) ?_ | ((first | refine brB_dec ?_ ?_ | refine brB_ndec ?_ ?_) <;> intro hb <;> (first | contradiction | ((try simp only [lnS] at hb); try (exfalso; omega)))) | (refine brB_split ?_ ?_ <;> intro hb <;> (first | contradiction | exact bT hb (by assumption) | exact bF hb (by assumption) | skip))) <;> (conv => whnf)))
  exact sameP _ _ _
end Go.Proofs.YtpecmehekandgaaGreatDoor
namespace Go.Proofs.YtpecmehekandgaaGreatDoor
open Go.Proofs
set_option maxRecDepth 10000
attribute [local irreducible] SemVC CallVC Tri Stuck YVC GenP GenVC
set_option maxHeartbeats 32000000 in
theorem composeSpec_spec (l m : List Rn) : Tri Tryz.prog 6 [.d (rnL l), .d (rnL m)] NG (fun r => r = .d (.bool true)) := by
  have hfew := lFew_spec (l.map rnR) []
  have hfew2 := lFew_spec (m.map rnR) []
  generalize fewRX (l.map rnR).length ([] : List (List D)).length = fw at hfew
  generalize fewRX (m.map rnR).length ([] : List (List D)).length = fm at hfew2
  have hfew : Tri Tryz.prog 10 [.d (rnL l), .d .nil] [] (fun r => r = .d (.bool fw)) := Tri.weak (bs := [.d (rnL l), .d (.sl 16 [])]) hfew (by repeat' (first | exact trivial | exact rfl | exact Wk_refl _ | exact ⟨rfl, rfl⟩ | refine And.intro ?_ ?_))
  have hfew2 : Tri Tryz.prog 10 [.d (rnL m), .d .nil] [] (fun r => r = .d (.bool fm)) := Tri.weak (bs := [.d (rnL m), .d (.sl 16 [])]) hfew2 (by repeat' (first | exact trivial | exact rfl | exact Wk_refl _ | exact ⟨rfl, rfl⟩ | refine And.intro ?_ ?_))
  have k1 := rnCompose_spec l m
  have k2 := rrCompose_spec l m
  have k3 := rnInverse_spec l
  have k4 := rrInverse_spec l
  have s1 := rrSame_self (compR l m).1
  have s2 := rrSame_self (invE l).1
  generalize (compR l m).1 = C at *
  generalize (compR l m).2 = e at *
  generalize (invE l).1 = I at *
  generalize (invE l).2 = f at *
  refine tri_of_bodyF false [] hty Tryz.func6 rfl (kp [0, 1, 4, 5, 6, 7, 8, 9, 10, 11, 12, 14, 22]) [] _ _ _ (by simp [Tryz.f6]) (by decide) ?_
  ((conv => whnf); repeat ((first | (intro hq; try simp only [lnS] at hq) | refine sI ?_ | refine .intro _ (.intro rfl ?_)); (conv => whnf)))
  refine call_tri NG rsane_spec ⟨rfl, rfl, trivial⟩ (fun r hs => ?_)
  subst hs
  ((conv => whnf); repeat' ((first | (intro hq; (try simp only [lnS] at hq); (try rewrite [List.length_map])) | refine sJ ?_ | refine .intro _ (.intro rfl ?_) | (refine .intro (show (_ : Nat) < List.length _ from by first | omega | (simp only [lnS]; omega) | simp) ?_) | (refine call_tri [] hfew trivial (fun r hs => ?_); subst hs) | (refine call_tri [] hfew2 trivial (fun r hs => ?_); subst hs) | (refine call_tri [] k1 trivial (fun r hs => ?_); subst hs) | (refine call_tri [] k2 trivial (fun r hs => ?_); subst hs) | (refine call_tri [] k3 trivial (fun r hs => ?_); subst hs) | (refine call_tri [] k4 trivial (fun r hs => ?_); subst hs) | (refine call_tri [] s1 trivial (fun r hs => ?_); subst hs) | (refine call_tri [] s2 trivial (fun r hs => ?_); subst hs) | refine draw_rule hty (by kernel_rfl) (by kernel_rfl) ?_ | ((first | refine brB_dec ?_ ?_ | refine brB_ndec ?_ ?_) <;> intro hb <;> (first | contradiction | ((try simp only [lnS] at hb); try (exfalso; omega)))) | (refine brB_split ?_ ?_ <;> intro hb <;> (first | contradiction | exact bT hb (by assumption) | exact bF hb (by assumption) | skip))) <;> (conv => whnf)))
  all_goals first
    | rfl
    | (refine bool_eq ?_; simp; done)
    | (exfalso; simp_all; done)
end Go.Proofs.YtpecmehekandgaaGreatDoor
