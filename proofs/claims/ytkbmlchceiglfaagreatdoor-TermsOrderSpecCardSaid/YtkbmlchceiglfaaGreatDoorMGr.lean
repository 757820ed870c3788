/-
  Terms: the reference's With and names, walked. Terms: the reference's names, walked. Terms: the reference's order, Strings, Size and Compare. The walk through the reference's keyword.
  Conditions: none.
-/
import Derived.Test.YtkbmlchceiglfaaGreatDoorMDf
import Derived.Test.YtkbmlchceiglfaaGreatDoorMSyd
import Derived.Test.YtkbmlchceiglfaaGreatDoorMAc
import Derived.Test.YtkbmlchceiglfaaGreatDoorMG2
namespace Go.Proofs.YtkbmlchceiglfaaGreatDoor
set_option linter.unnecessarySimpa false
set_option linter.unusedSectionVars false
set_option linter.unusedSimpArgs false
set_option linter.unusedVariables false
open Go.Proofs
set_option maxRecDepth 10000
attribute [local irreducible] SemVC CallVC Tri Stuck YVC GenP GenVC

set_option maxHeartbeats 8000000 in
theorem rWith_spec (l : List (List UInt8)) (s : List UInt8) (hl : l.length ≤ 1000000) : Tri Tryz.prog 45 [.d (strl l), .d (.str s)] [] (fun r => r = .d (strl (withF l s))) := by
  refine tri_of_bodyF false [] hty Tryz.func45 rfl (kp [0, 1, 4, 5, 6, 7, 12, 20, 30, 43]) [] _ _ _ (by simp [Tryz.f45]) (by simp) ?_
  ((conv => whnf); repeat ((first | (intro hq; try simp only [lnS] at hq) | refine sI ?_ | refine Exists.intro _ (And.intro rfl ?_)); (conv => whnf)))
  refine loop_rule hty (fun y : Nat × Bool × List (List UInt8) => ([(0, .d (strl l)), (1, .d (.str s)), (5, .osl 8 1 (y.2.2.map strR)), (6, .d (.bool y.2.1)), (7, .d (.int .i64 y.1))], [(8, .own 9 1 (y.2.2.map strR).length)])) (fun y => y.1 ≤ l.length ∧ withF l s = y.2.2 ++ withG s y.2.1 (l.drop y.1) ∧ y.2.2.length ≤ y.1 + y.2.1.toNat) (fun y => l.length - y.1) (0, false, []) ⟨by dsimp only; omega, rfl, by simp⟩ ⟨by repeat' (first | exact trivial | exact rfl | refine And.intro ?_ ?_), by repeat' (first | exact trivial | exact rfl | refine And.intro ?_ ?_)⟩ ?_
  rintro ⟨j, d, out⟩ ⟨hj, hn, ho⟩
  dsimp only at hj hn ho
  ((conv => whnf); repeat ((first | (intro hq; try simp only [lnS] at hq) | refine sI ?_ | refine Exists.intro _ (And.intro rfl ?_)); (conv => whnf)))
  refine brB_dec (fun h1 => ?_) (fun h1 => ?_)
  · have hjl : j < l.length := by simp only [List.length_map] at h1; omega
    have hrow : (l.map strR)[(j : Int).toNat]? = some (strR l[j]) := rowC_at hjl
    rw [List.drop_eq_getElem_cons hjl, withG] at hn
    generalize l[j] = x at hrow hn
    have hR : (out ++ [x]).map strR = out.map strR ++ [[.str x]] := by rw [List.map_append]; rfl
    have hR2 : (out ++ [s] ++ [x]).map strR = out.map strR ++ [[.str s]] ++ [[.str x]] := by rw [List.map_append, List.map_append]; rfl
    have ho2 : out.length ≤ j + 1 := by have := Bool.toNat_le d; omega
    ((conv => whnf); repeat' ((first | (intro hq; (try simp only [lnS] at hq); (try rewrite [List.length_map])) | refine sJ ?_ | refine Exists.intro _ (And.intro rfl ?_) | (refine Exists.intro (show (_ : Nat) < List.length _ from by first | omega | (simp only [List.length_cons, List.length_nil]; omega) | simp) ?_) | (refine And.intro (by rw [List.length_append]; exact rfl) ?_) | (refine ⟨_, hrow, ?_⟩) | refine draw_rule hty (by kernel_rfl) (by kernel_rfl) ?_ | ((first | refine brB_dec (fun hb => ?_) (fun hb => ?_) | refine brB_ndec (fun hb => ?_) (fun hb => ?_)) <;> (first | contradiction | ((try simp only [lnS] at hb); (first | (exfalso; omega) | skip)))) | (refine brB_split (fun hb => ?_) (fun hb => ?_) <;> (first | contradiction | exact absurd (hb.symm.trans (by assumption) : false = true) (by decide) | exact absurd (hb.symm.trans (by assumption) : true = false) (by decide) | skip))) <;> (conv => whnf)))
    · rename_i hx
      refine ⟨(j + 1, true, out ++ [x]), ⟨by dsimp only; omega, ?_, ?_⟩, by dsimp only; omega, ?_⟩
      · rw [hn, if_neg (by rw [decide_eq_true hx, Bool.or_true]; simp), decide_eq_true hx, Bool.or_true, List.append_assoc]; rfl
      · dsimp only; rw [List.length_append]; simp only [List.length_cons, List.length_nil, Bool.toNat_true]; have := Bool.toNat_le d; omega
      · dsimp only; rw [hR, List.length_append]; exact ⟨by repeat' (first | exact trivial | exact rfl | refine And.intro ?_ ?_), by repeat' (first | exact trivial | exact rfl | refine And.intro ?_ ?_)⟩
    · rename_i hx
      refine ⟨(j + 1, true, out ++ [x]), ⟨by dsimp only; omega, ?_, ?_⟩, by dsimp only; omega, ?_⟩
      · rw [hn, if_neg (by rw [decide_eq_true hx, Bool.or_true]; simp), decide_eq_true hx, Bool.or_true, List.append_assoc]; rfl
      · dsimp only; rw [List.length_append]; simp only [List.length_cons, List.length_nil, Bool.toNat_true]; have := Bool.toNat_le d; omega
      · dsimp only; rw [hR, List.length_append]; exact ⟨by repeat' (first | exact trivial | exact rfl | refine And.intro ?_ ?_), by repeat' (first | exact trivial | exact rfl | refine And.intro ?_ ?_)⟩
    · rename_i hx hb0
      have hd : d = false := by simpa using hb
      subst hd
      refine ⟨(j + 1, true, out ++ [s] ++ [x]), ⟨by dsimp only; omega, ?_, ?_⟩, by dsimp only; omega, ?_⟩
      · rw [hn, if_pos ⟨hb0, by rw [decide_eq_false hx]; rfl⟩, List.append_assoc, List.append_assoc]; rfl
      · dsimp only; rw [List.length_append, List.length_append]; simp only [List.length_cons, List.length_nil, Bool.toNat_true]; simp only [Bool.toNat_false] at ho; omega
      · dsimp only; rw [hR2]; simp only [List.length_append]; exact ⟨by repeat' (first | exact trivial | exact rfl | refine And.intro ?_ ?_), by repeat' (first | exact trivial | exact rfl | refine And.intro ?_ ?_)⟩
    · rename_i hx hb0
      have hd : d = true := by simpa using hb
      subst hd
      refine ⟨(j + 1, true, out ++ [x]), ⟨by dsimp only; omega, ?_, ?_⟩, by dsimp only; omega, ?_⟩
      · rw [hn, if_neg (by simp), Bool.true_or, List.append_assoc]; rfl
      · dsimp only; rw [List.length_append]; simp only [List.length_cons, List.length_nil, Bool.toNat_true]; simp only [Bool.toNat_true] at ho; omega
      · dsimp only; rw [hR, List.length_append]; exact ⟨by repeat' (first | exact trivial | exact rfl | refine And.intro ?_ ?_), by repeat' (first | exact trivial | exact rfl | refine And.intro ?_ ?_)⟩
    · rename_i hx
      refine ⟨(j + 1, d, out ++ [x]), ⟨by dsimp only; omega, ?_, ?_⟩, by dsimp only; omega, ?_⟩
      · rw [hn, if_neg (by rw [hb]; simp), decide_eq_false hx, Bool.or_false, List.append_assoc]; rfl
      · dsimp only; rw [List.length_append]; simp only [List.length_cons, List.length_nil, Bool.toNat_true]; omega
      · dsimp only; rw [hR, List.length_append]; exact ⟨by repeat' (first | exact trivial | exact rfl | refine And.intro ?_ ?_), by repeat' (first | exact trivial | exact rfl | refine And.intro ?_ ?_)⟩
  · have hjl : j = l.length := by simp only [List.length_map] at h1; omega
    subst hjl
    rw [List.drop_length, withG] at hn
    have hR : (out ++ [s]).map strR = out.map strR ++ [[.str s]] := by rw [List.map_append]; rfl
    have ho2 : out.length ≤ l.length + 1 := by have := Bool.toNat_le d; omega
    ((conv => whnf); repeat' ((first | (intro hq; (try simp only [lnS] at hq); (try rewrite [List.length_map])) | refine sJ ?_ | refine Exists.intro _ (And.intro rfl ?_) | (refine Exists.intro (show (_ : Nat) < List.length _ from by first | omega | (simp only [List.length_cons, List.length_nil]; omega) | simp) ?_) | (refine And.intro (by rw [List.length_append]; exact rfl) ?_) | refine draw_rule hty (by kernel_rfl) (by kernel_rfl) ?_ | ((first | refine brB_dec (fun hb => ?_) (fun hb => ?_) | refine brB_ndec (fun hb => ?_) (fun hb => ?_)) <;> (first | contradiction | ((try simp only [lnS] at hb); (first | (exfalso; omega) | skip)))) | (refine brB_split (fun hb => ?_) (fun hb => ?_) <;> (first | contradiction | exact absurd (hb.symm.trans (by assumption) : false = true) (by decide) | exact absurd (hb.symm.trans (by assumption) : true = false) (by decide) | skip))) <;> (conv => whnf)))
    · have hd : d = false := by simpa using hb
      subst hd
      rw [hn, if_neg (by simp), strl, hR]
      rfl
    · have hd : d = true := by simpa using hb
      subst hd
      rw [hn, if_pos rfl, List.append_nil]
      rfl
end Go.Proofs.YtkbmlchceiglfaaGreatDoor

namespace Go.Proofs.YtkbmlchceiglfaaGreatDoor
set_option linter.unnecessarySimpa false
set_option linter.unusedSectionVars false
set_option linter.unusedSimpArgs false
set_option linter.unusedVariables false
open Go.Proofs
set_option maxRecDepth 10000
attribute [local irreducible] SemVC CallVC Tri Stuck YVC GenP GenVC

theorem withF_len (l : List (List UInt8)) (s : List UInt8) : (withF l s).length ≤ l.length + 1 := withG_len s false l

theorem wC_num (v : Nm) (c : Cn) : numN (wC v c) ≤ numN v + 1 := by
  have h1 := withF_len v.a c.name
  have h2 := withF_len v.b c.name
  have h3 := withF_len v.c c.name
  have h4 := withF_len v.d c.name
  unfold wC numN
  split
  · dsimp only; omega
  · split
    · dsimp only; omega
    · split
      · dsimp only; omega
      · split
        · dsimp only; omega
        · omega
theorem wR_num (v : Nm) (s : List UInt8) : numN (wR v s) ≤ numN v + 1 := by
  have := withF_len v.b s
  unfold wR numN; dsimp only; omega
theorem wI_num (v : Nm) (s : List UInt8) : numN (wI v s) ≤ numN v + 1 := by
  have := withF_len v.d s
  unfold wI numN; dsimp only; omega
theorem wS_num (v : Nm) (c : Cn) : numN (wS v c) ≤ numN v + sizeF c := by
  have := fold_num wC 1 wC_num (nodes c) v
  have e : (nodes c).length = sizeF c := rfl
  unfold wS; omega
theorem wS_eq (v : Nm) (c : Cn) : wS v c = (nodesL c.parts).foldl wC (wC v c) := by rw [wS, nodes_eq]; rfl
theorem num_le {v : Nm} {n : Nat} (h : numN v ≤ n) : v.a.length ≤ n ∧ v.b.length ≤ n ∧ v.c.length ≤ n ∧ v.d.length ≤ n := by
  unfold numN at h; omega

set_option maxHeartbeats 8000000 in
theorem rNames_spec : ∀ (c : Cn) (v : Nm) (_ : numN v + sizeF c ≤ 1000000), Tri Tryz.prog 44 [.d (.agg (nmR v)), .d (.agg (cnR c))] [] (fun r => r = .d (.agg (nmR (wS v c)))) := by
  refine Cn.ind ?_
  intro c ih v hs
  obtain ⟨l1, l2, l3, l4⟩ := num_le (show numN v ≤ 1000000 by omega)
  have w1 := rWith_spec v.a c.name l1
  have w2 := rWith_spec v.b c.name l2
  have w3 := rWith_spec v.c c.name l3
  have w4 := rWith_spec v.d c.name l4
  rw [cnR_eq, wS_eq]
  have hsz := sizeF_eq c
  have hn0 := wC_num v c
  generalize hv0 : wC v c = V0 at *
  refine tri_of_bodyF false [3] hty Tryz.func44 rfl (kp [0, 1, 2, 3, 4, 5, 7, 8, 16, 24, 32, 44]) [] _ _ _ (by simp [Tryz.f44]) (by simp) ?_
  ((conv => whnf); repeat' ((first | (intro hq; (try simp only [lnS] at hq); (try rewrite [List.length_map])) | refine sJ ?_ | refine Exists.intro _ (And.intro rfl ?_) | (refine Exists.intro (show (_ : Nat) < List.length _ from by first | omega | (simp only [List.length_cons, List.length_nil]; omega) | simp) ?_) | (refine call_tri [] w1 trivial (fun r hs => ?_); subst hs) | (refine call_tri [] w2 trivial (fun r hs => ?_); subst hs) | (refine call_tri [] w3 trivial (fun r hs => ?_); subst hs) | (refine call_tri [] w4 trivial (fun r hs => ?_); subst hs) | refine draw_rule hty (by kernel_rfl) (by kernel_rfl) ?_ | ((first | refine brB_dec (fun hb => ?_) (fun hb => ?_) | refine brB_ndec (fun hb => ?_) (fun hb => ?_)) <;> (first | contradiction | ((try simp only [lnS] at hb); (first | (exfalso; omega) | skip)))) | (refine brB_split (fun hb => ?_) (fun hb => ?_) <;> (first | contradiction | exact absurd (hb.symm.trans (by assumption) : false = true) (by decide) | exact absurd (hb.symm.trans (by assumption) : true = false) (by decide) | skip))) <;> (conv => whnf)))
  all_goals (
    clear w1 w2 w3 w4
    refine loop_rule hty (fun y : Nat × List (List UInt8) × List (List UInt8) × List (List UInt8) × List (List UInt8) => ([(2, .ptr 2 0), (3, .ea 5 [[.int .i64 c.kind, .str c.name, .int .i64 c.lo, .int .i64 c.hi, .sl 5 (c.parts.map cnR)]] 0 0), (4, .ptr 4 0), (5, .d (.int .i64 y.1))], [(2, .cells 34 [.d (strl y.2.1), .d (strl y.2.2.1), .d (strl y.2.2.2.1), .d (strl y.2.2.2.2)]), (4, .cells 34 [.d .nil, .d .nil, .d .nil, .d .nil])])) (fun y => y.1 ≤ c.parts.length ∧ Nm.mk y.2.1 y.2.2.1 y.2.2.2.1 y.2.2.2.2 = (nodesL (c.parts.take y.1)).foldl wC V0) (fun y => c.parts.length - y.1) (0, _, _, _, _) ?_ ⟨by repeat' (first | exact trivial | exact rfl | exact ⟨rfl, rfl⟩ | refine And.intro ?_ ?_), by repeat' (first | exact trivial | exact rfl | exact ⟨rfl, rfl⟩ | refine And.intro ?_ ?_)⟩ ?_
    · refine ⟨Nat.zero_le _, ?_⟩
      show _ = V0
      rw [← hv0]
      clear ih
      unfold wC
      simp [*, withF]
    rintro ⟨j, A, B, C, D⟩ ⟨hj, hV⟩
    dsimp only at hj hV
    generalize hW : Nm.mk A B C D = V at hV
    have hA : A = V.a := by rw [← hW]
    have hB : B = V.b := by rw [← hW]
    have hC : C = V.c := by rw [← hW]
    have hD : D = V.d := by rw [← hW]
    subst hA; subst hB; subst hC; subst hD
    ((conv => whnf); repeat ((first | (intro hq; try simp only [lnS] at hq) | refine sI ?_ | refine Exists.intro _ (And.intro rfl ?_)); (conv => whnf)))
    refine brB_dec (fun h1 => ?_) (fun h1 => ?_)
    · have hjl : j < c.parts.length := by simp only [List.length_map] at h1; omega
      have hrow : (c.parts.map cnR)[(j : Int).toNat]? = some (cnR c.parts[j]) := rowC_at hjl
      have hnl := nodesL_len_take hjl
      have hle := nodesL_take_le c.parts (j + 1)
      have hf := fold_num wC 1 wC_num (nodesL (c.parts.take j)) V0
      rw [← hV] at hf
      have hcall := ih c.parts[j] (List.getElem_mem hjl) V (by omega)
      have hnext : wS V c.parts[j] = (nodesL (c.parts.take (j + 1))).foldl wC V0 := by
        rw [nodesL_take hjl, List.foldl_append, ← hV]; rfl
      generalize c.parts[j] = x at hrow hcall hnext
      rw [cnR_eq] at hrow hcall
      clear hnl hle hf hV
      ((conv => whnf); repeat ((first | (intro hq; try simp only [lnS] at hq) | refine sI ?_ | refine Exists.intro _ (And.intro rfl ?_)); (conv => whnf)))
      refine SemVC.mid [(2, .ptr 2 0), (3, .ea 5 [[.int .i64 c.kind, .str c.name, .int .i64 c.lo, .int .i64 c.hi, .sl 5 (c.parts.map cnR)]] 0 0), (4, .ptr 4 0), (5, .d (.int .i64 j))] [(2, .cells 34 ((nmR (wS V x)).map .d)), (4, .cells 34 [.d .nil, .d .nil, .d .nil, .d .nil])] ?_ ?_
      · refine pre_rule hty 6 (by kernel_rfl) (by kernel_rfl) ?_
        ((conv => whnf); repeat ((first | (refine ⟨_, hrow, ?_⟩) | (intro hq; try simp only [lnS] at hq) | refine sI ?_ | refine Exists.intro _ (And.intro rfl ?_)); (conv => whnf)))
        refine ⟨[], (fun r => r = .d (.agg (nmR (wS V x)))), trivial, hcall, fun r hs => ?_⟩
        subst hs
        ((conv => whnf); repeat ((first | (intro hq; try simp only [lnS] at hq) | refine sI ?_ | refine Exists.intro _ (And.intro rfl ?_)); (conv => whnf)))
        exact ⟨by repeat' (first | exact trivial | exact rfl | refine And.intro ?_ ?_), by repeat' (first | exact trivial | exact rfl | refine And.intro ?_ ?_)⟩
      ((conv => whnf); repeat ((first | (intro hq; try simp only [lnS] at hq) | refine sI ?_ | refine Exists.intro _ (And.intro rfl ?_)); (conv => whnf)))
      exact ⟨(j + 1, (wS V x).a, (wS V x).b, (wS V x).c, (wS V x).d), ⟨by dsimp only; omega, hnext⟩, by dsimp only; omega, ⟨by repeat' (first | exact trivial | exact rfl | refine And.intro ?_ ?_), by repeat' (first | exact trivial | exact rfl | refine And.intro ?_ ?_)⟩⟩
    · have hjl : j = c.parts.length := by simp only [List.length_map] at h1; omega
      subst hjl
      rw [List.take_length] at hV
      rw [← hV]
      ((conv => whnf); repeat' ((first | (intro hq; (try simp only [lnS] at hq); (try rewrite [List.length_map])) | refine sJ ?_ | refine Exists.intro _ (And.intro rfl ?_) | (refine Exists.intro (show (_ : Nat) < List.length _ from by first | omega | (simp only [List.length_cons, List.length_nil]; omega) | simp) ?_) | fail | refine draw_rule hty (by kernel_rfl) (by kernel_rfl) ?_ | ((first | refine brB_dec (fun hb => ?_) (fun hb => ?_) | refine brB_ndec (fun hb => ?_) (fun hb => ?_)) <;> (first | contradiction | ((try simp only [lnS] at hb); (first | (exfalso; omega) | skip)))) | (refine brB_split (fun hb => ?_) (fun hb => ?_) <;> (first | contradiction | exact absurd (hb.symm.trans (by assumption) : false = true) (by decide) | exact absurd (hb.symm.trans (by assumption) : true = false) (by decide) | skip))) <;> (conv => whnf)))
      rfl)
end Go.Proofs.YtkbmlchceiglfaaGreatDoor

namespace Go.Proofs.YtkbmlchceiglfaaGreatDoor
set_option linter.unnecessarySimpa false
set_option linter.unusedSectionVars false
set_option linter.unusedSimpArgs false
set_option linter.unusedVariables false
open Go.Proofs
set_option maxRecDepth 10000
attribute [local irreducible] SemVC CallVC Tri Stuck YVC GenP GenVC

theorem rOrder_spec (a b : Int) : Tri Tryz.prog 37 [.d (.int .i64 a), .d (.int .i64 b)] [] (fun r => r = .d (.int .i64 (cmpI a b))) := by
  refine tri_of_body hty Tryz.func37 rfl (kp [0, 1, 4, 7, 10]) [] _ _ _ (by simp [Tryz.f37]) (by simp) ?_
  ((conv => whnf); repeat' ((first | (intro hq; (try simp only [lnS] at hq); (try rewrite [List.length_map])) | refine sJ ?_ | refine Exists.intro _ (And.intro rfl ?_) | (refine Exists.intro (show (_ : Nat) < List.length _ from by first | omega | (simp only [List.length_cons, List.length_nil]; omega) | simp) ?_) | fail | refine draw_rule hty (by kernel_rfl) (by kernel_rfl) ?_ | ((first | refine brB_dec (fun hb => ?_) (fun hb => ?_) | refine brB_ndec (fun hb => ?_) (fun hb => ?_)) <;> (first | contradiction | ((try simp only [lnS] at hb); (first | (exfalso; omega) | skip)))) | (refine brB_split (fun hb => ?_) (fun hb => ?_) <;> (first | contradiction | exact absurd (hb.symm.trans (by assumption) : false = true) (by decide) | exact absurd (hb.symm.trans (by assumption) : true = false) (by decide) | skip))) <;> (conv => whnf)))
  all_goals (refine int_eq (Eq.symm ?_); unfold cmpI; simp_all <;> omega)

theorem rStrings_spec (a b : List UInt8) : Tri Tryz.prog 39 [.d (.str a), .d (.str b)] [] (fun r => r = .d (.int .i64 (cmpB a b))) := by
  refine tri_of_body hty Tryz.func39 rfl (kp [0, 1, 4, 7, 10]) [] _ _ _ (by simp [Tryz.f39]) (by simp) ?_
  ((conv => whnf); repeat' ((first | (intro hq; (try simp only [lnS] at hq); (try rewrite [List.length_map])) | refine sJ ?_ | refine Exists.intro _ (And.intro rfl ?_) | (refine Exists.intro (show (_ : Nat) < List.length _ from by first | omega | (simp only [List.length_cons, List.length_nil]; omega) | simp) ?_) | fail | refine draw_rule hty (by kernel_rfl) (by kernel_rfl) ?_ | ((first | refine brB_dec (fun hb => ?_) (fun hb => ?_) | refine brB_ndec (fun hb => ?_) (fun hb => ?_)) <;> (first | contradiction | ((try simp only [lnS] at hb); (first | (exfalso; omega) | skip)))) | (refine brB_split (fun hb => ?_) (fun hb => ?_) <;> (first | contradiction | exact absurd (hb.symm.trans (by assumption) : false = true) (by decide) | exact absurd (hb.symm.trans (by assumption) : true = false) (by decide) | skip))) <;> (conv => whnf)))
  all_goals (
    refine int_eq (Eq.symm ?_)
    have hr := cmpB_range a b
    have hz := cmpB_zero a b)
  · rw [bytesLess_eq, decide_eq_true_eq] at hb
    omega
  · rename_i hb0
    rw [bytesLess_eq, decide_eq_false_iff_not] at hb0
    have : cmpB a b ≠ 0 := fun q => by rw [hz.1 q] at hb; simp at hb
    omega
  · rename_i hb0
    rw [bytesLess_eq, decide_eq_false_iff_not] at hb0
    rw [bytesLess_eq, decide_eq_false hb0] at hb
    exact hz.2 (by simpa using hb)

set_option maxHeartbeats 4000000 in
theorem rSize_spec : ∀ (c : Cn) (_ : sizeF c ≤ 1000000), Tri Tryz.prog 48 [.d (.agg (cnR c))] [] (fun r => r = .d (.int .i64 (sizeF c))) := by
  refine Cn.ind ?_
  intro c ih hs
  have hsz := sizeF_eq c
  rw [cnR_eq]
  refine tri_of_bodyF false [1] hty Tryz.func48 rfl (kp [0, 1, 2, 3, 4, 9]) [] _ _ _ (by simp [Tryz.f48]) (by simp) ?_
  ((conv => whnf); repeat ((first | (intro hq; try simp only [lnS] at hq) | refine sI ?_ | refine Exists.intro _ (And.intro rfl ?_)); (conv => whnf)))
  refine loop_rule hty (fun j : Nat => ([(1, .ea 5 [[.int .i64 c.kind, .str c.name, .int .i64 c.lo, .int .i64 c.hi, .sl 5 (c.parts.map cnR)]] 0 0), (3, .d (.int .i64 ((nodesL (c.parts.take j)).length + 1 : Nat))), (4, .d (.int .i64 j))], [])) (fun j => j ≤ c.parts.length) (fun j => c.parts.length - j) 0 (by omega) ⟨by repeat' (first | exact trivial | exact rfl | exact ⟨rfl, rfl⟩ | refine And.intro ?_ ?_), trivial⟩ ?_
  intro j hj
  ((conv => whnf); repeat ((first | (intro hq; try simp only [lnS] at hq) | refine sI ?_ | refine Exists.intro _ (And.intro rfl ?_)); (conv => whnf)))
  refine brB_dec (fun h1 => ?_) (fun h1 => ?_)
  · have hjl : j < c.parts.length := by simp only [List.length_map] at h1; omega
    have hrow' : (c.parts.map cnR)[(j : Int).toNat]? = some (cnR c.parts[j]) := rowC_at hjl
    have hp := sizeF_part (List.getElem_mem (l := c.parts) hjl)
    have hi := ih c.parts[j] (List.getElem_mem hjl) (by omega)
    have hnl := nodesL_len_take hjl
    have hle := nodesL_take_le c.parts (j + 1)
    rw [cnR_eq] at hrow' hi
    ((conv => whnf); repeat' ((first | (intro hq; (try simp only [lnS] at hq); (try rewrite [List.length_map])) | refine sJ ?_ | refine Exists.intro _ (And.intro rfl ?_) | (refine Exists.intro (show (_ : Nat) < List.length _ from by first | omega | (simp only [List.length_cons, List.length_nil]; omega) | simp) ?_) | (refine ⟨_, hrow', ?_⟩) | (refine call_tri [] hi trivial (fun r hs => ?_); subst hs) | refine draw_rule hty (by kernel_rfl) (by kernel_rfl) ?_ | ((first | refine brB_dec (fun hb => ?_) (fun hb => ?_) | refine brB_ndec (fun hb => ?_) (fun hb => ?_)) <;> (first | contradiction | ((try simp only [lnS] at hb); (first | (exfalso; omega) | skip)))) | (refine brB_split (fun hb => ?_) (fun hb => ?_) <;> (first | contradiction | exact absurd (hb.symm.trans (by assumption) : false = true) (by decide) | exact absurd (hb.symm.trans (by assumption) : true = false) (by decide) | skip))) <;> (conv => whnf)))
    refine ⟨j + 1, by dsimp only; omega, by dsimp only; omega, ⟨?_, trivial⟩⟩
    dsimp only
    rw [hnl]
    repeat' (first | exact trivial | exact rfl | exact wkInt6 (by omega) | exact ⟨rfl, rfl⟩ | refine And.intro ?_ ?_)
  · have hjl : j = c.parts.length := by simp only [List.length_map] at h1; omega
    subst hjl
    rw [List.take_length, ← hsz]
    ((conv => whnf); repeat' ((first | (intro hq; (try simp only [lnS] at hq); (try rewrite [List.length_map])) | refine sJ ?_ | refine Exists.intro _ (And.intro rfl ?_) | (refine Exists.intro (show (_ : Nat) < List.length _ from by first | omega | (simp only [List.length_cons, List.length_nil]; omega) | simp) ?_) | fail | refine draw_rule hty (by kernel_rfl) (by kernel_rfl) ?_ | ((first | refine brB_dec (fun hb => ?_) (fun hb => ?_) | refine brB_ndec (fun hb => ?_) (fun hb => ?_)) <;> (first | contradiction | ((try simp only [lnS] at hb); (first | (exfalso; omega) | skip)))) | (refine brB_split (fun hb => ?_) (fun hb => ?_) <;> (first | contradiction | exact absurd (hb.symm.trans (by assumption) : false = true) (by decide) | exact absurd (hb.symm.trans (by assumption) : true = false) (by decide) | skip))) <;> (conv => whnf)))
    rfl

theorem cmpL_end {l m : List Cn} {j : Nat} (h1 : j ≤ l.length) (h2 : j ≤ m.length) (h : ¬ (j < l.length ∧ j < m.length)) : cmpL (l.drop j) (m.drop j) = cmpI l.length m.length := by
  unfold cmpI
  by_cases hl : j < l.length
  · have hm : m.drop j = [] := List.drop_eq_nil_of_le (by omega)
    rw [List.drop_eq_getElem_cons hl, hm, cmpL, if_neg (by omega), if_pos (by omega)]
  · have hm : l.drop j = [] := List.drop_eq_nil_of_le (by omega)
    rw [hm]
    by_cases hm : j < m.length
    · rw [List.drop_eq_getElem_cons hm, cmpL, if_pos (by omega)]
    · rw [show m.drop j = [] from List.drop_eq_nil_of_le (by omega), cmpL, if_neg (by omega), if_neg (by omega)]

set_option maxHeartbeats 8000000 in
theorem rCompare_spec : ∀ (c d : Cn) (_ : sizeF c ≤ 1000000) (_ : sizeF d ≤ 1000000), Tri Tryz.prog 15 [.d (.agg (cnR c)), .d (.agg (cnR d))] [] (fun r => r = .d (.int .i64 (cmpC c d))) := by
  refine Cn.ind ?_
  intro c ih d hs hsd
  have s1 := rSize_spec c hs
  have s2 := rSize_spec d hsd
  have o0 := rOrder_spec (sizeF c) (sizeF d)
  have o1 := rOrder_spec c.kind d.kind
  have o2 := rStrings_spec c.name d.name
  have o3 := rOrder_spec c.lo d.lo
  have o4 := rOrder_spec c.hi d.hi
  have o5 := rOrder_spec c.parts.length d.parts.length
  rw [cmpC_eq, headC, cnR_eq, cnR_eq]
  rw [cnR_eq] at s1 s2
  generalize cmpI (sizeF c) (sizeF d) = n0 at o0 ⊢
  generalize cmpI c.kind d.kind = n1 at o1 ⊢
  generalize cmpB c.name d.name = n2 at o2 ⊢
  generalize cmpI c.lo d.lo = n3 at o3 ⊢
  generalize cmpI c.hi d.hi = n4 at o4 ⊢
  refine tri_of_bodyF false [2, 3] hty Tryz.func15 rfl (kp [0, 1, 2, 3, 4, 5, 6, 13, 20, 27, 34, 55, 70]) [] _ _ _ (by simp [Tryz.f15]) (by simp) ?_
  ((conv => whnf); repeat' ((first | (intro hq; (try simp only [lnS] at hq); (try rewrite [List.length_map])) | refine sJ ?_ | refine Exists.intro _ (And.intro rfl ?_) | (refine Exists.intro (show (_ : Nat) < List.length _ from by first | omega | (simp only [List.length_cons, List.length_nil]; omega) | simp) ?_) | (refine ⟨.d (.int .i64 _), _, [], rfl, trivial, s1, ?_⟩) | (refine ⟨.d (.int .i64 _), _, [], rfl, trivial, s2, ?_⟩) | (refine ⟨.d (.int .i64 _), _, [], rfl, trivial, o0, ?_⟩) | (refine call_tri [] o1 trivial (fun r hs => ?_); subst hs) | (refine call_tri [] o2 trivial (fun r hs => ?_); subst hs) | (refine call_tri [] o3 trivial (fun r hs => ?_); subst hs) | (refine call_tri [] o4 trivial (fun r hs => ?_); subst hs) | refine draw_rule hty (by kernel_rfl) (by kernel_rfl) ?_ | ((first | refine brB_dec (fun hb => ?_) (fun hb => ?_) | refine brB_ndec (fun hb => ?_) (fun hb => ?_)) <;> (first | contradiction | ((try simp only [lnS] at hb); (first | (exfalso; omega) | skip)))) | (refine brB_split (fun hb => ?_) (fun hb => ?_) <;> (first | contradiction | exact absurd (hb.symm.trans (by assumption) : false = true) (by decide) | exact absurd (hb.symm.trans (by assumption) : true = false) (by decide) | skip))) <;> (conv => whnf)))
  · refine loop_rule hty (fun y : Nat × Int => ([(2, .ea 5 [[.int .i64 c.kind, .str c.name, .int .i64 c.lo, .int .i64 c.hi, .sl 5 (c.parts.map cnR)]] 0 0), (3, .ea 5 [[.int .i64 d.kind, .str d.name, .int .i64 d.lo, .int .i64 d.hi, .sl 5 (d.parts.map cnR)]] 0 0), (5, .d (.int .i64 y.2)), (6, .d (.int .i64 y.1))], [])) (fun y => y.1 ≤ c.parts.length ∧ y.1 ≤ d.parts.length ∧ (if y.2 ≠ 0 then y.2 else cmpL (c.parts.drop y.1) (d.parts.drop y.1)) = (if n4 ≠ 0 then n4 else cmpL c.parts d.parts)) (fun y => c.parts.length - y.1) (0, n4) ⟨by dsimp only; omega, by dsimp only; omega, rfl⟩ ⟨by repeat' (first | exact trivial | exact rfl | exact ⟨rfl, rfl⟩ | refine And.intro ?_ ?_), trivial⟩ ?_
    rintro ⟨j, n⟩ ⟨hj, hjd, hn⟩
    dsimp only at hj hjd hn
    have hgoal : (if orF [n0, n1, n2, n3, n4] ≠ 0 then orF [n0, n1, n2, n3, n4] else cmpL c.parts d.parts) = (if n4 ≠ 0 then n4 else cmpL c.parts d.parts) := by
      simp only [orF, *]
      split <;> simp_all
    rw [hgoal]
    clear hgoal o0 o1 o2 o3 o4 s1 s2
    by_cases hlt : n = 0 ∧ j < c.parts.length ∧ j < d.parts.length
    · obtain ⟨rfl, h1, h2⟩ := hlt
      have hrow : (c.parts.map cnR)[(j : Int).toNat]? = some (cnR c.parts[j]) := rowC_at h1
      have hrow2 : (d.parts.map cnR)[(j : Int).toNat]? = some (cnR d.parts[j]) := rowC_at h2
      have hp := sizeF_part (List.getElem_mem (l := c.parts) h1)
      have hp2 := sizeF_part (List.getElem_mem (l := d.parts) h2)
      have hcall := ih c.parts[j] (List.getElem_mem h1) d.parts[j] (by omega) (by omega)
      rw [if_neg (by simp), List.drop_eq_getElem_cons h1, List.drop_eq_getElem_cons h2, cmpL] at hn
      generalize c.parts[j] = x at hrow hn hcall
      generalize d.parts[j] = z at hrow2 hn hcall
      rw [cnR_eq] at hrow hrow2
      rw [cnR_eq, cnR_eq] at hcall
      ((conv => whnf); repeat' ((first | (intro hq; (try simp only [lnS] at hq); (try rewrite [List.length_map])) | refine sJ ?_ | refine Exists.intro _ (And.intro rfl ?_) | (refine Exists.intro (show (_ : Nat) < List.length _ from by first | omega | (simp only [List.length_cons, List.length_nil]; omega) | simp) ?_) | (refine ⟨_, hrow, ?_⟩) | (refine ⟨_, hrow2, ?_⟩) | (refine ⟨.d (.int .i64 _), _, [], rfl, trivial, hcall, ?_⟩) | refine draw_rule hty (by kernel_rfl) (by kernel_rfl) ?_ | ((first | refine brB_dec (fun hb => ?_) (fun hb => ?_) | refine brB_ndec (fun hb => ?_) (fun hb => ?_)) <;> (first | contradiction | ((try simp only [lnS] at hb); (first | (exfalso; omega) | skip)))) | (refine brB_split (fun hb => ?_) (fun hb => ?_) <;> (first | contradiction | exact absurd (hb.symm.trans (by assumption) : false = true) (by decide) | exact absurd (hb.symm.trans (by assumption) : true = false) (by decide) | skip))) <;> (conv => whnf)))
      exact ⟨(j + 1, cmpC x z), ⟨by dsimp only; omega, by dsimp only; omega, hn⟩, by dsimp only; omega, by repeat' (first | exact trivial | exact rfl | refine And.intro ?_ ?_), trivial⟩
    · by_cases hn0 : n = 0
      · subst hn0
        have hlt2 : ¬ (j < c.parts.length ∧ j < d.parts.length) := fun h => hlt ⟨rfl, h⟩
        rw [if_neg (by simp), cmpL_end hj hjd hlt2] at hn
        rw [← hn]
        ((conv => whnf); repeat' ((first | (intro hq; (try simp only [lnS] at hq); (try rewrite [List.length_map])) | refine sJ ?_ | refine Exists.intro _ (And.intro rfl ?_) | (refine Exists.intro (show (_ : Nat) < List.length _ from by first | omega | (simp only [List.length_cons, List.length_nil]; omega) | simp) ?_) | (refine call_tri [] o5 trivial (fun r hs => ?_); subst hs) | refine draw_rule hty (by kernel_rfl) (by kernel_rfl) ?_ | ((first | refine brB_dec (fun hb => ?_) (fun hb => ?_) | refine brB_ndec (fun hb => ?_) (fun hb => ?_)) <;> (first | contradiction | ((try simp only [lnS] at hb); (first | (exfalso; omega) | skip)))) | (refine brB_split (fun hb => ?_) (fun hb => ?_) <;> (first | contradiction | exact absurd (hb.symm.trans (by assumption) : false = true) (by decide) | exact absurd (hb.symm.trans (by assumption) : true = false) (by decide) | skip))) <;> (conv => whnf)))
        all_goals rfl
      · rw [if_pos hn0] at hn
        ((conv => whnf); repeat' ((first | (intro hq; (try simp only [lnS] at hq); (try rewrite [List.length_map])) | refine sJ ?_ | refine Exists.intro _ (And.intro rfl ?_) | (refine Exists.intro (show (_ : Nat) < List.length _ from by first | omega | (simp only [List.length_cons, List.length_nil]; omega) | simp) ?_) | fail | refine draw_rule hty (by kernel_rfl) (by kernel_rfl) ?_ | ((first | refine brB_dec (fun hb => ?_) (fun hb => ?_) | refine brB_ndec (fun hb => ?_) (fun hb => ?_)) <;> (first | contradiction | ((try simp only [lnS] at hb); (first | (exfalso; omega) | skip)))) | (refine brB_split (fun hb => ?_) (fun hb => ?_) <;> (first | contradiction | exact absurd (hb.symm.trans (by assumption) : false = true) (by decide) | exact absurd (hb.symm.trans (by assumption) : true = false) (by decide) | skip))) <;> (conv => whnf)))
        exact int_eq hn
  all_goals
    refine loop_rule hty (fun _ : Unit => ([(2, .ea 5 [[.int .i64 c.kind, .str c.name, .int .i64 c.lo, .int .i64 c.hi, .sl 5 (c.parts.map cnR)]] 0 0), (3, .ea 5 [[.int .i64 d.kind, .str d.name, .int .i64 d.lo, .int .i64 d.hi, .sl 5 (d.parts.map cnR)]] 0 0), (5, .d (.int .i64 _)), (6, .d (.int .i64 0))], [])) (fun _ => True) (fun _ => 0) () trivial ⟨by repeat' (first | exact trivial | exact rfl | exact ⟨rfl, rfl⟩ | refine And.intro ?_ ?_), trivial⟩ ?_
    rintro ⟨⟩ _
    ((conv => whnf); repeat' ((first | (intro hq; (try simp only [lnS] at hq); (try rewrite [List.length_map])) | refine sJ ?_ | refine Exists.intro _ (And.intro rfl ?_) | (refine Exists.intro (show (_ : Nat) < List.length _ from by first | omega | (simp only [List.length_cons, List.length_nil]; omega) | simp) ?_) | fail | refine draw_rule hty (by kernel_rfl) (by kernel_rfl) ?_ | ((first | refine brB_dec (fun hb => ?_) (fun hb => ?_) | refine brB_ndec (fun hb => ?_) (fun hb => ?_)) <;> (first | contradiction | ((try simp only [lnS] at hb); (first | (exfalso; omega) | skip)))) | (refine brB_split (fun hb => ?_) (fun hb => ?_) <;> (first | contradiction | exact absurd (hb.symm.trans (by assumption) : false = true) (by decide) | exact absurd (hb.symm.trans (by assumption) : true = false) (by decide) | skip))) <;> (conv => whnf)))
    refine int_eq (Eq.symm ?_)
    simp [orF, *]
end Go.Proofs.YtkbmlchceiglfaaGreatDoor

namespace Go.Proofs.YtkbmlchceiglfaaGreatDoor
set_option linter.unnecessarySimpa false
set_option linter.unusedSectionVars false
set_option linter.unusedSimpArgs false
set_option linter.unusedVariables false
open Go.Proofs
set_option maxRecDepth 10000
attribute [local irreducible] SemVC CallVC Tri Stuck

set_option maxHeartbeats 2000000 in
theorem rkeyword_spec (s : List UInt8) : Tri Tryz.prog 108 [.d (.str s)] [] (fun r => r = .d (.bool (kwF s))) := by
  refine tri_of_body hty Tryz.func108 rfl (kp [0, 2, 3, 4]) [] _ _ _ (by simp [Tryz.f108]) (by simp) ?_
  ((conv => whnf); repeat' ((first | (intro hq; try simp only [lnS] at hq) | refine sJ ?_ | refine Exists.intro _ (And.intro rfl ?_) | (refine Exists.intro (show (_ : Nat) < List.length _ from by first | omega | (simp only [List.length_cons, List.length_nil]; omega) | simp) ?_) | refine draw_rule hty (by kernel_rfl) (by kernel_rfl) ?_ | ((first | refine brB_dec (fun hb => ?_) (fun hb => ?_) | refine brB_ndec (fun hb => ?_) (fun hb => ?_)) <;> (first | contradiction | ((try simp only [lnS] at hb); (first | (exfalso; omega) | skip)))) | (refine brB_split (fun hb => ?_) (fun hb => ?_) <;> (first | contradiction | exact absurd (hb.symm.trans (by assumption) : false = true) (by decide) | exact absurd (hb.symm.trans (by assumption) : true = false) (by decide) | skip))) <;> (conv => whnf)))
  all_goals first | (rename_i hb; subst hb; rfl) | skip
  have : kwF s = false := by simp [kwF, kws, *]
  rw [this]; rfl
end Go.Proofs.YtkbmlchceiglfaaGreatDoor
