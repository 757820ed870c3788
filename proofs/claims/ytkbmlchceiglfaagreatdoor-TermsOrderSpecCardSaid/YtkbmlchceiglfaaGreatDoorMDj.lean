/-
  Terms: the reference's Vocabulary, walked.
  Conditions: none.
-/
import Derived.Test.YtkbmlchceiglfaaGreatDoorMGr
import Derived.Test.YtkbmlchceiglfaaGreatDoorMDe
namespace Go.Proofs.YtkbmlchceiglfaaGreatDoor
set_option linter.unnecessarySimpa false
set_option linter.unusedSectionVars false
set_option linter.unusedSimpArgs false
set_option linter.unusedVariables false
open Go.Proofs
set_option maxRecDepth 10000
/-- Cells of which less is said. -/
theorem SemVC.recell {C : Cfg} {c : Code} {fr : Fr} {hp : Hp} {K : Ex → Fr → Hp → Prop} (i t : Nat) (cs cs' : List SV) (hi : getH hp i = some (.cells t cs)) (hw : WkSL cs cs') (h : SemVC C c fr (setH hp i (.cells t cs')) K) : SemVC C c fr hp K := by
  intro E a w hpin hrd hsat
  obtain ⟨h1, h2, ρ, h3, h4⟩ := hsat
  obtain ⟨e1, e2⟩ := WkSL_at _ _ hw
  exact h E a w hpin hrd ⟨h1, h2, ρ, h3.recell hi e1.symm (fun j s' v hs' hv => by
    obtain ⟨x, x1, x2⟩ := e2 j s' hs'
    exact WkS_ok x2 (hv x x1)), h4⟩

attribute [local irreducible] SemVC CallVC Tri Stuck YVC GenP GenVC

theorem wR0_num (v : Nm) (s : List UInt8) : numN (wR0 v s) ≤ numN v + 1 := by
  have := wR_num v s
  unfold wR0; split <;> omega
theorem wI0_num (v : Nm) (s : List UInt8) : numN (wI0 v s) ≤ numN v + 1 := by
  have := wI_num v s
  unfold wI0; split <;> omega

/-- The names met so far, at each step of an axiom, are not too many. -/
theorem wX_num {x : Ax} (h : axiomE x = 0) (v : Nm) : numN (wX v x) ≤ numN v + 140 := by
  obtain ⟨h1, h2, h3⟩ := axiomE_bnd h
  have a1 := wS_num v x.left
  have a2 := wS_num (wS v x.left) x.right
  have a3 := wR0_num (wS (wS v x.left) x.right) x.role
  have a4 := fold_num wR 1 wR_num x.roles (wR0 (wS (wS v x.left) x.right) x.role)
  have a5 := wI0_num (x.roles.foldl wR (wR0 (wS (wS v x.left) x.right) x.role)) x.a
  have a6 := wI0_num (wI0 (x.roles.foldl wR (wR0 (wS (wS v x.left) x.right) x.role)) x.a) x.b
  unfold wX
  omega

theorem wV_num : ∀ (l : List Ax) (v : Nm), (∀ x ∈ l, axiomE x = 0) → numN (l.foldl wX v) ≤ numN v + l.length * 140
  | [], v, _ => by simp
  | x :: r, v, h => by
    have h1 := wV_num r (wX v x) fun y hy => h y (List.mem_cons_of_mem _ hy)
    have h2 := wX_num (h x (List.mem_cons_self ..)) v
    rw [List.foldl_cons, List.length_cons]
    omega

set_option maxHeartbeats 16000000 in
theorem rVocabulary_spec (l : List Ax) (hl : l.length ≤ 5000) (hs : ∀ x ∈ l, sizeF x.left ≤ 1000000 ∧ sizeF x.right ≤ 1000000) : Tri Tryz.prog 13 [.d (.sl 16 (l.map axR))] [] (fun r => r = .tup [.d (.agg (nmR (rvocR l).1)), .d (.int .i64 (rvocR l).2)]) := by
  refine Tri.pairN ?_
  refine tri_of_bodyF false [6] hty Tryz.func13 rfl (kp [0, 2, 3, 4, 5, 6, 7, 8, 13, 23, 35, 46, 60, 69]) [] _ _ _ (by simp [Tryz.f13]) (by simp) ?_
  ((conv => whnf); repeat ((first | (intro hq; try simp only [lnS] at hq) | refine sI ?_ | refine Exists.intro _ (And.intro rfl ?_)); (conv => whnf)))
  refine SemVC.recell 4 34 [.d .nil, .d .nil, .d .nil, .d .nil] [.d (strl []), .d (strl []), .d (strl []), .d (strl [])] rfl ⟨rfl, rfl, rfl, rfl, trivial⟩ ?_
  refine loop_rule hty (fun y : Nat × List (List UInt8) × List (List UInt8) × List (List UInt8) × List (List UInt8) => ([(0, .d (.sl 16 (l.map axR))), (2, .ptr 2 0), (3, .d (.int .i64 0)), (4, .ptr 4 0), (5, .d (.int .i64 y.1))], [(4, .cells 34 [.d (strl y.2.1), .d (strl y.2.2.1), .d (strl y.2.2.2.1), .d (strl y.2.2.2.2)]), (2, .cells 34 [.d .nil, .d .nil, .d .nil, .d .nil])])) (fun y => y.1 ≤ l.length ∧ (∀ x ∈ l.take y.1, axiomE x = 0) ∧ Nm.mk y.2.1 y.2.2.1 y.2.2.2.1 y.2.2.2.2 = wV (l.take y.1)) (fun y => l.length - y.1) (0, [], [], [], []) ⟨Nat.zero_le _, by simp, rfl⟩ ⟨by repeat' (first | exact trivial | exact rfl | refine And.intro ?_ ?_), by repeat' (first | exact trivial | exact rfl | refine And.intro ?_ ?_)⟩ ?_
  rintro ⟨j, A, B, C, E⟩ ⟨hj, hz, hV⟩
  dsimp only at hj hz hV
  generalize hW : Nm.mk A B C E = V at hV
  have hA : A = V.a := by rw [← hW]
  have hB : B = V.b := by rw [← hW]
  have hC : C = V.c := by rw [← hW]
  have hE : E = V.d := by rw [← hW]
  subst hA; subst hB; subst hC; subst hE
  ((conv => whnf); repeat ((first | (intro hq; try simp only [lnS] at hq) | refine sI ?_ | refine Exists.intro _ (And.intro rfl ?_)); (conv => whnf)))
  refine brB_dec (fun h1 => ?_) (fun h1 => ?_)
  · have hjl : j < l.length := by simp only [List.length_map] at h1; omega
    have hrow : (l.map axR)[(j : Int).toNat]? = some (axR l[j]) := rowC_at hjl
    have hsz := hs _ (List.getElem_mem hjl)
    have hc := rCheckAxiom_spec l[j] hsz.1 hsz.2
    have hn := wV_num (l.take j) ⟨[], [], [], []⟩ hz
    have hn : numN V ≤ 700000 := by
      rw [hV]
      have e : numN (⟨[], [], [], []⟩ : Nm) = 0 := rfl
      have e2 : (l.take j).length ≤ 5000 := by rw [List.length_take]; omega
      have e3 : wV (l.take j) = (l.take j).foldl wX ⟨[], [], [], []⟩ := rfl
      rw [e3]
      omega
    have hvt : wV (l.take (j + 1)) = wX V l[j] := by
      rw [wV, List.take_succ_eq_append_getElem hjl, List.foldl_append, hV]; rfl
    by_cases h2 : axiomE l[j] = 0
    · have hzn : ∀ x ∈ l.take (j + 1), axiomE x = 0 := fun x hx => by
        rw [List.take_succ_eq_append_getElem hjl] at hx
        rcases List.mem_append.1 hx with hx | hx
        · exact hz x hx
        · simp at hx; subst hx; exact h2
      rw [h2] at hc
      have hbnd := axiomE_bnd h2
      generalize l[j] = x at hrow hc hvt hbnd h2
      clear hs hsz
      obtain ⟨b1, b2, b3⟩ := hbnd
      have hn1 := wS_num V x.left
      have n1 := rNames_spec x.left V (by omega)
      have n2 := rNames_spec x.right (wS V x.left) (by omega)
      have hn2 := wS_num (wS V x.left) x.right
      rw [cnR_eq] at n1 n2
      unfold wX at hvt
      generalize hV1 : wS V x.left = V1 at *
      generalize hV2 : wS V1 x.right = V2 at *
      have hn3 := wR0_num V2 x.role
      obtain ⟨l1, l2, l3, l4⟩ := num_le (show numN V2 ≤ 1000000 by omega)
      have w1 := rWith_spec V2.b x.role l2
      ((conv => whnf); repeat ((first | (refine ⟨_, hrow, ?_⟩) | (refine call_tri [] hc trivial (fun r hs => ?_); subst hs) | (intro hq; try simp only [lnS] at hq) | refine sI ?_ | refine Exists.intro _ (And.intro rfl ?_)); (conv => whnf)))
      refine SemVC.mid [(0, .d (.sl 16 (l.map axR))), (2, .ptr 2 0), (3, .d (.int .i64 0)), (4, .ptr 4 0), (5, .d (.int .i64 j)), (6, .ea 16 [axR x] 0 0)] [(4, .cells 34 ((nmR V2).map .d)), (2, .cells 34 [.d .nil, .d .nil, .d .nil, .d .nil])] ?_ ?_
      · refine ord_rule hty [0, 1, 2, 4, 5, 3, 6, 7] (by kernel_rfl) (by kernel_rfl) ?_
        ((conv => whnf); repeat ((first | (refine ⟨[], (fun r => r = .d (.agg (nmR V1))), trivial, n1, fun r hs => ?_⟩; subst hs) | (refine ⟨[], (fun r => r = .d (.agg (nmR V2))), trivial, n2, fun r hs => ?_⟩; subst hs) | (intro hq; try simp only [lnS] at hq) | refine sI ?_ | refine Exists.intro _ (And.intro rfl ?_)); (conv => whnf)))
        exact ⟨by repeat' (first | exact trivial | exact rfl | refine And.intro ?_ ?_), by repeat' (first | exact trivial | exact rfl | refine And.intro ?_ ?_)⟩
      ((conv => whnf); repeat' ((first | (intro hq; (try simp only [lnS] at hq); (try rewrite [List.length_map])) | refine sJ ?_ | refine Exists.intro _ (And.intro rfl ?_) | (refine Exists.intro (show (_ : Nat) < List.length _ from by first | omega | (simp only [List.length_cons, List.length_nil]; omega) | simp) ?_) | (refine call_tri [] w1 trivial (fun r hs => ?_); subst hs) | refine draw_rule hty (by kernel_rfl) (by kernel_rfl) ?_ | ((first | refine brB_dec (fun hb => ?_) (fun hb => ?_) | refine brB_ndec (fun hb => ?_) (fun hb => ?_)) <;> (first | contradiction | ((try simp only [lnS] at hb); (first | (exfalso; omega) | skip)))) | (refine brB_split (fun hb => ?_) (fun hb => ?_) <;> (first | contradiction | exact absurd (hb.symm.trans (by assumption) : false = true) (by decide) | exact absurd (hb.symm.trans (by assumption) : true = false) (by decide) | skip))) <;> (conv => whnf)))
      all_goals (
        clear w1 n1 n2
        refine loop_rule hty (fun y : Nat × List (List UInt8) × List (List UInt8) × List (List UInt8) × List (List UInt8) => ([(0, .d (.sl 16 (l.map axR))), (2, .ptr 2 0), (3, .d (.int .i64 0)), (4, .ptr 4 0), (5, .d (.int .i64 j)), (6, .ea 16 [axR x] 0 0), (8, .d (.int .i64 y.1))], [(4, .cells 34 [.d (strl y.2.1), .d (strl y.2.2.1), .d (strl y.2.2.2.1), .d (strl y.2.2.2.2)]), (2, .cells 34 [.d .nil, .d .nil, .d .nil, .d .nil])])) (fun y => y.1 ≤ x.roles.length ∧ Nm.mk y.2.1 y.2.2.1 y.2.2.2.1 y.2.2.2.2 = (x.roles.take y.1).foldl wR (wR0 V2 x.role)) (fun y => x.roles.length - y.1) (0, _, _, _, _) ?_ ⟨by repeat' (first | exact trivial | exact rfl | exact ⟨rfl, rfl⟩ | refine And.intro ?_ ?_), by repeat' (first | exact trivial | exact rfl | exact ⟨rfl, rfl⟩ | refine And.intro ?_ ?_)⟩ ?_
        · refine ⟨Nat.zero_le _, ?_⟩
          show _ = wR0 V2 x.role
          unfold wR0
          simp [*, wR, withF]
        rintro ⟨k, A, B, C, E⟩ ⟨hk, hU⟩
        dsimp only at hk hU
        generalize hW2 : Nm.mk A B C E = U at hU
        have hA : A = U.a := by rw [← hW2]
        have hB : B = U.b := by rw [← hW2]
        have hC : C = U.c := by rw [← hW2]
        have hE : E = U.d := by rw [← hW2]
        subst hA; subst hB; subst hC; subst hE
        have hf := fold_num wR 1 wR_num (x.roles.take k) (wR0 V2 x.role)
        rw [← hU] at hf
        have hkt : (x.roles.take k).length ≤ 4 := by rw [List.length_take]; omega
        obtain ⟨u1, u2, u3, u4⟩ := num_le (show numN U ≤ 1000000 by omega)
        ((conv => whnf); repeat ((first | (intro hq; try simp only [lnS] at hq) | refine sI ?_ | refine Exists.intro _ (And.intro rfl ?_)); (conv => whnf)))
        refine brB_dec (fun h4 => ?_) (fun h4 => ?_)
        · have hkl : k < x.roles.length := by simp only [List.length_map] at h4; omega
          have hrow2 : (x.roles.map strR)[(k : Int).toNat]? = some (strR x.roles[k]) := rowC_at hkl
          have hw := rWith_spec U.b x.roles[k] u2
          have hnx : Nm.mk U.a (withF U.b x.roles[k]) U.c U.d = (x.roles.take (k + 1)).foldl wR (wR0 V2 x.role) := by
            rw [List.take_succ_eq_append_getElem hkl, List.foldl_append, ← hU]; rfl
          generalize x.roles[k] = s at hrow2 hw hnx
          ((conv => whnf); repeat ((first | (intro hq; try simp only [lnS] at hq) | refine sI ?_ | refine Exists.intro _ (And.intro rfl ?_)); (conv => whnf)))
          refine ord_rule hty [0, 1, 2, 3, 4, 5, 6, 7, 8, 9] (by kernel_rfl) (by kernel_rfl) ?_
          ((conv => whnf); repeat ((first | (refine ⟨_, hrow2, ?_⟩) | (refine ⟨[], (fun r => r = .d (strl (withF U.b s))), trivial, hw, fun r hs => ?_⟩; subst hs) | (intro hq; try simp only [lnS] at hq) | refine sI ?_ | refine Exists.intro _ (And.intro rfl ?_)); (conv => whnf)))
          exact ⟨(k + 1, U.a, withF U.b s, U.c, U.d), ⟨by dsimp only; omega, hnx⟩, by dsimp only; omega, ⟨by repeat' (first | exact trivial | exact rfl | refine And.intro ?_ ?_), by repeat' (first | exact trivial | exact rfl | refine And.intro ?_ ?_)⟩⟩
        · have hkl : k = x.roles.length := by simp only [List.length_map] at h4; omega
          subst hkl
          rw [List.take_length] at hU
          rw [← hU] at hvt
          have w2 := rWith_spec U.d x.a u4
          have hn4 := wI0_num U x.a
          have w3 := rWith_spec (wI0 U x.a).d x.b (by have := num_le (show numN (wI0 U x.a) ≤ 1000000 by omega); omega)
          by_cases ha : x.a = [] <;> by_cases hbn : x.b = []
          · have e1 : wI0 U x.a = U := by unfold wI0; simp [ha]
            rw [e1] at hvt w3
            have hvt2 : Nm.mk U.a U.b U.c (U.d) = wV (l.take (j + 1)) := by
              rw [hvt]
              unfold wI0
              simp [*, wI, withF]
            ((conv => whnf); repeat' ((first | (intro hq; (try simp only [lnS] at hq); (try rewrite [List.length_map])) | refine sJ ?_ | refine Exists.intro _ (And.intro rfl ?_) | (refine Exists.intro (show (_ : Nat) < List.length _ from by first | omega | (simp only [List.length_cons, List.length_nil]; omega) | simp) ?_) | (refine call_tri [] w2 trivial (fun r hs => ?_); subst hs) | (refine call_tri [] w3 trivial (fun r hs => ?_); subst hs) | refine draw_rule hty (by kernel_rfl) (by kernel_rfl) ?_ | ((first | refine brB_dec (fun hb => ?_) (fun hb => ?_) | refine brB_ndec (fun hb => ?_) (fun hb => ?_)) <;> (first | contradiction | ((try simp only [lnS] at hb); (first | (exfalso; omega) | skip)))) | (refine brB_split (fun hb => ?_) (fun hb => ?_) <;> (first | contradiction | exact absurd (hb.symm.trans (by assumption) : false = true) (by decide) | exact absurd (hb.symm.trans (by assumption) : true = false) (by decide) | skip))) <;> (conv => whnf)))
            all_goals first
              | (exfalso; simp_all; done)
              | exact ⟨(j + 1, U.a, U.b, U.c, U.d), ⟨by dsimp only; omega, hzn, hvt2⟩, by dsimp only; omega, ⟨by repeat' (first | exact trivial | exact rfl | refine And.intro ?_ ?_), by repeat' (first | exact trivial | exact rfl | refine And.intro ?_ ?_)⟩⟩
          · have e1 : wI0 U x.a = U := by unfold wI0; simp [ha]
            rw [e1] at hvt w3
            have hvt2 : Nm.mk U.a U.b U.c (withF (U.d) x.b) = wV (l.take (j + 1)) := by
              rw [hvt]
              unfold wI0
              simp [*, wI, withF]
            ((conv => whnf); repeat' ((first | (intro hq; (try simp only [lnS] at hq); (try rewrite [List.length_map])) | refine sJ ?_ | refine Exists.intro _ (And.intro rfl ?_) | (refine Exists.intro (show (_ : Nat) < List.length _ from by first | omega | (simp only [List.length_cons, List.length_nil]; omega) | simp) ?_) | (refine call_tri [] w2 trivial (fun r hs => ?_); subst hs) | (refine call_tri [] w3 trivial (fun r hs => ?_); subst hs) | refine draw_rule hty (by kernel_rfl) (by kernel_rfl) ?_ | ((first | refine brB_dec (fun hb => ?_) (fun hb => ?_) | refine brB_ndec (fun hb => ?_) (fun hb => ?_)) <;> (first | contradiction | ((try simp only [lnS] at hb); (first | (exfalso; omega) | skip)))) | (refine brB_split (fun hb => ?_) (fun hb => ?_) <;> (first | contradiction | exact absurd (hb.symm.trans (by assumption) : false = true) (by decide) | exact absurd (hb.symm.trans (by assumption) : true = false) (by decide) | skip))) <;> (conv => whnf)))
            all_goals first
              | (exfalso; simp_all; done)
              | exact ⟨(j + 1, U.a, U.b, U.c, withF (U.d) x.b), ⟨by dsimp only; omega, hzn, hvt2⟩, by dsimp only; omega, ⟨by repeat' (first | exact trivial | exact rfl | refine And.intro ?_ ?_), by repeat' (first | exact trivial | exact rfl | refine And.intro ?_ ?_)⟩⟩
          · have e1 : wI0 U x.a = wI U x.a := by unfold wI0; simp [ha]
            rw [e1] at hvt w3
            have hvt2 : Nm.mk U.a U.b U.c (withF U.d x.a) = wV (l.take (j + 1)) := by
              rw [hvt]
              unfold wI0
              simp [*, wI, withF]
            ((conv => whnf); repeat' ((first | (intro hq; (try simp only [lnS] at hq); (try rewrite [List.length_map])) | refine sJ ?_ | refine Exists.intro _ (And.intro rfl ?_) | (refine Exists.intro (show (_ : Nat) < List.length _ from by first | omega | (simp only [List.length_cons, List.length_nil]; omega) | simp) ?_) | (refine call_tri [] w2 trivial (fun r hs => ?_); subst hs) | (refine call_tri [] w3 trivial (fun r hs => ?_); subst hs) | refine draw_rule hty (by kernel_rfl) (by kernel_rfl) ?_ | ((first | refine brB_dec (fun hb => ?_) (fun hb => ?_) | refine brB_ndec (fun hb => ?_) (fun hb => ?_)) <;> (first | contradiction | ((try simp only [lnS] at hb); (first | (exfalso; omega) | skip)))) | (refine brB_split (fun hb => ?_) (fun hb => ?_) <;> (first | contradiction | exact absurd (hb.symm.trans (by assumption) : false = true) (by decide) | exact absurd (hb.symm.trans (by assumption) : true = false) (by decide) | skip))) <;> (conv => whnf)))
            all_goals first
              | (exfalso; simp_all; done)
              | exact ⟨(j + 1, U.a, U.b, U.c, withF U.d x.a), ⟨by dsimp only; omega, hzn, hvt2⟩, by dsimp only; omega, ⟨by repeat' (first | exact trivial | exact rfl | refine And.intro ?_ ?_), by repeat' (first | exact trivial | exact rfl | refine And.intro ?_ ?_)⟩⟩
          · have e1 : wI0 U x.a = wI U x.a := by unfold wI0; simp [ha]
            rw [e1] at hvt w3
            have hvt2 : Nm.mk U.a U.b U.c (withF (withF U.d x.a) x.b) = wV (l.take (j + 1)) := by
              rw [hvt]
              unfold wI0
              simp [*, wI, withF]
            ((conv => whnf); repeat' ((first | (intro hq; (try simp only [lnS] at hq); (try rewrite [List.length_map])) | refine sJ ?_ | refine Exists.intro _ (And.intro rfl ?_) | (refine Exists.intro (show (_ : Nat) < List.length _ from by first | omega | (simp only [List.length_cons, List.length_nil]; omega) | simp) ?_) | (refine call_tri [] w2 trivial (fun r hs => ?_); subst hs) | (refine call_tri [] w3 trivial (fun r hs => ?_); subst hs) | refine draw_rule hty (by kernel_rfl) (by kernel_rfl) ?_ | ((first | refine brB_dec (fun hb => ?_) (fun hb => ?_) | refine brB_ndec (fun hb => ?_) (fun hb => ?_)) <;> (first | contradiction | ((try simp only [lnS] at hb); (first | (exfalso; omega) | skip)))) | (refine brB_split (fun hb => ?_) (fun hb => ?_) <;> (first | contradiction | exact absurd (hb.symm.trans (by assumption) : false = true) (by decide) | exact absurd (hb.symm.trans (by assumption) : true = false) (by decide) | skip))) <;> (conv => whnf)))
            all_goals first
              | (exfalso; simp_all; done)
              | exact ⟨(j + 1, U.a, U.b, U.c, withF (withF U.d x.a) x.b), ⟨by dsimp only; omega, hzn, hvt2⟩, by dsimp only; omega, ⟨by repeat' (first | exact trivial | exact rfl | refine And.intro ?_ ?_), by repeat' (first | exact trivial | exact rfl | refine And.intro ?_ ?_)⟩⟩)
    · ((conv => whnf); repeat ((first | (refine ⟨_, hrow, ?_⟩) | (refine call_tri [] hc trivial (fun r hs => ?_); subst hs) | (intro hq; try simp only [lnS] at hq) | refine sI ?_ | refine Exists.intro _ (And.intro rfl ?_)); (conv => whnf)))
      refine brB_ndec (fun h3 => ?_) (fun h3 => ?_)
      · have hv : rvocR l = (⟨[], [], [], []⟩, axiomE l[j]) := by
          rw [rvocR, firstA_err hjl hz h2, if_pos h2]
        rw [hv]
        ((conv => whnf); repeat' ((first | (intro hq; (try simp only [lnS] at hq); (try rewrite [List.length_map])) | refine sJ ?_ | refine Exists.intro _ (And.intro rfl ?_) | (refine Exists.intro (show (_ : Nat) < List.length _ from by first | omega | (simp only [List.length_cons, List.length_nil]; omega) | simp) ?_) | fail | refine draw_rule hty (by kernel_rfl) (by kernel_rfl) ?_ | ((first | refine brB_dec (fun hb => ?_) (fun hb => ?_) | refine brB_ndec (fun hb => ?_) (fun hb => ?_)) <;> (first | contradiction | ((try simp only [lnS] at hb); (first | (exfalso; omega) | skip)))) | (refine brB_split (fun hb => ?_) (fun hb => ?_) <;> (first | contradiction | exact absurd (hb.symm.trans (by assumption) : false = true) (by decide) | exact absurd (hb.symm.trans (by assumption) : true = false) (by decide) | skip))) <;> (conv => whnf)))
        exact zeroN _
      · exact absurd h3 h2
  · have hjl : j = l.length := by simp only [List.length_map] at h1; omega
    subst hjl
    rw [List.take_length] at hz hV
    have hv : rvocR l = (wV l, 0) := by rw [rvocR, firstA_ok hz, if_neg (by simp)]
    rw [hv, ← hV]
    ((conv => whnf); repeat' ((first | (intro hq; (try simp only [lnS] at hq); (try rewrite [List.length_map])) | refine sJ ?_ | refine Exists.intro _ (And.intro rfl ?_) | (refine Exists.intro (show (_ : Nat) < List.length _ from by first | omega | (simp only [List.length_cons, List.length_nil]; omega) | simp) ?_) | fail | refine draw_rule hty (by kernel_rfl) (by kernel_rfl) ?_ | ((first | refine brB_dec (fun hb => ?_) (fun hb => ?_) | refine brB_ndec (fun hb => ?_) (fun hb => ?_)) <;> (first | contradiction | ((try simp only [lnS] at hb); (first | (exfalso; omega) | skip)))) | (refine brB_split (fun hb => ?_) (fun hb => ?_) <;> (first | contradiction | exact absurd (hb.symm.trans (by assumption) : false = true) (by decide) | exact absurd (hb.symm.trans (by assumption) : true = false) (by decide) | skip))) <;> (conv => whnf)))
    exact ⟨_, rfl, .inl rfl⟩
end Go.Proofs.YtkbmlchceiglfaaGreatDoor
