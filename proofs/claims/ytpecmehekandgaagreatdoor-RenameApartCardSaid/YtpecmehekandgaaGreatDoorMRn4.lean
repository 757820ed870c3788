/-
  RenameApart, walked. RenameBack, walked.
  Conditions: none.
-/
import Derived.Test.YtpecmehekandgaaGreatDoorMRn2
set_option linter.unnecessarySimpa false
set_option linter.unusedSectionVars false
set_option linter.unusedSimpArgs false
set_option linter.unusedVariables false
namespace Go.Proofs.YtpecmehekandgaaGreatDoor
open Go.Proofs
set_option maxRecDepth 10000
attribute [local irreducible] SemVC CallVC Tri Stuck YVC GenP GenVC
def vocD (v : Nm) : List (List D) := [[strl v.a], [strl v.b], [strl v.c], [strl v.d]]
theorem vocD_at (v : Nm) {k : Nat} (h : k < 4) : (vocD v)[(k : Int).toNat]? = some [strl (lst v k)] := by
  have h9 : k = 0 ∨ k = 1 ∨ k = 2 ∨ k = 3 := by omega
  rcases h9 with rfl | rfl | rfl | rfl <;> rfl
theorem any_take {α : Type} {p : α → Bool} {l : List α} {j : Nat} (h : j < l.length) : (l.take (j + 1)).any p = ((l.take j).any p || p l[j]) := by
  rw [List.take_succ_eq_append_getElem h, List.any_append]; simp
set_option maxHeartbeats 32000000 in
theorem apart_spec (l : List Rn) (xs : List Ax) : Tri Tryz.prog 7 [.d (rnL l), .d (.sl 16 (xs.map axR))] NG (fun r => r = .d (.bool true)) := by
  have hfew := lFew_spec (l.map rnR) (xs.map axR)
  have hfx : fewRX (l.map rnR).length (xs.map axR).length = true → l.length ≤ 20 ∧ xs.length ≤ 20 := by
    intro h
    unfold fewRX at h
    simp only [List.length_map, Bool.and_eq_true, decide_eq_true_eq] at h
    exact h
  generalize fewRX (l.map rnR).length (xs.map axR).length = fw at hfew hfx
  have hfew : Tri Tryz.prog 10 [.d (rnL l), .d (.sl 16 (xs.map axR))] [] (fun r => r = .d (.bool fw)) := hfew
  refine tri_of_bodyF false [7, 9] hty Tryz.func7 rfl (kp [0, 1, 4, 5, 6, 7, 8, 9, 10, 11, 12, 13, 14, 16, 17, 19, 21, 25, 33, 59, 61, 62, 63, 88, 107, 108, 109, 110, 114, 115, 116, 117, 123, 124, 125, 126, 141]) [] _ _ _ (by simp [Tryz.f7]) (by decide) ?_
  ((conv => whnf); repeat ((first | (intro hq; try simp only [lnS] at hq) | refine sI ?_ | refine .intro _ (.intro rfl ?_)); (conv => whnf)))
  refine call_tri NG rsane_spec ⟨rfl, rfl, trivial⟩ (fun r hs => ?_)
  subst hs
  ((conv => whnf); repeat ((first | (intro hq; try simp only [lnS] at hq) | refine sI ?_ | refine .intro _ (.intro rfl ?_)); (conv => whnf)))
  refine call_tri [] hfew trivial (fun r hs => ?_)
  subst hs
  cases fw with
  | false =>
    ((conv => whnf); repeat' ((first | (intro hq; (try simp only [lnS] at hq); (try rewrite [List.length_map])) | refine sJ ?_ | refine .intro _ (.intro rfl ?_) | (refine .intro (show (_ : Nat) < List.length _ from by first | omega | (simp only [lnS]; omega) | simp) ?_) | fail | refine draw_rule hty (by kernel_rfl) (by kernel_rfl) ?_ | ((first | refine brB_dec ?_ ?_ | refine brB_ndec ?_ ?_) <;> intro hb <;> (first | contradiction | ((try simp only [lnS] at hb); try (exfalso; omega)))) | (refine brB_split ?_ ?_ <;> intro hb <;> (first | contradiction | exact bT hb (by assumption) | exact bF hb (by assumption) | skip))) <;> (conv => whnf)))
    all_goals rfl
  | true =>
    obtain ⟨hl20, hx20⟩ := hfx rfl
    have ka := rnAxioms_spec l xs (by omega)
    have la := axmR_len l xs
    by_cases he : (axmR l xs).2 = 0
    · obtain ⟨f1, f2⟩ := axm_firsts he
      have hat := fun (j : Nat) (hj : j < xs.length) => axm_at he hj
      have hap := fun (n : Nat) (hn : n < 4) (s : List UInt8) hs => axm_apart he hn (s := s) hs
      have hYl : (axmR l xs).1.length = xs.length := by rw [(axmR_ok he).2.2.2, List.length_map]
      rw [he] at ka
      generalize (axmR l xs).1 = Y at *
      have v1 := Vocabulary_spec xs (by omega)
      have v2 := Vocabulary_spec Y (by omega)
      rw [show vocR xs = (vocN xs, 0) by rw [vocR, if_neg (by omega)]] at v1
      rw [show vocR Y = (vocN Y, 0) by rw [vocR, if_neg (by omega)]] at v2
      generalize vocN xs = N at *
      generalize vocN Y = M at *
      ((conv => whnf); repeat ((first | (intro hq; try simp only [lnS] at hq) | refine sI ?_ | refine .intro _ (.intro rfl ?_)); (conv => whnf)))
      refine call_tri NG ka ⟨rfl, rfl, trivial⟩ (fun r hs => ?_)
      subst hs
      ((conv => whnf); repeat' ((first | (intro hq; (try simp only [lnS] at hq); (try rewrite [List.length_map])) | refine sJ ?_ | refine .intro _ (.intro rfl ?_) | (refine .intro (show (_ : Nat) < List.length _ from by first | omega | (simp only [lnS]; omega) | simp) ?_) | (refine call_tri NG v1 ⟨rfl, rfl, trivial⟩ (fun r hs => ?_); subst hs) | (refine call_tri NG v2 ⟨rfl, rfl, trivial⟩ (fun r hs => ?_); subst hs) | refine draw_rule hty (by kernel_rfl) (by kernel_rfl) ?_ | ((first | refine brB_dec ?_ ?_ | refine brB_ndec ?_ ?_) <;> intro hb <;> (first | contradiction | ((try simp only [lnS] at hb); try (exfalso; omega)))) | (refine brB_split ?_ ?_ <;> intro hb <;> (first | contradiction | exact bT hb (by assumption) | exact bF hb (by assumption) | skip))) <;> (conv => whnf)))
      refine loop_rule hty (fun j : Nat => ([(0, .d (rnL l)), (1, .d (.sl 16 (xs.map axR))), (5, .d (.sl 16 (Y.map axR))), (7, .ea 4 [nmR N] 0 0), (9, .ea 4 [nmR M] 0 0), (61, .d (.int .i64 xs.length)), (62, .d (.int .i64 j))], NG)) (fun j => j ≤ xs.length) (fun j => xs.length - j) 0 (by omega) ⟨by repeat' (first | exact trivial | exact rfl | (rw [List.length_map]; exact rfl) | refine And.intro ?_ ?_), ⟨rfl, rfl, trivial⟩⟩ ?_
      intro j hj
      ((conv => whnf); repeat ((first | (intro hq; try simp only [lnS] at hq) | refine sI ?_ | refine .intro _ (.intro rfl ?_)); (conv => whnf)))
      refine brB_dec (fun h1 => ?_) (fun h1 => ?_)
      · have hjl : j < xs.length := by omega
        obtain ⟨hj2, q1, q2⟩ := hat j hjl
        have hrow : (xs.map axR)[(j : Int).toNat]? = some (axR xs[j]) := rowC_at hjl
        have hrow2 : (Y.map axR)[(j : Int).toNat]? = some (axR Y[j]) := rowC_at hj2
        generalize xs[j] = x at *
        generalize Y[j] = y at *
        ((conv => whnf); repeat' ((first | (intro hq; (try simp only [lnS] at hq); (try rewrite [List.length_map])) | refine sJ ?_ | refine .intro _ (.intro rfl ?_) | (refine .intro (show (_ : Nat) < List.length _ from by first | omega | (simp only [lnS]; omega) | simp) ?_) | (refine ⟨_, hrow, ?_⟩) | (refine ⟨_, hrow2, ?_⟩) | refine draw_rule hty (by kernel_rfl) (by kernel_rfl) ?_ | ((first | refine brB_dec ?_ ?_ | refine brB_ndec ?_ ?_) <;> intro hb <;> (first | contradiction | ((try simp only [lnS] at hb); try (exfalso; omega)))) | (refine brB_split ?_ ?_ <;> intro hb <;> (first | contradiction | exact bT hb (by assumption) | exact bF hb (by assumption) | skip))) <;> (conv => whnf)))
        all_goals first
          | exact ⟨j + 1, by dsimp only; omega, by dsimp only; omega, by repeat' (first | exact trivial | exact rfl | refine And.intro ?_ ?_), ⟨rfl, rfl, trivial⟩⟩
          | (exfalso; rename_i hb9; exact hb9 q2.symm)
          | (exfalso; omega)
          | (exfalso; simp_all; done)
      · ((conv => whnf); repeat ((first | (intro hq; try simp only [lnS] at hq) | refine sI ?_ | refine .intro _ (.intro rfl ?_)); (conv => whnf)))
        refine loop_rule hty (fun k : Nat => ([(0, .d (rnL l)), (12, .d (.sl 1 (vocD N))), (107, .d (.sl 1 (vocD M))), (108, .d (.int .i64 4)), (109, .d (.int .i64 k))], NG)) (fun k => k ≤ 4) (fun k => 4 - k) 0 (by omega) ⟨by repeat' (first | exact trivial | exact rfl | exact ⟨rfl, rfl⟩ | refine And.intro ?_ ?_), ⟨rfl, rfl, trivial⟩⟩ ?_
        intro k hk
        ((conv => whnf); repeat ((first | (intro hq; try simp only [lnS] at hq) | refine sI ?_ | refine .intro _ (.intro rfl ?_)); (conv => whnf)))
        refine brB_dec (fun h2 => ?_) (fun h2 => ?_)
        · have hk4 : k < 4 := by omega
          have hrM := vocD_at M hk4
          have hrN := vocD_at N hk4
          have hapk := hap k hk4
          rw [show (((k + 1 : Nat) : Int)) = (k : Int) + 1 by omega] at hapk
          have hM4 : (k : Int).toNat < (vocD M).length := by show k < 4; exact hk4
          have hN4 : (k : Int).toNat < (vocD N).length := by show k < 4; exact hk4
          generalize lst M k = LM at *
          generalize lst N k = LN at *
          ((conv => whnf); repeat ((first | (refine And.intro hM4 ?_) | (refine ⟨_, hrM, ?_⟩) | (intro hq; try simp only [lnS] at hq) | refine sI ?_ | refine .intro _ (.intro rfl ?_)); (conv => whnf)))
          refine loop_rule hty (fun i : Nat => ([(0, .d (rnL l)), (12, .d (.sl 1 (vocD N))), (13, .d (.int .i64 k)), (107, .d (.sl 1 (vocD M))), (108, .d (.int .i64 4)), (109, .d (.int .i64 k)), (114, .d (.sl 1 (LM.map strR))), (115, .d (.int .i64 LM.length)), (116, .d (.int .i64 i))], NG)) (fun i => i ≤ LM.length) (fun i => LM.length - i) 0 (by omega) ⟨by repeat' (first | exact trivial | exact rfl | (rw [List.length_map]; exact rfl) | refine And.intro ?_ ?_), ⟨rfl, rfl, trivial⟩⟩ ?_
          intro i hi
          ((conv => whnf); repeat ((first | (intro hq; try simp only [lnS] at hq) | refine sI ?_ | refine .intro _ (.intro rfl ?_)); (conv => whnf)))
          refine brB_dec (fun h3 => ?_) (fun h3 => ?_)
          · have hil : i < LM.length := by omega
            have hrow : (LM.map strR)[(i : Int).toNat]? = some (strR LM[i]) := rowC_at hil
            obtain ⟨t0, ht0, et0⟩ := hapk LM[i] (List.getElem_mem hil)
            generalize LM[i] = s at hrow et0
            ((conv => whnf); repeat ((first | (refine And.intro hN4 ?_) | (refine ⟨_, hrow, ?_⟩) | (refine ⟨_, hrN, ?_⟩) | (intro hq; try simp only [lnS] at hq) | refine sI ?_ | refine .intro _ (.intro rfl ?_)); (conv => whnf)))
            refine loop_rule hty (fun u : Nat => ([(0, .d (rnL l)), (12, .d (.sl 1 (vocD N))), (13, .d (.int .i64 k)), (16, .d (.str s)), (17, .d (.bool ((LN.take u).any fun t => decide (nameR l ((k : Int) + 1) t = s)))), (107, .d (.sl 1 (vocD M))), (108, .d (.int .i64 4)), (109, .d (.int .i64 k)), (114, .d (.sl 1 (LM.map strR))), (115, .d (.int .i64 LM.length)), (116, .d (.int .i64 i)), (123, .d (.sl 1 (LN.map strR))), (124, .d (.int .i64 LN.length)), (125, .d (.int .i64 u))], NG)) (fun u => u ≤ LN.length) (fun u => LN.length - u) 0 (by omega) ⟨by repeat' (first | exact trivial | exact rfl | (rw [List.length_map]; exact rfl) | refine And.intro ?_ ?_), ⟨rfl, rfl, trivial⟩⟩ ?_
            intro u hu
            ((conv => whnf); repeat ((first | (intro hq; try simp only [lnS] at hq) | refine sI ?_ | refine .intro _ (.intro rfl ?_)); (conv => whnf)))
            refine brB_dec (fun h4 => ?_) (fun h4 => ?_)
            · have hul : u < LN.length := by omega
              have hrow2 : (LN.map strR)[(u : Int).toNat]? = some (strR LN[u]) := rowC_at hul
              have hany := any_take (p := fun t => decide (nameR l ((k : Int) + 1) t = s)) hul
              have cn := rnName_spec l ((k : Int) + 1) LN[u]
              generalize LN[u] = t1 at *
              generalize nameR l ((k : Int) + 1) t1 = v at *
              generalize ((LN.take u).any fun t => decide (nameR l ((k : Int) + 1) t = s)) = b at *
              ((conv => whnf); repeat' ((first | (intro hq; (try simp only [lnS] at hq); (try rewrite [List.length_map])) | refine sJ ?_ | refine .intro _ (.intro rfl ?_) | (refine .intro (show (_ : Nat) < List.length _ from by first | omega | (simp only [lnS]; omega) | simp) ?_) | (refine ⟨_, hrow2, ?_⟩) | (refine call_tri [] cn trivial (fun r hs => ?_); subst hs) | refine draw_rule hty (by kernel_rfl) (by kernel_rfl) ?_ | ((first | refine brB_dec ?_ ?_ | refine brB_ndec ?_ ?_) <;> intro hb <;> (first | contradiction | ((try simp only [lnS] at hb); try (exfalso; omega)))) | (refine brB_split ?_ ?_ <;> intro hb <;> (first | contradiction | exact bT hb (by assumption) | exact bF hb (by assumption) | skip))) <;> (conv => whnf)))
              all_goals (
                refine ⟨u + 1, by dsimp only; omega, by dsimp only; omega, ?_⟩
                dsimp only
                rw [hany])
              · rw [hb, Bool.true_or]
                exact ⟨by repeat' (first | exact trivial | exact rfl | refine And.intro ?_ ?_), ⟨rfl, rfl, trivial⟩⟩
              · rw [hb, Bool.false_or]
                exact ⟨by repeat' (first | exact trivial | exact rfl | refine And.intro ?_ ?_), ⟨rfl, rfl, trivial⟩⟩
            · have hul : u = LN.length := by omega
              subst hul
              rw [List.take_length]
              rw [show (LN.any fun t => decide (nameR l ((k : Int) + 1) t = s)) = true from List.any_eq_true.2 ⟨t0, ht0, by simpa using et0⟩]
              ((conv => whnf); repeat' ((first | (intro hq; (try simp only [lnS] at hq); (try rewrite [List.length_map])) | refine sJ ?_ | refine .intro _ (.intro rfl ?_) | (refine .intro (show (_ : Nat) < List.length _ from by first | omega | (simp only [lnS]; omega) | simp) ?_) | fail | refine draw_rule hty (by kernel_rfl) (by kernel_rfl) ?_ | ((first | refine brB_dec ?_ ?_ | refine brB_ndec ?_ ?_) <;> intro hb <;> (first | contradiction | ((try simp only [lnS] at hb); try (exfalso; omega)))) | (refine brB_split ?_ ?_ <;> intro hb <;> (first | contradiction | exact bT hb (by assumption) | exact bF hb (by assumption) | skip))) <;> (conv => whnf)))
              exact ⟨i + 1, by dsimp only; omega, by dsimp only; omega, by repeat' (first | exact trivial | exact rfl | refine And.intro ?_ ?_), ⟨rfl, rfl, trivial⟩⟩
          · ((conv => whnf); repeat' ((first | (intro hq; (try simp only [lnS] at hq); (try rewrite [List.length_map])) | refine sJ ?_ | refine .intro _ (.intro rfl ?_) | (refine .intro (show (_ : Nat) < List.length _ from by first | omega | (simp only [lnS]; omega) | simp) ?_) | fail | refine draw_rule hty (by kernel_rfl) (by kernel_rfl) ?_ | ((first | refine brB_dec ?_ ?_ | refine brB_ndec ?_ ?_) <;> intro hb <;> (first | contradiction | ((try simp only [lnS] at hb); try (exfalso; omega)))) | (refine brB_split ?_ ?_ <;> intro hb <;> (first | contradiction | exact bT hb (by assumption) | exact bF hb (by assumption) | skip))) <;> (conv => whnf)))
            exact ⟨k + 1, by dsimp only; omega, by dsimp only; omega, by repeat' (first | exact trivial | exact rfl | refine And.intro ?_ ?_), ⟨rfl, rfl, trivial⟩⟩
        · ((conv => whnf); repeat' ((first | (intro hq; (try simp only [lnS] at hq); (try rewrite [List.length_map])) | refine sJ ?_ | refine .intro _ (.intro rfl ?_) | (refine .intro (show (_ : Nat) < List.length _ from by first | omega | (simp only [lnS]; omega) | simp) ?_) | fail | refine draw_rule hty (by kernel_rfl) (by kernel_rfl) ?_ | ((first | refine brB_dec ?_ ?_ | refine brB_ndec ?_ ?_) <;> intro hb <;> (first | contradiction | ((try simp only [lnS] at hb); try (exfalso; omega)))) | (refine brB_split ?_ ?_ <;> intro hb <;> (first | contradiction | exact bT hb (by assumption) | exact bF hb (by assumption) | skip))) <;> (conv => whnf)))
          rfl
    · have hY := axmR_err he
      generalize (axmR l xs).2 = e at *
      rw [hY] at ka
      ((conv => whnf); repeat' ((first | (intro hq; (try simp only [lnS] at hq); (try rewrite [List.length_map])) | refine sJ ?_ | refine .intro _ (.intro rfl ?_) | (refine .intro (show (_ : Nat) < List.length _ from by first | omega | (simp only [lnS]; omega) | simp) ?_) | (refine call_tri NG ka ⟨rfl, rfl, trivial⟩ (fun r hs => ?_); subst hs) | refine draw_rule hty (by kernel_rfl) (by kernel_rfl) ?_ | ((first | refine brB_dec ?_ ?_ | refine brB_ndec ?_ ?_) <;> intro hb <;> (first | contradiction | ((try simp only [lnS] at hb); try (exfalso; omega)))) | (refine brB_split ?_ ?_ <;> intro hb <;> (first | contradiction | exact bT hb (by assumption) | exact bF hb (by assumption) | skip))) <;> (conv => whnf)))
      all_goals first
        | rfl
        | (exfalso; omega)
end Go.Proofs.YtpecmehekandgaaGreatDoor
namespace Go.Proofs.YtpecmehekandgaaGreatDoor
open Go.Proofs
set_option maxRecDepth 10000
attribute [local irreducible] SemVC CallVC Tri Stuck YVC GenP GenVC
theorem Tri.oslB {P : Program} {f : FuncId} {s0 : SV} {id z : Nat} {rows : List (List D)} {hp : Hp} {post : SV → Prop} (h : Tri P f [s0, .d (.sl z rows)] hp post) : Tri P f [s0, .osl id z rows] hp post := by
  unfold Tri at h ⊢
  intro w ρ vs a b c
  refine h w ρ vs a ⟨b.1, fun j s v hs hv => ?_⟩ c
  match j, hs with
  | 0, hs => exact b.2 0 s v hs hv
  | 1, hs =>
    injection hs with hs; subst hs
    exact .d _ _ (b.2 1 _ v rfl hv).osl_inv.1
def freeF (l : List Rn) (N : Nm) (r : Rn) : Prop := (∃ s ∈ l, s.kind = r.kind ∧ s.old = r.new) ∨ ∀ s ∈ lst N (r.kind - 1).toNat, s ≠ r.new
set_option maxHeartbeats 32000000 in
theorem back_spec (l : List Rn) (xs : List Ax) : Tri Tryz.prog 8 [.d (rnL l), .d (.sl 16 (xs.map axR))] NG (fun r => r = .d (.bool true)) := by
  have hfew := lFew_spec (l.map rnR) (xs.map axR)
  have hfx : fewRX (l.map rnR).length (xs.map axR).length = true → l.length ≤ 20 ∧ xs.length ≤ 20 := by
    intro h
    unfold fewRX at h
    simp only [List.length_map, Bool.and_eq_true, decide_eq_true_eq] at h
    exact h
  generalize fewRX (l.map rnR).length (xs.map axR).length = fw at hfew hfx
  have hfew : Tri Tryz.prog 10 [.d (rnL l), .d (.sl 16 (xs.map axR))] [] (fun r => r = .d (.bool fw)) := hfew
  refine tri_of_bodyF false [9, 12, 16, 21, 22] hty Tryz.func8 rfl (kp [0, 1, 4, 5, 6, 7, 8, 9, 10, 12, 13, 14, 16, 18, 19, 21, 22, 23, 24, 25, 26, 27, 29, 33, 40, 57, 64, 65, 66, 67, 68, 78, 93, 94, 95, 96, 115, 116, 117, 118, 128, 132, 133, 134, 135, 144]) [] _ _ _ (by simp [Tryz.f8]) (by decide) ?_
  ((conv => whnf); repeat ((first | (intro hq; try simp only [lnS] at hq) | refine sI ?_ | refine .intro _ (.intro rfl ?_)); (conv => whnf)))
  refine call_tri NG rsane_spec ⟨rfl, rfl, trivial⟩ (fun r hs => ?_)
  subst hs
  ((conv => whnf); repeat ((first | (intro hq; try simp only [lnS] at hq) | refine sI ?_ | refine .intro _ (.intro rfl ?_)); (conv => whnf)))
  refine call_tri [] hfew trivial (fun r hs => ?_)
  subst hs
  cases fw with
  | false =>
    ((conv => whnf); repeat' ((first | (intro hq; (try simp only [lnS] at hq); (try rewrite [List.length_map])) | refine sJ ?_ | refine .intro _ (.intro rfl ?_) | (refine .intro (show (_ : Nat) < List.length _ from by first | omega | (simp only [lnS]; omega) | simp) ?_) | fail | refine draw_rule hty (by kernel_rfl) (by kernel_rfl) ?_ | ((first | refine brB_dec ?_ ?_ | refine brB_ndec ?_ ?_) <;> intro hb <;> (first | contradiction | ((try simp only [lnS] at hb); try (exfalso; omega)))) | (refine brB_split ?_ ?_ <;> intro hb <;> (first | contradiction | exact bT hb (by assumption) | exact bF hb (by assumption) | skip))) <;> (conv => whnf)))
    all_goals rfl
  | true =>
    obtain ⟨hl20, hx20⟩ := hfx rfl
    have ki := rnInverse_spec l
    by_cases he : checkR l = 0
    · obtain ⟨gl, _⟩ := checkR_ok he
      have hI := inv_invL gl.nod
      have gI := hI.good gl
      have hIl := invL_len l
      have hIc : checkR (invL l) = 0 := (checkR_zero (by omega)).2 gI
      have hback : invL (invL l) = l := hI.back gl (inv_invL gI.nod)
      have e1 : invE l = (invL l, 0) := by unfold invE; rw [if_neg (by omega)]
      have e2 : invE (invL l) = (l, 0) := by unfold invE; rw [if_neg (by omega), hback]
      have kj := rnInverse_spec (invL l)
      rw [e1] at ki
      rw [e2] at kj
      generalize invL l = I at *
      have s1 := rrSame_self l
      have vv := Vocabulary_spec xs (by omega)
      by_cases hf : firstA xs = 0
      · rw [show vocR xs = (vocN xs, 0) by rw [vocR, if_neg (by omega)]] at vv
        have hfreeR : (∀ r ∈ l, freeF l (vocN xs) r) → freeR l xs := fun h r hr => h r hr
        have hfree : (∀ r ∈ l, freeF l (vocN xs) r) → (∀ x ∈ xs, (tidyA x).2 = 0) → (axmR l (xs.map fun x => (tidyA x).1)).2 = 0 ∧ axmR I (axmR l (xs.map fun x => (tidyA x).1)).1 = (xs.map fun x => (tidyA x).1, 0) :=
          fun h1 h2 => axm_back gl (by omega) hI (by omega) (hfreeR h1) h2
        clear hfreeR
        generalize vocN xs = N at *
        ((conv => whnf); repeat' ((first | (intro hq; (try simp only [lnS] at hq); (try rewrite [List.length_map])) | refine sJ ?_ | refine .intro _ (.intro rfl ?_) | (refine .intro (show (_ : Nat) < List.length _ from by first | omega | (simp only [lnS]; omega) | simp) ?_) | (refine call_tri [] ki trivial (fun r hs => ?_); subst hs) | (refine call_tri [] kj trivial (fun r hs => ?_); subst hs) | (refine call_tri [] s1 trivial (fun r hs => ?_); subst hs) | (refine call_tri NG vv ⟨rfl, rfl, trivial⟩ (fun r hs => ?_); subst hs) | refine draw_rule hty (by kernel_rfl) (by kernel_rfl) ?_ | ((first | refine brB_dec ?_ ?_ | refine brB_ndec ?_ ?_) <;> intro hb <;> (first | contradiction | ((try simp only [lnS] at hb); try (exfalso; omega)))) | (refine brB_split ?_ ?_ <;> intro hb <;> (first | contradiction | exact bT hb (by assumption) | exact bF hb (by assumption) | skip))) <;> (conv => whnf)))
        refine loop_rule hty (fun j : Nat => ([(0, .d (rnL l)), (1, .d (.sl 16 (xs.map axR))), (5, .d (rnL I)), (9, .ea 4 [nmR N] 0 0), (65, .d (rnL l)), (66, .d (.int .i64 l.length)), (67, .d (.int .i64 j))], NG)) (fun j => j ≤ l.length ∧ ∀ r ∈ l.take j, freeF l N r) (fun j => l.length - j) 0 ⟨by omega, by simp⟩ ⟨by repeat' (first | exact trivial | exact rfl | (rw [List.length_map]; exact rfl) | refine And.intro ?_ ?_), ⟨rfl, rfl, trivial⟩⟩ ?_
        rintro j ⟨hj, hF⟩
        ((conv => whnf); repeat ((first | (intro hq; try simp only [lnS] at hq) | refine sI ?_ | refine .intro _ (.intro rfl ?_)); (conv => whnf)))
        refine brB_dec (fun h1 => ?_) (fun h1 => ?_)
        · have hjl : j < l.length := by omega
          have hrow : (l.map rnR)[(j : Int).toNat]? = some (rnR l[j]) := rowC_at hjl
          have hval := gl.val l[j] (List.getElem_mem hjl)
          have hFt : freeF l N l[j] → ∀ r ∈ l.take (j + 1), freeF l N r := by
            intro h r hr
            rw [List.take_succ_eq_append_getElem hjl] at hr
            rcases List.mem_append.1 hr with hr | hr
            · exact hF r hr
            · simp at hr; subst hr; exact h
          generalize l[j] = x at hrow hval hFt
          have hk : 1 ≤ x.kind ∧ x.kind ≤ 4 := by
            unfold rnV at hval
            simp only [Bool.and_eq_true, decide_eq_true_eq] at hval
            exact ⟨hval.1, hval.2.1⟩
          have hk4 : (x.kind - 1).toNat < 4 := by omega
          have hN4 : (x.kind - 1).toNat < (vocD N).length := hk4
          have hrN : (vocD N)[(x.kind - 1).toNat]? = some [strl (lst N (x.kind - 1).toNat)] := by
            have := vocD_at N hk4
            rwa [Int.toNat_natCast] at this
          unfold freeF at hFt
          generalize lst N (x.kind - 1).toNat = LN at hFt hrN
          ((conv => whnf); repeat' ((first | (intro hq; (try simp only [lnS] at hq); (try rewrite [List.length_map])) | refine sJ ?_ | refine .intro _ (.intro rfl ?_) | (refine .intro (show (_ : Nat) < List.length _ from by first | omega | (simp only [lnS]; omega) | simp) ?_) | (refine And.intro hN4 ?_) | (refine ⟨_, hrow, ?_⟩) | (refine ⟨_, hrN, ?_⟩) | refine draw_rule hty (by kernel_rfl) (by kernel_rfl) ?_ | ((first | refine brB_dec ?_ ?_ | refine brB_ndec ?_ ?_) <;> intro hb <;> (first | contradiction | ((try simp only [lnS] at hb); try (exfalso; omega)))) | (refine brB_split ?_ ?_ <;> intro hb <;> (first | contradiction | exact bT hb (by assumption) | exact bF hb (by assumption) | skip))) <;> (conv => whnf)))
          refine loop_rule hty (fun i : Nat => ([(0, .d (rnL l)), (1, .d (.sl 16 (xs.map axR))), (5, .d (rnL I)), (9, .ea 4 [nmR N] 0 0), (12, .ea 3 [rnR x] 0 0), (13, .d (.sl 1 (LN.map strR))), (14, .d (.bool ((l.take i).any fun s => decide (s.kind = x.kind) && decide (s.old = x.new)))), (65, .d (rnL l)), (66, .d (.int .i64 l.length)), (67, .d (.int .i64 j)), (93, .d (rnL l)), (94, .d (.int .i64 l.length)), (95, .d (.int .i64 i))], NG)) (fun i => i ≤ l.length) (fun i => l.length - i) 0 (by omega) ⟨by repeat' (first | exact trivial | exact rfl | (rw [List.length_map]; exact rfl) | refine And.intro ?_ ?_), ⟨rfl, rfl, trivial⟩⟩ ?_
          intro i hi
          ((conv => whnf); repeat ((first | (intro hq; try simp only [lnS] at hq) | refine sI ?_ | refine .intro _ (.intro rfl ?_)); (conv => whnf)))
          refine brB_dec (fun h2 => ?_) (fun h2 => ?_)
          · have hil : i < l.length := by omega
            have hrow2 : (l.map rnR)[(i : Int).toNat]? = some (rnR l[i]) := rowC_at hil
            have hany := any_take (p := fun s : Rn => decide (s.kind = x.kind) && decide (s.old = x.new)) hil
            generalize l[i] = y at hrow2 hany
            try dsimp only at hany
            generalize ((l.take i).any fun s => decide (s.kind = x.kind) && decide (s.old = x.new)) = b at *
            ((conv => whnf); repeat' ((first | (intro hq; (try simp only [lnS] at hq); (try rewrite [List.length_map])) | refine sJ ?_ | refine .intro _ (.intro rfl ?_) | (refine .intro (show (_ : Nat) < List.length _ from by first | omega | (simp only [lnS]; omega) | simp) ?_) | (refine ⟨_, hrow2, ?_⟩) | refine draw_rule hty (by kernel_rfl) (by kernel_rfl) ?_ | ((first | refine brB_dec ?_ ?_ | refine brB_ndec ?_ ?_) <;> intro hb <;> (first | contradiction | ((try simp only [lnS] at hb); try (exfalso; omega)))) | (refine brB_split ?_ ?_ <;> intro hb <;> (first | contradiction | exact bT hb (by assumption) | exact bF hb (by assumption) | skip))) <;> (conv => whnf)))
            all_goals (
              refine ⟨i + 1, by (try dsimp only); omega, by (try dsimp only); omega, ?_⟩
              dsimp only
              rw [hany])
            all_goals first
              | (have e0 : b = true := by assumption
                 rw [e0, Bool.true_or]
                 exact ⟨by repeat' (first | exact trivial | exact rfl | refine And.intro ?_ ?_), ⟨rfl, rfl, trivial⟩⟩)
              | (have e0 : b = false := by assumption
                 have e1 : y.kind = x.kind := by assumption
                 rw [e0, Bool.false_or, decide_eq_true e1, Bool.true_and]
                 exact ⟨by repeat' (first | exact trivial | exact rfl | refine And.intro ?_ ?_), ⟨rfl, rfl, trivial⟩⟩)
              | (have e0 : b = false := by assumption
                 have e1 : ¬ y.kind = x.kind := by assumption
                 rw [e0, Bool.false_or, decide_eq_false e1, Bool.false_and]
                 exact ⟨by repeat' (first | exact trivial | exact rfl | refine And.intro ?_ ?_), ⟨rfl, rfl, trivial⟩⟩)
          · have hil : i = l.length := by omega
            subst hil
            rw [List.take_length]
            have hb1 : (l.any fun s => decide (s.kind = x.kind) && decide (s.old = x.new)) = true → ∃ s, s ∈ l ∧ s.kind = x.kind ∧ s.old = x.new := by
              intro h
              obtain ⟨s, hs, h⟩ := List.any_eq_true.1 h
              simp only [Bool.and_eq_true, decide_eq_true_eq] at h
              exact ⟨s, hs, h⟩
            generalize (l.any fun s => decide (s.kind = x.kind) && decide (s.old = x.new)) = b at *
            ((conv => whnf); repeat ((first | (intro hq; try simp only [lnS] at hq) | refine sI ?_ | refine .intro _ (.intro rfl ?_)); (conv => whnf)))
            refine loop_rule hty (fun u : Nat => ([(0, .d (rnL l)), (1, .d (.sl 16 (xs.map axR))), (5, .d (rnL I)), (9, .ea 4 [nmR N] 0 0), (12, .ea 3 [rnR x] 0 0), (13, .d (.sl 1 (LN.map strR))), (14, .d (.bool b)), (65, .d (rnL l)), (66, .d (.int .i64 l.length)), (67, .d (.int .i64 j)), (115, .d (.sl 1 (LN.map strR))), (116, .d (.int .i64 LN.length)), (117, .d (.int .i64 u))], NG)) (fun u => u ≤ LN.length ∧ (b = false → ∀ s ∈ LN.take u, s ≠ x.new)) (fun u => LN.length - u) 0 ⟨by omega, by simp⟩ ⟨by repeat' (first | exact trivial | exact rfl | (rw [List.length_map]; exact rfl) | refine And.intro ?_ ?_), ⟨rfl, rfl, trivial⟩⟩ ?_
            rintro u ⟨hu, hne⟩
            ((conv => whnf); repeat ((first | (intro hq; try simp only [lnS] at hq) | refine sI ?_ | refine .intro _ (.intro rfl ?_)); (conv => whnf)))
            refine brB_dec (fun h3 => ?_) (fun h3 => ?_)
            · have hul : u < LN.length := by omega
              have hrow3 : (LN.map strR)[(u : Int).toNat]? = some (strR LN[u]) := rowC_at hul
              have hnt : (b = false → LN[u] ≠ x.new) → b = false → ∀ s ∈ LN.take (u + 1), s ≠ x.new := by
                intro h hb s hs
                rw [List.take_succ_eq_append_getElem hul] at hs
                rcases List.mem_append.1 hs with hs | hs
                · exact hne hb s hs
                · simp at hs; subst hs; exact h hb
              generalize LN[u] = s at hrow3 hnt
              ((conv => whnf); repeat' ((first | (intro hq; (try simp only [lnS] at hq); (try rewrite [List.length_map])) | refine sJ ?_ | refine .intro _ (.intro rfl ?_) | (refine .intro (show (_ : Nat) < List.length _ from by first | omega | (simp only [lnS]; omega) | simp) ?_) | (refine ⟨_, hrow3, ?_⟩) | refine draw_rule hty (by kernel_rfl) (by kernel_rfl) ?_ | ((first | refine brB_dec ?_ ?_ | refine brB_ndec ?_ ?_) <;> intro hb <;> (first | contradiction | ((try simp only [lnS] at hb); try (exfalso; omega)))) | (refine brB_split ?_ ?_ <;> intro hb <;> (first | contradiction | exact bT hb (by assumption) | exact bF hb (by assumption) | skip))) <;> (conv => whnf)))
              all_goals first
                | rfl
                | (refine ⟨u + 1, ⟨by (try dsimp only); omega, hnt ?_⟩, by (try dsimp only); omega, by repeat' (first | exact trivial | exact rfl | refine And.intro ?_ ?_), ⟨rfl, rfl, trivial⟩⟩; simp_all; done)
            · have hul : u = LN.length := by omega
              subst hul
              rw [List.take_length] at hne
              have hFx : (∃ s, s ∈ l ∧ s.kind = x.kind ∧ s.old = x.new) ∨ ∀ s ∈ LN, s ≠ x.new := by
                cases b with
                | true => exact .inl (hb1 rfl)
                | false => exact .inr (hne rfl)
              ((conv => whnf); repeat' ((first | (intro hq; (try simp only [lnS] at hq); (try rewrite [List.length_map])) | refine sJ ?_ | refine .intro _ (.intro rfl ?_) | (refine .intro (show (_ : Nat) < List.length _ from by first | omega | (simp only [lnS]; omega) | simp) ?_) | fail | refine draw_rule hty (by kernel_rfl) (by kernel_rfl) ?_ | ((first | refine brB_dec ?_ ?_ | refine brB_ndec ?_ ?_) <;> intro hb <;> (first | contradiction | ((try simp only [lnS] at hb); try (exfalso; omega)))) | (refine brB_split ?_ ?_ <;> intro hb <;> (first | contradiction | exact bT hb (by assumption) | exact bF hb (by assumption) | skip))) <;> (conv => whnf)))
              exact ⟨j + 1, ⟨by (try dsimp only); omega, hFt hFx⟩, by (try dsimp only); omega, by repeat' (first | exact trivial | exact rfl | refine And.intro ?_ ?_), ⟨rfl, rfl, trivial⟩⟩
        · have hjl : j = l.length := by omega
          subst hjl
          rw [List.take_length] at hF
          ((conv => whnf); repeat ((first | (intro hq; try simp only [lnS] at hq) | refine sI ?_ | refine .intro _ (.intro rfl ?_)); (conv => whnf)))
          refine loop_rule hty (fun j : Nat => ([(0, .d (rnL l)), (5, .d (rnL I)), (19, .osl 131 16 ((xs.take j).map fun x => axR (tidyA x).1)), (132, .d (.sl 16 (xs.map axR))), (133, .d (.int .i64 xs.length)), (134, .d (.int .i64 j))], (131, .own 34 16 ((xs.take j).map fun x => axR (tidyA x).1).length) :: NG)) (fun j => j ≤ xs.length ∧ ∀ x ∈ xs.take j, (tidyA x).2 = 0) (fun j => xs.length - j) 0 ⟨by omega, by simp⟩ ⟨by repeat' (first | exact trivial | exact rfl | (rw [List.length_map]; exact rfl) | refine And.intro ?_ ?_), ⟨rfl, rfl, rfl, trivial⟩⟩ ?_
          rintro j ⟨hj, hz⟩
          ((conv => whnf); repeat ((first | (intro hq; try simp only [lnS] at hq) | refine sI ?_ | refine .intro _ (.intro rfl ?_)); (conv => whnf)))
          refine brB_dec (fun h2 => ?_) (fun h2 => ?_)
          · have hjl : j < xs.length := by omega
            have hrow := axR_rows hjl
            have ht := TidyAxiom_spec xs[j]
            have htk : (tidyA xs[j]).2 = 0 → ∀ x ∈ xs.take (j + 1), (tidyA x).2 = 0 := by
              intro h2 x hx
              rw [List.take_succ_eq_append_getElem hjl] at hx
              rcases List.mem_append.1 hx with hx | hx
              · exact hz x hx
              · simp at hx; subst hx; exact h2
            have hrows : ((xs.take (j + 1)).map fun x => axR (tidyA x).1) = ((xs.take j).map fun x => axR (tidyA x).1) ++ [axR (tidyA xs[j]).1] := by
              rw [List.take_succ_eq_append_getElem hjl, List.map_append, List.map_cons, List.map_nil]
            generalize xs[j] = x at *
            generalize (tidyA x).1 = T at *
            generalize (tidyA x).2 = f at *
            ((conv => whnf); repeat' ((first | (intro hq; (try simp only [lnS] at hq); (try rewrite [List.length_map])) | refine sJ ?_ | refine .intro _ (.intro rfl ?_) | (refine .intro (show (_ : Nat) < List.length _ from by first | omega | (simp only [lnS]; omega) | simp) ?_) | (refine ⟨_, hrow, ?_⟩) | (refine call_tri NG ht ⟨rfl, rfl, trivial⟩ (fun r hs => ?_); subst hs) | refine draw_rule hty (by kernel_rfl) (by kernel_rfl) ?_ | ((first | refine brB_dec ?_ ?_ | refine brB_ndec ?_ ?_) <;> intro hb <;> (first | contradiction | ((try simp only [lnS] at hb); try (exfalso; omega)))) | (refine brB_split ?_ ?_ <;> intro hb <;> (first | contradiction | exact bT hb (by assumption) | exact bF hb (by assumption) | skip))) <;> (conv => whnf)))
            · rfl
            refine ⟨j + 1, ⟨by (try dsimp only); omega, htk hb⟩, by (try dsimp only); omega, ?_⟩
            dsimp only
            rw [hrows, List.length_append]
            exact ⟨by repeat' (first | exact trivial | exact rfl | refine And.intro ?_ ?_), ⟨rfl, rfl, rfl, trivial⟩⟩
          · have hjl : j = xs.length := by omega
            subst hjl
            rw [List.take_length] at hz
            rw [List.take_length]
            obtain ⟨b1, b2⟩ := hfree hF hz
            have k1 := rnAxioms_spec l (xs.map fun x => (tidyA x).1) (by rw [List.length_map]; omega)
            have la := axmR_len l (xs.map fun x => (tidyA x).1)
            rw [List.length_map] at la
            have k2 := rnAxioms_spec I (axmR l (xs.map fun x => (tidyA x).1)).1 (by omega)
            rw [b1] at k1
            rw [b2] at k2
            have hS : ∀ x ∈ (xs.map fun x => (tidyA x).1), Sm6 x := by
              intro y hy
              obtain ⟨x, hx, rfl⟩ := List.mem_map.1 hy
              exact sm6_ok (axiom_tidy (hz x hx)).2.1
            have c := lSame_self _ hS
            rw [List.map_map] at k1 k2 c
            generalize (axmR l (xs.map fun x => (tidyA x).1)).1 = Y at *
            have k1 := Tri.oslB (id := 131) k1
            have c := Tri.oslB (id := 131) c
            ((conv => whnf); repeat' ((first | (intro hq; (try simp only [lnS] at hq); (try rewrite [List.length_map])) | refine sJ ?_ | refine .intro _ (.intro rfl ?_) | (refine .intro (show (_ : Nat) < List.length _ from by first | omega | (simp only [lnS]; omega) | simp) ?_) | (refine call_tri NG k1 ⟨rfl, rfl, trivial⟩ (fun r hs => ?_); subst hs) | (refine call_tri NG k2 ⟨rfl, rfl, trivial⟩ (fun r hs => ?_); subst hs) | (refine call_tri [] c trivial (fun r hs => ?_); subst hs) | refine draw_rule hty (by kernel_rfl) (by kernel_rfl) ?_ | ((first | refine brB_dec ?_ ?_ | refine brB_ndec ?_ ?_) <;> intro hb <;> (first | contradiction | ((try simp only [lnS] at hb); try (exfalso; omega)))) | (refine brB_split ?_ ?_ <;> intro hb <;> (first | contradiction | exact bT hb (by assumption) | exact bF hb (by assumption) | skip))) <;> (conv => whnf)))
            all_goals rfl
      · rw [show vocR xs = (⟨[], [], [], []⟩, firstA xs) by rw [vocR, if_pos hf]] at vv
        ((conv => whnf); repeat' ((first | (intro hq; (try simp only [lnS] at hq); (try rewrite [List.length_map])) | refine sJ ?_ | refine .intro _ (.intro rfl ?_) | (refine .intro (show (_ : Nat) < List.length _ from by first | omega | (simp only [lnS]; omega) | simp) ?_) | (refine call_tri [] ki trivial (fun r hs => ?_); subst hs) | (refine call_tri [] kj trivial (fun r hs => ?_); subst hs) | (refine call_tri [] s1 trivial (fun r hs => ?_); subst hs) | (refine call_tri NG vv ⟨rfl, rfl, trivial⟩ (fun r hs => ?_); subst hs) | refine draw_rule hty (by kernel_rfl) (by kernel_rfl) ?_ | ((first | refine brB_dec ?_ ?_ | refine brB_ndec ?_ ?_) <;> intro hb <;> (first | contradiction | ((try simp only [lnS] at hb); try (exfalso; omega)))) | (refine brB_split ?_ ?_ <;> intro hb <;> (first | contradiction | exact bT hb (by assumption) | exact bF hb (by assumption) | skip))) <;> (conv => whnf)))
        all_goals first
          | rfl
          | (exfalso; omega)
    · have e1 : invE l = ([], checkR l) := by unfold invE; rw [if_pos he]
      rw [e1] at ki
      have ck := rnCheck_spec l
      ((conv => whnf); repeat' ((first | (intro hq; (try simp only [lnS] at hq); (try rewrite [List.length_map])) | refine sJ ?_ | refine .intro _ (.intro rfl ?_) | (refine .intro (show (_ : Nat) < List.length _ from by first | omega | (simp only [lnS]; omega) | simp) ?_) | (refine call_tri [] ki trivial (fun r hs => ?_); subst hs) | (refine call_tri [] ck trivial (fun r hs => ?_); subst hs) | refine draw_rule hty (by kernel_rfl) (by kernel_rfl) ?_ | ((first | refine brB_dec ?_ ?_ | refine brB_ndec ?_ ?_) <;> intro hb <;> (first | contradiction | ((try simp only [lnS] at hb); try (exfalso; omega)))) | (refine brB_split ?_ ?_ <;> intro hb <;> (first | contradiction | exact bT hb (by assumption) | exact bF hb (by assumption) | skip))) <;> (conv => whnf)))
      all_goals first
        | rfl
        | (refine bool_eq ?_; simp; done)
        | (exfalso; omega)
end Go.Proofs.YtpecmehekandgaaGreatDoor
