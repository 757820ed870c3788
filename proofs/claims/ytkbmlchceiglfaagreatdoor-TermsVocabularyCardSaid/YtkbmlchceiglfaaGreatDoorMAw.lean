/-
  Terms: the law of vocabularies, walked.
  Conditions: none.
-/
import Derived.Test.YtkbmlchceiglfaaGreatDoorMAs
import Derived.Test.YtkbmlchceiglfaaGreatDoorMDf
import Derived.Test.YtkbmlchceiglfaaGreatDoorMSye
namespace Go.Proofs.YtkbmlchceiglfaaGreatDoor
set_option linter.unnecessarySimpa false
set_option linter.unusedSectionVars false
set_option linter.unusedSimpArgs false
set_option linter.unusedVariables false
open Go.Proofs
set_option maxRecDepth 10000
attribute [local irreducible] SemVC CallVC Tri Stuck YVC GenP GenVC

mutual
theorem wkD_refl : ∀ (x : D), WkD x x
  | .sl z rows => ⟨rfl, wkDR_refl rows⟩
  | .agg cs => wkDL_refl cs
  | .int _ _ => rfl
  | .bool _ => rfl
  | .str _ => rfl
  | .nil => rfl
  | .lit _ => rfl
theorem wkDL_refl : ∀ (l : List D), WkDL l l
  | [] => trivial
  | a :: l => ⟨wkD_refl a, wkDL_refl l⟩
theorem wkDR_refl : ∀ (l : List (List D)), WkDR l l
  | [] => trivial
  | a :: l => ⟨wkDL_refl a, wkDR_refl l⟩
end

/-- The same package-level variables under other numbers: 90 and 91 are numbers of this walk's own rows. -/
def NGb : Hp := [(890, .glob 1 4 (needs.map needR)), (891, .glob 0 7 (uses.map useR))]

theorem Tri.toB {P : Program} {f : FuncId} {qs : List SV} {post : SV → Prop} (h : Tri P f qs NG post) : Tri P f qs NGb post := by
  unfold Tri at h ⊢
  intro w ρ vs a b c
  refine h w ρ vs a b fun id o ho => ?_
  have c1 := c 890 _ rfl
  have c2 := c 891 _ rfl
  by_cases e : id = 90
  · subst e
    injection ho with ho; subst ho; exact c1
  · by_cases e2 : id = 91
    · subst e2
      injection ho with ho; subst ho; exact c2
    · simp only [NG, getH, if_neg (Ne.symm e), if_neg (Ne.symm e2)] at ho
      cases ho

theorem Tri.ofB {P : Program} {f : FuncId} {qs : List SV} {post : SV → Prop} (h : Tri P f qs NGb post) : Tri P f qs NG post := by
  unfold Tri at h ⊢
  intro w ρ vs a b c
  refine h w ρ vs a b fun id o ho => ?_
  have c1 := c 90 _ rfl
  have c2 := c 91 _ rfl
  by_cases e : id = 890
  · subst e
    injection ho with ho; subst ho; exact c1
  · by_cases e2 : id = 891
    · subst e2
      injection ho with ho; subst ho; exact c2
    · simp only [NGb, getH, if_neg (Ne.symm e), if_neg (Ne.symm e2)] at ho
      cases ho

def rowsN (v : Nm) : List (List D) := [[strl v.a], [strl v.b], [strl v.c], [strl v.d]]

theorem rowsN_at (v : Nm) {i : Nat} (h : i < 4) : (rowsN v)[(i : Int).toNat]? = some [strl (lst v i)] := by
  match i, h with
  | 0, _ => rfl
  | 1, _ => rfl
  | 2, _ => rfl
  | 3, _ => rfl

theorem vocR_err (l : List Ax) : (vocR l).2 = firstA l := by
  unfold vocR
  split
  · rfl
  · rename_i h; simp at h; exact h.symm
theorem vocR_ok {l : List Ax} (h : firstA l = 0) : vocR l = (vocN l, 0) := by
  unfold vocR
  rw [if_neg (by simp [h])]

theorem lst_len {l : List Ax} (hl : l.length ≤ 10) (hz : firstA l = 0) (i : Nat) : (lst (vocN l) i).length ≤ 1000000 := by
  have h1 := vocV_num l ⟨[], [], [], []⟩ ((firstA_iff l).1 hz)
  have h2 : numN (vocV l) ≤ 0 + l.length * 140 := h1
  have h3 : numN (vocV l) = (vocV l).a.length + (vocV l).b.length + (vocV l).c.length + (vocV l).d.length := rfl
  have hs : ∀ ks, (sortK ks).length = ks.length := fun ks => (List.mergeSort_perm _ _).length_eq
  have he : ∀ ks : List (List UInt8), (ks.erase []).length ≤ ks.length := fun ks => (List.erase_sublist ..).length_le
  have e1 := he (vocV l).b
  have e2 := he (vocV l).d
  match i with
  | 0 => show (sortK _).length ≤ _; rw [hs]; omega
  | 1 => show (sortK _).length ≤ _; rw [hs]; omega
  | 2 => show (sortK _).length ≤ _; rw [hs]; omega
  | n + 3 => show (sortK _).length ≤ _; rw [hs]; omega

set_option maxHeartbeats 16000000 in
theorem vocabulary_spec (l m : List Ax) (hl : ∀ x ∈ l, SzAx x) (hm : ∀ x ∈ m, SzAx x) : Tri Tryz.prog 6 [.d (.sl 16 (l.map axR)), .d (.sl 16 (m.map axR))] NG (fun r => r = .d (.bool true)) := by
  refine Tri.ofB ?_
  have f1 := fewAxioms_spec l 5 hl
  have f2 := fewAxioms_spec m 5 hm
  refine tri_of_bodyF false [5, 7, 9, 18, 20] hty Tryz.func6 rfl (kp [0, 1, 4, 5, 6, 7, 8, 9, 10, 11, 12, 13, 14, 15, 16, 17, 18, 19, 20, 21, 23, 31, 56, 101, 145, 152, 163, 167, 179, 219]) [] _ _ _ (by simp [Tryz.f6]) (by decide) ?_
  ((conv => whnf); repeat ((first | (intro hq; try simp only [lnS] at hq) | refine sI ?_ | refine Exists.intro _ (And.intro rfl ?_)); (conv => whnf)))
  refine call_tri NGb sane_spec.toB ⟨rfl, rfl, trivial⟩ (fun r hs => ?_)
  subst hs
  cases e1 : (decide ((l.length : Int) ≤ 5) && l.all fewAx) <;> cases e2 : (decide ((m.length : Int) ≤ 5) && m.all fewAx) <;> rw [e1] at f1 <;> rw [e2] at f2
  case true.true =>
    have hl5 : l.length ≤ 5 := by simp at e1; omega
    have hm5 : m.length ≤ 5 := by simp at e2; omega
    clear e1 e2
    have v1 := Tri.toB <| Vocabulary_spec l (by omega)
    have v2 := Tri.toB <| Vocabulary_spec m (by omega)
    have v3 := Tri.toB <| Vocabulary_spec (l ++ m) (by rw [List.length_append]; omega)
    rw [List.map_append] at v3
    have hb1 : (l.map axR).length ≤ 9223372036854775807 := by rw [List.length_map]; omega
    ((conv => whnf); repeat ((first | (intro hq; try simp only [lnS] at hq) | refine sI ?_ | refine Exists.intro _ (And.intro rfl ?_)); (conv => whnf)))
    refine call_tri [] f1 trivial (fun r hs => ?_)
    subst hs
    ((conv => whnf); repeat ((first | (intro hq; try simp only [lnS] at hq) | refine sI ?_ | refine Exists.intro _ (And.intro rfl ?_)); (conv => whnf)))
    refine call_tri [] f2 trivial (fun r hs => ?_)
    subst hs
    clear f1 f2
    by_cases hz : firstA l ≠ 0 ∨ firstA m ≠ 0
    · rw [vocR_err] at v1 v2 v3
      rw [firstA_app] at v3
      generalize firstA l = e at *
      generalize firstA m = f at *
      generalize (vocR l).1 = p1 at v1
      generalize (vocR m).1 = p2 at v2
      generalize (vocR (l ++ m)).1 = p3 at v3
      generalize hg : (if e ≠ 0 then e else f) = g at v3
      ((conv => whnf); repeat ((first | (intro hq; try simp only [lnS] at hq) | refine sI ?_ | refine Exists.intro _ (And.intro rfl ?_)); (conv => whnf)))
      refine call_tri NGb v1 ⟨rfl, rfl, trivial⟩ (fun r hs => ?_)
      subst hs
      ((conv => whnf); repeat ((first | (intro hq; try simp only [lnS] at hq) | refine sI ?_ | refine Exists.intro _ (And.intro rfl ?_)); (conv => whnf)))
      refine call_tri NGb v2 ⟨rfl, rfl, trivial⟩ (fun r hs => ?_)
      subst hs
      ((conv => whnf); repeat ((first | (refine And.intro (by rw [List.length_append]; exact rfl) ?_) | (intro hq; try simp only [lnS] at hq) | refine sI ?_ | refine Exists.intro _ (And.intro rfl ?_)); (conv => whnf)))
      refine call_tri NGb (Tri.oslN v3 (wkDR_refl _)) ⟨rfl, rfl, trivial⟩ (fun r hs => ?_)
      subst hs
      clear v1 v2 v3
      ((conv => whnf); repeat' ((first | (intro hq; (try simp only [lnS] at hq); (try rewrite [List.length_map])) | refine sJ ?_ | refine Exists.intro _ (And.intro rfl ?_) | (refine Exists.intro (show (_ : Nat) < List.length _ from by first | omega | (simp only [List.length_cons, List.length_nil]; omega) | simp) ?_) | fail | refine draw_rule hty (by kernel_rfl) (by kernel_rfl) ?_ | ((first | refine brB_dec (fun hb => ?_) (fun hb => ?_) | refine brB_ndec (fun hb => ?_) (fun hb => ?_)) <;> (first | contradiction | ((try simp only [lnS] at hb); (first | (exfalso; omega) | skip)))) | (refine brB_split (fun hb => ?_) (fun hb => ?_) <;> (first | contradiction | exact absurd (hb.symm.trans (by assumption) : false = true) (by decide) | exact absurd (hb.symm.trans (by assumption) : true = false) (by decide) | skip))) <;> (conv => whnf)))
      all_goals first
        | rfl
        | (refine bool_eq ?_; simp_all; done)
        | (exfalso; omega)
    · have z1 : firstA l = 0 := by omega
      have z2 : firstA m = 0 := by omega
      have z3 : firstA (l ++ m) = 0 := by rw [firstA_app, z1, z2]; rfl
      rw [vocR_ok z1] at v1
      rw [vocR_ok z2] at v2
      rw [vocR_ok z3] at v3
      have wl := within_left l m
      have wr := within_right l m
      have wb := within_both l m
      have nz := fun i s hs => @lst_names (l ++ m) z3 i s hs
      have wt := fun x hx h i => @within_tidy l x hx h i
      have lA := fun i => lst_len (l := l) (by omega) z1 i
      have lB := fun i => lst_len (l := m) (by omega) z2 i
      clear hz
      generalize vocN l = A at *
      generalize vocN m = B at *
      generalize vocN (l ++ m) = Z at *
      ((conv => whnf); repeat ((first | (intro hq; try simp only [lnS] at hq) | refine sI ?_ | refine Exists.intro _ (And.intro rfl ?_)); (conv => whnf)))
      refine call_tri NGb v1 ⟨rfl, rfl, trivial⟩ (fun r hs => ?_)
      subst hs
      ((conv => whnf); repeat ((first | (intro hq; try simp only [lnS] at hq) | refine sI ?_ | refine Exists.intro _ (And.intro rfl ?_)); (conv => whnf)))
      refine call_tri NGb v2 ⟨rfl, rfl, trivial⟩ (fun r hs => ?_)
      subst hs
      ((conv => whnf); repeat ((first | (refine And.intro (by rw [List.length_append]; exact rfl) ?_) | (intro hq; try simp only [lnS] at hq) | refine sI ?_ | refine Exists.intro _ (And.intro rfl ?_)); (conv => whnf)))
      refine call_tri NGb (Tri.oslN v3 (wkDR_refl _)) ⟨rfl, rfl, trivial⟩ (fun r hs => ?_)
      subst hs
      clear v1 v2 v3
      ((conv => whnf); repeat ((first | (intro hq; try simp only [lnS] at hq) | refine sI ?_ | refine Exists.intro _ (And.intro rfl ?_)); (conv => whnf)))
      refine SemVC.mid [(0, .d (.sl 16 (l.map axR))), (4, .d (.bool false)), (5, .ea 4 [nmR A] 0 0), (10, .d (.int .i64 0)), (11, .d (.sl 1 (rowsN A))), (12, .d (.sl 1 (rowsN B))), (13, .d (.sl 1 (rowsN Z)))] NGb ?_ ?_
      · (refine tree2_rule (id := 10) hty (.first 0 (.first 1 (.first 2 (.first 3 (.first 4 (.first 5 (.first 6 (.first 7 (.first 9 (.first 10 (.first 11 (.first 12 (.first 13 (.first 14 (.first 15 (.first 16 (.first 18 (.first 19 (.first 20 (.first 21 (.first 22 (.first 23 (.first 24 (.first 25 (.alt 8 (.first 27 (.alt 17 (.first 28 (.alt 26 (.first 29 .done) .stop)) (.alt 26 (.alt 17 (.first 28 (.first 29 .done)) .stop) .stop))) (.alt 17 (.alt 8 (.first 27 (.first 28 (.alt 26 (.first 29 .done) .stop))) (.alt 26 (.alt 8 (.first 27 (.first 28 (.first 29 .done))) .stop) .stop)) (.alt 26 (.alt 8 (.first 27 (.alt 17 (.first 28 (.first 29 .done)) .stop)) (.alt 17 (.alt 8 (.first 27 (.first 28 (.first 29 .done))) .stop) .stop)) .stop))))))))))))))))))))))))))) (by kernel_rfl) (by kernel_rfl) ?_)
        ((conv => whnf); repeat' ((first | (intro hq; (try simp only [lnS] at hq); (try rewrite [List.length_map])) | refine sJ ?_ | refine Exists.intro _ (And.intro rfl ?_) | (refine Exists.intro (show (_ : Nat) < List.length _ from by first | omega | (simp only [List.length_cons, List.length_nil]; omega) | simp) ?_) | exact trivial | (refine And.intro ?_ ?_) | refine draw_rule hty (by kernel_rfl) (by kernel_rfl) ?_ | ((first | refine brB_dec (fun hb => ?_) (fun hb => ?_) | refine brB_ndec (fun hb => ?_) (fun hb => ?_)) <;> (first | contradiction | ((try simp only [lnS] at hb); (first | (exfalso; omega) | skip)))) | (refine brB_split (fun hb => ?_) (fun hb => ?_) <;> (first | contradiction | exact absurd (hb.symm.trans (by assumption) : false = true) (by decide) | exact absurd (hb.symm.trans (by assumption) : true = false) (by decide) | skip))) <;> (conv => whnf)))
        all_goals exact ⟨by repeat' (first | exact trivial | exact rfl | refine And.intro ?_ ?_), by repeat' (first | exact trivial | exact rfl | refine And.intro ?_ ?_)⟩
      ((conv => whnf); repeat ((first | (intro hq; try simp only [lnS] at hq) | refine sI ?_ | refine Exists.intro _ (And.intro rfl ?_)); (conv => whnf)))
      refine loop_rule hty (fun i : Nat => ([(0, .d (.sl 16 (l.map axR))), (4, .d (.bool false)), (5, .ea 4 [nmR A] 0 0), (10, .d (.int .i64 0)), (11, .d (.sl 1 (rowsN A))), (12, .d (.sl 1 (rowsN B))), (13, .d (.sl 1 (rowsN Z))), (14, .d (.int .i64 i))], NGb)) (fun i => i ≤ 4) (fun i => 4 - i) 0 (by omega) ⟨by repeat' (first | exact trivial | exact rfl | refine And.intro ?_ ?_), by repeat' (first | exact trivial | exact rfl | refine And.intro ?_ ?_)⟩ ?_
      intro i hi
      ((conv => whnf); repeat ((first | (intro hq; try simp only [lnS] at hq) | refine sI ?_ | refine Exists.intro _ (And.intro rfl ?_)); (conv => whnf)))
      refine brB_dec (fun h1 => ?_) (fun h1 => ?_)
      · have hi4 : i < 4 := by omega
        have ra := rowsN_at A hi4
        have rb := rowsN_at B hi4
        have rz := rowsN_at Z hi4
        have w1 := within_spec (lst A i) (lst Z i)
        have w2 := within_spec (lst B i) (lst Z i)
        have w3 := within_spec (lst Z i) (lst A i ++ lst B i)
        rw [wl i] at w1
        rw [wr i] at w2
        rw [wb i, show strl (lst A i ++ lst B i) = .sl 1 ((lst A i).map strR ++ (lst B i).map strR) by rw [strl, List.map_append]] at w3
        have nzi := nz i
        have hx := lA i
        have hy := lB i
        have gi : (i : Int).toNat < 4 := by omega
        clear wl wr wb nz wt lA lB
        generalize lst A i = X at *
        generalize lst B i = Y at *
        generalize lst Z i = W at *
        ((conv => whnf); repeat ((first | (intro hq; try simp only [lnS] at hq) | refine sI ?_ | refine Exists.intro _ (And.intro rfl ?_)); (conv => whnf)))
        refine SemVC.mid [(0, .d (.sl 16 (l.map axR))), (4, .d (.bool false)), (5, .ea 4 [nmR A] 0 0), (10, .d (.int .i64 0)), (11, .d (.sl 1 (rowsN A))), (12, .d (.sl 1 (rowsN B))), (13, .d (.sl 1 (rowsN Z))), (14, .d (.int .i64 i)), (15, .d (.sl 1 (X.map strR ++ Y.map strR)))] NGb ?_ ?_
        · (refine tree2_rule (id := 14) hty (.first 1 (.first 2 (.first 3 (.first 4 (.first 6 (.first 7 (.first 8 (.first 9 (.alt 0 (.alt 5 (.alt 10 (.first 11 .done) .stop) .stop) .stop))))))))) (by kernel_rfl) (by kernel_rfl) ?_)
          ((conv => whnf); repeat' ((first | (intro hq; (try simp only [lnS] at hq); (try rewrite [List.length_map])) | refine sJ ?_ | refine Exists.intro _ (And.intro rfl ?_) | (refine Exists.intro (show (_ : Nat) < List.length _ from by first | omega | (simp only [List.length_cons, List.length_nil]; omega) | simp) ?_) | (refine And.intro gi ?_) | (refine ⟨_, ra, ?_⟩) | (refine ⟨_, rb, ?_⟩) | exact trivial | (refine And.intro ?_ ?_) | refine draw_rule hty (by kernel_rfl) (by kernel_rfl) ?_ | ((first | refine brB_dec (fun hb => ?_) (fun hb => ?_) | refine brB_ndec (fun hb => ?_) (fun hb => ?_)) <;> (first | contradiction | ((try simp only [lnS] at hb); (first | (exfalso; omega) | skip)))) | (refine brB_split (fun hb => ?_) (fun hb => ?_) <;> (first | contradiction | exact absurd (hb.symm.trans (by assumption) : false = true) (by decide) | exact absurd (hb.symm.trans (by assumption) : true = false) (by decide) | skip))) <;> (conv => whnf)))
          all_goals exact ⟨by repeat' (first | exact trivial | exact rfl | refine And.intro ?_ ?_), by repeat' (first | exact trivial | exact rfl | refine And.intro ?_ ?_)⟩
        ((conv => whnf); repeat ((first | (intro hq; try simp only [lnS] at hq) | refine sI ?_ | refine Exists.intro _ (And.intro rfl ?_)); (conv => whnf)))
        ((conv => whnf); repeat' ((first | (intro hq; (try simp only [lnS] at hq); (try rewrite [List.length_map])) | refine sJ ?_ | refine Exists.intro _ (And.intro rfl ?_) | (refine Exists.intro (show (_ : Nat) < List.length _ from by first | omega | (simp only [List.length_cons, List.length_nil]; omega) | simp) ?_) | (refine And.intro gi ?_) | (refine ⟨_, ra, ?_⟩) | (refine ⟨_, rb, ?_⟩) | (refine ⟨_, rz, ?_⟩) | (refine ⟨.d (.bool _), _, [], rfl, trivial, w1, ?_⟩) | (refine ⟨.d (.bool _), _, [], rfl, trivial, w2, ?_⟩) | (refine ⟨.d (.bool _), _, [], rfl, trivial, w3, ?_⟩) | refine draw_rule hty (by kernel_rfl) (by kernel_rfl) ?_ | ((first | refine brB_dec (fun hb => ?_) (fun hb => ?_) | refine brB_ndec (fun hb => ?_) (fun hb => ?_)) <;> (first | contradiction | ((try simp only [lnS] at hb); (first | (exfalso; omega) | skip)))) | (refine brB_split (fun hb => ?_) (fun hb => ?_) <;> (first | contradiction | exact absurd (hb.symm.trans (by assumption) : false = true) (by decide) | exact absurd (hb.symm.trans (by assumption) : true = false) (by decide) | skip))) <;> (conv => whnf)))
        clear w1 w2 w3
        refine loop_rule hty (fun k : Nat => ([(0, .d (.sl 16 (l.map axR))), (4, .d (.bool false)), (5, .ea 4 [nmR A] 0 0), (10, .d (.int .i64 0)), (11, .d (.sl 1 (rowsN A))), (12, .d (.sl 1 (rowsN B))), (13, .d (.sl 1 (rowsN Z))), (14, .d (.int .i64 i)), (16, .d (.int .i64 k))], NGb)) (fun k => k ≤ W.length) (fun k => W.length - k) 0 (by omega) ⟨by repeat' (first | exact trivial | exact rfl | refine And.intro ?_ ?_), by repeat' (first | exact trivial | exact rfl | refine And.intro ?_ ?_)⟩ ?_
        intro k hk
        ((conv => whnf); repeat ((first | (refine And.intro gi ?_) | (refine ⟨_, rz, ?_⟩) | (intro hq; try simp only [lnS] at hq) | refine sI ?_ | refine Exists.intro _ (And.intro rfl ?_)); (conv => whnf)))
        refine brB_dec (fun h2 => ?_) (fun h2 => ?_)
        · have hkl : k < W.length := by simp only [List.length_map] at h2; omega
          have hrow : (W.map strR)[(k : Int).toNat]? = some (strR W[k]) := rowC_at hkl
          have hc := checkName_spec W[k]
          rw [if_pos (nzi _ (List.getElem_mem hkl))] at hc
          generalize W[k] = s at hrow hc
          ((conv => whnf); repeat' ((first | (intro hq; (try simp only [lnS] at hq); (try rewrite [List.length_map])) | refine sJ ?_ | refine Exists.intro _ (And.intro rfl ?_) | (refine Exists.intro (show (_ : Nat) < List.length _ from by first | omega | (simp only [List.length_cons, List.length_nil]; omega) | simp) ?_) | (refine And.intro gi ?_) | (refine ⟨_, rz, ?_⟩) | (refine ⟨_, hrow, ?_⟩) | (refine call_tri [] hc trivial (fun r hs => ?_); subst hs) | refine draw_rule hty (by kernel_rfl) (by kernel_rfl) ?_ | ((first | refine brB_dec (fun hb => ?_) (fun hb => ?_) | refine brB_ndec (fun hb => ?_) (fun hb => ?_)) <;> (first | contradiction | ((try simp only [lnS] at hb); (first | (exfalso; omega) | skip)))) | (refine brB_split (fun hb => ?_) (fun hb => ?_) <;> (first | contradiction | exact absurd (hb.symm.trans (by assumption) : false = true) (by decide) | exact absurd (hb.symm.trans (by assumption) : true = false) (by decide) | skip))) <;> (conv => whnf)))
          exact ⟨k + 1, by dsimp only; omega, by dsimp only; omega, ⟨by repeat' (first | exact trivial | exact rfl | refine And.intro ?_ ?_), by repeat' (first | exact trivial | exact rfl | refine And.intro ?_ ?_)⟩⟩
        · ((conv => whnf); repeat' ((first | (intro hq; (try simp only [lnS] at hq); (try rewrite [List.length_map])) | refine sJ ?_ | refine Exists.intro _ (And.intro rfl ?_) | (refine Exists.intro (show (_ : Nat) < List.length _ from by first | omega | (simp only [List.length_cons, List.length_nil]; omega) | simp) ?_) | fail | refine draw_rule hty (by kernel_rfl) (by kernel_rfl) ?_ | ((first | refine brB_dec (fun hb => ?_) (fun hb => ?_) | refine brB_ndec (fun hb => ?_) (fun hb => ?_)) <;> (first | contradiction | ((try simp only [lnS] at hb); (first | (exfalso; omega) | skip)))) | (refine brB_split (fun hb => ?_) (fun hb => ?_) <;> (first | contradiction | exact absurd (hb.symm.trans (by assumption) : false = true) (by decide) | exact absurd (hb.symm.trans (by assumption) : true = false) (by decide) | skip))) <;> (conv => whnf)))
          exact ⟨i + 1, by dsimp only; omega, by dsimp only; omega, ⟨by repeat' (first | exact trivial | exact rfl | refine And.intro ?_ ?_), by repeat' (first | exact trivial | exact rfl | refine And.intro ?_ ?_)⟩⟩
      · clear wl wr wb nz
        ((conv => whnf); repeat ((first | (intro hq; try simp only [lnS] at hq) | refine sI ?_ | refine Exists.intro _ (And.intro rfl ?_)); (conv => whnf)))
        refine loop_rule hty (fun j : Nat => ([(0, .d (.sl 16 (l.map axR))), (4, .d (.bool false)), (5, .ea 4 [nmR A] 0 0), (10, .d (.int .i64 0)), (17, .d (.int .i64 j))], NGb)) (fun j => j ≤ l.length) (fun j => l.length - j) 0 (by omega) ⟨by repeat' (first | exact trivial | exact rfl | refine And.intro ?_ ?_), by repeat' (first | exact trivial | exact rfl | refine And.intro ?_ ?_)⟩ ?_
        intro j hj
        ((conv => whnf); repeat ((first | (intro hq; try simp only [lnS] at hq) | refine sI ?_ | refine Exists.intro _ (And.intro rfl ?_)); (conv => whnf)))
        refine brB_dec (fun h2 => ?_) (fun h2 => ?_)
        · have hjl : j < l.length := by simp only [List.length_map] at h2; omega
          have hrow : (l.map axR)[(j : Int).toNat]? = some (axR l[j]) := rowC_at hjl
          have hx := wt l[j] (List.getElem_mem hjl)
          have ht := (TidyAxiom_spec l[j]).toB
          have hv := Tri.toB <| Vocabulary_spec [(tidyA l[j]).1] (by simp)
          generalize l[j] = x at hrow hx ht hv
          by_cases h0 : (tidyA x).2 = 0
          · have hz : firstA [(tidyA x).1] = 0 := (firstA_iff _).2 fun y hy => by
              simp only [List.mem_singleton] at hy
              subst hy
              exact (axiom_tidy h0).2.1
            rw [vocR_ok hz] at hv
            have hx := hx h0
            rw [h0] at ht
            have w0 := within_spec (lst (vocN [(tidyA x).1]) 0) (lst A 0)
            have w1 := within_spec (lst (vocN [(tidyA x).1]) 1) (lst A 1)
            have w2 := within_spec (lst (vocN [(tidyA x).1]) 2) (lst A 2)
            have w3 := within_spec (lst (vocN [(tidyA x).1]) 3) (lst A 3)
            rw [hx] at w0 w1 w2 w3
            clear hx hz h0 wt
            generalize vocN [(tidyA x).1] = V at *
            generalize (tidyA x).1 = t at *
            ((conv => whnf); repeat' ((first | (intro hq; (try simp only [lnS] at hq); (try rewrite [List.length_map])) | refine sJ ?_ | refine Exists.intro _ (And.intro rfl ?_) | (refine Exists.intro (show (_ : Nat) < List.length _ from by first | omega | (simp only [List.length_cons, List.length_nil]; omega) | simp) ?_) | (refine ⟨_, hrow, ?_⟩) | (refine call_tri NGb ht ⟨rfl, rfl, trivial⟩ (fun r hs => ?_); subst hs) | (refine call_tri NGb (Tri.oslN hv (wkDR_refl _)) ⟨rfl, rfl, trivial⟩ (fun r hs => ?_); subst hs) | (refine call_tri [] w0 trivial (fun r hs => ?_); subst hs) | (refine call_tri [] w1 trivial (fun r hs => ?_); subst hs) | (refine call_tri [] w2 trivial (fun r hs => ?_); subst hs) | (refine call_tri [] w3 trivial (fun r hs => ?_); subst hs) | refine draw_rule hty (by kernel_rfl) (by kernel_rfl) ?_ | ((first | refine brB_dec (fun hb => ?_) (fun hb => ?_) | refine brB_ndec (fun hb => ?_) (fun hb => ?_)) <;> (first | contradiction | ((try simp only [lnS] at hb); (first | (exfalso; omega) | skip)))) | (refine brB_split (fun hb => ?_) (fun hb => ?_) <;> (first | contradiction | exact absurd (hb.symm.trans (by assumption) : false = true) (by decide) | exact absurd (hb.symm.trans (by assumption) : true = false) (by decide) | skip))) <;> (conv => whnf)))
            exact ⟨j + 1, by dsimp only; omega, by dsimp only; omega, ⟨by repeat' (first | exact trivial | exact rfl | refine And.intro ?_ ?_), by repeat' (first | exact trivial | exact rfl | refine And.intro ?_ ?_)⟩⟩
          · clear hv hx wt
            ((conv => whnf); repeat' ((first | (intro hq; (try simp only [lnS] at hq); (try rewrite [List.length_map])) | refine sJ ?_ | refine Exists.intro _ (And.intro rfl ?_) | (refine Exists.intro (show (_ : Nat) < List.length _ from by first | omega | (simp only [List.length_cons, List.length_nil]; omega) | simp) ?_) | (refine ⟨_, hrow, ?_⟩) | (refine call_tri NGb ht ⟨rfl, rfl, trivial⟩ (fun r hs => ?_); subst hs) | refine draw_rule hty (by kernel_rfl) (by kernel_rfl) ?_ | ((first | refine brB_dec (fun hb => ?_) (fun hb => ?_) | refine brB_ndec (fun hb => ?_) (fun hb => ?_)) <;> (first | contradiction | ((try simp only [lnS] at hb); (first | (exfalso; omega) | skip)))) | (refine brB_split (fun hb => ?_) (fun hb => ?_) <;> (first | contradiction | exact absurd (hb.symm.trans (by assumption) : false = true) (by decide) | exact absurd (hb.symm.trans (by assumption) : true = false) (by decide) | skip))) <;> (conv => whnf)))
            exact ⟨j + 1, by dsimp only; omega, by dsimp only; omega, ⟨by repeat' (first | exact trivial | exact rfl | refine And.intro ?_ ?_), by repeat' (first | exact trivial | exact rfl | refine And.intro ?_ ?_)⟩⟩
        · ((conv => whnf); repeat' ((first | (intro hq; (try simp only [lnS] at hq); (try rewrite [List.length_map])) | refine sJ ?_ | refine Exists.intro _ (And.intro rfl ?_) | (refine Exists.intro (show (_ : Nat) < List.length _ from by first | omega | (simp only [List.length_cons, List.length_nil]; omega) | simp) ?_) | fail | refine draw_rule hty (by kernel_rfl) (by kernel_rfl) ?_ | ((first | refine brB_dec (fun hb => ?_) (fun hb => ?_) | refine brB_ndec (fun hb => ?_) (fun hb => ?_)) <;> (first | contradiction | ((try simp only [lnS] at hb); (first | (exfalso; omega) | skip)))) | (refine brB_split (fun hb => ?_) (fun hb => ?_) <;> (first | contradiction | exact absurd (hb.symm.trans (by assumption) : false = true) (by decide) | exact absurd (hb.symm.trans (by assumption) : true = false) (by decide) | skip))) <;> (conv => whnf)))
          rfl
  all_goals ((conv => whnf); repeat' ((first | (intro hq; (try simp only [lnS] at hq); (try rewrite [List.length_map])) | refine sJ ?_ | refine Exists.intro _ (And.intro rfl ?_) | (refine Exists.intro (show (_ : Nat) < List.length _ from by first | omega | (simp only [List.length_cons, List.length_nil]; omega) | simp) ?_) | (refine call_tri [] f1 trivial (fun r hs => ?_); subst hs) | (refine call_tri [] f2 trivial (fun r hs => ?_); subst hs) | refine draw_rule hty (by kernel_rfl) (by kernel_rfl) ?_ | ((first | refine brB_dec (fun hb => ?_) (fun hb => ?_) | refine brB_ndec (fun hb => ?_) (fun hb => ?_)) <;> (first | contradiction | ((try simp only [lnS] at hb); (first | (exfalso; omega) | skip)))) | (refine brB_split (fun hb => ?_) (fun hb => ?_) <;> (first | contradiction | exact absurd (hb.symm.trans (by assumption) : false = true) (by decide) | exact absurd (hb.symm.trans (by assumption) : true = false) (by decide) | skip))) <;> (conv => whnf)))
  all_goals rfl
end Go.Proofs.YtkbmlchceiglfaaGreatDoor
