/-
  Base: New. Base: combine, Minus, Common.
  Conditions: none.
-/
import Derived.Test.YtnemengadjimcaaGreatDoorMQsc
set_option linter.unnecessarySimpa false
set_option linter.unusedSectionVars false
set_option linter.unusedSimpArgs false
set_option linter.unusedVariables false
set_option maxHeartbeats 16000000
namespace Go.Proofs.YtnemengadjimcaaGreatDoor
open Go.Proofs
set_option maxRecDepth 10000
theorem CallVC.frozB {P : Program} {pin : List Nat} {fr : Fr} {hp hp1 : Hp} {f : FuncId} {K : SV → Hp → Prop} {id i t e z cap n : Nat} {rows : List (List D)} (ho : getH hp id = some (.mrow e z cap rows)) (hn : n = rows.length) (hsub : subH hp1 hp) (hno : getH hp1 id = none)
  (hc : getH hp1 i = some (.cells t [.mw id z n])) (h : CallVC P pin fr (setH hp1 i (.cells t [.d (.sl z rows)])) f [.d (.agg [.sl z rows])] K) : CallVC P pin fr hp f [.agg [.mw id z n]] K := by
 intro E ρ w tm hpin h3 h4 vs hargs
 obtain ⟨S', s1, s2, s3⟩ := h3.froze ho hsub hno
 obtain ⟨q1, _⟩ := h3.sat id _ ho
 have m := s2.recell hc (cs' := [.d (.sl z rows)]) rfl (fun j s' v hs' hv => by
  cases j with
  | zero =>
   simp at hs'
   subst hs'
   obtain ⟨A, c, _, _, _, _, _, e2⟩ := (hv _ rfl).mw_inv
   have := e2 (hn.trans q1.symm)
   subst this
   exact .d _ _ s3
  | succ j => simp at hs')
 refine h E _ w tm hpin m (h4.mono (fun _ _ _ => rfl) s1 fun i _ => ρ.moved_withS S' i) vs ⟨hargs.1, fun k s v hs hv => ?_⟩
 cases k with
 | succ k => simp at hs
 | zero =>
  simp at hs
  subst hs
  cases hargs.2 0 _ v rfl hv with
  | agg cs us hl h =>
   refine .d _ _ (.agg _ _ hl fun j x u hx hu => ?_)
   cases j with
   | succ j => simp at hx
   | zero =>
    simp at hx
    subst hx
    obtain ⟨A, c, _, _, _, _, _, e2⟩ := (h 0 _ u rfl hu).mw_inv
    have := e2 (hn.trans q1.symm)
    subst this
    exact s3
attribute [local irreducible] SemVC CallVC Tri Stuck YVC GenP GenVC
structure PairB (l : List Ax) (e : Int) (s : SV) : Prop where
 ex : ∃ a, s = .tup [.d a, .d (.int .i64 e)] ∧ (a = basR l ∨ WkD a (basR l))
theorem Tri.pairB {P : Program} {f : FuncId} {qs : List SV} {hp : Hp} {l : List Ax} {e : Int} (h : Tri P f qs hp (PairB l e)) : Tri P f qs hp (fun r => r = .tup [.d (basR l), .d (.int .i64 e)]) := by
 refine Tri.resT h ?_
 rintro s ⟨a, rfl, rfl | hw⟩
 ·exact .inl rfl
 ·exact .inr ⟨_, [.d (basR l), .d (.int .i64 e)], rfl, ⟨hw, by exact rfl, trivial⟩, rfl⟩
theorem nilB (e : Int) : PairB [] e (.tup [.d (.agg [.nil]), .d (.int .i64 e)]) := ⟨_, rfl, .inr ⟨rfl, trivial⟩⟩
theorem sameB (l : List Ax) (e : Int) : PairB l e (.tup [.d (basR l), .d (.int .i64 e)]) := ⟨_, rfl, .inl rfl⟩
theorem mwW {i z a b : Nat} (h : a = b) : Wk (.mw i z a) (.mw i z b) := by subst h; exact rfl
theorem pmap_val : ∀ (l : List Ax) (h : ∀ x ∈ l, SmA x), ((l.pmap Subtype.mk h : List SAx)).map Subtype.val = l
 | [], _ => rfl
 | x :: r, h => by rw [List.pmap_cons, List.map_cons, pmap_val r]
theorem mergS_nil (a : Ax) : mergS [] a = [a] := rfl
theorem mergS_eq {b : List Ax} {z a : Ax} (h : cmpAx z a = 0) : mergS (b ++ [z]) a = b ++ [{ z with isopen := z.isopen || a.isopen }] := by
 unfold mergS
 simp only [List.getLast?_append, List.getLast?_singleton, Option.some_or, List.dropLast_concat]
 rw [if_pos h]
theorem mergS_ne {b : List Ax} {z a : Ax} (h : ¬ cmpAx z a = 0) : mergS (b ++ [z]) a = b ++ [z] ++ [a] := by
 unfold mergS
 simp only [List.getLast?_append, List.getLast?_singleton, Option.some_or, List.dropLast_concat]
 rw [if_neg h]
theorem mergA_mem {l : List Ax} : ∀ x ∈ mergA l, ∃ y ∈ l, erA x = erA y := by
 have key : ∀ (l b : List Ax), ∀ x ∈ l.foldl mergS b, (∃ y ∈ b, erA x = erA y) ∨ ∃ y ∈ l, erA x = erA y := by
  intro l
  induction l with
  | nil => intro b x hx; exact .inl ⟨x, hx, rfl⟩
  | cons a r ih =>
   intro b x hx
   rw [List.foldl_cons] at hx
   rcases ih _ x hx with ⟨y, hy, e⟩ | ⟨y, hy, e⟩
   ·rcases List.eq_nil_or_concat b with hb | ⟨b0, z, hb⟩
    ·subst hb
     rw [mergS_nil] at hy
     simp at hy; subst hy
     exact .inr ⟨y, by simp, e⟩
    ·rw [List.concat_eq_append] at hb
     subst hb
     by_cases h : cmpAx z a = 0
     ·rw [mergS_eq h] at hy
      rcases List.mem_append.1 hy with hy | hy
      ·exact .inl ⟨y, List.mem_append_left _ hy, e⟩
      ·simp at hy; subst hy
       exact .inl ⟨z, by simp, e⟩
     ·rw [mergS_ne h] at hy
      rcases List.mem_append.1 hy with hy | hy
      ·exact .inl ⟨y, hy, e⟩
      ·simp at hy; subst hy
       exact .inr ⟨y, by simp, e⟩
   ·exact .inr ⟨y, List.mem_cons_of_mem _ hy, e⟩
 intro x hx
 rcases key l [] x hx with ⟨y, hy, _⟩ | h
 ·cases hy
 ·exact h
theorem smA_er {x y : Ax} (h : erA x = erA y) (hy : SmA y) : SmA x := by
 have e1 : (erA x).left = (erA y).left := by rw [h]
 have e2 : (erA x).right = (erA y).right := by rw [h]
 have e3 : (erA x).roles = (erA y).roles := by rw [h]
 have e1 : x.left = y.left := e1
 have e2 : x.right = y.right := e2
 have e3 : x.roles = y.roles := e3
 unfold SmA
 rw [e1, e2, e3]
 exact hy
theorem tidM_take {l : List Ax} {j : Nat} (h : j < l.length) : (tidM (l.take (j + 1))).map axR = (tidM (l.take j)).map axR ++ [axR (tidyA l[j]).1] := by
 unfold tidM
 rw [List.take_succ_eq_append_getElem h, List.map_append, List.map_append]; rfl
theorem new_spec (l : List Ax) (hn : l.length ≤ 100000) : Tri Tryz.prog 23 [.d (.sl 16 (l.map axR))] NG (fun r => r = .tup [.d (basR (newE l).1), .d (.int .i64 (newE l).2)]) := by
 refine Tri.pairB ?_
 refine tri_of_bodyF false [6, 7, 10] hty Tryz.func23 rfl (kp [0, 2, 3, 4, 6, 7, 8, 10, 11, 12, 13, 14, 15, 16, 25, 35, 36, 37, 38, 56, 84]) [] _ _ _ (by simp [Tryz.f23]) (by decide) ?_
 ((conv => whnf); repeat ((first | (intro hq; try simp only [lnS] at hq) | refine sI ?_ | refine .intro _ (.intro rfl ?_)); (conv => whnf)))
 rw [List.length_map]
 refine SemVC.mown 4 70 49 16 rfl (fresh_of (by with_unfolding_all exact rfl)) ?_
 refine loop_rule hty (fun y : Nat × Nat => ([(2, .ptr 2 0), (3, .d (.int .i64 0)), (4, .mw 70 16 y.1), (13, .d (.sl 16 (l.map axR))), (14, .d (.int .i64 l.length)), (15, .d (.int .i64 y.1))], (70, .mrow 49 16 y.2 ((tidM (l.take y.1)).map axR)) :: (2, .cells 38 [.d .nil]) :: NG)) (fun y => y.1 ≤ l.length ∧ ∀ x ∈ l.take y.1, (tidyA x).2 = 0) (fun y => l.length - y.1) (0, 0) ⟨by dsimp only; omega, by simp⟩ ⟨by repeat' (first | exact trivial | exact rfl | refine And.intro ?_ ?_), ⟨rfl, rfl, rfl, rfl, trivial⟩⟩ ?_
 rintro ⟨j, cap⟩ ⟨hj, hz⟩
 dsimp only at hj hz
 ((conv => whnf); repeat ((first | (intro hq; try simp only [lnS] at hq) | refine sI ?_ | refine .intro _ (.intro rfl ?_)); (conv => whnf)))
 refine brB_dec (fun h1 => ?_) (fun h1 => ?_)
 ·have hjl : j < l.length := by dsimp only at h1; omega
  have hrow := axR_rows hjl
  have ht := TidyAxiom_spec l[j]
  have herr := tidE_err hjl hz
  have htm := tidM_take hjl
  have hz2 : (tidyA l[j]).2 = 0 → ∀ x ∈ l.take (j + 1), (tidyA x).2 = 0 := fun h2 y hy => by
   rw [List.take_succ_eq_append_getElem hjl] at hy
   rcases List.mem_append.1 hy with hy | hy
   ·exact hz y hy
   ·simp at hy; subst hy; exact h2
  have hlt : ((tidM (l.take j)).map axR).length = j := by unfold tidM; rw [List.length_map, List.length_map, List.length_take]; omega
  have hb63 : ((tidM (l.take j)).map axR).length + 1 ≤ 9223372036854775807 := by rw [hlt]; omega
  have hb48 : (((tidM (l.take j)).map axR).length + 1) * 216 ≤ 140737488355328 := by rw [hlt]; omega
  generalize (tidyA l[j]).1 = T at *
  generalize (tidyA l[j]).2 = e at *
  generalize l[j] = x at *
  generalize (tidM (l.take j)).map axR = rows at *
  ((conv => whnf); repeat ((first | (refine ⟨_, hrow, ?_⟩) | (refine call_tri NG ht ⟨rfl, rfl, trivial⟩ (fun r hs => ?_); subst hs) | (intro hq; try simp only [lnS] at hq) | refine sI ?_ | refine .intro _ (.intro rfl ?_)); (conv => whnf)))
  refine brB_ndec (fun h2 => ?_) (fun h2 => ?_)
  ·have hv : newE l = ([], e) := by unfold newE; rw [if_pos (by rw [herr h2]; exact h2), herr h2]
   rw [hv]
   ((conv => whnf); repeat' ((first | (intro hq; (try simp only [lnS] at hq); (try rewrite [List.length_map])) | refine sJ ?_ | refine .intro _ (.intro rfl ?_) | (refine .intro (show (_ : Nat) < List.length _ from by first | omega | (simp only [lnS]; omega) | simp) ?_) | fail | refine draw_rule hty (by kernel_rfl) (by kernel_rfl) ?_ | ((first | refine brB_dec ?_ ?_ | refine brB_ndec ?_ ?_) <;> intro hb <;> (first | contradiction | ((try simp only [lnS] at hb); try (exfalso; omega)))) | (refine brB_split ?_ ?_ <;> intro hb <;> (first | contradiction | exact bT hb (by assumption) | exact bF hb (by assumption) | skip))) <;> (conv => whnf)))
   exact nilB _
  ·((conv => whnf); repeat ((first | (refine And.intro hlt.symm ?_) | (refine And.intro hb63 ?_) | (refine And.intro hb48 ?_) | (intro hq; try simp only [lnS] at hq) | refine sI ?_ | refine .intro _ (.intro rfl ?_)); (conv => whnf)))
   rename_i cap'
   refine ⟨(j + 1, cap'), ⟨by dsimp only; omega, hz2 (by simpa using h2)⟩, by dsimp only; omega, ?_⟩
   dsimp only
   rw [htm]
   exact ⟨by repeat' (first | exact trivial | exact rfl | exact mwW (by rw [hlt]; rfl) | refine And.intro ?_ ?_), ⟨rfl, rfl, rfl, rfl, trivial⟩⟩
 have hjl : j = l.length := by dsimp only at h1; omega
 subst hjl
 rw [List.take_length] at hz ⊢
 have hv : newE l = if checkB (newB (tidM l)) ≠ 0 then ([], checkB (newB (tidM l))) else (newB (tidM l), 0) := by
  unfold newE; rw [if_neg (by rw [(tidE_iff l).2 hz]; simp)]
 rw [hv]
 clear hv h1 hj
 have hTl : (tidM l).length = l.length := by unfold tidM; rw [List.length_map]
 have hsm : ∀ x ∈ tidM l, SmA x := fun x hx => by
  obtain ⟨y, hy, rfl⟩ := List.mem_map.1 hx
  exact smA_tidy (hz y hy)
 rw [← saR_pmap (tidM l) hsm]
 have hpv := pmap_val (tidM l) hsm
 have hQl : ((tidM l).pmap Subtype.mk hsm : List SAx).length = l.length := by rw [List.length_pmap, hTl]
 generalize ((tidM l).pmap Subtype.mk hsm : List SAx) = Q at *
 ((conv => whnf); repeat ((first | (intro hq; try simp only [lnS] at hq) | refine sI ?_ | refine .intro _ (.intro rfl ?_)); (conv => whnf)))
 refine sortStable_call ⟨rfl, cmpS_lc.ord, fun x y => CompareAxiom_spec x.1 y.1 x.2.1 x.2.2.1 x.2.2.2 y.2.1 y.2.2.1 y.2.2.2⟩ Q (by omega) hQl.symm cap _ (fun S hS hs => ?_)
 have hperm : (S.map Subtype.val).Perm (tidM l) := by rw [← hpv]; exact hS.map _
 have hsrt : (S.map Subtype.val).Pairwise fun x y => ¬ cmpAx y x < 0 := by rw [List.pairwise_map]; exact hs
 have hnb := newB_any hperm hsrt
 have hSl : (S.map Subtype.val).length = l.length := by rw [hperm.length_eq, hTl]
 have hsm2 : ∀ x ∈ S.map Subtype.val, SmA x := fun x hx => hsm x (hperm.mem_iff.1 hx)
 rw [saR_map]
 generalize S.map Subtype.val = A at *
 clear hS hs hpv hperm hsrt
 rw [← hnb]
 ((conv => whnf); repeat ((first | (intro hq; try simp only [lnS] at hq) | refine sI ?_ | refine .intro _ (.intro rfl ?_)); (conv => whnf)))
 refine SemVC.mownC 2 71 38 49 16 0 rfl rfl (fresh_of (by with_unfolding_all exact rfl)) ?_
 refine loop_rule hty (fun y : Nat × Nat => ([(2, .ptr 2 0), (3, .d (.int .i64 0)), (35, .mw 70 16 l.length), (36, .d (.int .i64 l.length)), (37, .d (.int .i64 y.1))], (71, .mrow 49 16 y.2 ((mergA (A.take y.1)).map axR)) :: (70, .mrow 49 16 cap (A.map axR)) :: (2, .cells 38 [.mw 71 16 (mergA (A.take y.1)).length]) :: NG)) (fun y => y.1 ≤ A.length) (fun y => A.length - y.1) (0, 0) (by dsimp only; omega) ⟨by repeat' (first | exact trivial | exact rfl | refine And.intro ?_ ?_), ⟨rfl, rfl, rfl, rfl, rfl, trivial⟩⟩ ?_
 rintro ⟨k, cap2⟩ hk
 dsimp only at hk
 ((conv => whnf); repeat ((first | (intro hq; try simp only [lnS] at hq) | refine sI ?_ | refine .intro _ (.intro rfl ?_)); (conv => whnf)))
 refine brB_dec (fun h1 => ?_) (fun h1 => ?_)
 ·have hkl : k < A.length := by dsimp only at h1; omega
  have hrow := axR_rows hkl
  have hmt := mergA_take hkl
  have hml := mergA_len (A.take k)
  rw [List.length_take] at hml
  have hsx := hsm2 _ (List.getElem_mem hkl)
  have hsb : ∀ z ∈ mergA (A.take k), SmA z := fun z hz => by
   obtain ⟨y, hy, e⟩ := mergA_mem z hz
   exact smA_er e (hsm2 y (List.mem_of_mem_take hy))
  generalize mergA (A.take k) = B at *
  have hAl : l.length = (A.map axR).length := by rw [List.length_map, hSl]
  generalize A[k] = x at *
  ((conv => whnf); repeat ((first | (refine ⟨_, hrow, ?_⟩) | (refine And.intro hAl ?_) | (intro hq; try simp only [lnS] at hq) | refine sI ?_ | refine .intro _ (.intro rfl ?_)); (conv => whnf)))
  have hBl : (B.map axR).length = B.length := List.length_map ..
  have hb63 : (B.map axR).length + 1 ≤ 9223372036854775807 := by rw [hBl]; omega
  have hb48 : ((B.map axR).length + 1) * 216 ≤ 140737488355328 := by rw [hBl]; omega
  have happ : (B ++ [x]).map axR = B.map axR ++ [axR x] := by rw [List.map_append]; rfl
  rcases List.eq_nil_or_concat B with hB | ⟨B0, z, hB⟩
  ·subst hB
   rw [mergS_nil] at hmt
   refine draw_rule hty (by kernel_rfl) (by kernel_rfl) ?_
   ((conv => whnf); repeat ((first | (refine And.intro hb63 ?_) | (refine And.intro hb48 ?_) | (intro hq; try simp only [lnS] at hq) | refine sI ?_ | refine .intro _ (.intro rfl ?_)); (conv => whnf)))
   rename_i cap'
   refine ⟨(k + 1, cap'), by dsimp only; omega, by dsimp only; omega, ?_⟩
   dsimp only
   rw [hmt]
   exact ⟨by repeat' (first | exact trivial | exact rfl | refine And.intro ?_ ?_), ⟨rfl, rfl, rfl, rfl, rfl, trivial⟩⟩
  ·rw [List.concat_eq_append] at hB
   have hz : z ∈ B := by rw [hB]; simp
   have c := like_spec z x (hsb z hz) hsx
   have hBn : B.length = B0.length + 1 := by rw [hB, List.length_append]; rfl
   have hrz : (B.map axR)[((B.length : Int) - 1).toNat]? = some (axR z) := by
    rw [hB, show (((B0 ++ [z]).length : Int) - 1).toNat = B0.length by rw [← hB]; omega, List.getElem?_map, List.getElem?_append_right (Nat.le_refl _), Nat.sub_self]; rfl
   have hne : cmpAx z x ≠ 0 → mergS B x = B ++ [x] := fun h => by rw [hB, mergS_ne h]
   have heq : cmpAx z x = 0 → (mergS B x).map axR = (B.map axR).set ((B.length : Int) - 1).toNat (axR { z with isopen := z.isopen || x.isopen }) ∧ (mergS B x).length = B.length := fun h => by
    rw [hB, mergS_eq h, show (((B0 ++ [z]).length : Int) - 1).toNat = B0.length by rw [← hB]; omega]
    refine ⟨?_, by simp⟩
    rw [← List.map_set]
    congr 1
    rw [List.set_append_right _ _ (Nat.le_refl _), Nat.sub_self]; rfl
   generalize cmpAx z x = v at *
   refine draw_rule hty (by kernel_rfl) (by kernel_rfl) ?_
   ((conv => whnf); repeat ((first | (refine And.intro hBl.symm ?_) | (refine ⟨_, hrz, ?_⟩) | (refine ⟨by kernel_rfl, .d (.bool _), _, [], rfl, trivial, c, ?_⟩) | (intro hq; try simp only [lnS] at hq) | refine sI ?_ | refine .intro _ (.intro rfl ?_)); (conv => whnf)))
   refine brB_dec (fun h4 => ?_) (fun h4 => by exfalso; omega)
   ((conv => whnf); repeat ((first | (refine And.intro hBl.symm ?_) | (refine ⟨_, hrz, ?_⟩) | (refine ⟨by kernel_rfl, .d (.bool _), _, [], rfl, trivial, c, ?_⟩) | (intro hq; try simp only [lnS] at hq) | refine sI ?_ | refine .intro _ (.intro rfl ?_)); (conv => whnf)))
   refine brB_dec (fun h5 => ?_) (fun h5 => ?_)
   ·obtain ⟨e1, e2⟩ := heq h5
    rw [← hmt] at e1 e2
    ((conv => whnf); repeat ((first | (intro hq; try simp only [lnS] at hq) | refine sI ?_ | refine .intro _ (.intro rfl ?_)); (conv => whnf)))
    refine ord_rule hty [0, 1, 2, 3, 4, 5, 6, 7, 8, 9, 10, 11, 12, 13, 14, 15, 16, 17] (by kernel_rfl) (by kernel_rfl) ?_
    obtain ⟨zk, zo, z1, z2, z3, z4, z5, z6⟩ := z
    obtain ⟨xk, xo, x1, x2, x3, x4, x5, x6⟩ := x
    cases zo <;> cases xo
    all_goals
     ((conv => whnf); repeat ((first | (refine And.intro hBl.symm ?_) | (refine ⟨_, hrz, ?_⟩) | (intro hq; try simp only [lnS] at hq) | refine sI ?_ | refine .intro _ (.intro rfl ?_)); (conv => whnf)))
     refine ⟨(k + 1, cap2), by dsimp only; omega, by dsimp only; omega, ?_⟩
     dsimp only
     rw [e1, e2]
     exact ⟨by repeat' (first | exact trivial | exact rfl | refine And.intro ?_ ?_), ⟨rfl, rfl, rfl, rfl, rfl, trivial⟩⟩
   ·have e1 := hne h5
    rw [e1] at hmt
    ((conv => whnf); repeat ((first | (refine And.intro hBl.symm ?_) | (refine And.intro hb63 ?_) | (refine And.intro hb48 ?_) | (intro hq; try simp only [lnS] at hq) | refine sI ?_ | refine .intro _ (.intro rfl ?_)); (conv => whnf)))
    rename_i cap'
    refine ⟨(k + 1, cap'), by dsimp only; omega, by dsimp only; omega, ?_⟩
    dsimp only
    rw [hmt, happ, List.length_append]
    exact ⟨by repeat' (first | exact trivial | exact rfl | refine And.intro ?_ ?_), ⟨rfl, rfl, by rw [hBl]; exact rfl, rfl, rfl, trivial⟩⟩
 ·have hkl : k = A.length := by dsimp only at h1; omega
  subst hkl
  rw [List.take_length]
  have hck := bCheck_spec (mergA A)
  generalize mergA A = B at *
  ((conv => whnf); repeat ((first | (intro hq; try simp only [lnS] at hq) | refine sI ?_ | refine .intro _ (.intro rfl ?_)); (conv => whnf)))
  refine CallVC.frozB (id := 71) (i := 2) (rows := B.map axR) (hp1 := (70, .mrow 49 16 cap (A.map axR)) :: (2, .cells 38 [.mw 71 16 B.length]) :: NG) rfl (List.length_map ..).symm ⟨rfl, rfl, rfl, rfl, trivial⟩ rfl rfl ?_
  refine call_tri NG hck ⟨rfl, rfl, trivial⟩ (fun r hs => ?_)
  subst hs
  generalize checkB B = e at *
  ((conv => whnf); repeat ((first | (intro hq; try simp only [lnS] at hq) | refine sI ?_ | refine .intro _ (.intro rfl ?_)); (conv => whnf)))
  refine brB_ndec (fun h2 => ?_) (fun h2 => ?_)
  ·rw [if_pos h2]
   ((conv => whnf); repeat' ((first | (intro hq; (try simp only [lnS] at hq); (try rewrite [List.length_map])) | refine sJ ?_ | refine .intro _ (.intro rfl ?_) | (refine .intro (show (_ : Nat) < List.length _ from by first | omega | (simp only [lnS]; omega) | simp) ?_) | fail | refine draw_rule hty (by kernel_rfl) (by kernel_rfl) ?_ | ((first | refine brB_dec ?_ ?_ | refine brB_ndec ?_ ?_) <;> intro hb <;> (first | contradiction | ((try simp only [lnS] at hb); try (exfalso; omega)))) | (refine brB_split ?_ ?_ <;> intro hb <;> (first | contradiction | exact bT hb (by assumption) | exact bF hb (by assumption) | skip))) <;> (conv => whnf)))
   exact nilB _
  ·rw [if_neg (by simp [h2])]
   ((conv => whnf); repeat' ((first | (intro hq; (try simp only [lnS] at hq); (try rewrite [List.length_map])) | refine sJ ?_ | refine .intro _ (.intro rfl ?_) | (refine .intro (show (_ : Nat) < List.length _ from by first | omega | (simp only [lnS]; omega) | simp) ?_) | fail | refine draw_rule hty (by kernel_rfl) (by kernel_rfl) ?_ | ((first | refine brB_dec ?_ ?_ | refine brB_ndec ?_ ?_) <;> intro hb <;> (first | contradiction | ((try simp only [lnS] at hb); try (exfalso; omega)))) | (refine brB_split ?_ ?_ <;> intro hb <;> (first | contradiction | exact bT hb (by assumption) | exact bF hb (by assumption) | skip))) <;> (conv => whnf)))
   exact sameB _ _
end Go.Proofs.YtnemengadjimcaaGreatDoor
namespace Go.Proofs.YtnemengadjimcaaGreatDoor
open Go.Proofs
set_option maxRecDepth 10000
attribute [local irreducible] SemVC CallVC Tri Stuck YVC GenP GenVC
def partB (x : Ax) (b : List Ax) : Option Ax := match b with | y :: _ => if cmpAx y x = 0 then some y else none | [] => none
def dropB (x : Ax) : List Ax → List Ax
 | y :: r => if cmpAx y x < 0 then dropB x r else y :: r
 | [] => []
def keptB (r : Ax × Bool) : List Ax := if r.2 = true then [r.1] else []
def combL (kf : Ax → Option Ax → Ax × Bool) : List Ax → List Ax → List Ax
 | [], _ => []
 | x :: a, b => keptB (kf x (partB x (dropB x b))) ++ combL kf a (dropB x b)
def zeroAx : List D := [.int .i64 0, .bool false, .int .i64 0, .str [], .int .i64 0, .int .i64 0, .nil, .int .i64 0, .str [], .int .i64 0, .int .i64 0, .nil, .nil, .str [], .str [], .str []]
structure KeepG (g : FuncId) (kf : Ax → Option Ax → Ax × Bool) : Prop where
 call : callable Tryz.prog g = true
 none : ∀ x, Tri Tryz.prog g [.d (.agg (axR x)), .d (.agg zeroAx), .d (.bool false)] [] (fun r => r = .tup [.d (.agg (axR (kf x none).1)), .d (.bool (kf x none).2)])
 some : ∀ x y, Tri Tryz.prog g [.d (.agg (axR x)), .d (.agg (axR y)), .d (.bool true)] [] (fun r => r = .tup [.d (.agg (axR (kf x (some y)).1)), .d (.bool (kf x (some y)).2)])
theorem slW {z : Nat} {r r' : List (List D)} (h : r = r') : Wk (.d (.sl z r)) (.d (.sl z r')) := by subst h; exact Wk_refl _
theorem axR_drop (b : List Ax) (k n : Nat) (hn : ((b.drop k).map axR).length ≤ n) : List.drop 1 (List.take n ((b.drop k).map axR)) = (b.drop (k + 1)).map axR := by
 rw [List.take_of_length_le hn, ← List.map_drop, List.drop_drop]
theorem combine_spec (g : FuncId) (kf : Ax → Option Ax → Ax × Bool) (hg : KeepG g kf) (a b : List Ax) (ha : ∀ x ∈ a, SmA x) (hb : ∀ x ∈ b, SmA x) (hn : a.length ≤ 1000000) :
  Tri Tryz.prog 82 [.d (.sl 16 (a.map axR)), .d (.sl 16 (b.map axR)), .fn 30 [] [], .fn g [] []] [] (fun r => r = .d (.sl 16 ((combL kf a b).map axR))) := by
 refine Tri.len 1 rfl fun hbl => ?_
 rw [List.length_map] at hbl
 refine tri_of_bodyF false [10, 13] hty Tryz.func82 rfl (kp [0, 1, 2, 3, 8, 10, 11, 12, 13, 14, 15, 16, 17, 18, 32, 47, 59]) [] _ _ _ (by simp [Tryz.f82]) (by simp) ?_
 ((conv => whnf); repeat ((first | (intro hq; try simp only [lnS] at hq) | refine sI ?_ | refine .intro _ (.intro rfl ?_)); (conv => whnf)))
 rw [List.length_map]
 refine SemVC.own 8 70 49 16 rfl (fresh_of (by with_unfolding_all exact rfl)) ?_
 refine loop_rule hty (fun y : Nat × Nat × List Ax => ([(1, .d (.sl 16 ((b.drop y.2.1).map axR))), (2, .fn 30 [] []), (3, .fn g [] []), (8, .osl 70 16 (y.2.2.map axR)), (15, .d (.sl 16 (a.map axR))), (16, .d (.int .i64 a.length)), (17, .d (.int .i64 y.1))], [(70, .own 49 16 (y.2.2.map axR).length)])) (fun y => (y.1 ≤ a.length ∧ y.2.2.length ≤ y.1) ∧ y.2.2 ++ combL kf (a.drop y.1) (b.drop y.2.1) = combL kf a b) (fun y => a.length - y.1) (0, 0, []) ⟨⟨Nat.zero_le _, Nat.le_refl _⟩, rfl⟩ ⟨by repeat' (first | exact trivial | exact rfl | refine And.intro ?_ ?_), by repeat' (first | exact trivial | exact rfl | refine And.intro ?_ ?_)⟩ ?_
 rintro ⟨j, k, out⟩ ⟨⟨hj, ho⟩, hc⟩
 dsimp only at hj ho hc
 ((conv => whnf); repeat ((first | (intro hq; try simp only [lnS] at hq) | refine sI ?_ | refine .intro _ (.intro rfl ?_)); (conv => whnf)))
 refine brB_dec (fun h1 => ?_) (fun h1 => ?_)
 ·have hjl : j < a.length := by dsimp only at h1; omega
  have hrow := axR_rows hjl
  have hx := ha _ (List.getElem_mem hjl)
  rw [drop_at hjl] at hc
  generalize a[j] = x at *
  ((conv => whnf); repeat ((first | (refine ⟨_, hrow, ?_⟩) | (intro hq; try simp only [lnS] at hq) | refine sI ?_ | refine .intro _ (.intro rfl ?_)); (conv => whnf)))
  refine loop_rule hty (fun k : Nat => ([(1, .d (.sl 16 ((b.drop k).map axR))), (2, .fn 30 [] []), (3, .fn g [] []), (8, .osl 70 16 (out.map axR)), (10, .ea 16 [axR x] 0 0), (15, .d (.sl 16 (a.map axR))), (16, .d (.int .i64 a.length)), (17, .d (.int .i64 j))], [(70, .own 49 16 (out.map axR).length)])) (fun k => out ++ (keptB (kf x (partB x (dropB x (b.drop k)))) ++ combL kf (a.drop (j + 1)) (dropB x (b.drop k))) = combL kf a b) (fun k => b.length - k) k hc ⟨by repeat' (first | exact trivial | exact rfl | refine And.intro ?_ ?_), by repeat' (first | exact trivial | exact rfl | refine And.intro ?_ ?_)⟩ ?_
  clear hc
  intro k hc
  by_cases hkl : k < b.length
  ·have hrow2 : ((b.drop k).map axR)[(0 : Int).toNat]? = some (axR b[k]) := by rw [drop_at hkl]; rfl
   have hdl : ((b.drop k).map axR).length = b.length - k := by rw [List.length_map, List.length_drop]
   have hy := hb _ (List.getElem_mem hkl)
   have c := CompareAxiom_spec b[k] x hy.1 hy.2.1 hy.2.2 hx.1 hx.2.1 hx.2.2
   have hd : dropB x (b.drop k) = if cmpAx b[k] x < 0 then dropB x (b.drop (k + 1)) else b.drop k := by rw [drop_at hkl, dropB, ← drop_at hkl]
   have hpt : partB x (b.drop k) = if cmpAx b[k] x = 0 then some b[k] else none := by rw [drop_at hkl]; rfl
   generalize cmpAx b[k] x = v at *
   ((conv => whnf); repeat ((first | (intro hq; try simp only [lnS] at hq) | refine sI ?_ | refine .intro _ (.intro rfl ?_)); (conv => whnf)))
   refine draw_rule hty (by kernel_rfl) (by kernel_rfl) ?_
   ((conv => whnf); repeat ((first | (refine ⟨_, hrow2, ?_⟩) | (refine ⟨by kernel_rfl, .d (.int .i64 _), _, [], rfl, trivial, c, ?_⟩) | (intro hq; try simp only [lnS] at hq) | refine sI ?_ | refine .intro _ (.intro rfl ?_)); (conv => whnf)))
   refine brB_dec (fun h4 => ?_) (fun h4 => by exfalso; omega)
   ((conv => whnf); repeat ((first | (refine ⟨_, hrow2, ?_⟩) | (refine ⟨by kernel_rfl, .d (.int .i64 _), _, [], rfl, trivial, c, ?_⟩) | (intro hq; try simp only [lnS] at hq) | refine sI ?_ | refine .intro _ (.intro rfl ?_)); (conv => whnf)))
   refine brB_dec (fun h5 => ?_) (fun h5 => ?_)
   ·rw [if_pos h5] at hd
    have hsl := axR_drop b k ((b.drop k).map axR).length (Nat.le_refl _)
    ((conv => whnf); repeat ((first | (intro hq; try simp only [lnS] at hq) | refine sI ?_ | refine .intro _ (.intro rfl ?_)); (conv => whnf)))
    refine ⟨k + 1, by dsimp only; rw [← hd]; exact hc, by dsimp only; omega, ⟨by repeat' (first | exact trivial | exact rfl | exact slW hsl | refine And.intro ?_ ?_), ⟨rfl, trivial⟩⟩⟩
   ·rw [if_neg h5] at hd
    rw [hd, hpt] at hc
    have hs1 := hg.some x b[k]
    have hs0 := hg.none x
    generalize b[k] = y at *
    ((conv => whnf); repeat ((first | (intro hq; try simp only [lnS] at hq) | refine sI ?_ | refine .intro _ (.intro rfl ?_)); (conv => whnf)))
    refine draw_rule hty (by kernel_rfl) (by kernel_rfl) ?_
    ((conv => whnf); repeat ((first | (refine ⟨_, hrow2, ?_⟩) | (refine ⟨by kernel_rfl, .d (.int .i64 _), _, [], rfl, trivial, c, ?_⟩) | (intro hq; try simp only [lnS] at hq) | refine sI ?_ | refine .intro _ (.intro rfl ?_)); (conv => whnf)))
    refine brB_dec (fun h4 => ?_) (fun h4 => by exfalso; omega)
    ((conv => whnf); repeat ((first | (refine ⟨_, hrow2, ?_⟩) | (refine ⟨by kernel_rfl, .d (.int .i64 _), _, [], rfl, trivial, c, ?_⟩) | (intro hq; try simp only [lnS] at hq) | refine sI ?_ | refine .intro _ (.intro rfl ?_)); (conv => whnf)))
    refine brB_dec (fun h6 => ?_) (fun h6 => ?_)
    ·rw [if_pos h6] at hc
     have hs := hs1
     obtain ⟨O, hO⟩ : ∃ O, O = some y := ⟨_, rfl⟩
     rw [← hO] at hc hs
     rw [show true = decide (v = 0) by simp [h6]] at hs
     have hsl0 : (b.drop k).map axR = (b.drop k).map axR := rfl
     ((conv => whnf); repeat ((first | (refine ⟨_, hrow2, ?_⟩) | (intro hq; try simp only [lnS] at hq) | refine sI ?_ | refine .intro _ (.intro rfl ?_)); (conv => whnf)))
     have hol : (out.map axR).length = out.length := List.length_map ..
     have hb63 : (out.map axR).length + 1 ≤ 9223372036854775807 := by rw [hol]; omega
     have hb48 : ((out.map axR).length + 1) * 216 ≤ 140737488355328 := by rw [hol]; omega
     have happ : ∀ z : Ax, (out ++ [z]).map axR = out.map axR ++ [axR z] := fun z => by rw [List.map_append]; rfl
     unfold keptB at hc
     ((conv => whnf); repeat ((first | (intro hq; try simp only [lnS] at hq) | refine sI ?_ | refine .intro _ (.intro rfl ?_)); (conv => whnf)))
     rw [hg.call]
     ((conv => whnf); repeat ((first | (intro hq; try simp only [lnS] at hq) | refine sI ?_ | refine .intro _ (.intro rfl ?_)); (conv => whnf)))
     refine call_tri [] hs trivial (fun r hr => ?_)
     subst hr
     generalize (kf x O).1 = Z at *
     generalize (kf x O).2 = ok at *
     cases ok
     ·rw [if_neg (by decide), List.nil_append] at hc
      ((conv => whnf); repeat' ((first | (intro hq; (try simp only [lnS] at hq); (try rewrite [List.length_map])) | refine sJ ?_ | refine .intro _ (.intro rfl ?_) | (refine .intro (show (_ : Nat) < List.length _ from by first | omega | (simp only [lnS]; omega) | simp) ?_) | fail | refine draw_rule hty (by kernel_rfl) (by kernel_rfl) ?_ | ((first | refine brB_dec ?_ ?_ | refine brB_ndec ?_ ?_) <;> intro hb <;> (first | contradiction | ((try simp only [lnS] at hb); try (exfalso; omega)))) | (refine brB_split ?_ ?_ <;> intro hb <;> (first | contradiction | exact bT hb (by assumption) | exact bF hb (by assumption) | skip))) <;> (conv => whnf)))
      exact ⟨(j + 1, k, out), ⟨⟨by dsimp only; omega, by dsimp only; omega⟩, hc⟩, by dsimp only; omega, ⟨by repeat' (first | exact trivial | exact rfl | exact slW hsl0 | refine And.intro ?_ ?_), by repeat' (first | exact trivial | exact rfl | refine And.intro ?_ ?_)⟩⟩
     ·rw [if_pos rfl, ← List.append_assoc] at hc
      ((conv => whnf); repeat ((first | (refine And.intro hb63 ?_) | (refine And.intro hb48 ?_) | (intro hq; try simp only [lnS] at hq) | refine sI ?_ | refine .intro _ (.intro rfl ?_)); (conv => whnf)))
      refine ⟨(j + 1, k, out ++ [Z]), ⟨⟨by dsimp only; omega, by dsimp only; rw [List.length_append, List.length_singleton]; omega⟩, hc⟩, by dsimp only; omega, ?_⟩
      dsimp only
      rw [happ, List.length_append]
      exact ⟨by repeat' (first | exact trivial | exact rfl | exact slW hsl0 | refine And.intro ?_ ?_), by repeat' (first | exact trivial | exact rfl | refine And.intro ?_ ?_)⟩
    ·rw [if_neg h6] at hc
     have hs := hs0
     obtain ⟨O, hO⟩ : ∃ O : Option Ax, O = none := ⟨_, rfl⟩
     rw [← hO] at hc hs
     rw [show false = decide (v = 0) by simp [h6]] at hs
     have hsl0 : (b.drop k).map axR = (b.drop k).map axR := rfl
     ((conv => whnf); repeat ((first | (intro hq; try simp only [lnS] at hq) | refine sI ?_ | refine .intro _ (.intro rfl ?_)); (conv => whnf)))
     have hol : (out.map axR).length = out.length := List.length_map ..
     have hb63 : (out.map axR).length + 1 ≤ 9223372036854775807 := by rw [hol]; omega
     have hb48 : ((out.map axR).length + 1) * 216 ≤ 140737488355328 := by rw [hol]; omega
     have happ : ∀ z : Ax, (out ++ [z]).map axR = out.map axR ++ [axR z] := fun z => by rw [List.map_append]; rfl
     unfold keptB at hc
     ((conv => whnf); repeat ((first | (intro hq; try simp only [lnS] at hq) | refine sI ?_ | refine .intro _ (.intro rfl ?_)); (conv => whnf)))
     rw [hg.call]
     ((conv => whnf); repeat ((first | (intro hq; try simp only [lnS] at hq) | refine sI ?_ | refine .intro _ (.intro rfl ?_)); (conv => whnf)))
     refine call_tri [] hs trivial (fun r hr => ?_)
     subst hr
     generalize (kf x O).1 = Z at *
     generalize (kf x O).2 = ok at *
     cases ok
     ·rw [if_neg (by decide), List.nil_append] at hc
      ((conv => whnf); repeat' ((first | (intro hq; (try simp only [lnS] at hq); (try rewrite [List.length_map])) | refine sJ ?_ | refine .intro _ (.intro rfl ?_) | (refine .intro (show (_ : Nat) < List.length _ from by first | omega | (simp only [lnS]; omega) | simp) ?_) | fail | refine draw_rule hty (by kernel_rfl) (by kernel_rfl) ?_ | ((first | refine brB_dec ?_ ?_ | refine brB_ndec ?_ ?_) <;> intro hb <;> (first | contradiction | ((try simp only [lnS] at hb); try (exfalso; omega)))) | (refine brB_split ?_ ?_ <;> intro hb <;> (first | contradiction | exact bT hb (by assumption) | exact bF hb (by assumption) | skip))) <;> (conv => whnf)))
      exact ⟨(j + 1, k, out), ⟨⟨by dsimp only; omega, by dsimp only; omega⟩, hc⟩, by dsimp only; omega, ⟨by repeat' (first | exact trivial | exact rfl | exact slW hsl0 | refine And.intro ?_ ?_), by repeat' (first | exact trivial | exact rfl | refine And.intro ?_ ?_)⟩⟩
     ·rw [if_pos rfl, ← List.append_assoc] at hc
      ((conv => whnf); repeat ((first | (refine And.intro hb63 ?_) | (refine And.intro hb48 ?_) | (intro hq; try simp only [lnS] at hq) | refine sI ?_ | refine .intro _ (.intro rfl ?_)); (conv => whnf)))
      refine ⟨(j + 1, k, out ++ [Z]), ⟨⟨by dsimp only; omega, by dsimp only; rw [List.length_append, List.length_singleton]; omega⟩, hc⟩, by dsimp only; omega, ?_⟩
      dsimp only
      rw [happ, List.length_append]
      exact ⟨by repeat' (first | exact trivial | exact rfl | exact slW hsl0 | refine And.intro ?_ ?_), by repeat' (first | exact trivial | exact rfl | refine And.intro ?_ ?_)⟩
  ·have hd0 : b.drop k = [] := List.drop_eq_nil_of_le (by omega)
   rw [hd0] at hc ⊢
   have hs := hg.none x
   obtain ⟨O, hO⟩ : ∃ O : Option Ax, O = none := ⟨_, rfl⟩
   have hc : out ++ (keptB (kf x none) ++ combL kf (a.drop (j + 1)) (b.drop k)) = combL kf a b := by rw [hd0]; exact hc
   rw [← hO] at hc hs
   ((conv => whnf); repeat ((first | (intro hq; try simp only [lnS] at hq) | refine sI ?_ | refine .intro _ (.intro rfl ?_)); (conv => whnf)))
   refine draw_rule hty (by kernel_rfl) (by kernel_rfl) ?_
   ((conv => whnf); repeat ((first | (intro hq; try simp only [lnS] at hq) | refine sI ?_ | refine .intro _ (.intro rfl ?_)); (conv => whnf)))
   refine draw_rule hty (by kernel_rfl) (by kernel_rfl) ?_
   have hsl0 : ([] : List Ax).map axR = (b.drop k).map axR := by rw [hd0]
   have hol : (out.map axR).length = out.length := List.length_map ..
   have hb63 : (out.map axR).length + 1 ≤ 9223372036854775807 := by rw [hol]; omega
   have hb48 : ((out.map axR).length + 1) * 216 ≤ 140737488355328 := by rw [hol]; omega
   have happ : ∀ z : Ax, (out ++ [z]).map axR = out.map axR ++ [axR z] := fun z => by rw [List.map_append]; rfl
   unfold keptB at hc
   ((conv => whnf); repeat ((first | (intro hq; try simp only [lnS] at hq) | refine sI ?_ | refine .intro _ (.intro rfl ?_)); (conv => whnf)))
   rw [hg.call]
   ((conv => whnf); repeat ((first | (intro hq; try simp only [lnS] at hq) | refine sI ?_ | refine .intro _ (.intro rfl ?_)); (conv => whnf)))
   refine call_tri [] hs trivial (fun r hr => ?_)
   subst hr
   generalize (kf x O).1 = Z at *
   generalize (kf x O).2 = ok at *
   cases ok
   ·rw [if_neg (by decide), List.nil_append] at hc
    ((conv => whnf); repeat' ((first | (intro hq; (try simp only [lnS] at hq); (try rewrite [List.length_map])) | refine sJ ?_ | refine .intro _ (.intro rfl ?_) | (refine .intro (show (_ : Nat) < List.length _ from by first | omega | (simp only [lnS]; omega) | simp) ?_) | fail | refine draw_rule hty (by kernel_rfl) (by kernel_rfl) ?_ | ((first | refine brB_dec ?_ ?_ | refine brB_ndec ?_ ?_) <;> intro hb <;> (first | contradiction | ((try simp only [lnS] at hb); try (exfalso; omega)))) | (refine brB_split ?_ ?_ <;> intro hb <;> (first | contradiction | exact bT hb (by assumption) | exact bF hb (by assumption) | skip))) <;> (conv => whnf)))
    exact ⟨(j + 1, k, out), ⟨⟨by dsimp only; omega, by dsimp only; omega⟩, hc⟩, by dsimp only; omega, ⟨by repeat' (first | exact trivial | exact rfl | exact slW hsl0 | refine And.intro ?_ ?_), by repeat' (first | exact trivial | exact rfl | refine And.intro ?_ ?_)⟩⟩
   ·rw [if_pos rfl, ← List.append_assoc] at hc
    ((conv => whnf); repeat ((first | (refine And.intro hb63 ?_) | (refine And.intro hb48 ?_) | (intro hq; try simp only [lnS] at hq) | refine sI ?_ | refine .intro _ (.intro rfl ?_)); (conv => whnf)))
    refine ⟨(j + 1, k, out ++ [Z]), ⟨⟨by dsimp only; omega, by dsimp only; rw [List.length_append, List.length_singleton]; omega⟩, hc⟩, by dsimp only; omega, ?_⟩
    dsimp only
    rw [happ, List.length_append]
    exact ⟨by repeat' (first | exact trivial | exact rfl | exact slW hsl0 | refine And.intro ?_ ?_), by repeat' (first | exact trivial | exact rfl | refine And.intro ?_ ?_)⟩
 ·have hjl : j = a.length := by dsimp only at h1; omega
  subst hjl
  rw [List.drop_length] at hc
  rw [← hc]
  ((conv => whnf); repeat' ((first | (intro hq; (try simp only [lnS] at hq); (try rewrite [List.length_map])) | refine sJ ?_ | refine .intro _ (.intro rfl ?_) | (refine .intro (show (_ : Nat) < List.length _ from by first | omega | (simp only [lnS]; omega) | simp) ?_) | fail | refine draw_rule hty (by kernel_rfl) (by kernel_rfl) ?_ | ((first | refine brB_dec ?_ ?_ | refine brB_ndec ?_ ?_) <;> intro hb <;> (first | contradiction | ((try simp only [lnS] at hb); try (exfalso; omega)))) | (refine brB_split ?_ ?_ <;> intro hb <;> (first | contradiction | exact bT hb (by assumption) | exact bF hb (by assumption) | skip))) <;> (conv => whnf)))
  rw [show combL kf [] (b.drop k) = [] from rfl, List.append_nil]
  rfl
def kfM (x : Ax) (o : Option Ax) : Ax × Bool := (x, o.isNone)
def kfC (x : Ax) (o : Option Ax) : Ax × Bool := ({ x with isopen := x.isopen && (match o with | some y => y.isopen | none => false) }, o.isSome)
theorem keepM : KeepG 86 kfM where
 call := by kernel_rfl
 none := fun x => by
  refine tri_of_bodyF false [3, 4] hty Tryz.func86 rfl (kp [0, 1, 2, 3, 6, 7]) [] _ _ _ (by simp [Tryz.f86]) (by simp) ?_
  ((conv => whnf); repeat' ((first | (intro hq; (try simp only [lnS] at hq); (try rewrite [List.length_map])) | refine sJ ?_ | refine .intro _ (.intro rfl ?_) | (refine .intro (show (_ : Nat) < List.length _ from by first | omega | (simp only [lnS]; omega) | simp) ?_) | fail | refine draw_rule hty (by kernel_rfl) (by kernel_rfl) ?_ | ((first | refine brB_dec ?_ ?_ | refine brB_ndec ?_ ?_) <;> intro hb <;> (first | contradiction | ((try simp only [lnS] at hb); try (exfalso; omega)))) | (refine brB_split ?_ ?_ <;> intro hb <;> (first | contradiction | exact bT hb (by assumption) | exact bF hb (by assumption) | skip))) <;> (conv => whnf)))
  rfl
 some := fun x y => by
  refine tri_of_bodyF false [3, 4] hty Tryz.func86 rfl (kp [0, 1, 2, 3, 6, 7]) [] _ _ _ (by simp [Tryz.f86]) (by simp) ?_
  ((conv => whnf); repeat' ((first | (intro hq; (try simp only [lnS] at hq); (try rewrite [List.length_map])) | refine sJ ?_ | refine .intro _ (.intro rfl ?_) | (refine .intro (show (_ : Nat) < List.length _ from by first | omega | (simp only [lnS]; omega) | simp) ?_) | fail | refine draw_rule hty (by kernel_rfl) (by kernel_rfl) ?_ | ((first | refine brB_dec ?_ ?_ | refine brB_ndec ?_ ?_) <;> intro hb <;> (first | contradiction | ((try simp only [lnS] at hb); try (exfalso; omega)))) | (refine brB_split ?_ ?_ <;> intro hb <;> (first | contradiction | exact bT hb (by assumption) | exact bF hb (by assumption) | skip))) <;> (conv => whnf)))
  rfl
theorem keepC : KeepG 83 kfC where
 call := by kernel_rfl
 none := fun x => by
  obtain ⟨k, o, a1, a2, a3, a4, a5, a6⟩ := x
  cases o
  all_goals
   refine tri_of_bodyF false [4] hty Tryz.func83 rfl (kp [0, 1, 2, 3, 4, 6, 7]) [] _ _ _ (by simp [Tryz.f83]) (by simp) ?_
   ((conv => whnf); repeat' ((first | (intro hq; (try simp only [lnS] at hq); (try rewrite [List.length_map])) | refine sJ ?_ | refine .intro _ (.intro rfl ?_) | (refine .intro (show (_ : Nat) < List.length _ from by first | omega | (simp only [lnS]; omega) | simp) ?_) | fail | refine draw_rule hty (by kernel_rfl) (by kernel_rfl) ?_ | ((first | refine brB_dec ?_ ?_ | refine brB_ndec ?_ ?_) <;> intro hb <;> (first | contradiction | ((try simp only [lnS] at hb); try (exfalso; omega)))) | (refine brB_split ?_ ?_ <;> intro hb <;> (first | contradiction | exact bT hb (by assumption) | exact bF hb (by assumption) | skip))) <;> (conv => whnf)))
   rfl
 some := fun x y => by
  obtain ⟨k, o, a1, a2, a3, a4, a5, a6⟩ := x
  obtain ⟨k', o', b1, b2, b3, b4, b5, b6⟩ := y
  cases o <;> cases o'
  all_goals
   refine tri_of_bodyF false [4] hty Tryz.func83 rfl (kp [0, 1, 2, 3, 4, 6, 7]) [] _ _ _ (by simp [Tryz.f83]) (by simp) ?_
   ((conv => whnf); repeat' ((first | (intro hq; (try simp only [lnS] at hq); (try rewrite [List.length_map])) | refine sJ ?_ | refine .intro _ (.intro rfl ?_) | (refine .intro (show (_ : Nat) < List.length _ from by first | omega | (simp only [lnS]; omega) | simp) ?_) | fail | refine draw_rule hty (by kernel_rfl) (by kernel_rfl) ?_ | ((first | refine brB_dec ?_ ?_ | refine brB_ndec ?_ ?_) <;> intro hb <;> (first | contradiction | ((try simp only [lnS] at hb); try (exfalso; omega)))) | (refine brB_split ?_ ?_ <;> intro hb <;> (first | contradiction | exact bT hb (by assumption) | exact bF hb (by assumption) | skip))) <;> (conv => whnf)))
   rfl
noncomputable def bothB (a b : List Ax) : Int := if checkB a ≠ 0 then checkB a else checkB b
theorem both_spec' (a b : List Ax) : Tri Tryz.prog 81 [.d (basR a), .d (basR b)] NG (fun r => r = .d (.int .i64 (bothB a b))) := by
 have c1 := bCheck_spec a
 have c2 := bCheck_spec b
 have hv : bothB a b = if checkB a ≠ 0 then checkB a else checkB b := rfl
 rw [hv]
 clear hv
 generalize checkB a = e1 at *
 generalize checkB b = e2 at *
 refine tri_of_bodyF false [2, 3] hty Tryz.func81 rfl (kp [0, 1, 2, 3, 4, 5, 9]) [] _ _ _ (by simp [Tryz.f81]) (by decide) ?_
 ((conv => whnf); repeat ((first | (refine call_tri NG c1 ⟨rfl, rfl, trivial⟩ (fun r hs => ?_); subst hs) | (intro hq; try simp only [lnS] at hq) | refine sI ?_ | refine .intro _ (.intro rfl ?_)); (conv => whnf)))
 refine brB_ndec (fun h1 => ?_) (fun h1 => ?_)
 ·rw [if_pos h1]
  ((conv => whnf); repeat' ((first | (intro hq; (try simp only [lnS] at hq); (try rewrite [List.length_map])) | refine sJ ?_ | refine .intro _ (.intro rfl ?_) | (refine .intro (show (_ : Nat) < List.length _ from by first | omega | (simp only [lnS]; omega) | simp) ?_) | fail | refine draw_rule hty (by kernel_rfl) (by kernel_rfl) ?_ | ((first | refine brB_dec ?_ ?_ | refine brB_ndec ?_ ?_) <;> intro hb <;> (first | contradiction | ((try simp only [lnS] at hb); try (exfalso; omega)))) | (refine brB_split ?_ ?_ <;> intro hb <;> (first | contradiction | exact bT hb (by assumption) | exact bF hb (by assumption) | skip))) <;> (conv => whnf)))
  rfl
 ·rw [if_neg (by simp [h1])]
  ((conv => whnf); repeat ((first | (refine call_tri NG c2 ⟨rfl, rfl, trivial⟩ (fun r hs => ?_); subst hs) | (intro hq; try simp only [lnS] at hq) | refine sI ?_ | refine .intro _ (.intro rfl ?_)); (conv => whnf)))
  rfl
theorem both_ok {a b : List Ax} (h : bothB a b = 0) : checkB a = 0 ∧ checkB b = 0 := by
 unfold bothB at h
 split at h
 ·rename_i h1; exact absurd h h1
 ·rename_i h1; exact ⟨by simpa using h1, h⟩
noncomputable def setE (kf : Ax → Option Ax → Ax × Bool) (a b : List Ax) : List Ax × Int := if bothB a b ≠ 0 then ([], bothB a b) else (combL kf a b, 0)
theorem minus_spec (a b : List Ax) : Tri Tryz.prog 40 [.d (basR a), .d (basR b)] NG (fun r => r = .tup [.d (basR (setE kfM a b).1), .d (.int .i64 (setE kfM a b).2)]) := by
 refine Tri.pairB ?_
 have c1 := both_spec' a b
 have hv : setE kfM a b = if bothB a b ≠ 0 then ([], bothB a b) else (combL kfM a b, 0) := rfl
 have hb0 := both_ok (a := a) (b := b)
 rw [hv]
 clear hv
 generalize bothB a b = e at *
 refine tri_of_bodyF false [2, 3] hty Tryz.func40 rfl (kp [0, 1, 2, 3, 4, 5, 6, 11]) [] _ _ _ (by simp [Tryz.f40]) (by decide) ?_
 ((conv => whnf); repeat ((first | (refine call_tri NG c1 ⟨rfl, rfl, trivial⟩ (fun r hs => ?_); subst hs) | (intro hq; try simp only [lnS] at hq) | refine sI ?_ | refine .intro _ (.intro rfl ?_)); (conv => whnf)))
 refine brB_ndec (fun h1 => ?_) (fun h1 => ?_)
 ·rw [if_pos h1]
  ((conv => whnf); repeat' ((first | (intro hq; (try simp only [lnS] at hq); (try rewrite [List.length_map])) | refine sJ ?_ | refine .intro _ (.intro rfl ?_) | (refine .intro (show (_ : Nat) < List.length _ from by first | omega | (simp only [lnS]; omega) | simp) ?_) | fail | refine draw_rule hty (by kernel_rfl) (by kernel_rfl) ?_ | ((first | refine brB_dec ?_ ?_ | refine brB_ndec ?_ ?_) <;> intro hb <;> (first | contradiction | ((try simp only [lnS] at hb); try (exfalso; omega)))) | (refine brB_split ?_ ?_ <;> intro hb <;> (first | contradiction | exact bT hb (by assumption) | exact bF hb (by assumption) | skip))) <;> (conv => whnf)))
  exact nilB _
 ·rw [if_neg (by simp [h1])]
  obtain ⟨q1, q2⟩ := hb0 h1
  have o1 := (checkB_iff a).1 q1
  have o2 := (checkB_iff b).1 q2
  have c2 := combine_spec 86 kfM keepM a b (fun x hx => smA_ok (tidyA_valid (by rw [o1.tidy x hx]))) (fun x hx => smA_ok (tidyA_valid (by rw [o2.tidy x hx]))) (by have := o1.few; omega)
  ((conv => whnf); repeat ((first | (refine call_tri [] c2 trivial (fun r hs => ?_); subst hs) | (intro hq; try simp only [lnS] at hq) | refine sI ?_ | refine .intro _ (.intro rfl ?_)); (conv => whnf)))
  exact sameB _ _
theorem common_spec' (a b : List Ax) : Tri Tryz.prog 37 [.d (basR a), .d (basR b)] NG (fun r => r = .tup [.d (basR (setE kfC a b).1), .d (.int .i64 (setE kfC a b).2)]) := by
 refine Tri.pairB ?_
 have c1 := both_spec' a b
 have hv : setE kfC a b = if bothB a b ≠ 0 then ([], bothB a b) else (combL kfC a b, 0) := rfl
 have hb0 := both_ok (a := a) (b := b)
 rw [hv]
 clear hv
 generalize bothB a b = e at *
 refine tri_of_bodyF false [2, 3] hty Tryz.func37 rfl (kp [0, 1, 2, 3, 4, 5, 6, 11]) [] _ _ _ (by simp [Tryz.f37]) (by decide) ?_
 ((conv => whnf); repeat ((first | (refine call_tri NG c1 ⟨rfl, rfl, trivial⟩ (fun r hs => ?_); subst hs) | (intro hq; try simp only [lnS] at hq) | refine sI ?_ | refine .intro _ (.intro rfl ?_)); (conv => whnf)))
 refine brB_ndec (fun h1 => ?_) (fun h1 => ?_)
 ·rw [if_pos h1]
  ((conv => whnf); repeat' ((first | (intro hq; (try simp only [lnS] at hq); (try rewrite [List.length_map])) | refine sJ ?_ | refine .intro _ (.intro rfl ?_) | (refine .intro (show (_ : Nat) < List.length _ from by first | omega | (simp only [lnS]; omega) | simp) ?_) | fail | refine draw_rule hty (by kernel_rfl) (by kernel_rfl) ?_ | ((first | refine brB_dec ?_ ?_ | refine brB_ndec ?_ ?_) <;> intro hb <;> (first | contradiction | ((try simp only [lnS] at hb); try (exfalso; omega)))) | (refine brB_split ?_ ?_ <;> intro hb <;> (first | contradiction | exact bT hb (by assumption) | exact bF hb (by assumption) | skip))) <;> (conv => whnf)))
  exact nilB _
 ·rw [if_neg (by simp [h1])]
  obtain ⟨q1, q2⟩ := hb0 h1
  have o1 := (checkB_iff a).1 q1
  have o2 := (checkB_iff b).1 q2
  have c2 := combine_spec 83 kfC keepC a b (fun x hx => smA_ok (tidyA_valid (by rw [o1.tidy x hx]))) (fun x hx => smA_ok (tidyA_valid (by rw [o2.tidy x hx]))) (by have := o1.few; omega)
  ((conv => whnf); repeat ((first | (refine call_tri [] c2 trivial (fun r hs => ?_); subst hs) | (intro hq; try simp only [lnS] at hq) | refine sI ?_ | refine .intro _ (.intro rfl ?_)); (conv => whnf)))
  exact sameB _ _
end Go.Proofs.YtnemengadjimcaaGreatDoor
