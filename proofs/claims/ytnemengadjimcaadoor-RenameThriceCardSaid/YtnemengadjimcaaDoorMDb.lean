/-
  Rename: Compose and Inverse. Rename: the reference's Same at one list. Terms: the reference's Weight and CompareAxiom.
  Conditions: none.
-/
import Derived.Test.YtnemengadjimcaaDoorMRf
import Derived.Test.YtnemengadjimcaaDoorMRg
import Derived.Test.YtnemengadjimcaaDoorMTcr
import Derived.Test.YtnemengadjimcaaDoorMSyd
import Derived.Test.YtnemengadjimcaaDoorMRe
import Derived.Test.YtnemengadjimcaaDoorMRt
import Derived.Test.YtnemengadjimcaaDoorMTca
set_option linter.unnecessarySimpa false
set_option linter.unusedSectionVars false
set_option linter.unusedSimpArgs false
set_option linter.unusedVariables false
namespace Go.Proofs.YtnemengadjimcaaDoor
open Go.Proofs
set_option maxRecDepth 10000
attribute [local irreducible] SemVC CallVC Tri Stuck YVC GenP GenVC
theorem mapX_ids4 (e : List (Ky × SV)) (bs : List Nat) (c : Nat) : (mapX pairD e bs c).ids = idsE e := rfl
theorem idsE_nil4 : idsE ([] : List (Ky × SV)) = [] := rfl
theorem frS {id : Nat} {pin : List Nat} {fr : Fr} {hp : Hp} {B : Prop} (b : B) (h : fresh id pin fr hp := by refine ⟨?_, ?_, ?_⟩ <;> simp [fF_nil, fF_cons, fH_nil, fH_cons, HObj.ids, SV.ids, SV.idsL, argFr, roH, tblO, mapX_ids4, idsE_nil4, idsE_entR, oneOf, ids_ofV2, idsL_d, mkAgg, allD]) : fresh id pin fr hp ∧ B := ⟨h, b⟩
theorem nmS {t : Nat} {r : Hp} {B : Prop} (b : B) (h : t ∉ idsH r := by simp [fF_nil, fF_cons, fH_nil, fH_cons, HObj.ids, SV.ids, SV.idsL, argFr, roH, tblO, mapX_ids4, idsE_nil4, idsE_entR, oneOf, ids_ofV2, idsL_d, mkAgg, allD]) : t ∉ idsH r ∧ B := ⟨h, b⟩
theorem flt_take {l m s : List Rn} {j : Nat} (hj : j < s.length) : fltL l m (s.take (j + 1)) = fltL l m (s.take j) ++ if (newR l m s[j]).new = (newR l m s[j]).old then [] else [newR l m s[j]] := by
  unfold fltL
  rw [List.take_succ_eq_append_getElem hj, List.map_append, List.filter_append]
  congr 1
  by_cases h : (newR l m s[j]).new = (newR l m s[j]).old <;> simp [h]
theorem flt_len (l m s : List Rn) : (fltL l m s).length ≤ s.length := by
  have := List.length_filter_le (fun r : Rn => !decide (r.new = r.old)) (s.map (newR l m))
  rw [List.length_map] at this
  exact this
set_option maxHeartbeats 64000000 in
theorem rnCompose_spec (l m : List Rn) : Tri Tryd.prog 6 [.d (rnL l), .d (rnL m)] [] (fun r => r = .tup [.d (rnL (compR l m).1), .d (.int .i64 (compR l m).2)]) := by
  refine Tri.pairS (z := 3) ?_
  have ck := rnCheck_spec l
  have ck2 := rnCheck_spec m
  refine tri_of_bodyF false [] hty Tryd.func6 rfl (kp [0, 1, 4, 5, 6, 7, 9, 13, 18, 28, 29, 30, 31, 49, 58]) [] _ _ _ (by simp [Tryd.f6]) (by simp) ?_
  ((conv => whnf); repeat ((first | (intro hq; try simp only [lnS] at hq) | refine sI ?_ | refine .intro _ (.intro rfl ?_)); (conv => whnf)))
  refine call_tri [] ck trivial (fun r hs => ?_)
  subst hs
  ((conv => whnf); repeat ((first | (intro hq; try simp only [lnS] at hq) | refine sI ?_ | refine .intro _ (.intro rfl ?_)); (conv => whnf)))
  refine brB_ndec (fun h1 => ?_) (fun h1 => ?_)
  · have hv : compR l m = ([], checkR l) := by unfold compR; rw [if_pos h1]
    rw [hv]
    ((conv => whnf); repeat' ((first | (intro hq; (try simp only [lnS] at hq); (try rewrite [List.length_map])) | refine sJ ?_ | refine .intro _ (.intro rfl ?_) | (refine .intro (show (_ : Nat) < List.length _ from by first | omega | (simp only [lnS]; omega) | simp) ?_) | fail | refine draw_rule hty (by kernel_rfl) (by kernel_rfl) ?_ | ((first | refine brB_dec ?_ ?_ | refine brB_ndec ?_ ?_) <;> intro hb <;> (first | contradiction | ((try simp only [lnS] at hb); try (exfalso; omega)))) | (refine brB_split ?_ ?_ <;> intro hb <;> (first | contradiction | exact bT hb (by assumption) | exact bF hb (by assumption) | skip))) <;> (conv => whnf)))
    exact nilP _ _
  have h0 : checkR l = 0 := by simpa using h1
  obtain ⟨hg, hlen⟩ := checkR_ok h0
  ((conv => whnf); repeat ((first | (intro hq; try simp only [lnS] at hq) | refine sI ?_ | refine .intro _ (.intro rfl ?_)); (conv => whnf)))
  refine call_tri [] ck2 trivial (fun r hs => ?_)
  subst hs
  ((conv => whnf); repeat ((first | (intro hq; try simp only [lnS] at hq) | refine sI ?_ | refine .intro _ (.intro rfl ?_)); (conv => whnf)))
  refine brB_ndec (fun h2 => ?_) (fun h2 => ?_)
  · have hv : compR l m = ([], checkR m) := by unfold compR; rw [if_neg (by omega), if_pos h2]
    rw [hv]
    ((conv => whnf); repeat' ((first | (intro hq; (try simp only [lnS] at hq); (try rewrite [List.length_map])) | refine sJ ?_ | refine .intro _ (.intro rfl ?_) | (refine .intro (show (_ : Nat) < List.length _ from by first | omega | (simp only [lnS]; omega) | simp) ?_) | fail | refine draw_rule hty (by kernel_rfl) (by kernel_rfl) ?_ | ((first | refine brB_dec ?_ ?_ | refine brB_ndec ?_ ?_) <;> intro hb <;> (first | contradiction | ((try simp only [lnS] at hb); try (exfalso; omega)))) | (refine brB_split ?_ ?_ <;> intro hb <;> (first | contradiction | exact bT hb (by assumption) | exact bF hb (by assumption) | skip))) <;> (conv => whnf)))
    exact nilP _ _
  have h0' : checkR m = 0 := by simpa using h2
  obtain ⟨hg2, hlen2⟩ := checkR_ok h0'
  have hv : compR l m = if checkR (compL l m) ≠ 0 then ([], checkR (compL l m)) else (compL l m, 0) := by
    unfold compR
    rw [if_neg (by omega), if_neg (by omega)]
  rw [hv]
  clear h1 h2 ck ck2 hv
  ((conv => whnf); repeat ((first | (intro hq; try simp only [lnS] at hq) | refine sI ?_ | refine .intro _ (.intro rfl ?_)); (conv => whnf)))
  refine call_inlineF false [5] hty Tryd.func11 rfl (kp [0, 2, 3, 5, 7, 8, 9, 10]) 20 (by simp [Tryd.f11]) ?_
  ((conv => whnf); repeat ((first | refine frS ?_ | refine nmS ?_ | (intro hq; try simp only [lnS] at hq) | refine sI ?_ | refine .intro _ (.intro rfl ?_)); (conv => whnf)))
  refine make_map rfl rfl pairD 33 (by refine ⟨?_, ?_, ?_⟩ <;> simp [fF_nil, fF_cons, fH_nil, fH_cons, HObj.ids, SV.ids, SV.idsL, argFr, roH, tblO, mapX_ids4, idsE_nil4, idsE_entR, oneOf, ids_ofV2, idsL_d, mkAgg, allD]) ?_
  ((conv => whnf); repeat ((first | refine frS ?_ | refine nmS ?_ | (intro hq; try simp only [lnS] at hq) | refine sI ?_ | refine .intro _ (.intro rfl ?_)); (conv => whnf)))
  refine loop_rule hty (fun y : Nat × List Nat × Nat => ([(0, .d (rnL l)), (3, .ptr 23 0), (7, .d (rnL l)), (8, .d (.int .i64 l.length)), (9, .d (.int .i64 y.1))], (23, .cells 56 [.xv 33 mapV]) :: (33, tblO (l.take y.1) y.2) :: [])) (fun y => y.1 ≤ l.length) (fun y => l.length - y.1) (0, [], 0) (by dsimp only; omega) ⟨by repeat' (first | exact trivial | exact rfl | (rw [List.length_map]; exact rfl) | refine And.intro ?_ ?_), ⟨rfl, rfl, trivial⟩⟩ ?_
  rintro ⟨j, g0⟩ hj
  dsimp only at hj
  ((conv => whnf); repeat ((first | refine frS ?_ | refine nmS ?_ | (intro hq; try simp only [lnS] at hq) | refine sI ?_ | refine .intro _ (.intro rfl ?_)); (conv => whnf)))
  refine brB_dec (fun h1 => ?_) (fun h1 => ?_)
  · have hjl : j < l.length := by dsimp only at h1; omega
    have hrow : (l.map rnR)[(j : Int).toNat]? = some (rnR l[j]) := rowC_at hjl
    have hms := mset_entR l[j] (l.take j) (str_fresh hg.str hjl)
    rw [← List.take_succ_eq_append_getElem hjl] at hms
    generalize l[j] = x at hrow hms
    ((conv => whnf); repeat ((first | refine frS ?_ | refine nmS ?_ | (refine ⟨_, hrow, ?_⟩) | (intro hq; try simp only [lnS] at hq) | refine sI ?_ | refine .intro _ (.intro rfl ?_)); (conv => whnf)))
    refine update_map (k := keyO x) (.inl rfl) rfl (keyT_pair pairT) rfl rfl rfl rfl (fun bs1 ck1 => ?_)
    ((conv => whnf); repeat ((first | refine frS ?_ | refine nmS ?_ | (intro hq; try simp only [lnS] at hq) | refine sI ?_ | refine .intro _ (.intro rfl ?_)); (conv => whnf)))
    refine ⟨(j + 1, bs1, ck1), by dsimp only; omega, by dsimp only; omega, ⟨by repeat' (first | exact trivial | exact rfl | refine And.intro ?_ ?_), ?_⟩⟩
    dsimp only
    unfold tblO
    rw [← hms]
    exact ⟨rfl, rfl, trivial⟩
  have hjl : j = l.length := by dsimp only at h1; omega
  subst hjl
  rw [List.take_length]
  ((conv => whnf); repeat ((first | refine frS ?_ | refine nmS ?_ | (intro hq; try simp only [lnS] at hq) | refine sI ?_ | refine .intro _ (.intro rfl ?_)); (conv => whnf)))
  refine call_inlineF false [5] hty Tryd.func11 rfl (kp [0, 2, 3, 5, 7, 8, 9, 10]) 25 (by simp [Tryd.f11]) ?_
  ((conv => whnf); repeat ((first | refine frS ?_ | refine nmS ?_ | (intro hq; try simp only [lnS] at hq) | refine sI ?_ | refine .intro _ (.intro rfl ?_)); (conv => whnf)))
  refine make_map rfl rfl pairD 38 (by refine ⟨?_, ?_, ?_⟩ <;> simp [fF_nil, fF_cons, fH_nil, fH_cons, HObj.ids, SV.ids, SV.idsL, argFr, roH, tblO, mapX_ids4, idsE_nil4, idsE_entR, oneOf, ids_ofV2, idsL_d, mkAgg, allD]) ?_
  ((conv => whnf); repeat ((first | refine frS ?_ | refine nmS ?_ | (intro hq; try simp only [lnS] at hq) | refine sI ?_ | refine .intro _ (.intro rfl ?_)); (conv => whnf)))
  refine loop_rule hty (fun y : Nat × List Nat × Nat => ([(0, .d (rnL m)), (3, .ptr 28 0), (7, .d (rnL m)), (8, .d (.int .i64 m.length)), (9, .d (.int .i64 y.1))], (28, .cells 56 [.xv 38 mapV]) :: (38, tblO (m.take y.1) y.2) :: (23, .cells 56 [.xv 33 mapV]) :: (33, tblO l g0) :: [])) (fun y => y.1 ≤ m.length) (fun y => m.length - y.1) (0, [], 0) (by dsimp only; omega) ⟨by repeat' (first | exact trivial | exact rfl | (rw [List.length_map]; exact rfl) | refine And.intro ?_ ?_), ⟨rfl, rfl, rfl, rfl, trivial⟩⟩ ?_
  rintro ⟨j, g⟩ hj
  dsimp only at hj
  ((conv => whnf); repeat ((first | refine frS ?_ | refine nmS ?_ | (intro hq; try simp only [lnS] at hq) | refine sI ?_ | refine .intro _ (.intro rfl ?_)); (conv => whnf)))
  refine brB_dec (fun h1 => ?_) (fun h1 => ?_)
  · have hjl : j < m.length := by dsimp only at h1; omega
    have hrow : (m.map rnR)[(j : Int).toNat]? = some (rnR m[j]) := rowC_at hjl
    have hms := mset_entR m[j] (m.take j) (str_fresh hg2.str hjl)
    rw [← List.take_succ_eq_append_getElem hjl] at hms
    generalize m[j] = x at hrow hms
    ((conv => whnf); repeat ((first | refine frS ?_ | refine nmS ?_ | (refine ⟨_, hrow, ?_⟩) | (intro hq; try simp only [lnS] at hq) | refine sI ?_ | refine .intro _ (.intro rfl ?_)); (conv => whnf)))
    refine update_map (k := keyO x) (.inl rfl) rfl (keyT_pair pairT) rfl rfl rfl rfl (fun bs1 ck1 => ?_)
    ((conv => whnf); repeat ((first | refine frS ?_ | refine nmS ?_ | (intro hq; try simp only [lnS] at hq) | refine sI ?_ | refine .intro _ (.intro rfl ?_)); (conv => whnf)))
    refine ⟨(j + 1, bs1, ck1), by dsimp only; omega, by dsimp only; omega, ⟨by repeat' (first | exact trivial | exact rfl | refine And.intro ?_ ?_), ?_⟩⟩
    dsimp only
    unfold tblO
    rw [← hms]
    exact ⟨rfl, rfl, rfl, rfl, trivial⟩
  have hjl : j = m.length := by dsimp only at h1; omega
  subst hjl
  rw [List.take_length]
  ((conv => whnf); repeat ((first | refine frS ?_ | refine nmS ?_ | (intro hq; try simp only [lnS] at hq) | refine sI ?_ | refine .intro _ (.intro rfl ?_)); (conv => whnf)))
  have hc := rnConcat_spec [l, m] (by simp; omega) (by simp)
  rw [show [l, m].flatten = l ++ m by simp] at hc
  have hc := Tri.osl (id := 26) hc
  refine call_tri [] hc trivial (fun r hs => ?_)
  subst hs
  clear hc
  ((conv => whnf); repeat ((first | refine frS ?_ | refine nmS ?_ | (intro hq; try simp only [lnS] at hq) | refine sI ?_ | refine .intro _ (.intro rfl ?_)); (conv => whnf)))
  refine call_tri [] (rnSorted_spec (l ++ m) (by rw [List.length_append]; omega)) trivial (fun r hs => ?_)
  obtain ⟨s, hsd, rfl⟩ := hs
  have hcomp : fltL l m s = compL l m := comp_flt hg.str hg2.str hsd.str hsd.sub hsd.key
  have hsl := hsd.len
  rw [List.length_append] at hsl
  clear hsd
  ((conv => whnf); repeat ((first | refine frS ?_ | refine nmS ?_ | (intro hq; try simp only [lnS] at hq) | refine sI ?_ | refine .intro _ (.intro rfl ?_)); (conv => whnf)))
  refine SemVC.own 4 120 45 3 rfl (by refine ⟨?_, ?_, ?_⟩ <;> simp [fF_nil, fF_cons, fH_nil, fH_cons, HObj.ids, SV.ids, SV.idsL, argFr, roH, tblO, mapX_ids4, idsE_nil4, idsE_entR, oneOf, ids_ofV2, idsL_d, mkAgg, allD]) ?_
  refine loop_rule hty (fun j : Nat => ([(4, .osl 120 3 ((fltL l m (s.take j)).map rnR)), (6, .fn 19 [] [.ptr 23 0]), (7, .fn 19 [] [.ptr 28 0]), (28, .d (rnL s)), (29, .d (.int .i64 s.length)), (30, .d (.int .i64 j))], (120, .own 45 3 ((fltL l m (s.take j)).map rnR).length) :: (28, .cells 56 [.xv 38 mapV]) :: (38, tblO m g) :: (23, .cells 56 [.xv 33 mapV]) :: (33, tblO l g0) :: [])) (fun j => j ≤ s.length) (fun j => s.length - j) 0 (by omega) ⟨by repeat' (first | exact trivial | exact rfl | (rw [List.length_map]; exact rfl) | refine And.intro ?_ ?_), ⟨rfl, rfl, rfl, rfl, rfl, trivial⟩⟩ ?_
  rintro j hj
  ((conv => whnf); repeat ((first | refine frS ?_ | refine nmS ?_ | (intro hq; try simp only [lnS] at hq) | refine sI ?_ | refine .intro _ (.intro rfl ?_)); (conv => whnf)))
  refine brB_dec (fun h1 => ?_) (fun h1 => ?_)
  · have hjl : j < s.length := by omega
    have hrow : (s.map rnR)[(j : Int).toNat]? = some (rnR s[j]) := rowC_at hjl
    have hft := flt_take (l := l) (m := m) hjl
    have hlen9 := flt_len l m (s.take j)
    rw [List.length_take] at hlen9
    generalize s[j] = x at hrow hft
    have n1 := (tname_23 l g0 x.kind x.old).rel [(23, .cells 56 [.xv 33 mapV]), (33, tblO l g0)] ⟨rfl, ⟨rfl, rfl⟩, rfl, rfl, trivial⟩
    have n2 := (tname_28 m g x.kind (nameR l x.kind x.old)).rel [(28, .cells 56 [.xv 38 mapV]), (38, tblO m g)] ⟨rfl, ⟨rfl, rfl⟩, rfl, rfl, trivial⟩
    have hnew : newR l m x = ⟨x.kind, x.old, nameR m x.kind (nameR l x.kind x.old)⟩ := rfl
    rw [hnew] at hft
    generalize nameR m x.kind (nameR l x.kind x.old) = nm at n2 hft
    generalize nameR l x.kind x.old = nl at n1 n2
    dsimp only at hft
    ((conv => whnf); repeat ((first | refine frS ?_ | refine nmS ?_ | (refine ⟨_, hrow, ?_⟩) | (intro hq; try simp only [lnS] at hq) | refine sI ?_ | refine .intro _ (.intro rfl ?_)); (conv => whnf)))
    refine SemVC.mid [(4, .osl 120 3 ((fltL l m (s.take j)).map rnR)), (6, .fn 19 [] [.ptr 23 0]), (7, .fn 19 [] [.ptr 28 0]), (9, .ptr 9 0), (28, .d (rnL s)), (29, .d (.int .i64 s.length)), (30, .d (.int .i64 j))] ((9, .cells 45 [.d (.int .i64 x.kind), .d (.str x.old), .d (.str nm)]) :: (120, .own 45 3 ((fltL l m (s.take j)).map rnR).length) :: (28, .cells 56 [.xv 38 mapV]) :: (38, tblO m g) :: (23, .cells 56 [.xv 33 mapV]) :: (33, tblO l g0) :: []) ?_ ?_
    · (refine tree2_rule (id := 11) hty (.first 0 (.first 1 (.first 3 (.first 4 (.first 6 (.alt 2 (.alt 5 (.alt 7 (.alt 8 (.alt 9 (.first 10 (.alt 11 .done .stop)) .stop) .stop) .stop) (.alt 7 (.alt 5 (.alt 8 (.alt 9 (.first 10 (.alt 11 .done .stop)) .stop) .stop) .stop) .stop)) (.alt 5 (.alt 2 (.alt 7 (.alt 8 (.alt 9 (.first 10 (.alt 11 .done .stop)) .stop) .stop) .stop) (.alt 7 (.alt 2 (.alt 8 (.alt 9 (.first 10 (.alt 11 .done .stop)) .stop) .stop) (.alt 8 (.alt 2 (.alt 9 (.first 10 (.alt 11 .done .stop)) .stop) .stop) .stop)) .stop)) (.alt 7 (.alt 2 (.alt 5 (.alt 8 (.alt 9 (.first 10 (.alt 11 .done .stop)) .stop) .stop) .stop) (.alt 5 (.alt 2 (.alt 8 (.alt 9 (.first 10 (.alt 11 .done .stop)) .stop) .stop) (.alt 8 (.alt 2 (.alt 9 (.first 10 (.alt 11 .done .stop)) .stop) .stop) .stop)) .stop)) .stop)))))))) (by kernel_rfl) (by kernel_rfl) ?_)
      ((conv => whnf); repeat' ((first | exact trivial | refine altAnd ?_ ?_ | refine eqN rfl ?_ | refine leN rfl ?_ | refine ltN rfl ?_ | (refine call_tri [(23, _), (33, _)] n1 (by exact ⟨rfl, rfl, trivial⟩) (fun r hs => ?_); subst hs) | (refine call_tri [(28, _), (38, _)] n2 (by exact ⟨rfl, rfl, trivial⟩) (fun r hs => ?_); subst hs) | refine sJ ?_ | (refine Exists.intro _ (And.intro rfl ?_))) <;> (conv => whnf)))
      all_goals exact ⟨by repeat' (first | exact trivial | exact rfl | refine And.intro ?_ ?_), by repeat' (first | exact trivial | exact rfl | refine And.intro ?_ ?_)⟩
    ((conv => whnf); repeat' ((first | (intro hq; (try simp only [lnS] at hq); (try rewrite [List.length_map])) | refine sJ ?_ | refine .intro _ (.intro rfl ?_) | (refine .intro (show (_ : Nat) < List.length _ from by first | omega | (simp only [lnS]; omega) | simp) ?_) | refine frS ?_ | refine nmS ?_ | refine draw_rule hty (by kernel_rfl) (by kernel_rfl) ?_ | ((first | refine brB_dec ?_ ?_ | refine brB_ndec ?_ ?_) <;> intro hb <;> (first | contradiction | ((try simp only [lnS] at hb); try (exfalso; omega)))) | (refine brB_split ?_ ?_ <;> intro hb <;> (first | contradiction | exact bT hb (by assumption) | exact bF hb (by assumption) | skip))) <;> (conv => whnf)))
    · have hr : (fltL l m (s.take (j + 1))).map rnR = (fltL l m (s.take j)).map rnR ++ [rnR ⟨x.kind, x.old, nm⟩] := by rw [hft, if_neg hb, List.map_append]; rfl
      refine ⟨j + 1, by dsimp only; omega, by dsimp only; omega, ?_⟩
      dsimp only
      rw [hr, List.length_append]
      exact ⟨by repeat' (first | exact trivial | exact rfl | refine And.intro ?_ ?_), by repeat' (first | exact trivial | exact rfl | refine And.intro ?_ ?_)⟩
    · have hr : (fltL l m (s.take (j + 1))).map rnR = (fltL l m (s.take j)).map rnR := by rw [hft, if_pos hb, List.append_nil]
      refine ⟨j + 1, by dsimp only; omega, by dsimp only; omega, ?_⟩
      dsimp only
      rw [hr]
      exact ⟨by repeat' (first | exact trivial | exact rfl | refine And.intro ?_ ?_), by repeat' (first | exact trivial | exact rfl | refine And.intro ?_ ?_)⟩
  have hjl : j = s.length := by omega
  subst hjl
  rw [List.take_length, hcomp]
  have ck3 := Tri.osl (id := 120) (rnCheck_spec (compL l m))
  ((conv => whnf); repeat ((first | refine frS ?_ | refine nmS ?_ | (intro hq; try simp only [lnS] at hq) | refine sI ?_ | refine .intro _ (.intro rfl ?_)); (conv => whnf)))
  refine call_tri [] ck3 trivial (fun r hs => ?_)
  subst hs
  ((conv => whnf); repeat ((first | refine frS ?_ | refine nmS ?_ | (intro hq; try simp only [lnS] at hq) | refine sI ?_ | refine .intro _ (.intro rfl ?_)); (conv => whnf)))
  refine brB_ndec (fun h2 => ?_) (fun h2 => ?_)
  · rw [if_pos h2]
    ((conv => whnf); repeat' ((first | (intro hq; (try simp only [lnS] at hq); (try rewrite [List.length_map])) | refine sJ ?_ | refine .intro _ (.intro rfl ?_) | (refine .intro (show (_ : Nat) < List.length _ from by first | omega | (simp only [lnS]; omega) | simp) ?_) | fail | refine draw_rule hty (by kernel_rfl) (by kernel_rfl) ?_ | ((first | refine brB_dec ?_ ?_ | refine brB_ndec ?_ ?_) <;> intro hb <;> (first | contradiction | ((try simp only [lnS] at hb); try (exfalso; omega)))) | (refine brB_split ?_ ?_ <;> intro hb <;> (first | contradiction | exact bT hb (by assumption) | exact bF hb (by assumption) | skip))) <;> (conv => whnf)))
    exact nilP _ _
  · rw [if_neg (by omega)]
    ((conv => whnf); repeat' ((first | (intro hq; (try simp only [lnS] at hq); (try rewrite [List.length_map])) | refine sJ ?_ | refine .intro _ (.intro rfl ?_) | (refine .intro (show (_ : Nat) < List.length _ from by first | omega | (simp only [lnS]; omega) | simp) ?_) | fail | refine draw_rule hty (by kernel_rfl) (by kernel_rfl) ?_ | ((first | refine brB_dec ?_ ?_ | refine brB_ndec ?_ ?_) <;> intro hb <;> (first | contradiction | ((try simp only [lnS] at hb); try (exfalso; omega)))) | (refine brB_split ?_ ?_ <;> intro hb <;> (first | contradiction | exact bT hb (by assumption) | exact bF hb (by assumption) | skip))) <;> (conv => whnf)))
    exact sameP _ _ _
end Go.Proofs.YtnemengadjimcaaDoor
namespace Go.Proofs.YtnemengadjimcaaDoor
open Go.Proofs
set_option maxRecDepth 10000
attribute [local irreducible] SemVC CallVC Tri Stuck YVC GenP GenVC
theorem rrSame_self (l : List Rn) : Tri Tryd.prog 7 [.d (rnL l), .d (rnL l)] [] (fun r => r = .d (.bool true)) := by
  refine tri_of_bodyF false [] hty Tryd.func7 rfl (kp [0, 1, 4, 5, 10, 14, 25]) [] _ _ _ (by simp [Tryd.f7]) (by simp) ?_
  ((conv => whnf); repeat ((first | (intro hq; try simp only [lnS] at hq) | refine sI ?_ | refine .intro _ (.intro rfl ?_)); (conv => whnf)))
  refine brB_ndec (fun h1 => ?_) (fun h1 => ?_)
  · exact absurd rfl h1
  ((conv => whnf); repeat ((first | (intro hq; try simp only [lnS] at hq) | refine sI ?_ | refine .intro _ (.intro rfl ?_)); (conv => whnf)))
  refine loop_rule hty (fun j : Nat => ([(0, .d (rnL l)), (1, .d (rnL l)), (5, .d (.int .i64 j))], [])) (fun j => j ≤ l.length) (fun j => l.length - j) 0 (by omega) ⟨by repeat' (first | exact trivial | exact rfl | refine And.intro ?_ ?_), trivial⟩ ?_
  rintro j hj
  ((conv => whnf); repeat ((first | (intro hq; try simp only [lnS] at hq) | refine sI ?_ | refine .intro _ (.intro rfl ?_)); (conv => whnf)))
  refine brB_dec (fun h2 => ?_) (fun h2 => ?_)
  · have hjl : j < l.length := by have h2 : (j : Int) < ((l.map rnR).length : Nat) := h2; rw [List.length_map] at h2; omega
    have hrow : (l.map rnR)[(j : Int).toNat]? = some (rnR l[j]) := rowC_at hjl
    generalize l[j] = x at hrow
    ((conv => whnf); repeat' ((first | (intro hq; (try simp only [lnS] at hq); (try rewrite [List.length_map])) | refine sJ ?_ | refine .intro _ (.intro rfl ?_) | (refine .intro (show (_ : Nat) < List.length _ from by first | omega | (simp only [lnS]; omega) | simp) ?_) | (refine ⟨_, hrow, ?_⟩) | refine draw_rule hty (by kernel_rfl) (by kernel_rfl) ?_ | ((first | refine brB_dec ?_ ?_ | refine brB_ndec ?_ ?_) <;> intro hb <;> (first | contradiction | ((try simp only [lnS] at hb); try (exfalso; omega)))) | (refine brB_split ?_ ?_ <;> intro hb <;> (first | contradiction | exact bT hb (by assumption) | exact bF hb (by assumption) | skip))) <;> (conv => whnf)))
    · simp at hb
    · exact ⟨j + 1, by dsimp only; omega, by dsimp only; omega, ⟨by repeat' (first | exact trivial | exact rfl | refine And.intro ?_ ?_), by repeat' (first | exact trivial | exact rfl | refine And.intro ?_ ?_)⟩⟩
  · ((conv => whnf); repeat' ((first | (intro hq; (try simp only [lnS] at hq); (try rewrite [List.length_map])) | refine sJ ?_ | refine .intro _ (.intro rfl ?_) | (refine .intro (show (_ : Nat) < List.length _ from by first | omega | (simp only [lnS]; omega) | simp) ?_) | fail | refine draw_rule hty (by kernel_rfl) (by kernel_rfl) ?_ | ((first | refine brB_dec ?_ ?_ | refine brB_ndec ?_ ?_) <;> intro hb <;> (first | contradiction | ((try simp only [lnS] at hb); try (exfalso; omega)))) | (refine brB_split ?_ ?_ <;> intro hb <;> (first | contradiction | exact bT hb (by assumption) | exact bF hb (by assumption) | skip))) <;> (conv => whnf)))
    rfl
end Go.Proofs.YtnemengadjimcaaDoor
namespace Go.Proofs.YtnemengadjimcaaDoor
open Go.Proofs
set_option maxRecDepth 10000
attribute [local irreducible] SemVC CallVC Tri Stuck YVC GenP GenVC
end Go.Proofs.YtnemengadjimcaaDoor
