/-
  Rename: names, validity, comparison, Name, Check. Rename: Axioms.
  Conditions: none.
-/
import Derived.Test.YtnemengadjimcaaDoorMTcr
import Derived.Test.YtnemengadjimcaaDoorMSyd
import Derived.Test.YtnemengadjimcaaDoorMBt
import Derived.Test.YtnemengadjimcaaDoorMRea
import Derived.Test.YtnemengadjimcaaDoorMRu
set_option linter.unnecessarySimpa false
set_option linter.unusedSectionVars false
set_option linter.unusedSimpArgs false
set_option linter.unusedVariables false
namespace Go.Proofs.YtnemengadjimcaaDoor
open Go.Proofs
set_option maxRecDepth 10000
attribute [local irreducible] SemVC CallVC Tri Stuck YVC GenP GenVC
theorem pre95 (s : List UInt8) : ([95] : List UInt8).isPrefixOf s = decide (s.head? = some 95) := by
  cases s with
  | nil => rfl
  | cons a r =>
    simp only [List.isPrefixOf, List.head?_cons, Option.some.injEq, Bool.and_true]
    by_cases h : (95 : UInt8) = a
    · subst h; rfl
    · have h2 : ¬ a = 95 := fun e => h e.symm
      rw [decide_eq_false h2]
      simpa using h
theorem isName_spec (s : List UInt8) : Tri Tryd.prog 35 [.d (.str s)] [] (fun r => r = .d (.bool (rnN s))) := by
  have c := checkName_spec s
  have p := hasPrefix_spec s [95]
  rw [pre95] at p
  unfold rnN
  generalize decide (s.head? = some 95) = b at *
  by_cases hn : nameF s = true
  · rw [if_pos hn] at c
    rw [hn]
    refine tri_of_body hty Tryd.func35 rfl (kp [0, 2]) [] _ _ _ (by simp [Tryd.f35]) (by simp) ?_
    ((conv => whnf); repeat' ((first | (intro hq; (try simp only [lnS] at hq); (try rewrite [List.length_map])) | refine sJ ?_ | refine .intro _ (.intro rfl ?_) | (refine .intro (show (_ : Nat) < List.length _ from by first | omega | (simp only [lnS]; omega) | simp) ?_) | (refine call_tri [] c trivial (fun r hs => ?_); subst hs) | (refine call_tri [] p trivial (fun r hs => ?_); subst hs) | refine draw_rule hty (by kernel_rfl) (by kernel_rfl) ?_ | ((first | refine brB_dec ?_ ?_ | refine brB_ndec ?_ ?_) <;> intro hb <;> (first | contradiction | ((try simp only [lnS] at hb); try (exfalso; omega)))) | (refine brB_split ?_ ?_ <;> intro hb <;> (first | contradiction | exact bT hb (by assumption) | exact bF hb (by assumption) | skip))) <;> (conv => whnf)))
    all_goals first
      | rfl
      | (exfalso; simp_all; done)
      | (refine bool_eq ?_; simp_all; done)
  · rw [if_neg hn] at c
    rw [show nameF s = false by simpa using hn]
    refine tri_of_body hty Tryd.func35 rfl (kp [0, 2]) [] _ _ _ (by simp [Tryd.f35]) (by simp) ?_
    ((conv => whnf); repeat' ((first | (intro hq; (try simp only [lnS] at hq); (try rewrite [List.length_map])) | refine sJ ?_ | refine .intro _ (.intro rfl ?_) | (refine .intro (show (_ : Nat) < List.length _ from by first | omega | (simp only [lnS]; omega) | simp) ?_) | (refine call_tri [] c trivial (fun r hs => ?_); subst hs) | (refine call_tri [] p trivial (fun r hs => ?_); subst hs) | refine draw_rule hty (by kernel_rfl) (by kernel_rfl) ?_ | ((first | refine brB_dec ?_ ?_ | refine brB_ndec ?_ ?_) <;> intro hb <;> (first | contradiction | ((try simp only [lnS] at hb); try (exfalso; omega)))) | (refine brB_split ?_ ?_ <;> intro hb <;> (first | contradiction | exact bT hb (by assumption) | exact bF hb (by assumption) | skip))) <;> (conv => whnf)))
    all_goals first
      | rfl
      | (exfalso; simp_all; done)
      | (refine bool_eq ?_; simp_all; done)
theorem isValid_spec (x : Rn) : Tri Tryd.prog 18 [.d (.agg (rnR x))] [] (fun r => r = .d (.bool (rnV x))) := by
  have c := isName_spec x.old
  have d := isName_spec x.new
  unfold rnV
  generalize rnN x.old = a at *
  generalize rnN x.new = b at *
  refine tri_of_bodyF false [1] hty Tryd.func18 rfl (kp [0, 1, 2]) [] _ _ _ (by simp [Tryd.f18]) (by simp) ?_
  ((conv => whnf); repeat' ((first | (intro hq; (try simp only [lnS] at hq); (try rewrite [List.length_map])) | refine sJ ?_ | refine .intro _ (.intro rfl ?_) | (refine .intro (show (_ : Nat) < List.length _ from by first | omega | (simp only [lnS]; omega) | simp) ?_) | (refine call_tri [] c trivial (fun r hs => ?_); subst hs) | (refine call_tri [] d trivial (fun r hs => ?_); subst hs) | refine draw_rule hty (by kernel_rfl) (by kernel_rfl) ?_ | ((first | refine brB_dec ?_ ?_ | refine brB_ndec ?_ ?_) <;> intro hb <;> (first | contradiction | ((try simp only [lnS] at hb); try (exfalso; omega)))) | (refine brB_split ?_ ?_ <;> intro hb <;> (first | contradiction | exact bT hb (by assumption) | exact bF hb (by assumption) | skip))) <;> (conv => whnf)))
  all_goals first
    | rfl
    | (exfalso; omega)
    | (refine bool_eq (Eq.symm ?_); simp_all <;> omega)
theorem rnCompare_spec (x y : Rn) : Tri Tryd.prog 14 [.d (.agg (rnR x)), .d (.agg (rnR y))] [] (fun r => r = .d (.int .i64 (cmpR x y))) := by
  refine tri_of_bodyF false [2, 3] hty Tryd.func14 rfl (kp [0, 1, 2, 3, 4]) [] _ _ _ (by simp [Tryd.f14]) (by simp) ?_
  ((conv => whnf); repeat ((first | (intro hq; try simp only [lnS] at hq) | refine sI ?_ | refine .intro _ (.intro rfl ?_)); (conv => whnf)))
  refine pre_rule hty 10 (by kernel_rfl) (by kernel_rfl) ?_
  ((conv => whnf); repeat ((first | (intro hq; try simp only [lnS] at hq) | refine sI ?_ | refine .intro _ (.intro rfl ?_)); (conv => whnf)))
  refine ⟨.d (.int .i64 _), _, [], rfl, trivial, compareI_spec _ _, ?_⟩
  ((conv => whnf); repeat ((first | (intro hq; try simp only [lnS] at hq) | refine sI ?_ | refine .intro _ (.intro rfl ?_)); (conv => whnf)))
  refine ⟨.d (.int .i64 _), _, [], rfl, trivial, strCompare_spec _ _, ?_⟩
  ((conv => whnf); repeat ((first | (intro hq; try simp only [lnS] at hq) | refine sI ?_ | refine .intro _ (.intro rfl ?_)); (conv => whnf)))
  refine ⟨[], (fun r => r = .d (.int .i64 (cmpR x y))), trivial, Tri.osl (or_spec [_, _]), fun r hs => ?_⟩
  subst hs
  ((conv => whnf); repeat ((first | (intro hq; try simp only [lnS] at hq) | refine sI ?_ | refine .intro _ (.intro rfl ?_)); (conv => whnf)))
  rfl
theorem pairK : PairT Tryd.prog 55 3 9 := pairT_of hty rfl (by kernel_rfl) rfl rfl
def entP (ks : List Ky) : List (Ky × SV) := ks.map fun k => (k, SV.d (.bool true))
def usedO (ks : List Ky) (g : List Nat × Nat) : HObj := .ext (mapX pairD (entP ks) g.1 g.2)
theorem usedO_ids (ks : List Ky) (g : List Nat × Nat) : (usedO ks g).ids = [] := by
  show idsE (entP ks) = []
  induction ks with
  | nil => rfl
  | cons k r ih => exact ih
theorem mget_entP (k : Ky) : ∀ ks, mget (entP ks) k = if k ∈ ks then some (SV.d (.bool true)) else none
  | [] => rfl
  | x :: r => by
    have ih := mget_entP k r
    unfold entP at *
    rw [List.map_cons, mget]
    by_cases h : k = x
    · subst h; simp
    · simp [h, ih, eq_comm]
theorem mset_entP (k : Ky) : ∀ ks, k ∉ ks → mset (entP ks) k (SV.d (.bool true)) = entP (ks ++ [k])
  | [], _ => rfl
  | x :: r, h => by
    have ih := mset_entP k r (fun e => h (by simp [e]))
    unfold entP at *
    rw [List.map_cons, mset]
    have hx : ¬ k = x := fun e => h (by simp [e])
    simp [hx, ih, eq_comm]
set_option maxHeartbeats 8000000 in
theorem rnCheck_spec (l : List Rn) : Tri Tryd.prog 10 [.d (rnL l)] [] (fun r => r = .d (.int .i64 (checkR l))) := by
  unfold checkR
  refine tri_of_bodyF false [5] hty Tryd.func10 rfl (kp [0, 2, 3, 4, 5, 8, 10, 11, 12, 13, 42]) [] _ _ _ (by simp [Tryd.f10]) (by simp) ?_
  ((conv => whnf); repeat ((first | (intro hq; try simp only [lnS] at hq) | refine sI ?_ | refine .intro _ (.intro rfl ?_)); (conv => whnf)))
  refine brB_dec (fun h1 => ?_) (fun h1 => ?_)
  · have h1 : 1024 < (l.map rnR).length := by omega
    rw [List.length_map] at h1
    rw [if_pos h1]
    ((conv => whnf); repeat' ((first | (intro hq; (try simp only [lnS] at hq); (try rewrite [List.length_map])) | refine sJ ?_ | refine .intro _ (.intro rfl ?_) | (refine .intro (show (_ : Nat) < List.length _ from by first | omega | (simp only [lnS]; omega) | simp) ?_) | fail | refine draw_rule hty (by kernel_rfl) (by kernel_rfl) ?_ | ((first | refine brB_dec ?_ ?_ | refine brB_ndec ?_ ?_) <;> intro hb <;> (first | contradiction | ((try simp only [lnS] at hb); try (exfalso; omega)))) | (refine brB_split ?_ ?_ <;> intro hb <;> (first | contradiction | exact bT hb (by assumption) | exact bF hb (by assumption) | skip))) <;> (conv => whnf)))
    rfl
  · have hl : l.length ≤ 1024 := by have h1 : ¬ 1024 < ((l.map rnR).length : Int) := h1; rw [List.length_map] at h1; omega
    rw [if_neg (by omega)]
    ((conv => whnf); repeat ((first | (intro hq; try simp only [lnS] at hq) | refine sI ?_ | refine .intro _ (.intro rfl ?_)); (conv => whnf)))
    refine make_map rfl rfl pairD 34 (fresh_of (by with_unfolding_all exact rfl)) ?_
    ((conv => whnf); repeat ((first | (intro hq; try simp only [lnS] at hq) | refine sI ?_ | refine .intro _ (.intro rfl ?_)); (conv => whnf)))
    refine loop_rule hty (fun y : Nat × List Nat × Nat => ([(0, .d (rnL l)), (2, .d (.int .i64 0)), (3, .xv 34 mapV), (10, .d (rnL l)), (11, .d (.int .i64 l.length)), (12, .d (.int .i64 y.1))], [(34, usedO ((l.take y.1).map keyN) y.2)])) (fun y => y.1 ≤ l.length ∧ goB [] none l = goB ((l.take y.1).map keyN) (if y.1 = 0 then none else l[y.1 - 1]?) (l.drop y.1)) (fun y => l.length - y.1) (0, [], 0) ⟨by (try dsimp only); omega, rfl⟩ ⟨by repeat' (first | exact trivial | exact rfl | (rw [List.length_map]; exact rfl) | refine And.intro ?_ ?_), ⟨rfl, trivial⟩⟩ ?_
    rintro ⟨j, bs, ck⟩ ⟨hj, hn⟩
    dsimp only at hj hn ⊢
    ((conv => whnf); repeat ((first | (intro hq; try simp only [lnS] at hq) | refine sI ?_ | refine .intro _ (.intro rfl ?_)); (conv => whnf)))
    refine brB_dec (fun h2 => ?_) (fun h2 => ?_)
    · have hjl : j < l.length := by omega
      have hrow : (l.map rnR)[(j : Int).toNat]? = some (rnR l[j]) := rowC_at hjl
      have hdr := List.drop_eq_getElem_cons hjl
      have htk := List.take_succ_eq_append_getElem hjl
      have hv := isValid_spec l[j]
      rw [hdr, goB_cons] at hn
      obtain ⟨x, hx⟩ : ∃ x, x = l[j] := ⟨_, rfl⟩
      rw [← hx] at hrow hdr htk hv hn
      obtain ⟨ks, hks⟩ : ∃ ks, ks = (l.take j).map keyN := ⟨_, rfl⟩
      have hkn : (l.take (j + 1)).map keyN = ks ++ [keyN x] := by rw [htk, List.map_append, hks]; rfl
      rw [← hks] at hn ⊢
      have hky : (x.kind, x.new) = keyN x := rfl
      have hlk : lookRes false (mget (entP ks) (x.kind, x.new)) (ofV (.bool false)) = .d (.bool (decide (keyN x ∈ ks))) := by
        rw [hky, mget_entP]
        by_cases hin : keyN x ∈ ks
        · rw [if_pos hin, decide_eq_true hin]; rfl
        · rw [if_neg hin, decide_eq_false hin]; rfl
      have hnext : ∀ bs1 ck1, keyN x ∉ ks → HObj.ext (mapX pairD (mset (entP ks) (x.kind, x.new) (.d (.bool true))) bs1 ck1) = usedO ((l.take (j + 1)).map keyN) (bs1, ck1) := fun bs1 ck1 h => by
        rw [hkn, usedO, hky, mset_entP _ _ h]
      have hfin : ∀ b : Bool, goB [] none l = b → SV.d (.int .i64 (if goB [] none l = true then 0 else 330)) = SV.d (.int .i64 (if b = true then 0 else 330)) := fun b h => by rw [h]
      generalize rnV x = a at hv hn
      by_cases j0 : j = 0
      · rw [if_pos j0] at hn
        simp only [okP, Bool.true_and] at hn
        ((conv => whnf); repeat' ((first | (intro hq; (try simp only [lnS] at hq); (try rewrite [List.length_map])) | refine sJ ?_ | refine .intro _ (.intro rfl ?_) | (refine .intro (show (_ : Nat) < List.length _ from by first | omega | (simp only [lnS]; omega) | simp) ?_) | (refine frH (by refine ⟨?_, ?_, ?_⟩ <;> simp [idsF_nil, idsF_cons, idsH_nil, idsH_cons, SV.ids, SV.idsL, usedO_ids]) ?_) | (refine nmH (by simp [idsF_nil, idsF_cons, idsH_nil, idsH_cons, SV.ids, SV.idsL, usedO_ids]) ?_) | (refine ⟨_, hrow, ?_⟩) | (refine ⟨.d (.bool _), _, [], rfl, trivial, hv, ?_⟩) | (refine lookup_map (k := (x.kind, x.new)) (z := .bool false) rfl rfl (keyT_pair pairK) rfl rfl rfl rfl ?_; rewrite [hlk]) | (refine update_map (k := (x.kind, x.new)) (.inl rfl) rfl (keyT_pair pairK) rfl rfl rfl rfl (fun bs1 ck1 => ?_)) | refine draw_rule hty (by kernel_rfl) (by kernel_rfl) ?_ | ((first | refine brB_dec ?_ ?_ | refine brB_ndec ?_ ?_) <;> intro hb <;> (first | contradiction | ((try simp only [lnS] at hb); try (exfalso; omega)))) | (refine brB_split ?_ ?_ <;> intro hb <;> (first | contradiction | exact bT hb (by assumption) | exact bF hb (by assumption) | skip))) <;> (conv => whnf)))
        all_goals first
          | (refine int_eq (Eq.symm ?_); rw [hn]; clear hlk hnext hky hkn hks hx htk hdr hfin hrow hv hn; (try clear hrow2 hcp); simp_all; done)
          | (have hin : keyN x ∉ ks := by clear hlk hnext hky hkn hks hx htk hdr hfin hrow hv hn; (try clear hrow2 hcp); simp_all
             refine ⟨(j + 1, bs1, ck1), ⟨by (try dsimp only); omega, ?_⟩, by (try dsimp only); omega, ⟨by repeat' (first | exact trivial | exact rfl | refine And.intro ?_ ?_), ⟨?_, trivial⟩⟩⟩
             · dsimp only
               rw [hn, if_neg (by omega), Nat.add_sub_cancel, List.getElem?_eq_getElem hjl, ← hx, hkn]
               clear hlk hnext hky hkn hks hx htk hdr hfin hrow hv hn
               (try clear hrow2 hcp)
               simp_all
             · exact congrArg some (hnext bs1 ck1 hin))
      · have hjp : j - 1 < l.length := by omega
        rw [if_neg j0, List.getElem?_eq_getElem hjp] at hn
        have hrow2 : (l.map rnR)[((j : Int) - 1).toNat]? = some (rnR l[j - 1]) := by
          rw [show ((j : Int) - 1).toNat = j - 1 by omega, List.getElem?_map, List.getElem?_eq_getElem hjp]; rfl
        have hcp := rnCompare_spec l[j - 1] x
        generalize l[j - 1] = q at hn hrow2 hcp
        rw [okP] at hn
        generalize cmpR q x = c at hn hcp
        rw [show decide (c < 0) = !decide (0 ≤ c) by
          by_cases h : 0 ≤ c
          · rw [decide_eq_true h, decide_eq_false (by omega)]; rfl
          · rw [decide_eq_false h, decide_eq_true (by omega)]; rfl] at hn
        ((conv => whnf); repeat' ((first | (intro hq; (try simp only [lnS] at hq); (try rewrite [List.length_map])) | refine sJ ?_ | refine .intro _ (.intro rfl ?_) | (refine .intro (show (_ : Nat) < List.length _ from by first | omega | (simp only [lnS]; omega) | simp) ?_) | (refine frH (by refine ⟨?_, ?_, ?_⟩ <;> simp [idsF_nil, idsF_cons, idsH_nil, idsH_cons, SV.ids, SV.idsL, usedO_ids]) ?_) | (refine nmH (by simp [idsF_nil, idsF_cons, idsH_nil, idsH_cons, SV.ids, SV.idsL, usedO_ids]) ?_) | (refine ⟨_, hrow, ?_⟩) | (refine ⟨.d (.bool _), _, [], rfl, trivial, hv, ?_⟩) | (refine lookup_map (k := (x.kind, x.new)) (z := .bool false) rfl rfl (keyT_pair pairK) rfl rfl rfl rfl ?_; rewrite [hlk]) | (refine update_map (k := (x.kind, x.new)) (.inl rfl) rfl (keyT_pair pairK) rfl rfl rfl rfl (fun bs1 ck1 => ?_)) | (refine ⟨_, hrow2, ?_⟩) | (refine ⟨.d (.int .i64 _), _, [], rfl, trivial, hcp, ?_⟩) | refine draw_rule hty (by kernel_rfl) (by kernel_rfl) ?_ | ((first | refine brB_dec ?_ ?_ | refine brB_ndec ?_ ?_) <;> intro hb <;> (first | contradiction | ((try simp only [lnS] at hb); try (exfalso; omega)))) | (refine brB_split ?_ ?_ <;> intro hb <;> (first | contradiction | exact bT hb (by assumption) | exact bF hb (by assumption) | skip))) <;> (conv => whnf)))
        all_goals first
          | (refine int_eq (Eq.symm ?_); rw [hn]; clear hlk hnext hky hkn hks hx htk hdr hfin hrow hv hn; (try clear hrow2 hcp); simp_all; done)
          | (have hin : keyN x ∉ ks := by clear hlk hnext hky hkn hks hx htk hdr hfin hrow hv hn; (try clear hrow2 hcp); simp_all
             refine ⟨(j + 1, bs1, ck1), ⟨by (try dsimp only); omega, ?_⟩, by (try dsimp only); omega, ⟨by repeat' (first | exact trivial | exact rfl | refine And.intro ?_ ?_), ⟨?_, trivial⟩⟩⟩
             · dsimp only
               rw [hn, if_neg (by omega), Nat.add_sub_cancel, List.getElem?_eq_getElem hjl, ← hx, hkn]
               clear hlk hnext hky hkn hks hx htk hdr hfin hrow hv hn
               (try clear hrow2 hcp)
               simp_all
             · exact congrArg some (hnext bs1 ck1 hin))
    · have hjl : j = l.length := by omega
      subst hjl
      rw [List.drop_length] at hn
      rw [hn]
      ((conv => whnf); repeat' ((first | (intro hq; (try simp only [lnS] at hq); (try rewrite [List.length_map])) | refine sJ ?_ | refine .intro _ (.intro rfl ?_) | (refine .intro (show (_ : Nat) < List.length _ from by first | omega | (simp only [lnS]; omega) | simp) ?_) | fail | refine draw_rule hty (by kernel_rfl) (by kernel_rfl) ?_ | ((first | refine brB_dec ?_ ?_ | refine brB_ndec ?_ ?_) <;> intro hb <;> (first | contradiction | ((try simp only [lnS] at hb); try (exfalso; omega)))) | (refine brB_split ?_ ?_ <;> intro hb <;> (first | contradiction | exact bT hb (by assumption) | exact bF hb (by assumption) | skip))) <;> (conv => whnf)))
      rfl
end Go.Proofs.YtnemengadjimcaaDoor
namespace Go.Proofs.YtnemengadjimcaaDoor
open Go.Proofs
set_option maxRecDepth 10000
attribute [local irreducible] SemVC CallVC Tri Stuck YVC GenP GenVC
theorem mapX_ids2 (l : List Rn) (bs : List Nat) (c : Nat) : (mapX pairD (entR l) bs c).ids = idsE (entR l) := rfl
structure PairS (z : Nat) (rows : List (List D)) (e : Int) (s : SV) : Prop where
  ex : ∃ a, s = .tup [.d a, .d (.int .i64 e)] ∧ (a = .sl z rows ∨ WkD a (.sl z rows))
theorem Tri.pairS {P : Program} {f : FuncId} {qs : List SV} {hp : Hp} {z : Nat} {rows : List (List D)} {e : Int} (h : Tri P f qs hp (PairS z rows e)) : Tri P f qs hp (fun r => r = .tup [.d (.sl z rows), .d (.int .i64 e)]) := by
  refine Tri.resT h ?_
  rintro s ⟨a, rfl, rfl | hw⟩
  · exact .inl rfl
  · exact .inr ⟨_, [.d (.sl z rows), .d (.int .i64 e)], rfl, ⟨hw, by exact rfl, trivial⟩, rfl⟩
theorem nilP (z : Nat) (e : Int) : PairS z [] e (.tup [.d .nil, .d (.int .i64 e)]) := ⟨_, rfl, .inr rfl⟩
theorem sameP (z : Nat) (rows : List (List D)) (e : Int) : PairS z rows e (.tup [.d (.sl z rows), .d (.int .i64 e)]) := ⟨_, rfl, .inl rfl⟩
theorem str_fresh {l : List Rn} (h : l.Pairwise fun a b => cmpR a b < 0) {j : Nat} (hj : j < l.length) : ∀ r ∈ l.take j, keyO r ≠ keyO l[j] := by
  intro r hr e
  obtain ⟨i, hi, rfl⟩ := List.mem_iff_getElem.1 hr
  rw [List.length_take] at hi
  have := List.pairwise_iff_getElem.1 h i j (by omega) hj (by omega)
  rw [List.getElem_take] at e
  rw [cmpR_zero.2 e] at this
  omega
set_option maxHeartbeats 32000000 in
theorem rnAxioms_spec (l : List Rn) (xs : List Ax) (hx : xs.length ≤ 1000000) : Tri Tryd.prog 9 [.d (rnL l), .d (.sl 16 (xs.map axR))] NG (fun r => r = .tup [.d (.sl 16 ((axmR l xs).1.map axR)), .d (.int .i64 (axmR l xs).2)]) := by
  refine Tri.pairS ?_
  have ck := rnCheck_spec l
  refine tri_of_bodyF false [7, 10, 11] hty Tryd.func9 rfl (kp [0, 1, 4, 5, 7, 8, 10, 11, 12, 16, 18, 19, 20, 21, 27, 32, 33, 34, 35, 46]) [] _ _ _ (by simp [Tryd.f9]) (by decide) ?_
  ((conv => whnf); repeat ((first | (intro hq; try simp only [lnS] at hq) | refine sI ?_ | refine .intro _ (.intro rfl ?_)); (conv => whnf)))
  refine call_tri [] ck trivial (fun r hs => ?_)
  subst hs
  ((conv => whnf); repeat ((first | (intro hq; try simp only [lnS] at hq) | refine sI ?_ | refine .intro _ (.intro rfl ?_)); (conv => whnf)))
  refine brB_ndec (fun h1 => ?_) (fun h1 => ?_)
  · have hv : axmR l xs = ([], checkR l) := by unfold axmR; rw [if_pos h1]
    rw [hv]
    ((conv => whnf); repeat' ((first | (intro hq; (try simp only [lnS] at hq); (try rewrite [List.length_map])) | refine sJ ?_ | refine .intro _ (.intro rfl ?_) | (refine .intro (show (_ : Nat) < List.length _ from by first | omega | (simp only [lnS]; omega) | simp) ?_) | fail | refine draw_rule hty (by kernel_rfl) (by kernel_rfl) ?_ | ((first | refine brB_dec ?_ ?_ | refine brB_ndec ?_ ?_) <;> intro hb <;> (first | contradiction | ((try simp only [lnS] at hb); try (exfalso; omega)))) | (refine brB_split ?_ ?_ <;> intro hb <;> (first | contradiction | exact bT hb (by assumption) | exact bF hb (by assumption) | skip))) <;> (conv => whnf)))
    exact nilP _ _
  have h0 : checkR l = 0 := by simpa using h1
  obtain ⟨hg, hlen⟩ := checkR_ok h0
  clear h1 ck
  rw [h0]
  ((conv => whnf); repeat ((first | (intro hq; try simp only [lnS] at hq) | refine sI ?_ | refine .intro _ (.intro rfl ?_)); (conv => whnf)))
  refine loop_rule hty (fun j : Nat => ([(0, .d (rnL l)), (1, .d (.sl 16 (xs.map axR))), (4, .d .nil), (18, .d (.sl 16 (xs.map axR))), (19, .d (.int .i64 xs.length)), (20, .d (.int .i64 j))], NG)) (fun j => j ≤ xs.length ∧ ∀ x ∈ xs.take j, axiomE x = 0) (fun j => xs.length - j) 0 ⟨by omega, by simp⟩ ⟨by repeat' (first | exact trivial | exact rfl | (rw [List.length_map]; exact rfl) | refine And.intro ?_ ?_), ⟨rfl, rfl, trivial⟩⟩ ?_
  rintro j ⟨hj, hz⟩
  ((conv => whnf); repeat ((first | (intro hq; try simp only [lnS] at hq) | refine sI ?_ | refine .intro _ (.intro rfl ?_)); (conv => whnf)))
  refine brB_dec (fun h1 => ?_) (fun h1 => ?_)
  · have hjl : j < xs.length := by omega
    have hrow := axR_rows hjl
    have hc := checkAxiom_spec xs[j]
    ((conv => whnf); repeat ((first | (refine ⟨_, hrow, ?_⟩) | (refine call_tri NG hc ⟨rfl, rfl, trivial⟩ (fun r hs => ?_); subst hs) | (intro hq; try simp only [lnS] at hq) | refine sI ?_ | refine .intro _ (.intro rfl ?_)); (conv => whnf)))
    refine brB_ndec (fun h2 => ?_) (fun h2 => ?_)
    · have hv : axmR l xs = ([], axiomE xs[j]) := by
        unfold axmR
        rw [if_neg (by omega), firstA_err hjl hz h2, if_pos h2]
      rw [hv]
      ((conv => whnf); repeat' ((first | (intro hq; (try simp only [lnS] at hq); (try rewrite [List.length_map])) | refine sJ ?_ | refine .intro _ (.intro rfl ?_) | (refine .intro (show (_ : Nat) < List.length _ from by first | omega | (simp only [lnS]; omega) | simp) ?_) | fail | refine draw_rule hty (by kernel_rfl) (by kernel_rfl) ?_ | ((first | refine brB_dec ?_ ?_ | refine brB_ndec ?_ ?_) <;> intro hb <;> (first | contradiction | ((try simp only [lnS] at hb); try (exfalso; omega)))) | (refine brB_split ?_ ?_ <;> intro hb <;> (first | contradiction | exact bT hb (by assumption) | exact bF hb (by assumption) | skip))) <;> (conv => whnf)))
      exact nilP _ _
    · ((conv => whnf); repeat' ((first | (intro hq; (try simp only [lnS] at hq); (try rewrite [List.length_map])) | refine sJ ?_ | refine .intro _ (.intro rfl ?_) | (refine .intro (show (_ : Nat) < List.length _ from by first | omega | (simp only [lnS]; omega) | simp) ?_) | fail | refine draw_rule hty (by kernel_rfl) (by kernel_rfl) ?_ | ((first | refine brB_dec ?_ ?_ | refine brB_ndec ?_ ?_) <;> intro hb <;> (first | contradiction | ((try simp only [lnS] at hb); try (exfalso; omega)))) | (refine brB_split ?_ ?_ <;> intro hb <;> (first | contradiction | exact bT hb (by assumption) | exact bF hb (by assumption) | skip))) <;> (conv => whnf)))
      refine ⟨j + 1, ⟨by omega, ?_⟩, by dsimp only; omega, ⟨by repeat' (first | exact trivial | exact rfl | refine And.intro ?_ ?_), ⟨rfl, rfl, trivial⟩⟩⟩
      intro x hx
      rw [List.take_succ_eq_append_getElem hjl] at hx
      rcases List.mem_append.1 hx with hx | hx
      · exact hz x hx
      · simp at hx; subst hx; simpa using h2
  have hjl : j = xs.length := by omega
  subst hjl
  rw [List.take_length] at hz
  have hv : axmR l xs = tidL (nameR l) xs := by
    unfold axmR
    rw [if_neg (by omega), firstA_ok hz, if_neg (by simp)]
  rw [hv]
  clear hv
  ((conv => whnf); repeat ((first | (intro hq; try simp only [lnS] at hq) | refine sI ?_ | refine .intro _ (.intro rfl ?_)); (conv => whnf)))
  refine call_inlineF false [5] hty Tryd.func11 rfl (kp [0, 2, 3, 5, 7, 8, 9, 10]) 20 (by simp [Tryd.f11]) ?_
  ((conv => whnf); repeat ((first | (intro hq; try simp only [lnS] at hq) | refine sI ?_ | refine .intro _ (.intro rfl ?_)); (conv => whnf)))
  refine make_map rfl rfl pairD 33 (fresh_of (by with_unfolding_all exact rfl)) ?_
  ((conv => whnf); repeat ((first | (intro hq; try simp only [lnS] at hq) | refine sI ?_ | refine .intro _ (.intro rfl ?_)); (conv => whnf)))
  refine loop_rule hty (fun y : Nat × List Nat × Nat => ([(0, .d (rnL l)), (3, .ptr 23 0), (7, .d (rnL l)), (8, .d (.int .i64 l.length)), (9, .d (.int .i64 y.1))], (23, .cells 56 [.xv 33 mapV]) :: (33, tblO (l.take y.1) y.2) :: NG)) (fun y => y.1 ≤ l.length) (fun y => l.length - y.1) (0, [], 0) (by dsimp only; omega) ⟨by repeat' (first | exact trivial | exact rfl | (rw [List.length_map]; exact rfl) | refine And.intro ?_ ?_), ⟨rfl, rfl, rfl, rfl, trivial⟩⟩ ?_
  rintro ⟨j, g⟩ hj
  dsimp only at hj
  have hX := tblO_ids (l.take j) g
  ((conv => whnf); repeat ((first | (intro hq; try simp only [lnS] at hq) | refine sI ?_ | refine .intro _ (.intro rfl ?_)); (conv => whnf)))
  refine brB_dec (fun h1 => ?_) (fun h1 => ?_)
  · have hjl : j < l.length := by dsimp only at h1; omega
    have hrow : (l.map rnR)[(j : Int).toNat]? = some (rnR l[j]) := rowC_at hjl
    have hms := mset_entR l[j] (l.take j) (str_fresh hg.str hjl)
    rw [← List.take_succ_eq_append_getElem hjl] at hms
    generalize l[j] = x at hrow hms
    ((conv => whnf); repeat ((first | (refine frX (by refine ⟨?_, ?_, ?_⟩ <;> simp [fF_nil, fF_cons, fH_nil, fH_cons, HObj.ids, SV.ids, SV.idsL, argFr, tblO, mapX_ids2, idsE_entR, oneOf, ids_ofV2, idsL_d, NG]) ?_) | (refine nmX (by simp [fF_nil, fF_cons, fH_nil, fH_cons, HObj.ids, SV.ids, SV.idsL, argFr, tblO, mapX_ids2, idsE_entR, oneOf, ids_ofV2, idsL_d, NG]) ?_) | (refine ⟨_, hrow, ?_⟩) | (intro hq; try simp only [lnS] at hq) | refine sI ?_ | refine .intro _ (.intro rfl ?_)); (conv => whnf)))
    refine update_map (k := keyO x) (.inl rfl) rfl (keyT_pair pairT) rfl rfl rfl rfl (fun bs1 ck1 => ?_)
    ((conv => whnf); repeat ((first | (intro hq; try simp only [lnS] at hq) | refine sI ?_ | refine .intro _ (.intro rfl ?_)); (conv => whnf)))
    refine ⟨(j + 1, bs1, ck1), by dsimp only; omega, by dsimp only; omega, ⟨by repeat' (first | exact trivial | exact rfl | refine And.intro ?_ ?_), ?_⟩⟩
    dsimp only
    unfold tblO
    rw [← hms]
    exact ⟨rfl, rfl, rfl, rfl, trivial⟩
  have hjl : j = l.length := by dsimp only at h1; omega
  subst hjl
  rw [List.take_length] at hX ⊢
  ((conv => whnf); repeat ((first | (refine frX (by refine ⟨?_, ?_, ?_⟩ <;> simp [fF_nil, fF_cons, fH_nil, fH_cons, HObj.ids, SV.ids, SV.idsL, argFr, tblO, mapX_ids2, idsE_entR, oneOf, ids_ofV2, idsL_d, NG]) ?_) | (refine nmX (by simp [fF_nil, fF_cons, fH_nil, fH_cons, HObj.ids, SV.ids, SV.idsL, argFr, tblO, mapX_ids2, idsE_entR, oneOf, ids_ofV2, idsL_d, NG]) ?_) | (intro hq; try simp only [lnS] at hq) | refine sI ?_ | refine .intro _ (.intro rfl ?_)); (conv => whnf)))
  refine SemVC.mown 4 120 36 16 rfl (by refine ⟨?_, ?_, ?_⟩ <;> simp [fF_nil, fF_cons, fH_nil, fH_cons, HObj.ids, SV.ids, SV.idsL, argFr, tblO, mapX_ids2, idsE_entR, oneOf, ids_ofV2, idsL_d, NG]) ?_
  refine loop_rule hty (fun y : Nat × Nat => ([(4, .mw 120 16 y.1), (8, .fn 19 [] [.ptr 23 0]), (32, .d (.sl 16 (xs.map axR))), (33, .d (.int .i64 xs.length)), (34, .d (.int .i64 y.1))], (120, .mrow 36 16 y.2 ((xs.take y.1).map fun x => axR (tidyA (renX (nameR l) x)).1)) :: (23, .cells 56 [.xv 33 mapV]) :: (33, tblO l g) :: NG)) (fun y => y.1 ≤ xs.length ∧ ∀ x ∈ xs.take y.1, (tidyA (renX (nameR l) x)).2 = 0) (fun y => xs.length - y.1) (0, 0) ⟨by dsimp only; omega, by simp⟩ ⟨by repeat' (first | exact trivial | exact rfl | (rw [List.length_map]; exact rfl) | refine And.intro ?_ ?_), ⟨rfl, rfl, rfl, rfl, rfl, trivial⟩⟩ ?_
  rintro ⟨j, cap⟩ ⟨hj, ht⟩
  dsimp only at hj ht
  ((conv => whnf); repeat ((first | (intro hq; try simp only [lnS] at hq) | refine sI ?_ | refine .intro _ (.intro rfl ?_)); (conv => whnf)))
  refine brB_dec (fun h1 => ?_) (fun h1 => ?_)
  · have hjl : j < xs.length := by dsimp only at h1; omega
    have hrow := axR_rows hjl
    obtain ⟨b1, b2, b3⟩ := axiomE_bnd (hz xs[j] (List.getElem_mem hjl))
    have hr := (renamed_spec l g xs[j] (by omega) (by omega) (by omega)).rel [(23, .cells 56 [.xv 33 mapV]), (33, tblO l g)] ⟨rfl, ⟨rfl, rfl⟩, rfl, rfl, trivial⟩
    have htd := TidyAxiom_spec (renX (nameR l) xs[j])
    have herr := tidL_at (g := nameR l) hjl ht
    have hlt : ((xs.take j).map fun x => axR (tidyA (renX (nameR l) x)).1).length = j := by rw [List.length_map, List.length_take]; omega
    have hrows : ((xs.take (j + 1)).map fun x => axR (tidyA (renX (nameR l) x)).1) = ((xs.take j).map fun x => axR (tidyA (renX (nameR l) x)).1) ++ [axR (tidyA (renX (nameR l) xs[j])).1] := by
      rw [List.take_succ_eq_append_getElem hjl, List.map_append, List.map_cons, List.map_nil]
    have htk : (tidyA (renX (nameR l) xs[j])).2 = 0 → ∀ x ∈ xs.take (j + 1), (tidyA (renX (nameR l) x)).2 = 0 := by
      intro h2 x hx
      rw [List.take_succ_eq_append_getElem hjl] at hx
      rcases List.mem_append.1 hx with hx | hx
      · exact ht x hx
      · simp at hx; subst hx; exact h2
    generalize xs[j] = x at *
    generalize renX (nameR l) x = X at *
    generalize (tidyA X).1 = T at *
    generalize (tidyA X).2 = e at *
    ((conv => whnf); repeat ((first | (refine frX (by refine ⟨?_, ?_, ?_⟩ <;> simp [fF_nil, fF_cons, fH_nil, fH_cons, HObj.ids, SV.ids, SV.idsL, argFr, tblO, mapX_ids2, idsE_entR, oneOf, ids_ofV2, idsL_d, NG]) ?_) | (refine nmX (by simp [fF_nil, fF_cons, fH_nil, fH_cons, HObj.ids, SV.ids, SV.idsL, argFr, tblO, mapX_ids2, idsE_entR, oneOf, ids_ofV2, idsL_d, NG]) ?_) | (refine ⟨_, hrow, ?_⟩) | (refine call_tri [(23, _), (33, _)] hr ⟨rfl, rfl, trivial⟩ (fun r hs => ?_); subst hs) | (refine call_tri NG htd ⟨rfl, rfl, trivial⟩ (fun r hs => ?_); subst hs) | (intro hq; try simp only [lnS] at hq) | refine sI ?_ | refine .intro _ (.intro rfl ?_)); (conv => whnf)))
    refine brB_ndec (fun h2 => ?_) (fun h2 => ?_)
    · rw [herr h2]
      ((conv => whnf); repeat' ((first | (intro hq; (try simp only [lnS] at hq); (try rewrite [List.length_map])) | refine sJ ?_ | refine .intro _ (.intro rfl ?_) | (refine .intro (show (_ : Nat) < List.length _ from by first | omega | (simp only [lnS]; omega) | simp) ?_) | fail | refine draw_rule hty (by kernel_rfl) (by kernel_rfl) ?_ | ((first | refine brB_dec ?_ ?_ | refine brB_ndec ?_ ?_) <;> intro hb <;> (first | contradiction | ((try simp only [lnS] at hb); try (exfalso; omega)))) | (refine brB_split ?_ ?_ <;> intro hb <;> (first | contradiction | exact bT hb (by assumption) | exact bF hb (by assumption) | skip))) <;> (conv => whnf)))
      exact nilP _ _
    · have h2 : e = 0 := by simpa using h2
      ((conv => whnf); repeat' ((first | (intro hq; (try simp only [lnS] at hq); (try rewrite [List.length_map])) | refine sJ ?_ | refine .intro _ (.intro rfl ?_) | (refine .intro (show (_ : Nat) < List.length _ from by first | omega | (simp only [lnS]; omega) | simp) ?_) | (refine frX (by refine ⟨?_, ?_, ?_⟩ <;> simp [fF_nil, fF_cons, fH_nil, fH_cons, HObj.ids, SV.ids, SV.idsL, argFr, tblO, mapX_ids2, idsE_entR, oneOf, ids_ofV2, idsL_d, NG]) ?_) | (refine nmX (by simp [fF_nil, fF_cons, fH_nil, fH_cons, HObj.ids, SV.ids, SV.idsL, argFr, tblO, mapX_ids2, idsE_entR, oneOf, ids_ofV2, idsL_d, NG]) ?_) | refine draw_rule hty (by kernel_rfl) (by kernel_rfl) ?_ | ((first | refine brB_dec ?_ ?_ | refine brB_ndec ?_ ?_) <;> intro hb <;> (first | contradiction | ((try simp only [lnS] at hb); try (exfalso; omega)))) | (refine brB_split ?_ ?_ <;> intro hb <;> (first | contradiction | exact bT hb (by assumption) | exact bF hb (by assumption) | skip))) <;> (conv => whnf)))
      have hlj : (xs.take j).length = j := by rw [List.length_take]; omega
      rename_i cap'
      refine ⟨(j + 1, cap'), ⟨by dsimp only; omega, htk h2⟩, by dsimp only; omega, ?_, ?_⟩
      · repeat' (first | exact trivial | exact rfl | exact wkMw (by (try dsimp only); simp only [List.length_set, List.length_map, List.length_take, List.length_replicate, List.length_cons, List.length_nil]; omega) | refine And.intro ?_ ?_)
      · dsimp only
        rw [hrows]
        repeat' (first | exact trivial | exact rfl | refine And.intro ?_ ?_)
  · have hjl : j = xs.length := by dsimp only at h1; omega
    subst hjl
    rw [List.take_length] at ht ⊢
    rw [tidL_all ht]
    ((conv => whnf); repeat' ((first | (intro hq; (try simp only [lnS] at hq); (try rewrite [List.length_map])) | refine sJ ?_ | refine .intro _ (.intro rfl ?_) | (refine .intro (show (_ : Nat) < List.length _ from by first | omega | (simp only [lnS]; omega) | simp) ?_) | fail | refine draw_rule hty (by kernel_rfl) (by kernel_rfl) ?_ | ((first | refine brB_dec ?_ ?_ | refine brB_ndec ?_ ?_) <;> intro hb <;> (first | contradiction | ((try simp only [lnS] at hb); try (exfalso; omega)))) | (refine brB_split ?_ ?_ <;> intro hb <;> (first | contradiction | exact bT hb (by assumption) | exact bF hb (by assumption) | skip))) <;> (conv => whnf)))
    refine ⟨(List.length_map ..).symm, ?_⟩
    ((conv => whnf); repeat ((first | (intro hq; try simp only [lnS] at hq) | refine sI ?_ | refine .intro _ (.intro rfl ?_)); (conv => whnf)))
    dsimp only
    rw [List.map_map]
    exact sameP _ _ _
end Go.Proofs.YtnemengadjimcaaDoor
