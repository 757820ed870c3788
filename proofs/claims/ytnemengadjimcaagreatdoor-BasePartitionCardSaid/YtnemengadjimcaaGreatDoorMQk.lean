/-
  Terms: has, within of the law; FewAxioms of the reference. Terms: within of the law. Terms: vocabularies are sorted without repetition, and are within one another as the law says. slices.BinarySearch over strings. The keys of a map, collected and sorted: maps.Keys, slices.AppendSeq, slices.Collect, slices.Sorted.
  Conditions: none.
-/
import Derived.Test.YtnemengadjimcaaGreatDoorMTcq
import Derived.Test.YtnemengadjimcaaGreatDoorMAc
import Derived.Test.YtnemengadjimcaaGreatDoorMQf
import Derived.Test.YtnemengadjimcaaGreatDoorMBr
import Derived.Test.YtnemengadjimcaaGreatDoorMQm
import Derived.Test.YtnemengadjimcaaGreatDoorMAp
import Derived.Test.YtnemengadjimcaaGreatDoorMBp
set_option linter.unnecessarySimpa false
set_option linter.unusedSectionVars false
set_option linter.unusedSimpArgs false
set_option linter.unusedVariables false
set_option maxHeartbeats 16000000
namespace Go.Proofs.YtnemengadjimcaaGreatDoor
open Go.Proofs
set_option maxRecDepth 10000
attribute [local irreducible] SemVC CallVC Tri Stuck YVC GenP GenVC
theorem fewAxioms_spec (l : List Ax) (n : Int) (hl : ∀ x ∈ l, SzAx x) : Tri Tryz.prog 58 [.d (.sl 16 (l.map axR)), .d (.int .i64 n)] [] (fun r => r = .d (.bool (decide ((l.length : Int) ≤ n) && l.all fewAx))) := by
 refine tri_of_body hty Tryz.func58 rfl (kp [0, 1, 4, 5, 9, 13, 21]) [] _ _ _ (by simp [Tryz.f58]) (by simp) ?_
 ((conv => whnf); repeat' ((first | (intro hq; (try simp only [lnS] at hq); (try rewrite [List.length_map])) | refine sJ ?_ | refine .intro _ (.intro rfl ?_) | (refine .intro (show (_ : Nat) < List.length _ from by first | omega | (simp only [lnS]; omega) | simp) ?_) | fail | refine draw_rule hty (by kernel_rfl) (by kernel_rfl) ?_ | ((first | refine brB_dec ?_ ?_ | refine brB_ndec ?_ ?_) <;> intro hb <;> (first | contradiction | ((try simp only [lnS] at hb); try (exfalso; omega)))) | (refine brB_split ?_ ?_ <;> intro hb <;> (first | contradiction | exact bT hb (by assumption) | exact bF hb (by assumption) | skip))) <;> (conv => whnf)))
 ·refine bool_eq (Eq.symm ?_)
  rw [decide_eq_false (by omega), Bool.false_and]
 ·have hle : (l.length : Int) ≤ n := by omega
  rw [decide_eq_true hle, Bool.true_and]
  refine loop_rule hty (fun j : Nat => ([(0, .d (.sl 16 (l.map axR))), (1, .d (.int .i64 n)), (4, .d (.bool false)), (5, .d (.int .i64 j))], [])) (fun j => j ≤ l.length ∧ l.all fewAx = (l.drop j).all fewAx) (fun j => l.length - j) 0 ⟨by omega, rfl⟩ ⟨by repeat' (first | exact trivial | exact rfl | (rw [List.length_map]; exact rfl) | refine And.intro ?_ ?_), trivial⟩ ?_
  rintro j ⟨hj, hn⟩
  ((conv => whnf); repeat ((first | (intro hq; try simp only [lnS] at hq) | refine sI ?_ | refine .intro _ (.intro rfl ?_)); (conv => whnf)))
  refine brB_dec (fun h1 => ?_) (fun h1 => ?_)
  ·have hjl : j < l.length := by simp only [List.length_map] at h1; omega
   have hrow : (l.map axR)[(j : Int).toNat]? = some (axR l[j]) := rowC_at hjl
   have hc := FewAxiom_spec l[j] (hl _ (List.getElem_mem hjl))
   rw [List.drop_eq_getElem_cons hjl, List.all_cons] at hn
   generalize l[j] = x at hrow hn hc
   ((conv => whnf); repeat' ((first | (intro hq; (try simp only [lnS] at hq); (try rewrite [List.length_map])) | refine sJ ?_ | refine .intro _ (.intro rfl ?_) | (refine .intro (show (_ : Nat) < List.length _ from by first | omega | (simp only [lnS]; omega) | simp) ?_) | (refine ⟨_, hrow, ?_⟩) | (refine call_tri [] hc trivial (fun r hs => ?_); subst hs) | refine draw_rule hty (by kernel_rfl) (by kernel_rfl) ?_ | ((first | refine brB_dec ?_ ?_ | refine brB_ndec ?_ ?_) <;> intro hb <;> (first | contradiction | ((try simp only [lnS] at hb); try (exfalso; omega)))) | (refine brB_split ?_ ?_ <;> intro hb <;> (first | contradiction | exact bT hb (by assumption) | exact bF hb (by assumption) | skip))) <;> (conv => whnf)))
   ·refine bool_eq (Eq.symm ?_)
    rw [hn]; simp_all
   ·refine ⟨j + 1, ⟨by omega, ?_⟩, by dsimp only; omega, by repeat' (first | exact trivial | exact rfl | refine And.intro ?_ ?_), trivial⟩
    rw [hn]; simp_all
  ·have hjl : j = l.length := by simp only [List.length_map] at h1; omega
   subst hjl
   ((conv => whnf); repeat' ((first | (intro hq; (try simp only [lnS] at hq); (try rewrite [List.length_map])) | refine sJ ?_ | refine .intro _ (.intro rfl ?_) | (refine .intro (show (_ : Nat) < List.length _ from by first | omega | (simp only [lnS]; omega) | simp) ?_) | fail | refine draw_rule hty (by kernel_rfl) (by kernel_rfl) ?_ | ((first | refine brB_dec ?_ ?_ | refine brB_ndec ?_ ?_) <;> intro hb <;> (first | contradiction | ((try simp only [lnS] at hb); try (exfalso; omega)))) | (refine brB_split ?_ ?_ <;> intro hb <;> (first | contradiction | exact bT hb (by assumption) | exact bF hb (by assumption) | skip))) <;> (conv => whnf)))
   refine bool_eq (Eq.symm ?_)
   rw [hn, List.drop_length]; rfl
end Go.Proofs.YtnemengadjimcaaGreatDoor
namespace Go.Proofs.YtnemengadjimcaaGreatDoor
open Go.Proofs
set_option maxRecDepth 10000
attribute [local irreducible] SemVC CallVC Tri Stuck YVC GenP GenVC
end Go.Proofs.YtnemengadjimcaaGreatDoor
namespace Go.Proofs.YtnemengadjimcaaGreatDoor
open Go.Proofs
theorem sortK_strict {ks : List (List UInt8)} (h : ks.Nodup) : (sortK ks).Pairwise (fun x y => Op.bytesLess x y = true) := by
 have h1 : (sortK ks).Pairwise fun x y => decide (x ≤ y) = true := List.pairwise_mergeSort (le := fun x y => decide (x ≤ y)) (fun a b c h1 h2 => by simp only [decide_eq_true_eq] at *; exact List.le_trans h1 h2) (fun a b => by simp only [Bool.or_eq_true, decide_eq_true_eq]; exact List.le_total a b) ks
 have h2 : (sortK ks).Nodup := (List.mergeSort_perm _ _).nodup_iff.2 h
 refine (h1.and h2).imp ?_
 rintro x y ⟨h1, h2⟩
 rw [Go.Proofs.bytesLess_eq, decide_eq_true_eq]
 have h1 : x ≤ y := by simpa using h1
 refine Classical.byContradiction fun h3 => h2 (List.le_antisymm h1 (List.not_lt.1 h3))
theorem mem_sortK {ks : List (List UInt8)} {s : List UInt8} : s ∈ sortK ks ↔ s ∈ ks := List.mem_mergeSort
theorem firstA_iff : ∀ (l : List Ax), firstA l = 0 ↔ ∀ x ∈ l, axiomE x = 0
 | [] => by simp [firstA]
 | x :: r => by
  rw [firstA]
  have := firstA_iff r
  split <;> rename_i h
  ·simp [h]
  ·have h : axiomE x = 0 := by simpa using h
   simp [h, this]
end Go.Proofs.YtnemengadjimcaaGreatDoor
namespace Go.Proofs.YtnemengadjimcaaGreatDoor
open Go.Proofs
set_option maxRecDepth 10000
attribute [local irreducible] SemVC CallVC Tri Stuck YVC GenP GenVC
theorem isNaNp_spec (a : List UInt8) : Tri Tryz.prog 172 [.d (.str a)] [] (fun r => r = .d (.bool false)) := by
 refine tri_of_body hty Tryz.func172 rfl (kp [0, 2]) [] _ _ _ (by simp [Tryz.f172]) (by simp) ?_
 ((conv => whnf); repeat' ((first | (intro hq; (try simp only [lnS] at hq); (try rewrite [List.length_map])) | refine sJ ?_ | refine .intro _ (.intro rfl ?_) | (refine .intro (show (_ : Nat) < List.length _ from by first | omega | (simp only [lnS]; omega) | simp) ?_) | fail | refine draw_rule hty (by kernel_rfl) (by kernel_rfl) ?_ | ((first | refine brB_dec ?_ ?_ | refine brB_ndec ?_ ?_) <;> intro hb <;> (first | contradiction | ((try simp only [lnS] at hb); try (exfalso; omega)))) | (refine brB_split ?_ ?_ <;> intro hb <;> (first | contradiction | exact bT hb (by assumption) | exact bF hb (by assumption) | skip))) <;> (conv => whnf)))
 all_goals first | rfl | (exact bool_eq (by simp))
theorem lessS_spec (a b : List UInt8) : Tri Tryz.prog 171 [.d (.str a), .d (.str b)] [] (fun r => r = .d (.bool (Op.bytesLess a b))) := by
 refine tri_of_body hty Tryz.func171 rfl (kp [0, 1, 4]) [] _ _ _ (by simp [Tryz.f171]) (by simp) ?_
 ((conv => whnf); repeat' ((first | (intro hq; (try simp only [lnS] at hq); (try rewrite [List.length_map])) | refine sJ ?_ | refine .intro _ (.intro rfl ?_) | (refine .intro (show (_ : Nat) < List.length _ from by first | omega | (simp only [lnS]; omega) | simp) ?_) | (refine call_tri [] (isNaNs_spec _) trivial (fun r hs => ?_); subst hs) | refine draw_rule hty (by kernel_rfl) (by kernel_rfl) ?_ | ((first | refine brB_dec ?_ ?_ | refine brB_ndec ?_ ?_) <;> intro hb <;> (first | contradiction | ((try simp only [lnS] at hb); try (exfalso; omega)))) | (refine brB_split ?_ ?_ <;> intro hb <;> (first | contradiction | exact bT hb (by assumption) | exact bF hb (by assumption) | skip))) <;> (conv => whnf)))
 all_goals rfl
theorem bl_irr (a : List UInt8) : Op.bytesLess a a = false := by
 rw [bytesLess_eq, (cmpB_zero a a).2 rfl]; rfl
theorem bl_tr {a b c : List UInt8} (h1 : Op.bytesLess a b = true) (h2 : Op.bytesLess b c = true) : Op.bytesLess a c = true := by
 rw [bytesLess_eq, decide_eq_true_eq] at *
 exact (LCk.str.t3 a b c).1 h1 h2
structure BsP (R : List (List UInt8)) (s : List UInt8) (r : SV) : Prop where
 ex : ∃ (n : Nat) (b : Bool), r = .tup [.d (.int .i64 n), .d (.bool b)] ∧ (b = true → R[n]? = some s) ∧ (b = false → s ∉ R)
theorem bsearch_spec (R : List (List UInt8)) (s : List UInt8) (hR : R.Pairwise fun x y => Op.bytesLess x y = true) (hl : R.length ≤ 1000000) : Tri Tryz.prog 132 [.d (.sl 1 (R.map strR)), .d (.str s)] [] (BsP R s) := by
 have hp := List.pairwise_iff_getElem.1 hR
 refine tri_of_bodyF false [] hty Tryz.func132 rfl (kp [0, 1, 4, 5, 6, 7, 8, 9, 15, 27]) [] _ _ _ (by simp [Tryz.f132]) (by simp) ?_
 ((conv => whnf); repeat ((first | (intro hq; try simp only [lnS] at hq) | refine sI ?_ | refine .intro _ (.intro rfl ?_)); (conv => whnf)))
 rw [List.length_map]
 refine loop_rule hty (fun y : Nat × Nat => ([(0, .d (.sl 1 (R.map strR))), (1, .d (.str s)), (6, .d (.int .i64 R.length)), (7, .d (.int .i64 y.1)), (8, .d (.int .i64 y.2))], [])) (fun y => (y.1 ≤ y.2 ∧ y.2 ≤ R.length) ∧ (∀ (k : Nat) (h : k < R.length), k < y.1 → Op.bytesLess R[k] s = true) ∧ (∀ (k : Nat) (h : k < R.length), y.2 ≤ k → Op.bytesLess R[k] s = false)) (fun y => y.2 - y.1) (0, R.length) ⟨by dsimp only; omega, fun k h h' => by dsimp only at h'; omega, fun k h h' => by dsimp only at h'; omega⟩ ⟨by repeat' (first | exact trivial | exact rfl | refine And.intro ?_ ?_), by repeat' (first | exact trivial | exact rfl | refine And.intro ?_ ?_)⟩ ?_
 rintro ⟨i, j⟩ ⟨⟨q1, q2⟩, q3, q4⟩
 dsimp only at q1 q2 q3 q4 ⊢
 have hh2 := half64 (i := i) (j := j) (by omega)
 ((conv => whnf); repeat ((first | (intro hq; try simp only [lnS] at hq) | refine sI ?_ | refine .intro _ (.intro rfl ?_)); (conv => whnf)))
 refine brB_dec (fun h1 => ?_) (fun h1 => ?_)
 ·obtain ⟨h, hh⟩ : ∃ h, h = (i + j) / 2 := ⟨_, rfl⟩
  have hhl : h < R.length := by omega
  have hrow := strR_at hhl
  have c := lessS_spec R[h] s
  have up : Op.bytesLess R[h] s = true → ∀ (k : Nat) (hk : k < R.length), k < h + 1 → Op.bytesLess R[k] s = true := fun e k hk hlt => by
   by_cases hkh : k = h
   ·subst hkh; exact e
   ·exact bl_tr (hp k h hk hhl (by omega)) e
  have dn : Op.bytesLess R[h] s = false → ∀ (k : Nat) (hk : k < R.length), h ≤ k → Op.bytesLess R[k] s = false := fun e k hk hle => by
   by_cases hkh : k = h
   ·subst hkh; exact e
   ·rw [Bool.eq_false_iff]
    intro e2
    rw [bl_tr (hp h k hhl hk (by omega)) e2] at e
    cases e
  generalize Op.bytesLess R[h] s = b at *
  ((conv => whnf); repeat ((first | (intro hq; try simp only [lnS] at hq) | refine sI ?_ | refine .intro _ (.intro rfl ?_)); (conv => whnf)))
  rw [hh2, ← hh]
  ((conv => whnf); repeat ((first | (refine ⟨_, hrow, ?_⟩) | (refine call_tri [] c trivial (fun r hs => ?_); subst hs) | (intro hq; try simp only [lnS] at hq) | refine sI ?_ | refine .intro _ (.intro rfl ?_)); (conv => whnf)))
  cases b
  ·((conv => whnf); repeat' ((first | (intro hq; (try simp only [lnS] at hq); (try rewrite [List.length_map])) | refine sJ ?_ | refine .intro _ (.intro rfl ?_) | (refine .intro (show (_ : Nat) < List.length _ from by first | omega | (simp only [lnS]; omega) | simp) ?_) | fail | refine draw_rule hty (by kernel_rfl) (by kernel_rfl) ?_ | ((first | refine brB_dec ?_ ?_ | refine brB_ndec ?_ ?_) <;> intro hb <;> (first | contradiction | ((try simp only [lnS] at hb); try (exfalso; omega)))) | (refine brB_split ?_ ?_ <;> intro hb <;> (first | contradiction | exact bT hb (by assumption) | exact bF hb (by assumption) | skip))) <;> (conv => whnf)))
   exact ⟨(i, h), ⟨by dsimp only; omega, q3, dn rfl⟩, by dsimp only; omega, ⟨by repeat' (first | exact trivial | exact rfl | refine And.intro ?_ ?_), by repeat' (first | exact trivial | exact rfl | refine And.intro ?_ ?_)⟩⟩
  ·((conv => whnf); repeat' ((first | (intro hq; (try simp only [lnS] at hq); (try rewrite [List.length_map])) | refine sJ ?_ | refine .intro _ (.intro rfl ?_) | (refine .intro (show (_ : Nat) < List.length _ from by first | omega | (simp only [lnS]; omega) | simp) ?_) | fail | refine draw_rule hty (by kernel_rfl) (by kernel_rfl) ?_ | ((first | refine brB_dec ?_ ?_ | refine brB_ndec ?_ ?_) <;> intro hb <;> (first | contradiction | ((try simp only [lnS] at hb); try (exfalso; omega)))) | (refine brB_split ?_ ?_ <;> intro hb <;> (first | contradiction | exact bT hb (by assumption) | exact bF hb (by assumption) | skip))) <;> (conv => whnf)))
   exact ⟨(h + 1, j), ⟨by dsimp only; omega, up rfl, q4⟩, by dsimp only; omega, ⟨by repeat' (first | exact trivial | exact rfl | refine And.intro ?_ ?_), by repeat' (first | exact trivial | exact rfl | refine And.intro ?_ ?_)⟩⟩
 ·have hij : i = j := by omega
  subst hij
  have miss : (∀ h : i < R.length, R[i] ≠ s) → s ∉ R := fun hne hm => by
   obtain ⟨k, hk, rfl⟩ := List.getElem_of_mem hm
   rcases Nat.lt_trichotomy k i with h | h | h
   ·have := q3 k hk h; rw [bl_irr] at this; cases this
   ·subst h; exact hne hk rfl
   ·have h2 := q4 i (by omega) (Nat.le_refl _)
    rw [hp i k (by omega) hk h] at h2; cases h2
  by_cases hil : i < R.length
  ·have hrow := strR_at hil
   have hat : R[i]? = some R[i] := List.getElem?_eq_getElem hil
   have c1 := isNaNp_spec R[i]
   have c2 := isNaNp_spec s
   have miss2 : R[i] ≠ s → s ∉ R := fun h => miss fun _ => h
   clear miss
   generalize R[i] = x at *
   ((conv => whnf); repeat' ((first | (intro hq; (try simp only [lnS] at hq); (try rewrite [List.length_map])) | refine sJ ?_ | refine .intro _ (.intro rfl ?_) | (refine .intro (show (_ : Nat) < List.length _ from by first | omega | (simp only [lnS]; omega) | simp) ?_) | (refine ⟨_, hrow, ?_⟩) | (refine call_tri [] c1 trivial (fun r hs => ?_); subst hs) | (refine call_tri [] c2 trivial (fun r hs => ?_); subst hs) | refine draw_rule hty (by kernel_rfl) (by kernel_rfl) ?_ | ((first | refine brB_dec ?_ ?_ | refine brB_ndec ?_ ?_) <;> intro hb <;> (first | contradiction | ((try simp only [lnS] at hb); try (exfalso; omega)))) | (refine brB_split ?_ ?_ <;> intro hb <;> (first | contradiction | exact bT hb (by assumption) | exact bF hb (by assumption) | skip))) <;> (conv => whnf)))
   all_goals first
    | (exact ⟨i, true, rfl, fun _ => (by rw [hat]; simp_all), fun h => (by cases h)⟩)
    | (exact ⟨i, false, rfl, fun h => (by cases h), fun _ => miss2 (by assumption)⟩)
  ·((conv => whnf); repeat' ((first | (intro hq; (try simp only [lnS] at hq); (try rewrite [List.length_map])) | refine sJ ?_ | refine .intro _ (.intro rfl ?_) | (refine .intro (show (_ : Nat) < List.length _ from by first | omega | (simp only [lnS]; omega) | simp) ?_) | fail | refine draw_rule hty (by kernel_rfl) (by kernel_rfl) ?_ | ((first | refine brB_dec ?_ ?_ | refine brB_ndec ?_ ?_) <;> intro hb <;> (first | contradiction | ((try simp only [lnS] at hb); try (exfalso; omega)))) | (refine brB_split ?_ ?_ <;> intro hb <;> (first | contradiction | exact bT hb (by assumption) | exact bF hb (by assumption) | skip))) <;> (conv => whnf)))
   all_goals exact ⟨i, false, rfl, (fun h => by cases h), fun _ => miss (fun h => absurd h hil)⟩
end Go.Proofs.YtnemengadjimcaaGreatDoor
namespace Go.Proofs.YtnemengadjimcaaGreatDoor
open Go.Proofs
set_option maxRecDepth 10000
attribute [local irreducible] SemVC CallVC Tri Stuck YVC GenP GenVC
def keyM (ents : List (Byt × SV)) (i : Nat) : Byt := (ents.map (·.1)).getD i []
theorem keyM_at {ents : List (Byt × SV)} {i : Nat} {p : Byt × SV} (h : ents[i]? = some p) : i < ents.length ∧ keyM ents i = p.1 := by
 refine ⟨(List.getElem?_eq_some_iff.1 h).1, ?_⟩
 rw [keyM, List.getD, List.getElem?_map, h]; rfl
structure FreeM (pin : List Nat) (fr : Fr) (hp : Hp) (c d : Nat) : Prop where
 p : ∀ k, 100 ≤ k → k < 200 → k ∉ pin
 f : ∀ k, 100 ≤ k → k < 200 → k ∉ idsF fr
 h : ∀ k, 100 ≤ k → k < 200 → k ∉ idsH hp
 d1 : ∀ k, 100 ≤ k → k < 200 → k ≠ d
 s : ∀ o, subH hp ((c, o) :: hp)
theorem FreeM.key {pin : List Nat} {fr : Fr} {hp : Hp} {c d : Nat} (F : FreeM pin fr hp c d) {k : Nat} (h1 : 100 ≤ k) (h2 : k < 200) {x : Hp} (hs : subH hp x) {o : HObj} : subH hp ((k, o) :: x) :=
 subH_skip hs fun _ hp e => F.h k h1 h2 (e ▸ key_ids hp)
theorem appendM1 (ents : List (Byt × SV)) (g : List Nat × Nat) (hlen : ents.length ≤ 1000000) (d : Nat) (hp0 : Hp) (hg : getH hp0 d = some (.ext (mapX strD ents g.1 g.2))) {pin : List Nat} {fr : Fr} {K : SV → Hp → Prop} (F : FreeM pin fr hp0 51 d) (hcd : 51 ≠ d)
  (hk : ∀ (ks' : List Byt) (cap : Nat), ks'.Perm (ents.map (·.1)) → K (.mw 145 1 ks'.length) ((145, .mrow 9 1 cap (ks'.map strR)) :: (51, .cells 117 [.xv d mapV]) :: hp0)) :
  CallVC Tryz.prog pin fr ((51, .cells 117 [.xv d mapV]) :: hp0) 191 [.d .nil, .fn 169 [] [.ptr 51 0]] K := by
 have d1 := F.d1 141 (by omega) (by omega)
 have d2 := F.d1 145 (by omega) (by omega)
 have d3 := F.d1 147 (by omega) (by omega)
 have d4 := F.d1 149 (by omega) (by omega)
 have d5 := F.d1 170 (by omega) (by omega)
 have hp1 := F.p
 have hf := F.f
 have hh := F.h
 refine CallVC.weak ?_
 refine call_inlineF false [] hty Tryz.func191 rfl (kp [0, 1, 2, 4, 5, 6, 7]) 139 (by simp [Tryz.f191]) ?_
 ((conv => whnf); repeat ((first | (refine And.intro (by refine ⟨?_, ?_, ?_⟩ <;> simp [idsF_nil, idsF_cons, idsH_nil, idsH_cons, argFr, SV.ids, SV.idsL, ids_cells, ids_mrow, ids_own, ids_loop, ids_iter, ids_ofV, setH, hp1, hf, hh, d1, d2, d3, d4, d5]) ?_) | (refine And.intro (by simp [SV.ids, SV.idsL]) ?_) | (intro hq; try simp only [lnS] at hq) | refine sI ?_ | refine .intro _ (.intro rfl ?_)); (conv => whnf)))
 refine SemVC.mownC 141 145 32 9 1 0 rfl rfl (by refine ⟨?_, ?_, ?_⟩ <;> simp [idsF_nil, idsF_cons, idsH_nil, idsH_cons, argFr, SV.ids, SV.idsL, ids_cells, ids_mrow, ids_own, ids_loop, ids_iter, ids_ofV, setH, hp1, hf, hh, d1, d2, d3, d4, d5]) ?_
 refine range_rule 149 (by refine ⟨?_, ?_, ?_⟩ <;> simp [idsF_nil, idsF_cons, idsH_nil, idsH_cons, argFr, SV.ids, SV.idsL, ids_cells, ids_mrow, ids_own, ids_loop, ids_iter, ids_ofV, setH, hp1, hf, hh, d1, d2, d3, d4, d5]) trivial ?_
 ((conv => whnf); repeat ((first | (intro hq; try simp only [lnS] at hq) | refine sI ?_ | refine .intro _ (.intro rfl ?_)); (conv => whnf)))
 refine call_inlineF false [] hty Tryz.func169 rfl (kp [0, 1, 3, 5, 7, 13]) 150 (by simp [Tryz.f169]) ?_
 ((conv => whnf); repeat ((first | (refine range_map (id := d) (ents := ents) (bs := g.1) (clock := g.2) rfl rfl rfl (getH_ne (getH_ne (getH_ne (getH_ne hg hcd) d1) d2) d4) 147 (by refine ⟨?_, ?_, ?_⟩ <;> simp [idsF_nil, idsF_cons, idsH_nil, idsH_cons, argFr, SV.ids, SV.idsL, ids_cells, ids_mrow, ids_own, ids_loop, ids_iter, ids_ofV, setH, hp1, hf, hh, d1, d2, d3, d4, d5]) ?_) | (intro hq; try simp only [lnS] at hq) | refine sI ?_ | refine .intro _ (.intro rfl ?_)); (conv => whnf)))
 refine loop_eq hty (fun y : List Nat × Nat => ([(0, .yld 149), (5, .xv 147 iterV)], (147, .ext (iterX d g.1 g.2 y.1)) :: (149, _) :: (145, .mrow 9 1 y.2 ((y.1.map (keyM ents)).map strR)) :: (141, .cells 32 [.mw 145 1 y.1.length]) :: (51, .cells 117 [.xv d mapV]) :: hp0)) (fun y => y.1.Nodup ∧ ∀ i ∈ y.1, i < ents.length) (fun y => ents.length - y.1.length) ([], 0) ⟨.nil, by simp⟩ (by repeat' (first | exact trivial | exact rfl | refine And.intro ?_ ?_)) rfl ?_
 rintro ⟨vis, cap⟩ ⟨hvn, hvl⟩
 dsimp only at hvn hvl
 have hvle := vis_len hvn hvl
 ((conv => whnf); repeat ((first | (intro hq; try simp only [lnS] at hq) | refine sI ?_ | refine .intro _ (.intro rfl ?_)); (conv => whnf)))
 refine next_map (id := d) (it := 147) (ents := ents) (bs := g.1) (clock := g.2) (vis := vis) (kD := strD) rfl rfl rfl (getH_ne (getH_ne (getH_ne (getH_ne (getH_ne hg hcd) d1) d2) d4) d3) (fun ha => ?_) (fun i p hp hni => ?_)
 ·have hperm := perm_vis (l := ents.map (·.1)) hvn (by simpa using hvl) (fun i hi => ha i (by simpa using hi)) (keyM ents) (fun i h => by rw [keyM, List.getD, List.getElem?_eq_getElem h]; rfl)
  have hend := hk (vis.map (keyM ents)) cap hperm
  rw [List.length_map] at hend
  ((conv => whnf); repeat ((first | (intro hq; try simp only [lnS] at hq) | refine sI ?_ | refine .intro _ (.intro rfl ?_)); (conv => whnf)))
  refine delHK_of (hh _ (by decide) (by decide)) ?_
  ((conv => whnf); repeat ((first | (intro hq; try simp only [lnS] at hq) | refine sI ?_ | refine .intro _ (.intro rfl ?_)); (conv => whnf)))
  refine ⟨_, ?_, hend⟩
  refine ⟨rfl, rfl, F.key (by decide) (by decide) (F.key (by decide) (by decide) (F.key (by decide) (by decide) (F.s _)))⟩
 ·obtain ⟨hil, hki⟩ := keyM_at hp
  have hvl2 : vis.length + 1 ≤ ents.length := by
   have h1 : (vis ++ [i]).Nodup := by
    rw [List.nodup_append]
    exact ⟨hvn, by simp, fun a ha b hb => by simp at hb; subst hb; exact fun e => hni (e ▸ ha)⟩
   have := vis_len h1 (fun j hj => by rcases List.mem_append.1 hj with h | h; exact hvl j h; simp at h; subst h; exact hil)
   simpa using this
  have hrl : ((vis.map (keyM ents)).map strR).length = vis.length := by rw [List.length_map, List.length_map]
  have hb63 : ((vis.map (keyM ents)).map strR).length + 1 ≤ 9223372036854775807 := by rw [hrl]; omega
  have hb48 : (((vis.map (keyM ents)).map strR).length + 1) * 16 ≤ 140737488355328 := by rw [hrl]; omega
  ((conv => whnf); repeat ((first | (refine entry_map (id := d) (it := 147) (i := i) (ents := ents) (bs := g.1) (clock := g.2) (vis := vis) (kD := strD) rfl rfl rfl (getH_ne (getH_ne (getH_ne (getH_ne (getH_ne hg hcd) d1) d2) d4) d3) hp ?_) | (intro hq; try simp only [lnS] at hq) | refine sI ?_ | refine .intro _ (.intro rfl ?_)); (conv => whnf)))
  refine YVC.weak ?_
  refine yield_roundF [] hty (kp [0, 1, 2, 4, 5, 6, 7]) 160 rfl rfl ?_
  ((conv => whnf); repeat ((first | (refine And.intro (by refine ⟨?_, ?_, ?_⟩ <;> simp [idsF_nil, idsF_cons, idsH_nil, idsH_cons, argFr, SV.ids, SV.idsL, ids_cells, ids_mrow, ids_own, ids_loop, ids_iter, ids_ofV, setH, hp1, hf, hh, d1, d2, d3, d4, d5]) ?_) | (refine And.intro hrl.symm ?_) | (refine And.intro hb63 ?_) | (refine And.intro hb48 ?_) | (intro hq; try simp only [lnS] at hq) | refine sI ?_ | refine .intro _ (.intro rfl ?_)); (conv => whnf)))
  rename_i cap'
  refine exists_tail ⟨rfl, rfl, rfl, rfl, rfl, F.key (Nat.le_of_ble_eq_true rfl) (Nat.le_of_ble_eq_true rfl) (F.key (by decide) (by decide) (F.key (by decide) (by decide) (F.key (by decide) (by decide) (F.key (by decide) (by decide) (F.s _)))))⟩ ?_
  ((conv => whnf); repeat ((first | (intro hq; try simp only [lnS] at hq) | refine sI ?_ | refine .intro _ (.intro rfl ?_)); (conv => whnf)))
  have hrows : ((vis ++ [i]).map (keyM ents)).map strR = (vis.map (keyM ents)).map strR ++ [[.str p.1]] := by
   rw [List.map_append, List.map_append, ← hki]; rfl
  have hmw : SV.mw 145 1 (vis ++ [i]).length = SV.mw 145 1 (((vis.map (keyM ents)).map strR).length + 1) := by rw [hrl, List.length_append]; rfl
  refine ⟨(vis ++ [i], cap'), ⟨?_, ?_⟩, ?_, by repeat' (first | exact trivial | exact rfl | refine And.intro ?_ ?_), ?_⟩
  ·dsimp only
   rw [List.nodup_append]
   exact ⟨hvn, by simp, fun a ha b hb => by simp at hb; subst hb; exact fun e => hni (e ▸ ha)⟩
  ·intro j hj
   rcases List.mem_append.1 hj with h | h
   ·exact hvl j h
   ·simp at h; subst h; exact hil
  ·dsimp only; rw [List.length_append]; simp; omega
  ·dsimp only
   rw [hrows, hmw]
   rfl
theorem sortedM1 (ents : List (Byt × SV)) (g : List Nat × Nat) (hlen : ents.length ≤ 1000000) (d : Nat) (hp0 : Hp) (hg : getH hp0 d = some (.ext (mapX strD ents g.1 g.2))) {pin : List Nat} {fr : Fr} {K : SV → Hp → Prop} (F : FreeM pin fr hp0 51 d) (hcd : 51 ≠ d)
  (hk : K (.d (.sl 1 ((sortK (ents.map (·.1))).map strR))) hp0) :
  CallVC Tryz.prog pin fr ((51, .cells 117 [.xv d mapV]) :: hp0) 129 [.fn 169 [] [.ptr 51 0]] K := by
 have d1 := F.d1 141 (by omega) (by omega)
 have hp1 := F.p
 have hf := F.f
 have hh := F.h
 refine CallVC.frozR ?_
 refine call_inlineF false [] hty Tryz.func129 rfl (kp [0, 2, 3]) 110 (by simp [Tryz.f129]) ?_
 ((conv => whnf); repeat ((first | (intro hq; try simp only [lnS] at hq) | refine sI ?_ | refine .intro _ (.intro rfl ?_)); (conv => whnf)))
 refine call_inlineF false [] hty Tryz.func167 rfl (kp [0, 2]) 120 (by simp [Tryz.f167]) ?_
 ((conv => whnf); repeat ((first | (intro hq; try simp only [lnS] at hq) | refine sI ?_ | refine .intro _ (.intro rfl ?_)); (conv => whnf)))
 refine appendM1 ents g hlen d hp0 hg ⟨fun k hk h2 => by simp [idsF_nil, idsF_cons, SV.ids, SV.idsL, ids_ofV, hp1 k hk h2, hf k hk h2]; omega, fun k hk h2 => by simp [idsF_nil, idsF_cons, SV.ids, SV.idsL, argFr, ids_ofV]; omega, hh, F.d1, F.s⟩ hcd (fun ks' cap hperm => ?_)
 have hpl := hperm.length_eq
 rw [List.length_map] at hpl
 ((conv => whnf); repeat ((first | (intro hq; try simp only [lnS] at hq) | refine sI ?_ | refine .intro _ (.intro rfl ?_)); (conv => whnf)))
 refine sortStr_call Tryz.sortStr ks' rfl rfl (by omega) ?_
 have hso : (ks'.mergeSort fun x y => decide (x ≤ y)) = sortK (ents.map (·.1)) := mergeSort_of_perm hperm
 rw [hso]
 have hsl : (sortK (ents.map (·.1))).length = ents.length := by
  have := (List.mergeSort_perm (ents.map (·.1)) fun x y => decide (x ≤ y)).length_eq
  rw [List.length_map] at this
  exact this
 ((conv => whnf); repeat ((first | (intro hq; try simp only [lnS] at hq) | refine sI ?_ | refine .intro _ (.intro rfl ?_)); (conv => whnf)))
 refine ⟨145, _, 1, cap, ks'.length, _, hp0, rfl, rfl, by rw [List.length_map, hsl]; exact hpl, F.key (by decide) (by decide) (F.s _), getH_none (hh _ (by decide) (by decide)), hk⟩
theorem appendM2 (ents : List (Byt × SV)) (g : List Nat × Nat) (hlen : ents.length ≤ 1000000) (d : Nat) (hp0 : Hp) (hg : getH hp0 d = some (.ext (mapX strD ents g.1 g.2))) {pin : List Nat} {fr : Fr} {K : SV → Hp → Prop} (F : FreeM pin fr hp0 53 d) (hcd : 53 ≠ d)
  (hk : ∀ (ks' : List Byt) (cap : Nat), ks'.Perm (ents.map (·.1)) → K (.mw 145 1 ks'.length) ((145, .mrow 9 1 cap (ks'.map strR)) :: (53, .cells 157 [.xv d mapV]) :: hp0)) :
  CallVC Tryz.prog pin fr ((53, .cells 157 [.xv d mapV]) :: hp0) 191 [.d .nil, .fn 170 [] [.ptr 53 0]] K := by
 have d1 := F.d1 141 (by omega) (by omega)
 have d2 := F.d1 145 (by omega) (by omega)
 have d3 := F.d1 147 (by omega) (by omega)
 have d4 := F.d1 149 (by omega) (by omega)
 have d5 := F.d1 170 (by omega) (by omega)
 have hp1 := F.p
 have hf := F.f
 have hh := F.h
 refine CallVC.weak ?_
 refine call_inlineF false [] hty Tryz.func191 rfl (kp [0, 1, 2, 4, 5, 6, 7]) 139 (by simp [Tryz.f191]) ?_
 ((conv => whnf); repeat ((first | (refine And.intro (by refine ⟨?_, ?_, ?_⟩ <;> simp [idsF_nil, idsF_cons, idsH_nil, idsH_cons, argFr, SV.ids, SV.idsL, ids_cells, ids_mrow, ids_own, ids_loop, ids_iter, ids_ofV, setH, hp1, hf, hh, d1, d2, d3, d4, d5]) ?_) | (refine And.intro (by simp [SV.ids, SV.idsL]) ?_) | (intro hq; try simp only [lnS] at hq) | refine sI ?_ | refine .intro _ (.intro rfl ?_)); (conv => whnf)))
 refine SemVC.mownC 141 145 32 9 1 0 rfl rfl (by refine ⟨?_, ?_, ?_⟩ <;> simp [idsF_nil, idsF_cons, idsH_nil, idsH_cons, argFr, SV.ids, SV.idsL, ids_cells, ids_mrow, ids_own, ids_loop, ids_iter, ids_ofV, setH, hp1, hf, hh, d1, d2, d3, d4, d5]) ?_
 refine range_rule 149 (by refine ⟨?_, ?_, ?_⟩ <;> simp [idsF_nil, idsF_cons, idsH_nil, idsH_cons, argFr, SV.ids, SV.idsL, ids_cells, ids_mrow, ids_own, ids_loop, ids_iter, ids_ofV, setH, hp1, hf, hh, d1, d2, d3, d4, d5]) trivial ?_
 ((conv => whnf); repeat ((first | (intro hq; try simp only [lnS] at hq) | refine sI ?_ | refine .intro _ (.intro rfl ?_)); (conv => whnf)))
 refine call_inlineF false [] hty Tryz.func170 rfl (kp [0, 1, 3, 5, 7, 13]) 150 (by simp [Tryz.f170]) ?_
 ((conv => whnf); repeat ((first | (refine range_map (id := d) (ents := ents) (bs := g.1) (clock := g.2) rfl rfl rfl (getH_ne (getH_ne (getH_ne (getH_ne hg hcd) d1) d2) d4) 147 (by refine ⟨?_, ?_, ?_⟩ <;> simp [idsF_nil, idsF_cons, idsH_nil, idsH_cons, argFr, SV.ids, SV.idsL, ids_cells, ids_mrow, ids_own, ids_loop, ids_iter, ids_ofV, setH, hp1, hf, hh, d1, d2, d3, d4, d5]) ?_) | (intro hq; try simp only [lnS] at hq) | refine sI ?_ | refine .intro _ (.intro rfl ?_)); (conv => whnf)))
 refine loop_eq hty (fun y : List Nat × Nat => ([(0, .yld 149), (5, .xv 147 iterV)], (147, .ext (iterX d g.1 g.2 y.1)) :: (149, _) :: (145, .mrow 9 1 y.2 ((y.1.map (keyM ents)).map strR)) :: (141, .cells 32 [.mw 145 1 y.1.length]) :: (53, .cells 157 [.xv d mapV]) :: hp0)) (fun y => y.1.Nodup ∧ ∀ i ∈ y.1, i < ents.length) (fun y => ents.length - y.1.length) ([], 0) ⟨.nil, by simp⟩ (by repeat' (first | exact trivial | exact rfl | refine And.intro ?_ ?_)) rfl ?_
 rintro ⟨vis, cap⟩ ⟨hvn, hvl⟩
 dsimp only at hvn hvl
 have hvle := vis_len hvn hvl
 ((conv => whnf); repeat ((first | (intro hq; try simp only [lnS] at hq) | refine sI ?_ | refine .intro _ (.intro rfl ?_)); (conv => whnf)))
 refine next_map (id := d) (it := 147) (ents := ents) (bs := g.1) (clock := g.2) (vis := vis) (kD := strD) rfl rfl rfl (getH_ne (getH_ne (getH_ne (getH_ne (getH_ne hg hcd) d1) d2) d4) d3) (fun ha => ?_) (fun i p hp hni => ?_)
 ·have hperm := perm_vis (l := ents.map (·.1)) hvn (by simpa using hvl) (fun i hi => ha i (by simpa using hi)) (keyM ents) (fun i h => by rw [keyM, List.getD, List.getElem?_eq_getElem h]; rfl)
  have hend := hk (vis.map (keyM ents)) cap hperm
  rw [List.length_map] at hend
  ((conv => whnf); repeat ((first | (intro hq; try simp only [lnS] at hq) | refine sI ?_ | refine .intro _ (.intro rfl ?_)); (conv => whnf)))
  refine delHK_of (hh _ (by decide) (by decide)) ?_
  ((conv => whnf); repeat ((first | (intro hq; try simp only [lnS] at hq) | refine sI ?_ | refine .intro _ (.intro rfl ?_)); (conv => whnf)))
  refine ⟨_, ?_, hend⟩
  refine ⟨rfl, rfl, F.key (by decide) (by decide) (F.key (by decide) (by decide) (F.key (by decide) (by decide) (F.s _)))⟩
 ·obtain ⟨hil, hki⟩ := keyM_at hp
  have hvl2 : vis.length + 1 ≤ ents.length := by
   have h1 : (vis ++ [i]).Nodup := by
    rw [List.nodup_append]
    exact ⟨hvn, by simp, fun a ha b hb => by simp at hb; subst hb; exact fun e => hni (e ▸ ha)⟩
   have := vis_len h1 (fun j hj => by rcases List.mem_append.1 hj with h | h; exact hvl j h; simp at h; subst h; exact hil)
   simpa using this
  have hrl : ((vis.map (keyM ents)).map strR).length = vis.length := by rw [List.length_map, List.length_map]
  have hb63 : ((vis.map (keyM ents)).map strR).length + 1 ≤ 9223372036854775807 := by rw [hrl]; omega
  have hb48 : (((vis.map (keyM ents)).map strR).length + 1) * 16 ≤ 140737488355328 := by rw [hrl]; omega
  ((conv => whnf); repeat ((first | (refine entry_map (id := d) (it := 147) (i := i) (ents := ents) (bs := g.1) (clock := g.2) (vis := vis) (kD := strD) rfl rfl rfl (getH_ne (getH_ne (getH_ne (getH_ne (getH_ne hg hcd) d1) d2) d4) d3) hp ?_) | (intro hq; try simp only [lnS] at hq) | refine sI ?_ | refine .intro _ (.intro rfl ?_)); (conv => whnf)))
  refine YVC.weak ?_
  refine yield_roundF [] hty (kp [0, 1, 2, 4, 5, 6, 7]) 160 rfl rfl ?_
  ((conv => whnf); repeat ((first | (refine And.intro (by refine ⟨?_, ?_, ?_⟩ <;> simp [idsF_nil, idsF_cons, idsH_nil, idsH_cons, argFr, SV.ids, SV.idsL, ids_cells, ids_mrow, ids_own, ids_loop, ids_iter, ids_ofV, setH, hp1, hf, hh, d1, d2, d3, d4, d5]) ?_) | (refine And.intro hrl.symm ?_) | (refine And.intro hb63 ?_) | (refine And.intro hb48 ?_) | (intro hq; try simp only [lnS] at hq) | refine sI ?_ | refine .intro _ (.intro rfl ?_)); (conv => whnf)))
  rename_i cap'
  refine exists_tail ⟨rfl, rfl, rfl, rfl, rfl, F.key (Nat.le_of_ble_eq_true rfl) (Nat.le_of_ble_eq_true rfl) (F.key (by decide) (by decide) (F.key (by decide) (by decide) (F.key (by decide) (by decide) (F.key (by decide) (by decide) (F.s _)))))⟩ ?_
  ((conv => whnf); repeat ((first | (intro hq; try simp only [lnS] at hq) | refine sI ?_ | refine .intro _ (.intro rfl ?_)); (conv => whnf)))
  have hrows : ((vis ++ [i]).map (keyM ents)).map strR = (vis.map (keyM ents)).map strR ++ [[.str p.1]] := by
   rw [List.map_append, List.map_append, ← hki]; rfl
  have hmw : SV.mw 145 1 (vis ++ [i]).length = SV.mw 145 1 (((vis.map (keyM ents)).map strR).length + 1) := by rw [hrl, List.length_append]; rfl
  refine ⟨(vis ++ [i], cap'), ⟨?_, ?_⟩, ?_, by repeat' (first | exact trivial | exact rfl | refine And.intro ?_ ?_), ?_⟩
  ·dsimp only
   rw [List.nodup_append]
   exact ⟨hvn, by simp, fun a ha b hb => by simp at hb; subst hb; exact fun e => hni (e ▸ ha)⟩
  ·intro j hj
   rcases List.mem_append.1 hj with h | h
   ·exact hvl j h
   ·simp at h; subst h; exact hil
  ·dsimp only; rw [List.length_append]; simp; omega
  ·dsimp only
   rw [hrows, hmw]
   rfl
theorem sortedM2 (ents : List (Byt × SV)) (g : List Nat × Nat) (hlen : ents.length ≤ 1000000) (d : Nat) (hp0 : Hp) (hg : getH hp0 d = some (.ext (mapX strD ents g.1 g.2))) {pin : List Nat} {fr : Fr} {K : SV → Hp → Prop} (F : FreeM pin fr hp0 53 d) (hcd : 53 ≠ d)
  (hk : K (.d (.sl 1 ((sortK (ents.map (·.1))).map strR))) hp0) :
  CallVC Tryz.prog pin fr ((53, .cells 157 [.xv d mapV]) :: hp0) 129 [.fn 170 [] [.ptr 53 0]] K := by
 have d1 := F.d1 141 (by omega) (by omega)
 have hp1 := F.p
 have hf := F.f
 have hh := F.h
 refine CallVC.frozR ?_
 refine call_inlineF false [] hty Tryz.func129 rfl (kp [0, 2, 3]) 110 (by simp [Tryz.f129]) ?_
 ((conv => whnf); repeat ((first | (intro hq; try simp only [lnS] at hq) | refine sI ?_ | refine .intro _ (.intro rfl ?_)); (conv => whnf)))
 refine call_inlineF false [] hty Tryz.func167 rfl (kp [0, 2]) 120 (by simp [Tryz.f167]) ?_
 ((conv => whnf); repeat ((first | (intro hq; try simp only [lnS] at hq) | refine sI ?_ | refine .intro _ (.intro rfl ?_)); (conv => whnf)))
 refine appendM2 ents g hlen d hp0 hg ⟨fun k hk h2 => by simp [idsF_nil, idsF_cons, SV.ids, SV.idsL, ids_ofV, hp1 k hk h2, hf k hk h2]; omega, fun k hk h2 => by simp [idsF_nil, idsF_cons, SV.ids, SV.idsL, argFr, ids_ofV]; omega, hh, F.d1, F.s⟩ hcd (fun ks' cap hperm => ?_)
 have hpl := hperm.length_eq
 rw [List.length_map] at hpl
 ((conv => whnf); repeat ((first | (intro hq; try simp only [lnS] at hq) | refine sI ?_ | refine .intro _ (.intro rfl ?_)); (conv => whnf)))
 refine sortStr_call Tryz.sortStr ks' rfl rfl (by omega) ?_
 have hso : (ks'.mergeSort fun x y => decide (x ≤ y)) = sortK (ents.map (·.1)) := mergeSort_of_perm hperm
 rw [hso]
 have hsl : (sortK (ents.map (·.1))).length = ents.length := by
  have := (List.mergeSort_perm (ents.map (·.1)) fun x y => decide (x ≤ y)).length_eq
  rw [List.length_map] at this
  exact this
 ((conv => whnf); repeat ((first | (intro hq; try simp only [lnS] at hq) | refine sI ?_ | refine .intro _ (.intro rfl ?_)); (conv => whnf)))
 refine ⟨145, _, 1, cap, ks'.length, _, hp0, rfl, rfl, by rw [List.length_map, hsl]; exact hpl, F.key (by decide) (by decide) (F.s _), getH_none (hh _ (by decide) (by decide)), hk⟩
end Go.Proofs.YtnemengadjimcaaGreatDoor
