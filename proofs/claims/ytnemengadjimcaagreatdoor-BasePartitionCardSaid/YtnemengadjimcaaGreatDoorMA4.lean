/-
  Terms: the limits of a concept: fits. Terms: the fields of a concept: checkFields. Terms: the concepts within a concept, one after another: visit and walk.
  Conditions: none.
-/
import Derived.Test.YtnemengadjimcaaGreatDoorMA1
import Derived.Test.YtnemengadjimcaaGreatDoorMSna
set_option linter.unusedSectionVars false
set_option linter.unusedSimpArgs false
set_option linter.unusedVariables false
set_option maxHeartbeats 8000000
namespace Go.Proofs.YtnemengadjimcaaGreatDoor
open Go.Proofs
set_option maxRecDepth 10000
attribute [local irreducible] SemVC CallVC Tri Stuck YVC GenP GenVC
mutual
def fitsF : Cn → Int → Int → Bool × Int
 | .mk _ _ _ _ ps, d, n => if 8 < d ∨ 64 < n + 1 then (false, n + 1) else fitsL ps d (n + 1)
def fitsL : List Cn → Int → Int → Bool × Int
 | [], _, n => (true, n)
 | c :: r, d, n => if (fitsF c (d + 1) n).1 = true then fitsL r d (fitsF c (d + 1) n).2 else (false, (fitsF c (d + 1) n).2)
end
theorem fitsF_eq (c : Cn) (d n : Int) : fitsF c d n = if 8 < d ∨ 64 < n + 1 then (false, n + 1) else fitsL c.parts d (n + 1) := by
 cases c; rw [fitsF]; rfl
mutual
theorem fitsF_bnd : ∀ (c : Cn) (d n : Int), 0 ≤ n → n ≤ 64 → 0 ≤ (fitsF c d n).2 ∧ (fitsF c d n).2 ≤ 65 ∧ ((fitsF c d n).1 = true → (fitsF c d n).2 ≤ 64)
 | .mk _ _ _ _ ps, d, n, h0, h1 => by
  rw [fitsF]
  split
  ·exact ⟨by simp only; omega, by simp only; omega, by simp⟩
  ·exact fitsL_bnd ps d (n + 1) (by omega) (by omega)
theorem fitsL_bnd : ∀ (l : List Cn) (d n : Int), 0 ≤ n → n ≤ 64 → 0 ≤ (fitsL l d n).2 ∧ (fitsL l d n).2 ≤ 65 ∧ ((fitsL l d n).1 = true → (fitsL l d n).2 ≤ 64)
 | [], d, n, h0, h1 => by rw [fitsL]; exact ⟨h0, by simp only; omega, fun _ => h1⟩
 | c :: r, d, n, h0, h1 => by
  have h := fitsF_bnd c (d + 1) n h0 h1
  rw [fitsL]
  split
  ·rename_i hb
   exact fitsL_bnd r d _ h.1 (h.2.2 hb)
  ·exact ⟨h.1, h.2.1, by simp⟩
end
theorem fits_spec : ∀ (c : Cn) (d n : Int) (hp0 : Hp) {pin : List Nat} {fr : Fr} {K : SV → Hp → Prop} (_ : 0 ≤ d ∧ d ≤ 9) (_ : 0 ≤ n ∧ n ≤ 64) (_ : ∀ k, 100 ≤ k → k ∉ pin) (_ : ∀ k, 100 ≤ k → k ∉ idsF fr) (_ : ∀ k, 100 ≤ k → k ∉ idsH hp0)
  (_ : K (.d (.bool (fitsF c d n).1)) ((3, .cells 3 [.d (.int .i64 (fitsF c d n).2)]) :: hp0)),
  CallVC Tryz.prog pin fr ((3, .cells 3 [.d (.int .i64 n)]) :: hp0) 144 [.d (.agg (cnR c)), .d (.int .i64 d), .ptr 3 0] K := by
 refine Cn.ind ?_
 intro c ih d n hp0 pin fr K hd hn hp hf hh hk
 rw [cnR_eq]
 rw [fitsF_eq] at hk
 refine call_inlineF false [3, 8] hty Tryz.func144 rfl (kp [0, 1, 2, 3, 6, 8, 21, 23, 24, 25, 26, 34]) 100 (by simp [Tryz.f144]) ?_
 ((conv => whnf); repeat' ((first | (intro hq; (try simp only [lnS] at hq); (try rewrite [List.length_map])) | refine sJ ?_ | refine .intro _ (.intro rfl ?_) | (refine .intro (show (_ : Nat) < List.length _ from by first | omega | (simp only [lnS]; omega) | simp) ?_) | (refine And.intro (freshG hp hf (bigH (by decide) (by with_unfolding_all exact rfl) hh) (Nat.le_of_ble_eq_true rfl) (by with_unfolding_all exact rfl)) ?_) | (refine And.intro (bigH (by decide) (by with_unfolding_all exact rfl) hh _ (Nat.le_of_ble_eq_true rfl)) ?_) | refine draw_rule hty (by kernel_rfl) (by kernel_rfl) ?_ | ((first | refine brB_dec ?_ ?_ | refine brB_ndec ?_ ?_) <;> intro hb <;> (first | contradiction | ((try simp only [lnS] at hb); try (exfalso; omega)))) | (refine brB_split ?_ ?_ <;> intro hb <;> (first | contradiction | exact bT hb (by assumption) | exact bF hb (by assumption) | skip))) <;> (conv => whnf)))
 ·rw [if_pos (.inl (by assumption))] at hk
  exact hk
 ·rw [if_pos (.inr (by assumption))] at hk
  exact hk
 ·rw [if_neg (by omega)] at hk
  have hb0 := fitsL_bnd c.parts d (n + 1) (by omega) (by omega)
  refine loop_eq hty (fun y : Nat × Int => ([(1, .d (.int .i64 d)), (2, .ptr 3 0), (23, .d (.sl 5 (c.parts.map cnR))), (24, .d (.int .i64 c.parts.length)), (25, .d (.int .i64 y.1))], (3, .cells 3 [.d (.int .i64 y.2)]) :: hp0)) (fun y => y.1 ≤ c.parts.length ∧ (0 ≤ y.2 ∧ y.2 ≤ 64) ∧ fitsL c.parts d (n + 1) = fitsL (c.parts.drop y.1) d y.2) (fun y => c.parts.length - y.1) (0, n + 1) ⟨by omega, by dsimp only; omega, by simp⟩ (by repeat' (first | exact trivial | exact rfl | (rw [List.length_map]; exact rfl) | refine And.intro ?_ ?_)) rfl ?_
  rintro ⟨j, m⟩ ⟨hj, hm, he⟩
  dsimp only at hj hm he
  ((conv => whnf); repeat ((first | (intro hq; try simp only [lnS] at hq) | refine sI ?_ | refine .intro _ (.intro rfl ?_)); (conv => whnf)))
  refine brB_dec (fun h1 => ?_) (fun h1 => ?_)
  ·have hjl : j < c.parts.length := by omega
   have hrow : (c.parts.map cnR)[(j : Int).toNat]? = some (cnR c.parts[j]) := rowC_at hjl
   have hrow' := hrow
   rw [cnR_eq] at hrow'
   rw [List.drop_eq_getElem_cons hjl, fitsL] at he
   have hbm := fitsF_bnd c.parts[j] (d + 1) m hm.1 hm.2
   ((conv => whnf); repeat' ((first | (intro hq; (try simp only [lnS] at hq); (try rewrite [List.length_map])) | refine sJ ?_ | refine .intro _ (.intro rfl ?_) | (refine .intro (show (_ : Nat) < List.length _ from by first | omega | (simp only [lnS]; omega) | simp) ?_) | (refine And.intro (freshG hp hf (bigH (by decide) (by with_unfolding_all exact rfl) hh) (Nat.le_of_ble_eq_true rfl) (by with_unfolding_all exact rfl)) ?_) | (refine And.intro (bigH (by decide) (by with_unfolding_all exact rfl) hh _ (Nat.le_of_ble_eq_true rfl)) ?_) | (refine ⟨_, hrow', ?_⟩) | refine draw_rule hty (by kernel_rfl) (by kernel_rfl) ?_ | ((first | refine brB_dec ?_ ?_ | refine brB_ndec ?_ ?_) <;> intro hb <;> (first | contradiction | ((try simp only [lnS] at hb); try (exfalso; omega)))) | (refine brB_split ?_ ?_ <;> intro hb <;> (first | contradiction | exact bT hb (by assumption) | exact bF hb (by assumption) | skip))) <;> (conv => whnf)))
   have ih' := @ih c.parts[j] (List.getElem_mem hjl) (d + 1) m hp0
   rw [cnR_eq] at ih'
   refine ih' (by omega) hm (bigP hp hf) (bigF (by with_unfolding_all exact rfl)) hh ?_
   cases hbv : (fitsF c.parts[j] (d + 1) m).1
   ·rw [hbv, if_neg (by decide)] at he
    rw [he] at hk
    ((conv => whnf); repeat' ((first | (intro hq; (try simp only [lnS] at hq); (try rewrite [List.length_map])) | refine sJ ?_ | refine .intro _ (.intro rfl ?_) | (refine .intro (show (_ : Nat) < List.length _ from by first | omega | (simp only [lnS]; omega) | simp) ?_) | fail | refine draw_rule hty (by kernel_rfl) (by kernel_rfl) ?_ | ((first | refine brB_dec ?_ ?_ | refine brB_ndec ?_ ?_) <;> intro hb <;> (first | contradiction | ((try simp only [lnS] at hb); try (exfalso; omega)))) | (refine brB_split ?_ ?_ <;> intro hb <;> (first | contradiction | exact bT hb (by assumption) | exact bF hb (by assumption) | skip))) <;> (conv => whnf)))
    exact hk
   ·rw [hbv, if_pos rfl] at he
    ((conv => whnf); repeat' ((first | (intro hq; (try simp only [lnS] at hq); (try rewrite [List.length_map])) | refine sJ ?_ | refine .intro _ (.intro rfl ?_) | (refine .intro (show (_ : Nat) < List.length _ from by first | omega | (simp only [lnS]; omega) | simp) ?_) | fail | refine draw_rule hty (by kernel_rfl) (by kernel_rfl) ?_ | ((first | refine brB_dec ?_ ?_ | refine brB_ndec ?_ ?_) <;> intro hb <;> (first | contradiction | ((try simp only [lnS] at hb); try (exfalso; omega)))) | (refine brB_split ?_ ?_ <;> intro hb <;> (first | contradiction | exact bT hb (by assumption) | exact bF hb (by assumption) | skip))) <;> (conv => whnf)))
    exact ⟨(j + 1, (fitsF c.parts[j] (d + 1) m).2), ⟨by dsimp only; omega, ⟨hbm.1, hbm.2.2 hbv⟩, he⟩, by dsimp only; omega, by repeat' (first | exact trivial | exact rfl | refine And.intro ?_ ?_), rfl⟩
  ·have hjl : j = c.parts.length := by dsimp only at h1; omega
   subst hjl
   rw [List.drop_length, fitsL] at he
   rw [he] at hk
   ((conv => whnf); repeat' ((first | (intro hq; (try simp only [lnS] at hq); (try rewrite [List.length_map])) | refine sJ ?_ | refine .intro _ (.intro rfl ?_) | (refine .intro (show (_ : Nat) < List.length _ from by first | omega | (simp only [lnS]; omega) | simp) ?_) | fail | refine draw_rule hty (by kernel_rfl) (by kernel_rfl) ?_ | ((first | refine brB_dec ?_ ?_ | refine brB_ndec ?_ ?_) <;> intro hb <;> (first | contradiction | ((try simp only [lnS] at hb); try (exfalso; omega)))) | (refine brB_split ?_ ?_ <;> intro hb <;> (first | contradiction | exact bT hb (by assumption) | exact bF hb (by assumption) | skip))) <;> (conv => whnf)))
   exact hk
end Go.Proofs.YtnemengadjimcaaGreatDoor
namespace Go.Proofs.YtnemengadjimcaaGreatDoor
open Go.Proofs
set_option maxRecDepth 10000
attribute [local irreducible] SemVC CallVC Tri Stuck YVC GenP GenVC
structure Need where
 name : Int
 least : Int
 most : Int
 nums : Bool
def needs : List Need := [⟨0, 0, 0, false⟩, ⟨0, 0, 0, false⟩, ⟨0, 0, 0, false⟩, ⟨1, 0, 0, false⟩, ⟨2, 0, 0, false⟩, ⟨0, 2, 8, false⟩, ⟨1, 1, 1, false⟩, ⟨1, 0, 0, true⟩]
def needR (n : Need) : List D := [.int .i64 n.name, .int .i64 n.least, .int .i64 n.most, .bool n.nums]
structure Use where
 left : Bool
 right : Bool
 role : Bool
 a : Bool
 b : Bool
 least : Int
 most : Int
def uses : List Use := [⟨false, false, false, false, false, 0, 0⟩, ⟨true, true, false, false, false, 0, 0⟩, ⟨true, true, false, false, false, 0, 0⟩, ⟨true, true, false, false, false, 0, 0⟩, ⟨false, true, true, false, false, 0, 0⟩,
 ⟨false, false, true, false, false, 1, 1⟩, ⟨false, false, true, false, false, 2, 4⟩, ⟨false, false, true, false, false, 0, 0⟩, ⟨false, true, false, true, false, 0, 0⟩, ⟨false, false, true, true, true, 0, 0⟩]
def useR (u : Use) : List D := [.bool u.left, .bool u.right, .bool u.role, .bool u.a, .bool u.b, .int .i64 u.least, .int .i64 u.most]
def NG : Hp := [(90, .glob 2 4 (needs.map needR)), (91, .glob 0 7 (uses.map useR))]
def needAt (k : Int) : Need := needs.getD k.toNat ⟨0, 0, 0, false⟩
def useAt (k : Int) : Use := uses.getD k.toNat ⟨false, false, false, false, false, 0, 0⟩
theorem need_row {k : Int} (h : 1 ≤ k ∧ k ≤ 7) : (needs.map needR)[k.toNat]? = some (needR (needAt k)) := by
 have hl : k.toNat < needs.length := by show k.toNat < 8; omega
 rw [List.getElem?_map, List.getElem?_eq_getElem hl, needAt, List.getD, List.getElem?_eq_getElem hl]; rfl
theorem use_row {k : Int} (h : 1 ≤ k ∧ k ≤ 9) : (uses.map useR)[k.toNat]? = some (useR (useAt k)) := by
 have hl : k.toNat < uses.length := by show k.toNat < 10; omega
 rw [List.getElem?_map, List.getElem?_eq_getElem hl, useAt, List.getD, List.getElem?_eq_getElem hl]; rfl
def nameE (n : Need) (s : List UInt8) : Int := if n.name = 0 ∨ plainF s = true ∨ (n.name = 2 ∧ resF s = true) then 0 else 20
def fieldsN (n : Need) (c : Cn) : Int :=
 if (c.parts.length : Int) < n.least ∨ n.most < c.parts.length ∨ (n.name = 0 ∧ c.name ≠ []) then 21
 else if n.nums = true then (if c.lo < -1099511627776 ∨ c.hi < c.lo ∨ 1099511627776 < c.hi then 21 else nameE n c.name)
 else (if c.lo ≠ 0 ∨ c.hi ≠ 0 then 21 else nameE n c.name)
def fieldsE (c : Cn) : Int := if c.kind < 1 ∨ 7 < c.kind then 21 else fieldsN (needAt c.kind) c
theorem int_eq {a b : Int} (h : a = b) : SV.d (.int .i64 a) = SV.d (.int .i64 b) := by rw [h]
theorem checkFields_spec (c : Cn) : Tri Tryz.prog 146 [.d (.agg (cnR c))] NG (fun r => r = .d (.int .i64 (fieldsE c))) := by
 rw [cnR_eq]
 refine tri_of_bodyF false [] hty Tryz.func146 rfl (kp [0, 1, 2, 3, 11, 39, 41, 56, 64, 82]) [] _ _ _ (by simp [Tryz.f146]) (by decide) ?_
 ((conv => whnf); repeat ((first | (intro hq; try simp only [lnS] at hq) | refine sI ?_ | refine .intro _ (.intro rfl ?_)); (conv => whnf)))
 refine brB_dec (fun h1 => ?_) (fun h1 => ?_)
 ·((conv => whnf); repeat' ((first | (intro hq; (try simp only [lnS] at hq); (try rewrite [List.length_map])) | refine sJ ?_ | refine .intro _ (.intro rfl ?_) | (refine .intro (show (_ : Nat) < List.length _ from by first | omega | (simp only [lnS]; omega) | simp) ?_) | fail | refine draw_rule hty (by kernel_rfl) (by kernel_rfl) ?_ | ((first | refine brB_dec ?_ ?_ | refine brB_ndec ?_ ?_) <;> intro hb <;> (first | contradiction | ((try simp only [lnS] at hb); try (exfalso; omega)))) | (refine brB_split ?_ ?_ <;> intro hb <;> (first | contradiction | exact bT hb (by assumption) | exact bF hb (by assumption) | skip))) <;> (conv => whnf)))
  exact int_eq (by rw [fieldsE, if_pos (.inl h1)])
 ·((conv => whnf); repeat ((first | (intro hq; try simp only [lnS] at hq) | refine sI ?_ | refine .intro _ (.intro rfl ?_)); (conv => whnf)))
  refine brB_dec (fun h2 => ?_) (fun h2 => ?_)
  ·((conv => whnf); repeat' ((first | (intro hq; (try simp only [lnS] at hq); (try rewrite [List.length_map])) | refine sJ ?_ | refine .intro _ (.intro rfl ?_) | (refine .intro (show (_ : Nat) < List.length _ from by first | omega | (simp only [lnS]; omega) | simp) ?_) | fail | refine draw_rule hty (by kernel_rfl) (by kernel_rfl) ?_ | ((first | refine brB_dec ?_ ?_ | refine brB_ndec ?_ ?_) <;> intro hb <;> (first | contradiction | ((try simp only [lnS] at hb); try (exfalso; omega)))) | (refine brB_split ?_ ?_ <;> intro hb <;> (first | contradiction | exact bT hb (by assumption) | exact bF hb (by assumption) | skip))) <;> (conv => whnf)))
   exact int_eq (by rw [fieldsE, if_pos (.inr h2)])
  ·have hE : fieldsE c = fieldsN (needAt c.kind) c := by rw [fieldsE, if_neg (by omega)]
   rw [hE]
   have hrow := need_row (k := c.kind) (by omega)
   generalize needAt c.kind = n at hrow
   clear hE
   ((conv => whnf); repeat' ((first | (intro hq; (try simp only [lnS] at hq); (try rewrite [List.length_map])) | refine sJ ?_ | refine .intro _ (.intro rfl ?_) | (refine .intro (show (_ : Nat) < List.length _ from by first | omega | (simp only [lnS]; omega) | simp) ?_) | (refine index_glob (id := 90) hty rfl rfl rfl rfl rfl rfl rfl (by omega) (by omega) ?_) | (refine ⟨_, hrow, ?_⟩) | (refine call_tri [] (isPlain_spec _) trivial (fun r hs => ?_); subst hs) | (refine call_tri [] (isReserved_spec _) trivial (fun r hs => ?_); subst hs) | refine draw_rule hty (by kernel_rfl) (by kernel_rfl) ?_ | ((first | refine brB_dec ?_ ?_ | refine brB_ndec ?_ ?_) <;> intro hb <;> (first | contradiction | ((try simp only [lnS] at hb); try (exfalso; omega)))) | (refine brB_split ?_ ?_ <;> intro hb <;> (first | contradiction | exact bT hb (by assumption) | exact bF hb (by assumption) | skip))) <;> (conv => whnf)))
   all_goals (
    refine int_eq (Eq.symm ?_)
    unfold fieldsN
    first
    | (rw [if_pos (by first | exact .inl (by assumption) | exact .inr (.inl (by assumption)) | exact .inr (.inr ⟨by assumption, by assumption⟩))])
    | (rw [if_neg (by simp_all)]
       first
       | (rw [if_pos (by assumption)]
          first
          | (rw [if_pos (by omega)])
          | (rw [if_neg (by omega)]; unfold nameE; simp_all))
       | (rw [if_neg (by simp_all)]
          first
          | (rw [if_pos (by omega)])
          | (rw [if_neg (by omega)]; unfold nameE; simp_all))))
end Go.Proofs.YtnemengadjimcaaGreatDoor
namespace Go.Proofs.YtnemengadjimcaaGreatDoor
open Go.Proofs
set_option maxRecDepth 10000
attribute [local irreducible] SemVC CallVC Tri Stuck YVC GenP GenVC
mutual
def nodes : Cn → List Cn
 | .mk k n lo hi ps => .mk k n lo hi ps :: nodesL ps
def nodesL : List Cn → List Cn
 | [] => []
 | c :: r => nodes c ++ nodesL r
end
theorem nodes_eq (c : Cn) : nodes c = c :: nodesL c.parts := by cases c; rw [nodes]; rfl
theorem nodesL_append : ∀ (l m : List Cn), nodesL (l ++ m) = nodesL l ++ nodesL m
 | [], m => by simp [nodesL]
 | c :: l, m => by simp [nodesL, nodesL_append l m]
theorem nodesL_take {l : List Cn} {j : Nat} (h : j < l.length) : nodesL (l.take (j + 1)) = nodesL (l.take j) ++ nodes l[j] := by
 rw [List.take_succ_eq_append_getElem h, nodesL_append]; simp [nodesL]
structure Rounds (all : List Cn) (lid : Nat) (Cont : List Cn → Hp → Prop) (Stop : Hp → Prop) : Prop where
 big : ∀ done hp, Cont done hp → ∀ k, 100 ≤ k → k ∉ idsH hp
 step : ∀ (done : List Cn) (x : Cn) (hp : Hp) (pin : List Nat) (fr : Fr) (K : SV → Hp → Prop), Cont done hp → (∃ rest, done ++ x :: rest = all) → (∀ k, 100 ≤ k → k ∉ pin) → (∀ k, 100 ≤ k → k ∉ idsF fr) →
  (∀ hp', Cont (done ++ [x]) hp' → K (.d (.bool true)) hp') → (∀ hp', Stop hp' → K (.d (.bool false)) hp') → YVC Tryz.prog pin fr hp lid [.d (.agg (cnR x))] K
theorem lidF {lid : Nat} (hlid : lid < 100) : ∀ fr : Fr, idsF fr = [lid] ∨ idsF fr = [lid, lid] ∨ idsF fr = [lid, lid, lid] → ∀ k, 100 ≤ k → k ∉ idsF fr := by
 intro fr h k hk hm
 rcases h with h | h | h <;> rw [h] at hm <;> simp at hm <;> omega
theorem visit_spec {all : List Cn} {lid : Nat} (hlid : lid < 100) {Cont : List Cn → Hp → Prop} {Stop : Hp → Prop} (R : Rounds all lid Cont Stop) : ∀ (c : Cn) (done : List Cn) (hp : Hp) {pin : List Nat} {fr : Fr} {K : SV → Hp → Prop} (_ : Cont done hp) (_ : ∃ rest, done ++ (nodes c ++ rest) = all) (_ : ∀ k, 100 ≤ k → k ∉ pin) (_ : ∀ k, 100 ≤ k → k ∉ idsF fr)
  (_ : ∀ hp', Cont (done ++ nodes c) hp' → K (.d (.bool true)) hp') (_ : ∀ hp', Stop hp' → K (.d (.bool false)) hp'), CallVC Tryz.prog pin fr hp 178 [.d (.agg (cnR c)), .yld lid] K := by
 refine Cn.ind ?_
 intro c ih done hp pin fr K hC hA hp1 hf hk1 hk2
 have hh := R.big _ _ hC
 have hlidF := lidF hlid
 have hcR := cnR_eq c
 rw [hcR]
 refine call_inlineF false [2, 6] hty Tryz.func178 rfl (kp [0, 1, 2, 4, 6, 10, 12, 13, 14, 15, 21]) 100 (by simp [Tryz.f178]) ?_
 ((conv => whnf); repeat' ((first | (intro hq; (try simp only [lnS] at hq); (try rewrite [List.length_map])) | refine sJ ?_ | refine .intro _ (.intro rfl ?_) | (refine .intro (show (_ : Nat) < List.length _ from by first | omega | (simp only [lnS]; omega) | simp) ?_) | (refine And.intro ⟨bigP hp1 hf _ (Nat.le_of_ble_eq_true rfl), hlidF _ (by with_unfolding_all first | exact .inl rfl | exact .inr (.inl rfl) | exact .inr (.inr rfl)) _ (Nat.le_of_ble_eq_true rfl), hh _ (Nat.le_of_ble_eq_true rfl)⟩ ?_) | (refine And.intro (hh _ (Nat.le_of_ble_eq_true rfl)) ?_) | refine draw_rule hty (by kernel_rfl) (by kernel_rfl) ?_ | ((first | refine brB_dec ?_ ?_ | refine brB_ndec ?_ ?_) <;> intro hb <;> (first | contradiction | ((try simp only [lnS] at hb); try (exfalso; omega)))) | (refine brB_split ?_ ?_ <;> intro hb <;> (first | contradiction | exact bT hb (by assumption) | exact bF hb (by assumption) | skip))) <;> (conv => whnf)))
 obtain ⟨rest, hA⟩ := hA
 rw [nodes_eq] at hA
 have st := fun pin fr K => R.step done c hp pin fr K hC ⟨nodesL c.parts ++ rest, by simpa using hA⟩
 simp only [hcR] at st
 refine st _ _ _ (bigP hp1 hf) (hlidF _ (by with_unfolding_all first | exact .inl rfl | exact .inr (.inl rfl) | exact .inr (.inr rfl))) (fun hp2 hC2 => ?_) (fun hp2 hS2 => ?_)
 ·((conv => whnf); repeat' ((first | (intro hq; (try simp only [lnS] at hq); (try rewrite [List.length_map])) | refine sJ ?_ | refine .intro _ (.intro rfl ?_) | (refine .intro (show (_ : Nat) < List.length _ from by first | omega | (simp only [lnS]; omega) | simp) ?_) | fail | refine draw_rule hty (by kernel_rfl) (by kernel_rfl) ?_ | ((first | refine brB_dec ?_ ?_ | refine brB_ndec ?_ ?_) <;> intro hb <;> (first | contradiction | ((try simp only [lnS] at hb); try (exfalso; omega)))) | (refine brB_split ?_ ?_ <;> intro hb <;> (first | contradiction | exact bT hb (by assumption) | exact bF hb (by assumption) | skip))) <;> (conv => whnf)))
  refine loop_eq hty (fun y : Nat × Hp => ([(1, .yld lid), (12, .d (.sl 5 (c.parts.map cnR))), (13, .d (.int .i64 c.parts.length)), (14, .d (.int .i64 y.1))], y.2)) (fun y => y.1 ≤ c.parts.length ∧ Cont (done ++ c :: nodesL (c.parts.take y.1)) y.2) (fun y => c.parts.length - y.1) (0, hp2) ⟨by omega, by simpa [nodesL] using hC2⟩ (by repeat' (first | exact trivial | exact rfl | (rw [List.length_map]; exact rfl) | refine And.intro ?_ ?_)) rfl ?_
  rintro ⟨j, hp3⟩ ⟨hj, hC3⟩
  dsimp only at hj hC3
  have hh3 := R.big _ _ hC3
  ((conv => whnf); repeat ((first | (intro hq; try simp only [lnS] at hq) | refine sI ?_ | refine .intro _ (.intro rfl ?_)); (conv => whnf)))
  refine brB_dec (fun h1 => ?_) (fun h1 => ?_)
  ·have hjl : j < c.parts.length := by omega
   have hrow : (c.parts.map cnR)[(j : Int).toNat]? = some (cnR c.parts[j]) := rowC_at hjl
   have hrow' := hrow
   rw [cnR_eq] at hrow'
   ((conv => whnf); repeat' ((first | (intro hq; (try simp only [lnS] at hq); (try rewrite [List.length_map])) | refine sJ ?_ | refine .intro _ (.intro rfl ?_) | (refine .intro (show (_ : Nat) < List.length _ from by first | omega | (simp only [lnS]; omega) | simp) ?_) | (refine And.intro ⟨bigP hp1 hf _ (Nat.le_of_ble_eq_true rfl), hlidF _ (by with_unfolding_all first | exact .inl rfl | exact .inr (.inl rfl) | exact .inr (.inr rfl)) _ (Nat.le_of_ble_eq_true rfl), hh3 _ (Nat.le_of_ble_eq_true rfl)⟩ ?_) | (refine And.intro (hh3 _ (Nat.le_of_ble_eq_true rfl)) ?_) | (refine ⟨_, hrow', ?_⟩) | refine draw_rule hty (by kernel_rfl) (by kernel_rfl) ?_ | ((first | refine brB_dec ?_ ?_ | refine brB_ndec ?_ ?_) <;> intro hb <;> (first | contradiction | ((try simp only [lnS] at hb); try (exfalso; omega)))) | (refine brB_split ?_ ?_ <;> intro hb <;> (first | contradiction | exact bT hb (by assumption) | exact bF hb (by assumption) | skip))) <;> (conv => whnf)))
   have ih' := @ih c.parts[j] (List.getElem_mem hjl) (done ++ c :: nodesL (c.parts.take j)) hp3
   rw [cnR_eq] at ih'
   refine ih' hC3 ⟨nodesL (c.parts.drop (j + 1)) ++ rest, by
    rw [← hA]
    have e : nodesL c.parts = nodesL (c.parts.take j) ++ (nodes c.parts[j] ++ nodesL (c.parts.drop (j + 1))) := by
     conv => lhs; rw [← List.take_append_drop j c.parts, nodesL_append, List.drop_eq_getElem_cons hjl, nodesL]
    rw [e]; simp⟩ (bigP hp1 hf) (hlidF _ (by with_unfolding_all first | exact .inl rfl | exact .inr (.inl rfl) | exact .inr (.inr rfl))) (fun hp4 hC4 => ?_) (fun hp4 hS4 => ?_)
   ·((conv => whnf); repeat' ((first | (intro hq; (try simp only [lnS] at hq); (try rewrite [List.length_map])) | refine sJ ?_ | refine .intro _ (.intro rfl ?_) | (refine .intro (show (_ : Nat) < List.length _ from by first | omega | (simp only [lnS]; omega) | simp) ?_) | fail | refine draw_rule hty (by kernel_rfl) (by kernel_rfl) ?_ | ((first | refine brB_dec ?_ ?_ | refine brB_ndec ?_ ?_) <;> intro hb <;> (first | contradiction | ((try simp only [lnS] at hb); try (exfalso; omega)))) | (refine brB_split ?_ ?_ <;> intro hb <;> (first | contradiction | exact bT hb (by assumption) | exact bF hb (by assumption) | skip))) <;> (conv => whnf)))
    refine ⟨(j + 1, hp4), ⟨by dsimp only; omega, ?_⟩, by dsimp only; omega, by repeat' (first | exact trivial | exact rfl | refine And.intro ?_ ?_), rfl⟩
    dsimp only
    rw [nodesL_take hjl]
    simpa using hC4
   ·((conv => whnf); repeat' ((first | (intro hq; (try simp only [lnS] at hq); (try rewrite [List.length_map])) | refine sJ ?_ | refine .intro _ (.intro rfl ?_) | (refine .intro (show (_ : Nat) < List.length _ from by first | omega | (simp only [lnS]; omega) | simp) ?_) | fail | refine draw_rule hty (by kernel_rfl) (by kernel_rfl) ?_ | ((first | refine brB_dec ?_ ?_ | refine brB_ndec ?_ ?_) <;> intro hb <;> (first | contradiction | ((try simp only [lnS] at hb); try (exfalso; omega)))) | (refine brB_split ?_ ?_ <;> intro hb <;> (first | contradiction | exact bT hb (by assumption) | exact bF hb (by assumption) | skip))) <;> (conv => whnf)))
    exact hk2 _ hS4
  ·have hjl : j = c.parts.length := by dsimp only at h1; omega
   subst hjl
   rw [List.take_length, ← nodes_eq] at hC3
   ((conv => whnf); repeat' ((first | (intro hq; (try simp only [lnS] at hq); (try rewrite [List.length_map])) | refine sJ ?_ | refine .intro _ (.intro rfl ?_) | (refine .intro (show (_ : Nat) < List.length _ from by first | omega | (simp only [lnS]; omega) | simp) ?_) | fail | refine draw_rule hty (by kernel_rfl) (by kernel_rfl) ?_ | ((first | refine brB_dec ?_ ?_ | refine brB_ndec ?_ ?_) <;> intro hb <;> (first | contradiction | ((try simp only [lnS] at hb); try (exfalso; omega)))) | (refine brB_split ?_ ?_ <;> intro hb <;> (first | contradiction | exact bT hb (by assumption) | exact bF hb (by assumption) | skip))) <;> (conv => whnf)))
   exact hk1 _ hC3
 ·((conv => whnf); repeat' ((first | (intro hq; (try simp only [lnS] at hq); (try rewrite [List.length_map])) | refine sJ ?_ | refine .intro _ (.intro rfl ?_) | (refine .intro (show (_ : Nat) < List.length _ from by first | omega | (simp only [lnS]; omega) | simp) ?_) | fail | refine draw_rule hty (by kernel_rfl) (by kernel_rfl) ?_ | ((first | refine brB_dec ?_ ?_ | refine brB_ndec ?_ ?_) <;> intro hb <;> (first | contradiction | ((try simp only [lnS] at hb); try (exfalso; omega)))) | (refine brB_split ?_ ?_ <;> intro hb <;> (first | contradiction | exact bT hb (by assumption) | exact bF hb (by assumption) | skip))) <;> (conv => whnf)))
  exact hk2 _ hS2
theorem walk_spec (c : Cn) : Tri Tryz.prog 145 [.d (.agg (cnR c))] [] (fun r => r = .fn 177 [] [.ea 5 [cnR c] 0 0]) := by
 rw [cnR_eq]
 refine tri_of_bodyF false [1] hty Tryz.func145 rfl (kp [0, 1, 2]) [] _ _ _ (by simp [Tryz.f145]) (by simp) ?_
 ((conv => whnf); repeat' ((first | (intro hq; (try simp only [lnS] at hq); (try rewrite [List.length_map])) | refine sJ ?_ | refine .intro _ (.intro rfl ?_) | (refine .intro (show (_ : Nat) < List.length _ from by first | omega | (simp only [lnS]; omega) | simp) ?_) | fail | refine draw_rule hty (by kernel_rfl) (by kernel_rfl) ?_ | ((first | refine brB_dec ?_ ?_ | refine brB_ndec ?_ ?_) <;> intro hb <;> (first | contradiction | ((try simp only [lnS] at hb); try (exfalso; omega)))) | (refine brB_split ?_ ?_ <;> intro hb <;> (first | contradiction | exact bT hb (by assumption) | exact bF hb (by assumption) | skip))) <;> (conv => whnf)))
 rfl
theorem walk1_spec {lid : Nat} (hlid : lid < 100) {Cont : List Cn → Hp → Prop} {Stop : Hp → Prop} (c : Cn) (R : Rounds (nodes c) lid Cont Stop) {hp : Hp} {pin : List Nat} {fr : Fr} {K : SV → Hp → Prop} (hC : Cont [] hp) (hp1 : ∀ k, 100 ≤ k → k ∉ pin) (hf : ∀ k, 100 ≤ k → k ∉ idsF fr)
  (hk1 : ∀ hp', Cont (nodes c) hp' → K (oneOf []) hp') (hk2 : ∀ hp', Stop hp' → K (oneOf []) hp') : CallVC Tryz.prog pin fr hp 177 [.yld lid, .ea 5 [cnR c] 0 0] K := by
 have hcR := cnR_eq c
 have vs := fun pin fr K => @visit_spec (nodes c) lid hlid Cont Stop R c [] hp pin fr K hC ⟨[], by simp⟩
 rw [hcR]
 simp only [hcR] at vs
 refine call_inlineF false [] hty Tryz.func177 rfl (kp [0, 1]) 200 (by simp [Tryz.f177]) ?_
 ((conv => whnf); repeat' ((first | (intro hq; (try simp only [lnS] at hq); (try rewrite [List.length_map])) | refine sJ ?_ | refine .intro _ (.intro rfl ?_) | (refine .intro (show (_ : Nat) < List.length _ from by first | omega | (simp only [lnS]; omega) | simp) ?_) | fail | refine draw_rule hty (by kernel_rfl) (by kernel_rfl) ?_ | ((first | refine brB_dec ?_ ?_ | refine brB_ndec ?_ ?_) <;> intro hb <;> (first | contradiction | ((try simp only [lnS] at hb); try (exfalso; omega)))) | (refine brB_split ?_ ?_ <;> intro hb <;> (first | contradiction | exact bT hb (by assumption) | exact bF hb (by assumption) | skip))) <;> (conv => whnf)))
 refine vs _ _ _ (bigP hp1 hf) (lidF hlid _ (by with_unfolding_all first | exact .inl rfl | exact .inr (.inl rfl) | exact .inr (.inr rfl))) (fun hp2 hC2 => ?_) (fun hp2 hS2 => ?_)
 ·((conv => whnf); repeat' ((first | (intro hq; (try simp only [lnS] at hq); (try rewrite [List.length_map])) | refine sJ ?_ | refine .intro _ (.intro rfl ?_) | (refine .intro (show (_ : Nat) < List.length _ from by first | omega | (simp only [lnS]; omega) | simp) ?_) | fail | refine draw_rule hty (by kernel_rfl) (by kernel_rfl) ?_ | ((first | refine brB_dec ?_ ?_ | refine brB_ndec ?_ ?_) <;> intro hb <;> (first | contradiction | ((try simp only [lnS] at hb); try (exfalso; omega)))) | (refine brB_split ?_ ?_ <;> intro hb <;> (first | contradiction | exact bT hb (by assumption) | exact bF hb (by assumption) | skip))) <;> (conv => whnf)))
  exact hk1 _ (by simpa using hC2)
 ·((conv => whnf); repeat' ((first | (intro hq; (try simp only [lnS] at hq); (try rewrite [List.length_map])) | refine sJ ?_ | refine .intro _ (.intro rfl ?_) | (refine .intro (show (_ : Nat) < List.length _ from by first | omega | (simp only [lnS]; omega) | simp) ?_) | fail | refine draw_rule hty (by kernel_rfl) (by kernel_rfl) ?_ | ((first | refine brB_dec ?_ ?_ | refine brB_ndec ?_ ?_) <;> intro hb <;> (first | contradiction | ((try simp only [lnS] at hb); try (exfalso; omega)))) | (refine brB_split ?_ ?_ <;> intro hb <;> (first | contradiction | exact bT hb (by assumption) | exact bF hb (by assumption) | skip))) <;> (conv => whnf)))
  exact hk2 _ hS2
theorem rounds_spec {lid : Nat} (hlid : lid < 100) {L : LoopI} {σ : Type} (St : σ → Hp) (Inv : List Cn → σ → Prop) (Bad : σ → Prop) (c : Cn) (s0 : σ) (h0 : Inv [] s0) {pin : List Nat} {fr : Fr} {K : SV → Hp → Prop} (hL : L.fr.all (fun p => p.2.ids.isEmpty || p.2.ids.all fun k => decide (k < 100)) = true) (hb : ∀ s, ∀ k, 100 ≤ k → k ∉ idsH (St s)) (hp1 : ∀ k, 100 ≤ k → k ∉ pin) (hf : ∀ k, 100 ≤ k → k ∉ idsF fr)
  (step : ∀ (done : List Cn) (x : Cn) (s : σ) (pin : List Nat) (fr : Fr) (K : SV → Hp → Prop), Inv done s → (∃ rest, done ++ x :: rest = nodes c) → (∀ k, 100 ≤ k → k ∉ pin) → (∀ k, 100 ≤ k → k ∉ idsF fr) →
   (∀ s', Inv (done ++ [x]) s' → K (.d (.bool true)) ((lid, .loop L .ready) :: St s')) → (∀ s', Bad s' → K (.d (.bool false)) ((lid, .loop L (.done .ret)) :: St s')) → YVC Tryz.prog pin fr ((lid, .loop L .ready) :: St s) lid [.d (.agg (cnR x))] K)
  (hk1 : ∀ s, Inv (nodes c) s → K (oneOf []) ((lid, .loop L .ready) :: St s)) (hk2 : ∀ s, Bad s → K (oneOf []) ((lid, .loop L (.done .ret)) :: St s)) :
  CallVC Tryz.prog pin fr ((lid, .loop L .ready) :: St s0) 177 [.yld lid, .ea 5 [cnR c] 0 0] K := by
 refine walk1_spec hlid (Cont := fun done hp => ∃ s, hp = (lid, .loop L .ready) :: St s ∧ Inv done s) (Stop := fun hp => ∃ s, hp = (lid, .loop L (.done .ret)) :: St s ∧ Bad s) c ⟨?_, ?_⟩ ⟨s0, rfl, h0⟩ hp1 hf ?_ ?_
 ·rintro done hp ⟨s, rfl, _⟩ k hk hm
  simp only [idsH, List.flatMap_cons, List.mem_append, List.mem_cons] at hm
  rcases hm with (hm | hm) | hm
  ·omega
  ·simp only [HObj.ids, idsF, List.mem_flatMap] at hm
   obtain ⟨p, h1, h2⟩ := hm
   have := List.all_eq_true.1 hL p h1
   simp only [Bool.or_eq_true] at this
   rcases this with h | h
   ·rw [List.isEmpty_iff.1 h] at h2; simp at h2
   ·have := List.all_eq_true.1 h k h2
    simp at this; omega
  ·exact hb s k hk hm
 ·rintro done x hp pin fr K ⟨s, rfl, hI⟩ hA h1 h2 h3 h4
  exact step done x s pin fr K hI hA h1 h2 (fun s' hI' => h3 _ ⟨s', rfl, hI'⟩) (fun s' hB => h4 _ ⟨s', rfl, hB⟩)
 ·rintro hp ⟨s, rfl, hI⟩
  exact hk1 s hI
 ·rintro hp ⟨s, rfl, hB⟩
  exact hk2 s hB
end Go.Proofs.YtnemengadjimcaaGreatDoor
