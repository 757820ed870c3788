/-
  The library's stable sort at rows that may be written: merging in place.
  Conditions: none.
-/
import Derived.Test.YtnemengadjimcaaGreatDoorMQs
set_option linter.unnecessarySimpa false
set_option linter.unusedSectionVars false
set_option linter.unusedSimpArgs false
set_option linter.unusedVariables false
set_option maxHeartbeats 16000000
namespace Go.Proofs.YtnemengadjimcaaGreatDoor
open Go.Proofs
set_option maxRecDepth 10000
attribute [local irreducible] SemVC CallVC Tri Stuck YVC GenP GenVC
theorem half (i j : Nat) : Int.fdiv (IntKind.u64.wrap ((i : Int) + (j : Int))) (2 ^ min (Int.toNat 1) IntKind.u64.bits) = ((i + j) / 2 : Nat) ∨ 18446744073709551616 ≤ i + j := by
 by_cases h : i + j < 18446744073709551616
 ·left
  have e : IntKind.u64.wrap ((i : Int) + (j : Int)) = ((i + j : Nat) : Int) := by
   rw [IntKind.wrap_u64]; omega
  rw [e]
  show Int.fdiv ((i + j : Nat) : Int) 2 = _
  rw [Int.fdiv_eq_ediv_of_nonneg _ (by omega)]
  omega
 ·right; omega
theorem half64 {i j : Nat} (h : i + j ≤ 4000000) : IntKind.i64.wrap (Int.fdiv (IntKind.u64.wrap ((i : Int) + (j : Int))) (2 ^ min (Int.toNat 1) IntKind.u64.bits)) = (((i + j) / 2 : Nat) : Int) := by
 rw [(half i j).resolve_right (by omega), IntKind.wrap_i64]; omega
theorem row_in {Pr A R L : List SAx} (hL : L = Pr ++ (A ++ R)) {k : Nat} {x : SAx} (hx : A[k]? = some x) {i : Nat} (hi : i = Pr.length + k) : (L.map saR)[i]? = some (saR x) := by
 subst hL; subst hi
 rw [List.getElem?_map, List.getElem?_append_right (by omega), show Pr.length + k - Pr.length = k by omega, List.getElem?_append_left (List.getElem?_eq_some_iff.1 hx).1, hx]; rfl
theorem merge_left {g : FuncId} {cf : SAx → SAx → Int} (G : CmpG g cf) (Pr : List SAx) (x : SAx) (B Q : List SAx) (hB : Srt cf B) {L : List SAx} (hL : L = Pr ++ (x :: (B ++ Q))) (hl : L.length ≤ 1000000) {n : Nat} {a m b : Int} (hn : n = L.length) (ha : a = (Pr.length : Nat)) (hm : m = (Pr.length + 1 : Nat)) (hb : b = (Pr.length + 1 + B.length : Nat)) (cap : Nat) (rest : Hp) {pin : List Nat} {fr : Fr} {K : SV → Hp → Prop}
  (fin : ∀ S, S.Perm (x :: B) → Srt cf S → K (oneOf []) ((70, .mrow 49 16 cap ((Pr ++ (S ++ Q)).map saR)) :: rest)) :
  CallVC Tryz.prog pin fr ((70, .mrow 49 16 cap (L.map saR)) :: rest) 157 [.mw 70 16 n, .d (.int .i64 a), .d (.int .i64 m), .d (.int .i64 b), .fn g [] []] K := by
 subst hn; subst ha; subst hb; subst hm
 have hlen : L.length = Pr.length + (1 + (B.length + Q.length)) := by rw [hL]; simp only [List.length_append, List.length_cons]; omega
 have hrx : (L.map saR)[((Pr.length : Nat) : Int).toNat]? = some (saR x) := rows_mid hL (by omega)
 have hMl : (L.map saR).length = L.length := List.length_map ..
 have hrB : ∀ (k : Nat) (y : SAx), B[k]? = some y → ∀ i : Nat, i = Pr.length + 1 + k → (L.map saR)[((i : Nat) : Int).toNat]? = some (saR y) := fun k y hy i hi =>
  row_in (Pr := Pr ++ [x]) (A := B) (R := Q) (by rw [hL]; simp) hy (by rw [Int.toNat_natCast, hi]; simp)
 generalize hN : L.length = N at *
 refine call_inline hty Tryz.func157 rfl (kp [0, 1, 2, 3, 4, 10, 11, 12, 13, 14, 15, 16, 17, 18, 19, 20, 21, 22, 23, 24, 28, 33, 50, 58, 80, 85, 103, 110, 140, 151, 171, 185, 199, 213]) 500 (by simp [Tryz.f157]) ?_
 ((conv => whnf); repeat ((first | (intro hq; try simp only [lnS] at hq) | refine sI ?_ | refine .intro _ (.intro rfl ?_)); (conv => whnf)))
 refine brB_dec (fun h1 => ?_) (fun h1 => ?_)
 ·((conv => whnf); repeat ((first | (intro hq; try simp only [lnS] at hq) | refine sI ?_ | refine .intro _ (.intro rfl ?_)); (conv => whnf)))
  refine loop_eq hty (fun y : Nat × Nat => ([(0, .mw 70 16 N), (1, .d (.int .i64 (Pr.length : Nat))), (2, .d (.int .i64 (Pr.length + 1 : Nat))), (3, .d (.int .i64 (Pr.length + 1 + B.length : Nat))), (4, .fn g [] []), (10, .d (.int .i64 (y.1 : Nat))), (11, .d (.int .i64 (y.2 : Nat)))], (70, .mrow 49 16 cap (L.map saR)) :: rest))
   (fun y => (Pr.length + 1 ≤ y.1 ∧ y.1 ≤ y.2 ∧ y.2 ≤ Pr.length + 1 + B.length) ∧ (∀ z, Pr.length + 1 < y.1 → B[y.1 - 1 - (Pr.length + 1)]? = some z → cf z x < 0) ∧ (∀ z, B[y.2 - (Pr.length + 1)]? = some z → ¬ cf z x < 0)) (fun y => y.2 - y.1) (Pr.length + 1, Pr.length + 1 + B.length) ⟨by dsimp only; omega, fun z h => absurd h (by dsimp only; omega), fun z h => by
    dsimp only at h
    rw [show Pr.length + 1 + B.length - (Pr.length + 1) = B.length by omega, List.getElem?_eq_none (Nat.le_refl _)] at h
    cases h⟩ (by repeat' (first | exact trivial | exact rfl | exact wkInt (by (try dsimp only); omega) | refine And.intro ?_ ?_)) rfl ?_
  rintro ⟨i, j⟩ ⟨⟨q1, q2, q3⟩, q4, q5⟩
  dsimp only at q1 q2 q3 q4 q5 ⊢
  have hh2 := half64 (i := i) (j := j) (by omega)
  ((conv => whnf); repeat ((first | (intro hq; try simp only [lnS] at hq) | refine sI ?_ | refine .intro _ (.intro rfl ?_)); (conv => whnf)))
  refine brB_dec (fun hij => ?_) (fun hij => ?_)
  ·obtain ⟨h, hh⟩ : ∃ h, h = (i + j) / 2 := ⟨_, rfl⟩
   have hb1 : i ≤ h ∧ h < j := by omega
   obtain ⟨z, hz⟩ : ∃ z, B[h - (Pr.length + 1)]? = some z := ⟨_, List.getElem?_eq_getElem (by omega)⟩
   have hrz := hrB _ z hz h (by omega)
   have htr := G.tri z x
   generalize hc : cf z x = c at htr
   ((conv => whnf); repeat ((first | (intro hq; try simp only [lnS] at hq) | refine sI ?_ | refine .intro _ (.intro rfl ?_)); (conv => whnf)))
   rw [hh2, ← hh]
   ((conv => whnf); repeat ((first | (intro hq; try simp only [lnS] at hq) | refine sI ?_ | refine .intro _ (.intro rfl ?_)); (conv => whnf)))
   refine draw_rule hty (by kernel_rfl) (by kernel_rfl) ?_
   ((conv => whnf); repeat ((first | (refine And.intro hMl.symm ?_) | (refine ⟨_, hrx, ?_⟩) | (refine ⟨_, hrz, ?_⟩) | (refine ⟨G.call, .d (.int .i64 _), _, [], rfl, trivial, htr, ?_⟩) | (intro hq; try simp only [lnS] at hq) | refine sI ?_ | refine .intro _ (.intro rfl ?_)); (conv => whnf)))
   refine brB_dec (fun h3 => ?_) (fun h3 => ?_)
   ·((conv => whnf); repeat' ((first | (intro hq; (try simp only [lnS] at hq); (try rewrite [List.length_map])) | refine sJ ?_ | refine .intro _ (.intro rfl ?_) | (refine .intro (show (_ : Nat) < List.length _ from by first | omega | (simp only [lnS]; omega) | simp) ?_) | fail | refine draw_rule hty (by kernel_rfl) (by kernel_rfl) ?_ | ((first | refine brB_dec ?_ ?_ | refine brB_ndec ?_ ?_) <;> intro hb <;> (first | contradiction | ((try simp only [lnS] at hb); try (exfalso; omega)))) | (refine brB_split ?_ ?_ <;> intro hb <;> (first | contradiction | exact bT hb (by assumption) | exact bF hb (by assumption) | skip))) <;> (conv => whnf)))
    refine ⟨(h + 1, j), ⟨by dsimp only; omega, fun w _ hw => ?_, q5⟩, by dsimp only; omega, (by repeat' (first | exact trivial | exact rfl | exact wkInt (by (try dsimp only); omega) | refine And.intro ?_ ?_)), rfl⟩
    dsimp only at hw
    rw [show h + 1 - 1 - (Pr.length + 1) = h - (Pr.length + 1) by omega, hz] at hw
    injection hw with hw
    subst hw
    rw [hc]; exact h3
   ·((conv => whnf); repeat' ((first | (intro hq; (try simp only [lnS] at hq); (try rewrite [List.length_map])) | refine sJ ?_ | refine .intro _ (.intro rfl ?_) | (refine .intro (show (_ : Nat) < List.length _ from by first | omega | (simp only [lnS]; omega) | simp) ?_) | fail | refine draw_rule hty (by kernel_rfl) (by kernel_rfl) ?_ | ((first | refine brB_dec ?_ ?_ | refine brB_ndec ?_ ?_) <;> intro hb <;> (first | contradiction | ((try simp only [lnS] at hb); try (exfalso; omega)))) | (refine brB_split ?_ ?_ <;> intro hb <;> (first | contradiction | exact bT hb (by assumption) | exact bF hb (by assumption) | skip))) <;> (conv => whnf)))
    refine ⟨(i, h), ⟨by dsimp only; omega, q4, fun w hw => ?_⟩, by dsimp only; omega, (by repeat' (first | exact trivial | exact rfl | exact wkInt (by (try dsimp only); omega) | refine And.intro ?_ ?_)), rfl⟩
    dsimp only at hw
    rw [hz] at hw
    injection hw with hw
    subst hw
    rw [hc]; exact h3
  ·obtain rfl : i = j := by omega
   obtain ⟨p, hp⟩ : ∃ p, p = i - (Pr.length + 1) := ⟨_, rfl⟩
   have hip : i = Pr.length + 1 + p := by omega
   subst hip
   clear hp
   have hpl : p ≤ B.length := by omega
   have hfin := fin (B.take p ++ x :: B.drop p) (List.perm_middle.trans (by rw [List.take_append_drop])) (by
    have hBB : Srt cf (B.take p ++ B.drop p) := by rw [List.take_append_drop]; exact hB
    obtain ⟨a1, a2, a3⟩ := Srt.app.1 hBB
    refine Srt.app.2 ⟨a1, List.pairwise_cons.2 ⟨fun y hy => ?_, a2⟩, fun u hu y hy => ?_⟩
    ·obtain ⟨k, hk, e⟩ := mem_drop_at hy
     obtain ⟨z, hz⟩ : ∃ z, B[p]? = some z := ⟨_, List.getElem?_eq_getElem (by have := (List.getElem?_eq_some_iff.1 e).1; omega)⟩
     exact G.ord.tr _ _ _ (q5 z (by rw [show Pr.length + 1 + p - (Pr.length + 1) = p by omega]; exact hz)) (hB.le_at G.ord hk hz e)
    ·have hux : ¬ cf x u < 0 := by
      obtain ⟨k, hk, e⟩ := mem_take_at hu
      obtain ⟨z, hz⟩ : ∃ z, B[p - 1]? = some z := ⟨_, List.getElem?_eq_getElem (by omega)⟩
      exact G.ord.tr _ _ _ (hB.le_at G.ord (show k ≤ p - 1 by omega) e hz) (G.ord.asym _ _ (q4 z (by omega) (by rw [show Pr.length + 1 + p - 1 - (Pr.length + 1) = p - 1 by omega]; exact hz)))
     rcases List.mem_cons.1 hy with rfl | hy
     ·exact hux
     ·exact a3 u hu y hy)
   clear fin q4 q5 hrx hrB hh2
   ((conv => whnf); repeat ((first | (intro hq; try simp only [lnS] at hq) | refine sI ?_ | refine .intro _ (.intro rfl ?_)); (conv => whnf)))
   refine loop_eq hty (fun t : Nat => ([(0, .mw 70 16 N), (1, .d (.int .i64 (Pr.length : Nat))), (4, .fn g [] []), (10, .d (.int .i64 (Pr.length + 1 + p : Nat))), (13, .d (.int .i64 (Pr.length + t : Nat)))], (70, .mrow 49 16 cap (((Pr ++ B.take t) ++ x :: (B.drop t ++ Q)).map saR)) :: rest)) (fun t => t ≤ p) (fun t => p - t) 0 (Nat.zero_le _) (by repeat' (first | exact trivial | exact rfl | exact wkInt (by (try dsimp only); omega) | refine And.intro ?_ ?_)) (by rw [hL]; simp) ?_
   intro t ht
   dsimp only
   ((conv => whnf); repeat ((first | (intro hq; try simp only [lnS] at hq) | refine sI ?_ | refine .intro _ (.intro rfl ?_)); (conv => whnf)))
   refine brB_dec (fun h2 => ?_) (fun h2 => ?_)
   ·have htB : t < B.length := by omega
    obtain ⟨y, hy⟩ : ∃ y, y = B[t] := ⟨_, rfl⟩
    have hdB : B.drop t = y :: B.drop (t + 1) := by rw [hy]; exact List.drop_eq_getElem_cons htB
    have htk : B.take (t + 1) = B.take t ++ [y] := by rw [hy]; exact List.take_succ_eq_append_getElem htB
    have hUl : (Pr ++ B.take t).length = Pr.length + t := by rw [List.length_append, List.length_take]; omega
    have hl1 : (Pr ++ B.take t) ++ x :: (B.drop t ++ Q) = (Pr ++ B.take t) ++ x :: ([] ++ y :: (B.drop (t + 1) ++ Q)) := by rw [hdB]; rfl
    have r1 : (((Pr ++ B.take t) ++ x :: (B.drop t ++ Q)).map saR)[((Pr.length + t : Nat) : Int).toNat]? = some (saR x) := rows_mid hl1 (by rw [hUl]; omega)
    have r2 : (((Pr ++ B.take t) ++ x :: (B.drop t ++ Q)).map saR)[(((Pr.length + t : Nat) : Int) + 1).toNat]? = some (saR y) := rows_mid (U := (Pr ++ B.take t) ++ [x]) (W := B.drop (t + 1) ++ Q) (by rw [hl1]; simp) (by rw [List.length_append, hUl]; simp; omega)
    have hsw : ∀ p q, p = ((Pr.length + t : Nat) : Int).toNat → q = (((Pr.length + t : Nat) : Int) + 1).toNat → ((((Pr ++ B.take t) ++ x :: (B.drop t ++ Q)).map saR).set p (saR y)).set q (saR x) = ((Pr ++ B.take (t + 1)) ++ x :: (B.drop (t + 1) ++ Q)).map saR := fun p q hp hq => by
     rw [map_swap (x := x) (y := y) (i := p) (j := q) hl1 (by rw [hUl]; omega) (by rw [hUl]; simp; omega), htk]
     simp
    have hML : (((Pr ++ B.take t) ++ x :: (B.drop t ++ Q)).map saR).length = N := by
     simp only [List.length_map, List.length_append, List.length_cons, List.length_take, List.length_drop]
     omega
    generalize List.map saR ((Pr ++ B.take t) ++ x :: (B.drop t ++ Q)) = M0 at r1 r2 hsw hML ⊢
    have r3 : (M0.set ((Pr.length + t : Nat) : Int).toNat (saR y))[(((Pr.length + t : Nat) : Int) + 1).toNat]? = some (saR y) := by
     rw [List.getElem?_set_ne (by omega)]; exact r2
    (conv => whnf)
    refine ord_rule hty [0, 1, 2, 3, 4, 5, 6, 7, 8, 9, 10, 11, 12, 13, 14, 15, 16, 17] (by kernel_rfl) (by kernel_rfl) ?_
    ((conv => whnf); repeat' ((first | (intro hq; (try simp only [lnS] at hq); (try rewrite [List.length_map])) | refine sJ ?_ | refine .intro _ (.intro rfl ?_) | (refine .intro (show (_ : Nat) < List.length _ from by first | omega | (simp only [lnS]; omega) | simp) ?_) | (refine And.intro hML.symm ?_) | (refine And.intro ((List.length_set ..).trans hML).symm ?_) | (refine ⟨_, r1, ?_⟩) | (refine ⟨_, r2, ?_⟩) | (refine ⟨_, r3, ?_⟩) | (refine And.intro (leafD_of rfl) ?_) | refine draw_rule hty (by kernel_rfl) (by kernel_rfl) ?_ | ((first | refine brB_dec ?_ ?_ | refine brB_ndec ?_ ?_) <;> intro hb <;> (first | contradiction | ((try simp only [lnS] at hb); try (exfalso; omega)))) | (refine brB_split ?_ ?_ <;> intro hb <;> (first | contradiction | exact bT hb (by assumption) | exact bF hb (by assumption) | skip))) <;> (conv => whnf)))
    refine ⟨t + 1, by dsimp only; omega, by dsimp only; omega, (by repeat' (first | exact trivial | exact rfl | exact wkInt (by (try dsimp only); omega) | refine And.intro ?_ ?_)), ?_⟩
    have := hsw _ _ rfl rfl
    show (70, HObj.mrow _ 16 cap ((M0.set ((Pr.length + t : Nat) : Int).toNat (saR y)).set (((Pr.length + t : Nat) : Int) + 1).toNat (saR x))) :: rest = _
    rw [this]
   ·have hte : t = p := by omega
    subst hte
    ((conv => whnf); repeat' ((first | (intro hq; (try simp only [lnS] at hq); (try rewrite [List.length_map])) | refine sJ ?_ | refine .intro _ (.intro rfl ?_) | (refine .intro (show (_ : Nat) < List.length _ from by first | omega | (simp only [lnS]; omega) | simp) ?_) | fail | refine draw_rule hty (by kernel_rfl) (by kernel_rfl) ?_ | ((first | refine brB_dec ?_ ?_ | refine brB_ndec ?_ ?_) <;> intro hb <;> (first | contradiction | ((try simp only [lnS] at hb); try (exfalso; omega)))) | (refine brB_split ?_ ?_ <;> intro hb <;> (first | contradiction | exact bT hb (by assumption) | exact bF hb (by assumption) | skip))) <;> (conv => whnf)))
    have e : (Pr ++ B.take t) ++ x :: (B.drop t ++ Q) = Pr ++ ((B.take t ++ x :: B.drop t) ++ Q) := by simp
    rw [e]
    exact hfin
 ·exfalso; omega
theorem merge_right {g : FuncId} {cf : SAx → SAx → Int} (G : CmpG g cf) (Pr A : List SAx) (y : SAx) (Q : List SAx) (hA : Srt cf A) (hA1 : A.length ≠ 1) {L : List SAx} (hL : L = Pr ++ (A ++ (y :: Q))) (hl : L.length ≤ 1000000) {n : Nat} {a m b : Int} (hn : n = L.length) (ha : a = (Pr.length : Nat)) (hm : m = (Pr.length + A.length : Nat)) (hb : b = (Pr.length + A.length + 1 : Nat)) (cap : Nat) (rest : Hp) {pin : List Nat} {fr : Fr} {K : SV → Hp → Prop}
  (fin : ∀ S, S.Perm (A ++ [y]) → Srt cf S → K (oneOf []) ((70, .mrow 49 16 cap ((Pr ++ (S ++ Q)).map saR)) :: rest)) :
  CallVC Tryz.prog pin fr ((70, .mrow 49 16 cap (L.map saR)) :: rest) 157 [.mw 70 16 n, .d (.int .i64 a), .d (.int .i64 m), .d (.int .i64 b), .fn g [] []] K := by
 subst hn; subst ha; subst hb; subst hm
 have hlen : L.length = Pr.length + (A.length + (1 + Q.length)) := by rw [hL]; simp only [List.length_append, List.length_cons]; omega
 have hry : (L.map saR)[((Pr.length + A.length : Nat) : Int).toNat]? = some (saR y) := rows_mid (U := Pr ++ A) (W := Q) (by rw [hL]; simp) (by rw [Int.toNat_natCast]; simp)
 have hMl : (L.map saR).length = L.length := List.length_map ..
 have hrA : ∀ (k : Nat) (x : SAx), A[k]? = some x → ∀ i : Nat, i = Pr.length + k → (L.map saR)[((i : Nat) : Int).toNat]? = some (saR x) := fun k x hx i hi =>
  row_in (Pr := Pr) (A := A) (R := y :: Q) hL hx (by rw [Int.toNat_natCast, hi])
 generalize hN : L.length = N at *
 refine call_inline hty Tryz.func157 rfl (kp [0, 1, 2, 3, 4, 10, 11, 12, 13, 14, 15, 16, 17, 18, 19, 20, 21, 22, 23, 24, 28, 33, 50, 58, 80, 85, 103, 110, 140, 151, 171, 185, 199, 213]) 500 (by simp [Tryz.f157]) ?_
 ((conv => whnf); repeat ((first | (intro hq; try simp only [lnS] at hq) | refine sI ?_ | refine .intro _ (.intro rfl ?_)); (conv => whnf)))
 refine brB_dec (fun h1 => ?_) (fun h1 => ?_)
 ·exfalso; omega
 ((conv => whnf); repeat ((first | (intro hq; try simp only [lnS] at hq) | refine sI ?_ | refine .intro _ (.intro rfl ?_)); (conv => whnf)))
 refine brB_dec (fun h1 => ?_) (fun h1 => ?_)
 ·((conv => whnf); repeat ((first | (intro hq; try simp only [lnS] at hq) | refine sI ?_ | refine .intro _ (.intro rfl ?_)); (conv => whnf)))
  refine loop_eq hty (fun z : Nat × Nat => ([(0, .mw 70 16 N), (1, .d (.int .i64 (Pr.length : Nat))), (2, .d (.int .i64 (Pr.length + A.length : Nat))), (3, .d (.int .i64 (Pr.length + A.length + 1 : Nat))), (4, .fn g [] []), (14, .d (.int .i64 (z.1 : Nat))), (15, .d (.int .i64 (z.2 : Nat)))], (70, .mrow 49 16 cap (L.map saR)) :: rest))
   (fun z => (Pr.length ≤ z.1 ∧ z.1 ≤ z.2 ∧ z.2 ≤ Pr.length + A.length) ∧ (∀ x, Pr.length < z.1 → A[z.1 - 1 - Pr.length]? = some x → ¬ cf y x < 0) ∧ (∀ x, A[z.2 - Pr.length]? = some x → cf y x < 0)) (fun z => z.2 - z.1) (Pr.length, Pr.length + A.length) ⟨by dsimp only; omega, fun z h => absurd h (by dsimp only; omega), fun z h => by
    dsimp only at h
    rw [show Pr.length + A.length - Pr.length = A.length by omega, List.getElem?_eq_none (Nat.le_refl _)] at h
    cases h⟩ (by repeat' (first | exact trivial | exact rfl | exact wkInt (by (try dsimp only); omega) | refine And.intro ?_ ?_)) rfl ?_
  rintro ⟨i, j⟩ ⟨⟨q1, q2, q3⟩, q4, q5⟩
  dsimp only at q1 q2 q3 q4 q5 ⊢
  have hh2 := half64 (i := i) (j := j) (by omega)
  ((conv => whnf); repeat ((first | (intro hq; try simp only [lnS] at hq) | refine sI ?_ | refine .intro _ (.intro rfl ?_)); (conv => whnf)))
  refine brB_dec (fun hij => ?_) (fun hij => ?_)
  ·obtain ⟨h, hh⟩ : ∃ h, h = (i + j) / 2 := ⟨_, rfl⟩
   have hb1 : i ≤ h ∧ h < j := by omega
   obtain ⟨z, hz⟩ : ∃ z, A[h - Pr.length]? = some z := ⟨_, List.getElem?_eq_getElem (by omega)⟩
   have hrz := hrA _ z hz h (by omega)
   have htr := G.tri y z
   generalize hc : cf y z = c at htr
   ((conv => whnf); repeat ((first | (intro hq; try simp only [lnS] at hq) | refine sI ?_ | refine .intro _ (.intro rfl ?_)); (conv => whnf)))
   rw [hh2, ← hh]
   ((conv => whnf); repeat ((first | (intro hq; try simp only [lnS] at hq) | refine sI ?_ | refine .intro _ (.intro rfl ?_)); (conv => whnf)))
   refine draw_rule hty (by kernel_rfl) (by kernel_rfl) ?_
   ((conv => whnf); repeat ((first | (refine And.intro hMl.symm ?_) | (refine ⟨_, hry, ?_⟩) | (refine ⟨_, hrz, ?_⟩) | (refine ⟨G.call, .d (.int .i64 _), _, [], rfl, trivial, htr, ?_⟩) | (intro hq; try simp only [lnS] at hq) | refine sI ?_ | refine .intro _ (.intro rfl ?_)); (conv => whnf)))
   refine brB_ndec (fun h3 => ?_) (fun h3 => ?_)
   ·((conv => whnf); repeat' ((first | (intro hq; (try simp only [lnS] at hq); (try rewrite [List.length_map])) | refine sJ ?_ | refine .intro _ (.intro rfl ?_) | (refine .intro (show (_ : Nat) < List.length _ from by first | omega | (simp only [lnS]; omega) | simp) ?_) | fail | refine draw_rule hty (by kernel_rfl) (by kernel_rfl) ?_ | ((first | refine brB_dec ?_ ?_ | refine brB_ndec ?_ ?_) <;> intro hb <;> (first | contradiction | ((try simp only [lnS] at hb); try (exfalso; omega)))) | (refine brB_split ?_ ?_ <;> intro hb <;> (first | contradiction | exact bT hb (by assumption) | exact bF hb (by assumption) | skip))) <;> (conv => whnf)))
    refine ⟨(h + 1, j), ⟨by dsimp only; omega, fun w _ hw => ?_, q5⟩, by dsimp only; omega, (by repeat' (first | exact trivial | exact rfl | exact wkInt (by (try dsimp only); omega) | refine And.intro ?_ ?_)), rfl⟩
    dsimp only at hw
    rw [show h + 1 - 1 - Pr.length = h - Pr.length by omega, hz] at hw
    injection hw with hw
    subst hw
    rw [hc]; exact h3
   ·((conv => whnf); repeat' ((first | (intro hq; (try simp only [lnS] at hq); (try rewrite [List.length_map])) | refine sJ ?_ | refine .intro _ (.intro rfl ?_) | (refine .intro (show (_ : Nat) < List.length _ from by first | omega | (simp only [lnS]; omega) | simp) ?_) | fail | refine draw_rule hty (by kernel_rfl) (by kernel_rfl) ?_ | ((first | refine brB_dec ?_ ?_ | refine brB_ndec ?_ ?_) <;> intro hb <;> (first | contradiction | ((try simp only [lnS] at hb); try (exfalso; omega)))) | (refine brB_split ?_ ?_ <;> intro hb <;> (first | contradiction | exact bT hb (by assumption) | exact bF hb (by assumption) | skip))) <;> (conv => whnf)))
    refine ⟨(i, h), ⟨by dsimp only; omega, q4, fun w hw => ?_⟩, by dsimp only; omega, (by repeat' (first | exact trivial | exact rfl | exact wkInt (by (try dsimp only); omega) | refine And.intro ?_ ?_)), rfl⟩
    dsimp only at hw
    rw [hz] at hw
    injection hw with hw
    subst hw
    rw [hc]; exact h3
  ·obtain rfl : i = j := by omega
   obtain ⟨p, hp⟩ : ∃ p, p = i - Pr.length := ⟨_, rfl⟩
   have hip : i = Pr.length + p := by omega
   subst hip
   clear hp
   have hpl : p ≤ A.length := by omega
   have hfin := fin (A.take p ++ y :: A.drop p) (by
    refine List.perm_middle.trans ?_
    rw [List.take_append_drop]
    exact (List.perm_append_singleton y A).symm) (by
    have hAA : Srt cf (A.take p ++ A.drop p) := by rw [List.take_append_drop]; exact hA
    obtain ⟨a1, a2, a3⟩ := Srt.app.1 hAA
    refine Srt.app.2 ⟨a1, List.pairwise_cons.2 ⟨fun u hu => ?_, a2⟩, fun u hu w hw => ?_⟩
    ·obtain ⟨k, hk, e⟩ := mem_drop_at hu
     obtain ⟨z, hz⟩ : ∃ z, A[p]? = some z := ⟨_, List.getElem?_eq_getElem (by have := (List.getElem?_eq_some_iff.1 e).1; omega)⟩
     exact G.ord.tr _ _ _ (G.ord.asym _ _ (q5 z (by rw [show Pr.length + p - Pr.length = p by omega]; exact hz))) (hA.le_at G.ord hk hz e)
    ·have hux : ¬ cf y u < 0 := by
      obtain ⟨k, hk, e⟩ := mem_take_at hu
      obtain ⟨z, hz⟩ : ∃ z, A[p - 1]? = some z := ⟨_, List.getElem?_eq_getElem (by omega)⟩
      exact G.ord.tr _ _ _ (hA.le_at G.ord (show k ≤ p - 1 by omega) e hz) (q4 z (by omega) (by rw [show Pr.length + p - 1 - Pr.length = p - 1 by omega]; exact hz))
     rcases List.mem_cons.1 hw with rfl | hw
     ·exact hux
     ·exact a3 u hu w hw)
   clear fin q4 q5 hry hrA hh2
   ((conv => whnf); repeat ((first | (intro hq; try simp only [lnS] at hq) | refine sI ?_ | refine .intro _ (.intro rfl ?_)); (conv => whnf)))
   refine loop_eq hty (fun t : Nat => ([(0, .mw 70 16 N), (1, .d (.int .i64 (Pr.length : Nat))), (4, .fn g [] []), (14, .d (.int .i64 (Pr.length + p : Nat))), (17, .d (.int .i64 (Pr.length + t : Nat)))], (70, .mrow 49 16 cap (((Pr ++ A.take t) ++ y :: (A.drop t ++ Q)).map saR)) :: rest)) (fun t => p ≤ t ∧ t ≤ A.length) (fun t => t) A.length ⟨hpl, Nat.le_refl _⟩ (by repeat' (first | exact trivial | exact rfl | exact wkInt (by (try dsimp only); omega) | refine And.intro ?_ ?_)) (by rw [hL, List.take_length, List.drop_length]; simp) ?_
   rintro t ⟨ht, htA⟩
   dsimp only
   ((conv => whnf); repeat ((first | (intro hq; try simp only [lnS] at hq) | refine sI ?_ | refine .intro _ (.intro rfl ?_)); (conv => whnf)))
   refine brB_dec (fun h2 => ?_) (fun h2 => ?_)
   ·have htB : t - 1 < A.length := by omega
    obtain ⟨t, rfl⟩ : ∃ t', t = t' + 1 := ⟨t - 1, by omega⟩
    rw [Nat.add_sub_cancel] at htB
    obtain ⟨x, hx⟩ : ∃ x, x = A[t] := ⟨_, rfl⟩
    have hdB : A.drop t = x :: A.drop (t + 1) := by rw [hx]; exact List.drop_eq_getElem_cons htB
    have htk : A.take (t + 1) = A.take t ++ [x] := by rw [hx]; exact List.take_succ_eq_append_getElem htB
    have hUl : (Pr ++ A.take t).length = Pr.length + t := by rw [List.length_append, List.length_take]; omega
    have hl1 : (Pr ++ A.take (t + 1)) ++ y :: (A.drop (t + 1) ++ Q) = (Pr ++ A.take t) ++ x :: ([] ++ y :: (A.drop (t + 1) ++ Q)) := by rw [htk]; simp
    have r1 : (((Pr ++ A.take (t + 1)) ++ y :: (A.drop (t + 1) ++ Q)).map saR)[((Pr.length + (t + 1) : Nat) : Int).toNat]? = some (saR y) := rows_mid (U := Pr ++ A.take (t + 1)) (W := A.drop (t + 1) ++ Q) rfl (by rw [List.length_append, List.length_take]; omega)
    have r2 : (((Pr ++ A.take (t + 1)) ++ y :: (A.drop (t + 1) ++ Q)).map saR)[(((Pr.length + (t + 1) : Nat) : Int) - 1).toNat]? = some (saR x) := rows_mid hl1 (by rw [hUl]; omega)
    have hsw : ∀ p q, p = ((Pr.length + (t + 1) : Nat) : Int).toNat → q = (((Pr.length + (t + 1) : Nat) : Int) - 1).toNat → ((((Pr ++ A.take (t + 1)) ++ y :: (A.drop (t + 1) ++ Q)).map saR).set p (saR x)).set q (saR y) = ((Pr ++ A.take t) ++ y :: (A.drop t ++ Q)).map saR := fun p q hp hq => by
     rw [map_swapB (x := x) (y := y) (i := q) (j := p) hl1 (by rw [hUl]; omega) (by rw [hUl]; simp; omega), hdB]
     rfl
    have hML : (((Pr ++ A.take (t + 1)) ++ y :: (A.drop (t + 1) ++ Q)).map saR).length = N := by
     simp only [List.length_map, List.length_append, List.length_cons, List.length_take, List.length_drop]
     omega
    generalize List.map saR ((Pr ++ A.take (t + 1)) ++ y :: (A.drop (t + 1) ++ Q)) = M0 at r1 r2 hsw hML ⊢
    have r3 : (M0.set ((Pr.length + (t + 1) : Nat) : Int).toNat (saR x))[(((Pr.length + (t + 1) : Nat) : Int) - 1).toNat]? = some (saR x) := by
     rw [List.getElem?_set_ne (by omega)]; exact r2
    (conv => whnf)
    refine ord_rule hty [0, 1, 2, 3, 4, 5, 6, 7, 8, 9, 10, 11, 12, 13, 14, 15, 16, 17] (by kernel_rfl) (by kernel_rfl) ?_
    ((conv => whnf); repeat' ((first | (intro hq; (try simp only [lnS] at hq); (try rewrite [List.length_map])) | refine sJ ?_ | refine .intro _ (.intro rfl ?_) | (refine .intro (show (_ : Nat) < List.length _ from by first | omega | (simp only [lnS]; omega) | simp) ?_) | (refine And.intro hML.symm ?_) | (refine And.intro ((List.length_set ..).trans hML).symm ?_) | (refine ⟨_, r1, ?_⟩) | (refine ⟨_, r2, ?_⟩) | (refine ⟨_, r3, ?_⟩) | (refine And.intro (leafD_of rfl) ?_) | refine draw_rule hty (by kernel_rfl) (by kernel_rfl) ?_ | ((first | refine brB_dec ?_ ?_ | refine brB_ndec ?_ ?_) <;> intro hb <;> (first | contradiction | ((try simp only [lnS] at hb); try (exfalso; omega)))) | (refine brB_split ?_ ?_ <;> intro hb <;> (first | contradiction | exact bT hb (by assumption) | exact bF hb (by assumption) | skip))) <;> (conv => whnf)))
    refine ⟨t, by dsimp only; omega, by dsimp only; omega, (by repeat' (first | exact trivial | exact rfl | exact wkInt (by (try dsimp only); omega) | refine And.intro ?_ ?_)), ?_⟩
    have := hsw _ _ rfl rfl
    show (70, HObj.mrow _ 16 cap ((M0.set ((Pr.length + (t + 1) : Nat) : Int).toNat (saR x)).set (((Pr.length + (t + 1) : Nat) : Int) - 1).toNat (saR y))) :: rest = _
    rw [this]
   ·have hte : t = p := by omega
    subst hte
    ((conv => whnf); repeat' ((first | (intro hq; (try simp only [lnS] at hq); (try rewrite [List.length_map])) | refine sJ ?_ | refine .intro _ (.intro rfl ?_) | (refine .intro (show (_ : Nat) < List.length _ from by first | omega | (simp only [lnS]; omega) | simp) ?_) | fail | refine draw_rule hty (by kernel_rfl) (by kernel_rfl) ?_ | ((first | refine brB_dec ?_ ?_ | refine brB_ndec ?_ ?_) <;> intro hb <;> (first | contradiction | ((try simp only [lnS] at hb); try (exfalso; omega)))) | (refine brB_split ?_ ?_ <;> intro hb <;> (first | contradiction | exact bT hb (by assumption) | exact bF hb (by assumption) | skip))) <;> (conv => whnf)))
    have e : (Pr ++ A.take t) ++ y :: (A.drop t ++ Q) = Pr ++ ((A.take t ++ y :: A.drop t) ++ Q) := by simp
    rw [e]
    exact hfin
 ·exfalso; omega
end Go.Proofs.YtnemengadjimcaaGreatDoor
