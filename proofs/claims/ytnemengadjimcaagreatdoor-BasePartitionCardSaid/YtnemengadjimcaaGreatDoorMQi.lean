/-
  Layer 6: the search for a circle.
  Conditions: none.
-/
import Derived.Test.YtnemengadjimcaaGreatDoorMQr
set_option linter.unnecessarySimpa false
set_option linter.unusedSectionVars false
set_option linter.unusedSimpArgs false
set_option linter.unusedVariables false
set_option maxHeartbeats 32000000
namespace Go.Proofs.YtnemengadjimcaaGreatDoor
open Go.Proofs
set_option maxRecDepth 10000
attribute [local irreducible] SemVC CallVC Tri Stuck YVC GenP GenVC
def wayR (w : Way) : List D := [.int .i64 w.role, .bool w.strict, .int .i64 w.before, .int .i64 w.many]
def seR (p : Bool × Bool) : List D := [.bool p.1, .bool p.2]
def natR (n : Nat) : List D := numR n
abbrev graR (R : List Str) (G : Adj) : D := .agg [strS R, .sl 1 (G.map adjR)]
structure CirP (G : Adj) (n start most : Nat) (r : SV) : Prop where
 ex : (r = .d .nil ∧ ∀ L w t, CW (EG G) L w t → w 0 = start → ¬ L < most) ∨ ∃ L : List Nat, L ≠ [] ∧ r = .d (.sl 1 (L.map natR)) ∧ (∀ i ∈ L, i < n) ∧ L.length ≤ 1000000000 ∧ Circ (EG G)
theorem wayR_at {W : List Way} {i : Nat} (h : i < W.length) : (W.map wayR)[((i : Nat) : Int).toNat]? = some (wayR W[i]) := by
 rw [Int.toNat_natCast, List.getElem?_map, List.getElem?_eq_getElem h]; rfl
theorem adjR_at {G : Adj} {i : Nat} (h : i < G.length) : (G.map adjR)[((i : Nat) : Int).toNat]? = some (adjR (adjAt G i)) := by
 rw [Int.toNat_natCast, List.getElem?_map, List.getElem?_eq_getElem h]
 unfold adjAt
 rw [List.getElem?_eq_getElem h]; rfl
theorem stpR_at {l : List (Nat × Bool)} {i : Nat} (h : i < l.length) : (l.map stpR)[((i : Nat) : Int).toNat]? = some (stpR l[i]) := by
 rw [Int.toNat_natCast, List.getElem?_map, List.getElem?_eq_getElem h]; rfl
theorem seR_at {S : List (Bool × Bool)} {i : Nat} (h : i < S.length) : (S.map seR)[((i : Nat) : Int).toNat]? = some (seR S[i]) := by
 rw [Int.toNat_natCast, List.getElem?_map, List.getElem?_eq_getElem h]; rfl
structure ManyOk (W : List Way) : Prop where
 le : ∀ (i : Nat) w, W[i]? = some w → w.many ≤ i
theorem circle_spec (R : List Str) (G : Adj) (start most : Nat) (hs : start < R.length) (hG : G.length = R.length) (hb : ∀ i, ∀ p ∈ adjAt G i, p.1 < R.length) (hl : R.length ≤ 400000) (hm : most ≤ 1000000000) :
  Tri Tryz.prog 90 [.d (graR R G), .d (.int .i64 start), .d (.int .i64 most)] [] (CirP G R.length start most) := by
 refine tri_of_bodyF false [3, 10, 12] hty Tryz.func90 rfl (kp [0, 1, 2, 3, 6, 7, 8, 9, 10, 12, 13, 14, 29, 40, 46, 47, 48, 49, 64, 66, 86, 93]) [] _ _ _ (by simp [Tryz.f90]) (by simp) ?_
 ((conv => whnf); repeat ((first | (intro hq; try simp only [lnS] at hq) | refine sI ?_ | refine .intro _ (.intro rfl ?_)); (conv => whnf)))
 refine sem_scope hty ?_
 ((conv => whnf); repeat ((first | (intro hq; try simp only [lnS] at hq) | refine sI ?_ | refine .intro _ (.intro rfl ?_)); (conv => whnf)))
 have hrl : ((R.map strR).length : Int).toNat = R.length := by rw [List.length_map]; rfl
 rw [hrl]
 refine ⟨(List.length_replicate ..).symm, [.bool false, .bool false], by rw [List.getElem?_replicate, if_pos (by omega)], ?_⟩
 ((conv => whnf); repeat ((first | (intro hq; try simp only [lnS] at hq) | refine sI ?_ | refine .intro _ (.intro rfl ?_)); (conv => whnf)))
 have hseed : (List.replicate R.length [D.bool false, .bool false]).set start [.bool true, .bool false] = ((List.replicate R.length (false, false)).set start (true, false)).map seR := by
  rw [List.map_set, List.map_replicate]; rfl
 refine loop_rule hty (fun y : Nat × List Way × List (Bool × Bool) => ([(1, .d (.int .i64 start)), (2, .d (.int .i64 most)), (3, .ea 2 [[strS R, .sl 1 (G.map adjR)]] 0 0), (6, .d .nil), (7, .osl 17 4 (y.2.1.map wayR)), (8, .mw 21 2 R.length), (9, .d (.int .i64 y.1))], [(21, .mrow 169 2 R.length (y.2.2.map seR)), (17, .own 166 4 (y.2.1.map wayR).length)]))
  (fun y => Bfs G R.length start y.1 0 y.2.1 y.2.2 ∧ ManyOk y.2.1 ∧ y.1 ≤ y.2.1.length) (fun y => 2 * R.length - y.1) (0, [⟨start, false, 0, 0⟩], (List.replicate R.length (false, false)).set start (true, false)) ⟨Bfs.init hs, ⟨fun i w h => ?_⟩, Nat.zero_le _⟩ ⟨by repeat' (first | exact trivial | exact rfl | refine And.intro ?_ ?_), congrArg (fun r => some (HObj.mrow 169 2 R.length r)) hseed, rfl, trivial⟩ ?_
 ·have hi := (List.getElem?_eq_some_iff.1 h).1
  have hi : i = 0 := by simpa using hi
  subst hi
  simp at h
  subst h
  exact Nat.le_refl _
 rintro ⟨at', W, S⟩ ⟨hB, hM, hat⟩
 dsimp only at hB hM hat
 have hSl := hB.len
 have hfew := hB.few
 have hwl : (W.map wayR).length = W.length := List.length_map ..
 ((conv => whnf); repeat ((first | (intro hq; try simp only [lnS] at hq) | refine sI ?_ | refine .intro _ (.intro rfl ?_)); (conv => whnf)))
 refine brB_dec (fun h1 => ?_) (fun h1 => ?_)
 ·have hwL : at' < W.length := by
   have h1 : (at' : Int) < ((W.map wayR).length : Nat) := h1
   omega
  have hrow := wayR_at hwL
  have hwat : W[at']? = some W[at'] := List.getElem?_eq_getElem hwL
  have hwm := hM.le _ _ hwat
  have hsnd := hB.sound _ (List.getElem_mem hwL)
  obtain ⟨w, hw⟩ : ∃ w, w = W[at'] := ⟨_, rfl⟩
  rw [← hw] at hrow hwat hwm hsnd
  clear hw
  ((conv => whnf); repeat ((first | (refine ⟨_, hrow, ?_⟩) | (intro hq; try simp only [lnS] at hq) | refine sI ?_ | refine .intro _ (.intro rfl ?_)); (conv => whnf)))
  refine brB_dec (fun h2 => ?_) (fun h2 => ?_)
  ·((conv => whnf); repeat' ((first | (intro hq; (try simp only [lnS] at hq); (try rewrite [List.length_map])) | refine sJ ?_ | refine .intro _ (.intro rfl ?_) | (refine .intro (show (_ : Nat) < List.length _ from by first | omega | (simp only [lnS]; omega) | simp) ?_) | fail | refine draw_rule hty (by kernel_rfl) (by kernel_rfl) ?_ | ((first | refine brB_dec ?_ ?_ | refine brB_ndec ?_ ?_) <;> intro hb <;> (first | contradiction | ((try simp only [lnS] at hb); try (exfalso; omega)))) | (refine brB_split ?_ ?_ <;> intro hb <;> (first | contradiction | exact bT hb (by assumption) | exact bF hb (by assumption) | skip))) <;> (conv => whnf)))
   exact ⟨.inl ⟨rfl, hB.none fun w' hw' => by rw [hwat] at hw'; injection hw' with hw'; subst hw'; omega⟩⟩
  have hro := hsnd.2
  have hrow2 := adjR_at (G := G) (i := w.role) (by omega)
  have hbA := hb w.role
  obtain ⟨A, hA⟩ : ∃ A, A = adjAt G w.role := ⟨_, rfl⟩
  rw [← hA] at hrow2 hbA
  ((conv => whnf); repeat ((first | (refine ⟨_, hrow2, ?_⟩) | (intro hq; try simp only [lnS] at hq) | refine sI ?_ | refine .intro _ (.intro rfl ?_)); (conv => whnf)))
  rw [show (A.map stpR).length = A.length from List.length_map ..]
  clear hrow2
  refine loop_rule hty (fun y : Nat × List Way × List (Bool × Bool) => ([(1, .d (.int .i64 start)), (2, .d (.int .i64 most)), (3, .ea 2 [[strS R, .sl 1 (G.map adjR)]] 0 0), (6, .d .nil), (7, .osl 17 4 (y.2.1.map wayR)), (8, .mw 21 2 R.length), (9, .d (.int .i64 at')), (10, .ea 4 [wayR w] 0 0), (46, .d (.sl 2 (A.map stpR))), (47, .d (.int .i64 A.length)), (48, .d (.int .i64 y.1))], [(21, .mrow 169 2 R.length (y.2.2.map seR)), (17, .own 166 4 (y.2.1.map wayR).length)]))
   (fun y => Bfs G R.length start at' y.1 y.2.1 y.2.2 ∧ ManyOk y.2.1 ∧ y.2.1[at']? = some w ∧ y.1 ≤ A.length) (fun y => A.length - y.1) (0, W, S) ⟨hB, hM, hwat, Nat.zero_le _⟩ ⟨by repeat' (first | exact trivial | exact rfl | refine And.intro ?_ ?_), by repeat' (first | exact trivial | exact rfl | refine And.intro ?_ ?_)⟩ ?_
  clear hB hM hwat hSl hfew hwl hat h1 hwL hrow hsnd
  rintro ⟨k, W, S⟩ ⟨hB, hM, hwat, hkA⟩
  dsimp only at hB hM hwat hkA
  have hSl := hB.len
  have hfew := hB.few
  have hwl : (W.map wayR).length = W.length := List.length_map ..
  have hatl : at' < W.length := (List.getElem?_eq_some_iff.1 hwat).1
  ((conv => whnf); repeat ((first | (intro hq; try simp only [lnS] at hq) | refine sI ?_ | refine .intro _ (.intro rfl ?_)); (conv => whnf)))
  refine brB_dec (fun h3 => ?_) (fun h3 => ?_)
  ·have hkl : k < A.length := by dsimp only at h3; omega
   have hrowk := stpR_at hkl
   have hkat : A[k]? = some A[k] := List.getElem?_eq_getElem hkl
   have hjn := hbA _ (List.getElem_mem hkl)
   have hjE : A[k] ∈ A := List.getElem_mem hkl
   generalize A[k] = p at *
   obtain ⟨j, t⟩ := p
   dsimp only at hjn
   have hk2 : (adjAt G w.role)[k]? = some (j, t) := by rw [← hA]; exact hkat
   have hskip := hB.skip hwat hk2
   have hpush := hB.push hwat hjn hk2
   have hfound : ∀ (e : j = start), (w.strict || t) = true → Circ (EG G) := fun e => by
    subst e
    exact hB.found (List.mem_of_getElem? hwat) (by unfold EG; rw [← hA]; exact hjE)
   have hrowj := seR_at (S := S) (i := j) (by omega)
   have hSj : S[j]? = some S[j] := List.getElem?_eq_getElem (by omega)
   obtain ⟨ro, st, be, ma⟩ := w
   dsimp only at hskip hpush hfound hwm hro
   have hsa : ∀ v, seenAt S j v = sideB S[j] v := fun v => by unfold seenAt; rw [hSj]; rfl
   rw [hSj] at hpush
   simp only [Option.getD_some] at hpush
   generalize S[j] = q at *
   obtain ⟨b1, b2⟩ := q
   have hsl : R.length = (S.map seR).length := by rw [List.length_map, hSl]
   have hb63 : (W.map wayR).length + 1 ≤ 9223372036854775807 := by rw [hwl]; omega
   have hb48 : ((W.map wayR).length + 1) * 32 ≤ 140737488355328 := by rw [hwl]; omega
   have hM2 : ∀ v, ManyOk (W ++ [⟨j, v, at', ma + 1⟩]) := fun v => ⟨fun i x hx => by
    rw [List.getElem?_append] at hx
    split at hx
    ·exact hM.le i x hx
    ·rename_i hi
     have hx2 := (List.getElem?_eq_some_iff.1 hx).1
     simp only [List.length_singleton] at hx2
     rw [show i - W.length = 0 by omega] at hx
     simp at hx
     subst hx
     dsimp only
     omega⟩
   have hW2 : ∀ x, (W ++ [x])[at']? = some ⟨ro, st, be, ma⟩ := fun x => by rw [List.getElem?_append_left hatl]; exact hwat
   cases st <;> cases t
   ·((conv => whnf); repeat ((first | (refine ⟨_, hrowk, ?_⟩) | (intro hq; try simp only [lnS] at hq) | refine sI ?_ | refine .intro _ (.intro rfl ?_)); (conv => whnf)))
    refine brB_dec (fun h4 => ?_) (fun h4 => ?_)
    ·cases b1
     ·((conv => whnf); repeat' ((first | (intro hq; (try simp only [lnS] at hq); (try rewrite [List.length_map])) | refine sJ ?_ | refine .intro _ (.intro rfl ?_) | (refine .intro (show (_ : Nat) < List.length _ from by first | omega | (simp only [lnS]; omega) | simp) ?_) | (refine ⟨_, hrowj, ?_⟩) | (refine And.intro hsl ?_) | (refine And.intro hb63 ?_) | (refine And.intro hb48 ?_) | refine draw_rule hty (by kernel_rfl) (by kernel_rfl) ?_ | ((first | refine brB_dec ?_ ?_ | refine brB_ndec ?_ ?_) <;> intro hb <;> (first | contradiction | ((try simp only [lnS] at hb); try (exfalso; omega)))) | (refine brB_split ?_ ?_ <;> intro hb <;> (first | contradiction | exact bT hb (by assumption) | exact bF hb (by assumption) | skip))) <;> (conv => whnf)))
      refine ⟨(k + 1, W ++ [⟨j, false, at', ma + 1⟩], S.set j (markB (false, b2) false)), ⟨hpush (by simp) (by rw [hsa]; rfl), hM2 false, hW2 _, by dsimp only; omega⟩, by dsimp only; omega, ?_⟩
      dsimp only
      rw [List.map_append, List.map_set, List.length_append]
      exact ⟨by repeat' (first | exact trivial | exact rfl | refine And.intro ?_ ?_), by repeat' (first | exact trivial | exact rfl | refine And.intro ?_ ?_)⟩
     ·((conv => whnf); repeat' ((first | (intro hq; (try simp only [lnS] at hq); (try rewrite [List.length_map])) | refine sJ ?_ | refine .intro _ (.intro rfl ?_) | (refine .intro (show (_ : Nat) < List.length _ from by first | omega | (simp only [lnS]; omega) | simp) ?_) | (refine ⟨_, hrowj, ?_⟩) | (refine And.intro hsl ?_) | refine draw_rule hty (by kernel_rfl) (by kernel_rfl) ?_ | ((first | refine brB_dec ?_ ?_ | refine brB_ndec ?_ ?_) <;> intro hb <;> (first | contradiction | ((try simp only [lnS] at hb); try (exfalso; omega)))) | (refine brB_split ?_ ?_ <;> intro hb <;> (first | contradiction | exact bT hb (by assumption) | exact bF hb (by assumption) | skip))) <;> (conv => whnf)))
      exact ⟨(k + 1, W, S), ⟨hskip (by simp) (by rw [hsa]; rfl), hM, hwat, by dsimp only; omega⟩, by dsimp only; omega, ⟨by repeat' (first | exact trivial | exact rfl | refine And.intro ?_ ?_), by repeat' (first | exact trivial | exact rfl | refine And.intro ?_ ?_)⟩⟩
    ·cases b1
     ·((conv => whnf); repeat' ((first | (intro hq; (try simp only [lnS] at hq); (try rewrite [List.length_map])) | refine sJ ?_ | refine .intro _ (.intro rfl ?_) | (refine .intro (show (_ : Nat) < List.length _ from by first | omega | (simp only [lnS]; omega) | simp) ?_) | (refine ⟨_, hrowj, ?_⟩) | (refine And.intro hsl ?_) | (refine And.intro hb63 ?_) | (refine And.intro hb48 ?_) | refine draw_rule hty (by kernel_rfl) (by kernel_rfl) ?_ | ((first | refine brB_dec ?_ ?_ | refine brB_ndec ?_ ?_) <;> intro hb <;> (first | contradiction | ((try simp only [lnS] at hb); try (exfalso; omega)))) | (refine brB_split ?_ ?_ <;> intro hb <;> (first | contradiction | exact bT hb (by assumption) | exact bF hb (by assumption) | skip))) <;> (conv => whnf)))
      refine ⟨(k + 1, W ++ [⟨j, false, at', ma + 1⟩], S.set j (markB (false, b2) false)), ⟨hpush (by simp) (by rw [hsa]; rfl), hM2 false, hW2 _, by dsimp only; omega⟩, by dsimp only; omega, ?_⟩
      dsimp only
      rw [List.map_append, List.map_set, List.length_append]
      exact ⟨by repeat' (first | exact trivial | exact rfl | refine And.intro ?_ ?_), by repeat' (first | exact trivial | exact rfl | refine And.intro ?_ ?_)⟩
     ·((conv => whnf); repeat' ((first | (intro hq; (try simp only [lnS] at hq); (try rewrite [List.length_map])) | refine sJ ?_ | refine .intro _ (.intro rfl ?_) | (refine .intro (show (_ : Nat) < List.length _ from by first | omega | (simp only [lnS]; omega) | simp) ?_) | (refine ⟨_, hrowj, ?_⟩) | (refine And.intro hsl ?_) | refine draw_rule hty (by kernel_rfl) (by kernel_rfl) ?_ | ((first | refine brB_dec ?_ ?_ | refine brB_ndec ?_ ?_) <;> intro hb <;> (first | contradiction | ((try simp only [lnS] at hb); try (exfalso; omega)))) | (refine brB_split ?_ ?_ <;> intro hb <;> (first | contradiction | exact bT hb (by assumption) | exact bF hb (by assumption) | skip))) <;> (conv => whnf)))
      exact ⟨(k + 1, W, S), ⟨hskip (by simp) (by rw [hsa]; rfl), hM, hwat, by dsimp only; omega⟩, by dsimp only; omega, ⟨by repeat' (first | exact trivial | exact rfl | refine And.intro ?_ ?_), by repeat' (first | exact trivial | exact rfl | refine And.intro ?_ ?_)⟩⟩
   ·((conv => whnf); repeat ((first | (refine ⟨_, hrowk, ?_⟩) | (intro hq; try simp only [lnS] at hq) | refine sI ?_ | refine .intro _ (.intro rfl ?_)); (conv => whnf)))
    refine brB_dec (fun h4 => ?_) (fun h4 => ?_)
    ·have hjs : j = start := by have h4 : (j : Int) = start := h4; omega
     have hcirc := hfound hjs rfl
     ((conv => whnf); repeat ((first | (intro hq; try simp only [lnS] at hq) | refine sI ?_ | refine .intro _ (.intro rfl ?_)); (conv => whnf)))
     refine SemVC.mown 6 76 3 1 rfl (fresh_of (by with_unfolding_all exact rfl)) ?_
     refine loop_rule hty (fun y : Nat × List Nat × Nat => ([(1, .d (.int .i64 start)), (6, .mw 76 1 y.2.1.length), (7, .osl 17 4 (W.map wayR)), (9, .d (.int .i64 y.1))], [(76, .mrow 3 1 y.2.2 (y.2.1.map natR)), (17, .own 166 4 (W.map wayR).length)])) (fun y => y.1 + y.2.1.length ≤ at' ∧ ∀ i ∈ y.2.1, i < R.length) (fun y => y.1) (at', [], 0) ⟨by dsimp only; simp, by simp⟩ ⟨by repeat' (first | exact trivial | exact rfl | refine And.intro ?_ ?_), by repeat' (first | exact trivial | exact rfl | refine And.intro ?_ ?_)⟩ ?_
     rintro ⟨a, L, cap⟩ ⟨ha, hL⟩
     dsimp only at ha hL
     have hrl3 : (L.map natR).length = L.length := List.length_map ..
     have hc63 : (L.map natR).length + 1 ≤ 9223372036854775807 := by rw [hrl3]; omega
     have hc48 : ((L.map natR).length + 1) * 8 ≤ 140737488355328 := by rw [hrl3]; omega
     ((conv => whnf); repeat ((first | (intro hq; try simp only [lnS] at hq) | refine sI ?_ | refine .intro _ (.intro rfl ?_)); (conv => whnf)))
     refine brB_dec (fun h5 => ?_) (fun h5 => ?_)
     ·have hal : a < W.length := by omega
      have hrowa := wayR_at hal
      have hbf := hB.before a _ (List.getElem?_eq_getElem hal) (by dsimp only at h5; omega)
      have hsd := (hB.sound _ (List.getElem_mem hal)).2
      generalize W[a] = x at *
      have hmp : (L ++ [x.role]).map natR = L.map natR ++ [natR x.role] := by rw [List.map_append]; rfl
      ((conv => whnf); repeat ((first | (refine ⟨_, hrowa, ?_⟩) | (refine And.intro hrl3.symm ?_) | (refine And.intro hc63 ?_) | (refine And.intro hc48 ?_) | (intro hq; try simp only [lnS] at hq) | refine sI ?_ | refine .intro _ (.intro rfl ?_)); (conv => whnf)))
      rename_i cap'
      refine ⟨(x.before, L ++ [x.role], cap'), ⟨by dsimp only; rw [List.length_append, List.length_singleton]; omega, fun i hi => ?_⟩, by dsimp only; omega, ?_⟩
      ·rcases List.mem_append.1 hi with hi | hi
       ·exact hL i hi
       ·simp at hi; subst hi; exact hsd
      ·dsimp only
       rw [hmp, List.length_append, ← hrl3]
       exact ⟨by repeat' (first | exact trivial | exact rfl | refine And.intro ?_ ?_), by repeat' (first | exact trivial | exact rfl | refine And.intro ?_ ?_)⟩
     ·have hmp : L.map natR ++ [natR start] = ((L ++ [start]).map fun i : Nat => (i : Int)).map numR := by
       rw [List.map_map, List.map_append]; rfl
      have hml : (L.map natR).length + 1 = ((L ++ [start]).map fun i : Nat => (i : Int)).length := by simp
      ((conv => whnf); repeat ((first | (refine And.intro hrl3.symm ?_) | (refine And.intro hc63 ?_) | (refine And.intro hc48 ?_) | (intro hq; try simp only [lnS] at hq) | refine sI ?_ | refine .intro _ (.intro rfl ?_)); (conv => whnf)))
      rename_i cap'
      have hmr : (((L ++ [start]).map fun i : Nat => (i : Int)).reverse).map numR = ((L ++ [start]).reverse).map natR := by
       rw [← List.map_reverse, List.map_map]; rfl
      refine CallVC.sub (hp' := [(76, .mrow 3 1 cap' (((L ++ [start]).map fun i : Nat => (i : Int)).map numR))]) ⟨congrArg (fun r => some (HObj.mrow 3 1 cap' r)) hmp, trivial⟩ ?_
      show CallVC _ _ _ _ _ [SV.mw 76 1 ((L.map natR).length + 1)] _
      rw [hml]
      refine rev_call _ cap' [] (by simp; omega) ?_
      rw [hmr]
      ((conv => whnf); repeat' ((first | (intro hq; (try simp only [lnS] at hq); (try rewrite [List.length_map])) | refine sJ ?_ | refine .intro _ (.intro rfl ?_) | (refine .intro (show (_ : Nat) < List.length _ from by first | omega | (simp only [lnS]; omega) | simp) ?_) | (refine And.intro (show (L.map natR).length + 1 = (((L ++ [start]).reverse).map natR).length from by simp) ?_) | refine draw_rule hty (by kernel_rfl) (by kernel_rfl) ?_ | ((first | refine brB_dec ?_ ?_ | refine brB_ndec ?_ ?_) <;> intro hb <;> (first | contradiction | ((try simp only [lnS] at hb); try (exfalso; omega)))) | (refine brB_split ?_ ?_ <;> intro hb <;> (first | contradiction | exact bT hb (by assumption) | exact bF hb (by assumption) | skip))) <;> (conv => whnf)))
      refine ⟨.inr ⟨(L ++ [start]).reverse, by simp, rfl, fun i hi => ?_, by simp; omega, hcirc⟩⟩
      rw [List.mem_reverse] at hi
      rcases List.mem_append.1 hi with hi | hi
      ·exact hL i hi
      ·simp at hi; subst hi; exact hs
    ·replace h4 : ¬ (j : Int) = start := h4
     cases b2
     ·((conv => whnf); repeat' ((first | (intro hq; (try simp only [lnS] at hq); (try rewrite [List.length_map])) | refine sJ ?_ | refine .intro _ (.intro rfl ?_) | (refine .intro (show (_ : Nat) < List.length _ from by first | omega | (simp only [lnS]; omega) | simp) ?_) | (refine ⟨_, hrowj, ?_⟩) | (refine And.intro hsl ?_) | (refine And.intro hb63 ?_) | (refine And.intro hb48 ?_) | refine draw_rule hty (by kernel_rfl) (by kernel_rfl) ?_ | ((first | refine brB_dec ?_ ?_ | refine brB_ndec ?_ ?_) <;> intro hb <;> (first | contradiction | ((try simp only [lnS] at hb); try (exfalso; omega)))) | (refine brB_split ?_ ?_ <;> intro hb <;> (first | contradiction | exact bT hb (by assumption) | exact bF hb (by assumption) | skip))) <;> (conv => whnf)))
      refine ⟨(k + 1, W ++ [⟨j, true, at', ma + 1⟩], S.set j (markB (b1, false) true)), ⟨hpush (fun h => h4 (by rw [h.1])) (by rw [hsa]; rfl), hM2 true, hW2 _, by dsimp only; omega⟩, by dsimp only; omega, ?_⟩
      dsimp only
      rw [List.map_append, List.map_set, List.length_append]
      exact ⟨by repeat' (first | exact trivial | exact rfl | refine And.intro ?_ ?_), by repeat' (first | exact trivial | exact rfl | refine And.intro ?_ ?_)⟩
     ·((conv => whnf); repeat' ((first | (intro hq; (try simp only [lnS] at hq); (try rewrite [List.length_map])) | refine sJ ?_ | refine .intro _ (.intro rfl ?_) | (refine .intro (show (_ : Nat) < List.length _ from by first | omega | (simp only [lnS]; omega) | simp) ?_) | (refine ⟨_, hrowj, ?_⟩) | (refine And.intro hsl ?_) | refine draw_rule hty (by kernel_rfl) (by kernel_rfl) ?_ | ((first | refine brB_dec ?_ ?_ | refine brB_ndec ?_ ?_) <;> intro hb <;> (first | contradiction | ((try simp only [lnS] at hb); try (exfalso; omega)))) | (refine brB_split ?_ ?_ <;> intro hb <;> (first | contradiction | exact bT hb (by assumption) | exact bF hb (by assumption) | skip))) <;> (conv => whnf)))
      exact ⟨(k + 1, W, S), ⟨hskip (fun h => h4 (by rw [h.1])) (by rw [hsa]; rfl), hM, hwat, by dsimp only; omega⟩, by dsimp only; omega, ⟨by repeat' (first | exact trivial | exact rfl | refine And.intro ?_ ?_), by repeat' (first | exact trivial | exact rfl | refine And.intro ?_ ?_)⟩⟩
   ·((conv => whnf); repeat ((first | (refine ⟨_, hrowk, ?_⟩) | (intro hq; try simp only [lnS] at hq) | refine sI ?_ | refine .intro _ (.intro rfl ?_)); (conv => whnf)))
    refine brB_dec (fun h4 => ?_) (fun h4 => ?_)
    ·have hjs : j = start := by have h4 : (j : Int) = start := h4; omega
     have hcirc := hfound hjs rfl
     ((conv => whnf); repeat ((first | (intro hq; try simp only [lnS] at hq) | refine sI ?_ | refine .intro _ (.intro rfl ?_)); (conv => whnf)))
     refine SemVC.mown 6 76 3 1 rfl (fresh_of (by with_unfolding_all exact rfl)) ?_
     refine loop_rule hty (fun y : Nat × List Nat × Nat => ([(1, .d (.int .i64 start)), (6, .mw 76 1 y.2.1.length), (7, .osl 17 4 (W.map wayR)), (9, .d (.int .i64 y.1))], [(76, .mrow 3 1 y.2.2 (y.2.1.map natR)), (17, .own 166 4 (W.map wayR).length)])) (fun y => y.1 + y.2.1.length ≤ at' ∧ ∀ i ∈ y.2.1, i < R.length) (fun y => y.1) (at', [], 0) ⟨by dsimp only; simp, by simp⟩ ⟨by repeat' (first | exact trivial | exact rfl | refine And.intro ?_ ?_), by repeat' (first | exact trivial | exact rfl | refine And.intro ?_ ?_)⟩ ?_
     rintro ⟨a, L, cap⟩ ⟨ha, hL⟩
     dsimp only at ha hL
     have hrl3 : (L.map natR).length = L.length := List.length_map ..
     have hc63 : (L.map natR).length + 1 ≤ 9223372036854775807 := by rw [hrl3]; omega
     have hc48 : ((L.map natR).length + 1) * 8 ≤ 140737488355328 := by rw [hrl3]; omega
     ((conv => whnf); repeat ((first | (intro hq; try simp only [lnS] at hq) | refine sI ?_ | refine .intro _ (.intro rfl ?_)); (conv => whnf)))
     refine brB_dec (fun h5 => ?_) (fun h5 => ?_)
     ·have hal : a < W.length := by omega
      have hrowa := wayR_at hal
      have hbf := hB.before a _ (List.getElem?_eq_getElem hal) (by dsimp only at h5; omega)
      have hsd := (hB.sound _ (List.getElem_mem hal)).2
      generalize W[a] = x at *
      have hmp : (L ++ [x.role]).map natR = L.map natR ++ [natR x.role] := by rw [List.map_append]; rfl
      ((conv => whnf); repeat ((first | (refine ⟨_, hrowa, ?_⟩) | (refine And.intro hrl3.symm ?_) | (refine And.intro hc63 ?_) | (refine And.intro hc48 ?_) | (intro hq; try simp only [lnS] at hq) | refine sI ?_ | refine .intro _ (.intro rfl ?_)); (conv => whnf)))
      rename_i cap'
      refine ⟨(x.before, L ++ [x.role], cap'), ⟨by dsimp only; rw [List.length_append, List.length_singleton]; omega, fun i hi => ?_⟩, by dsimp only; omega, ?_⟩
      ·rcases List.mem_append.1 hi with hi | hi
       ·exact hL i hi
       ·simp at hi; subst hi; exact hsd
      ·dsimp only
       rw [hmp, List.length_append, ← hrl3]
       exact ⟨by repeat' (first | exact trivial | exact rfl | refine And.intro ?_ ?_), by repeat' (first | exact trivial | exact rfl | refine And.intro ?_ ?_)⟩
     ·have hmp : L.map natR ++ [natR start] = ((L ++ [start]).map fun i : Nat => (i : Int)).map numR := by
       rw [List.map_map, List.map_append]; rfl
      have hml : (L.map natR).length + 1 = ((L ++ [start]).map fun i : Nat => (i : Int)).length := by simp
      ((conv => whnf); repeat ((first | (refine And.intro hrl3.symm ?_) | (refine And.intro hc63 ?_) | (refine And.intro hc48 ?_) | (intro hq; try simp only [lnS] at hq) | refine sI ?_ | refine .intro _ (.intro rfl ?_)); (conv => whnf)))
      rename_i cap'
      have hmr : (((L ++ [start]).map fun i : Nat => (i : Int)).reverse).map numR = ((L ++ [start]).reverse).map natR := by
       rw [← List.map_reverse, List.map_map]; rfl
      refine CallVC.sub (hp' := [(76, .mrow 3 1 cap' (((L ++ [start]).map fun i : Nat => (i : Int)).map numR))]) ⟨congrArg (fun r => some (HObj.mrow 3 1 cap' r)) hmp, trivial⟩ ?_
      show CallVC _ _ _ _ _ [SV.mw 76 1 ((L.map natR).length + 1)] _
      rw [hml]
      refine rev_call _ cap' [] (by simp; omega) ?_
      rw [hmr]
      ((conv => whnf); repeat' ((first | (intro hq; (try simp only [lnS] at hq); (try rewrite [List.length_map])) | refine sJ ?_ | refine .intro _ (.intro rfl ?_) | (refine .intro (show (_ : Nat) < List.length _ from by first | omega | (simp only [lnS]; omega) | simp) ?_) | (refine And.intro (show (L.map natR).length + 1 = (((L ++ [start]).reverse).map natR).length from by simp) ?_) | refine draw_rule hty (by kernel_rfl) (by kernel_rfl) ?_ | ((first | refine brB_dec ?_ ?_ | refine brB_ndec ?_ ?_) <;> intro hb <;> (first | contradiction | ((try simp only [lnS] at hb); try (exfalso; omega)))) | (refine brB_split ?_ ?_ <;> intro hb <;> (first | contradiction | exact bT hb (by assumption) | exact bF hb (by assumption) | skip))) <;> (conv => whnf)))
      refine ⟨.inr ⟨(L ++ [start]).reverse, by simp, rfl, fun i hi => ?_, by simp; omega, hcirc⟩⟩
      rw [List.mem_reverse] at hi
      rcases List.mem_append.1 hi with hi | hi
      ·exact hL i hi
      ·simp at hi; subst hi; exact hs
    ·replace h4 : ¬ (j : Int) = start := h4
     cases b2
     ·((conv => whnf); repeat' ((first | (intro hq; (try simp only [lnS] at hq); (try rewrite [List.length_map])) | refine sJ ?_ | refine .intro _ (.intro rfl ?_) | (refine .intro (show (_ : Nat) < List.length _ from by first | omega | (simp only [lnS]; omega) | simp) ?_) | (refine ⟨_, hrowj, ?_⟩) | (refine And.intro hsl ?_) | (refine And.intro hb63 ?_) | (refine And.intro hb48 ?_) | refine draw_rule hty (by kernel_rfl) (by kernel_rfl) ?_ | ((first | refine brB_dec ?_ ?_ | refine brB_ndec ?_ ?_) <;> intro hb <;> (first | contradiction | ((try simp only [lnS] at hb); try (exfalso; omega)))) | (refine brB_split ?_ ?_ <;> intro hb <;> (first | contradiction | exact bT hb (by assumption) | exact bF hb (by assumption) | skip))) <;> (conv => whnf)))
      refine ⟨(k + 1, W ++ [⟨j, true, at', ma + 1⟩], S.set j (markB (b1, false) true)), ⟨hpush (fun h => h4 (by rw [h.1])) (by rw [hsa]; rfl), hM2 true, hW2 _, by dsimp only; omega⟩, by dsimp only; omega, ?_⟩
      dsimp only
      rw [List.map_append, List.map_set, List.length_append]
      exact ⟨by repeat' (first | exact trivial | exact rfl | refine And.intro ?_ ?_), by repeat' (first | exact trivial | exact rfl | refine And.intro ?_ ?_)⟩
     ·((conv => whnf); repeat' ((first | (intro hq; (try simp only [lnS] at hq); (try rewrite [List.length_map])) | refine sJ ?_ | refine .intro _ (.intro rfl ?_) | (refine .intro (show (_ : Nat) < List.length _ from by first | omega | (simp only [lnS]; omega) | simp) ?_) | (refine ⟨_, hrowj, ?_⟩) | (refine And.intro hsl ?_) | refine draw_rule hty (by kernel_rfl) (by kernel_rfl) ?_ | ((first | refine brB_dec ?_ ?_ | refine brB_ndec ?_ ?_) <;> intro hb <;> (first | contradiction | ((try simp only [lnS] at hb); try (exfalso; omega)))) | (refine brB_split ?_ ?_ <;> intro hb <;> (first | contradiction | exact bT hb (by assumption) | exact bF hb (by assumption) | skip))) <;> (conv => whnf)))
      exact ⟨(k + 1, W, S), ⟨hskip (fun h => h4 (by rw [h.1])) (by rw [hsa]; rfl), hM, hwat, by dsimp only; omega⟩, by dsimp only; omega, ⟨by repeat' (first | exact trivial | exact rfl | refine And.intro ?_ ?_), by repeat' (first | exact trivial | exact rfl | refine And.intro ?_ ?_)⟩⟩
   ·((conv => whnf); repeat ((first | (refine ⟨_, hrowk, ?_⟩) | (intro hq; try simp only [lnS] at hq) | refine sI ?_ | refine .intro _ (.intro rfl ?_)); (conv => whnf)))
    refine brB_dec (fun h4 => ?_) (fun h4 => ?_)
    ·have hjs : j = start := by have h4 : (j : Int) = start := h4; omega
     have hcirc := hfound hjs rfl
     ((conv => whnf); repeat ((first | (intro hq; try simp only [lnS] at hq) | refine sI ?_ | refine .intro _ (.intro rfl ?_)); (conv => whnf)))
     refine SemVC.mown 6 76 3 1 rfl (fresh_of (by with_unfolding_all exact rfl)) ?_
     refine loop_rule hty (fun y : Nat × List Nat × Nat => ([(1, .d (.int .i64 start)), (6, .mw 76 1 y.2.1.length), (7, .osl 17 4 (W.map wayR)), (9, .d (.int .i64 y.1))], [(76, .mrow 3 1 y.2.2 (y.2.1.map natR)), (17, .own 166 4 (W.map wayR).length)])) (fun y => y.1 + y.2.1.length ≤ at' ∧ ∀ i ∈ y.2.1, i < R.length) (fun y => y.1) (at', [], 0) ⟨by dsimp only; simp, by simp⟩ ⟨by repeat' (first | exact trivial | exact rfl | refine And.intro ?_ ?_), by repeat' (first | exact trivial | exact rfl | refine And.intro ?_ ?_)⟩ ?_
     rintro ⟨a, L, cap⟩ ⟨ha, hL⟩
     dsimp only at ha hL
     have hrl3 : (L.map natR).length = L.length := List.length_map ..
     have hc63 : (L.map natR).length + 1 ≤ 9223372036854775807 := by rw [hrl3]; omega
     have hc48 : ((L.map natR).length + 1) * 8 ≤ 140737488355328 := by rw [hrl3]; omega
     ((conv => whnf); repeat ((first | (intro hq; try simp only [lnS] at hq) | refine sI ?_ | refine .intro _ (.intro rfl ?_)); (conv => whnf)))
     refine brB_dec (fun h5 => ?_) (fun h5 => ?_)
     ·have hal : a < W.length := by omega
      have hrowa := wayR_at hal
      have hbf := hB.before a _ (List.getElem?_eq_getElem hal) (by dsimp only at h5; omega)
      have hsd := (hB.sound _ (List.getElem_mem hal)).2
      generalize W[a] = x at *
      have hmp : (L ++ [x.role]).map natR = L.map natR ++ [natR x.role] := by rw [List.map_append]; rfl
      ((conv => whnf); repeat ((first | (refine ⟨_, hrowa, ?_⟩) | (refine And.intro hrl3.symm ?_) | (refine And.intro hc63 ?_) | (refine And.intro hc48 ?_) | (intro hq; try simp only [lnS] at hq) | refine sI ?_ | refine .intro _ (.intro rfl ?_)); (conv => whnf)))
      rename_i cap'
      refine ⟨(x.before, L ++ [x.role], cap'), ⟨by dsimp only; rw [List.length_append, List.length_singleton]; omega, fun i hi => ?_⟩, by dsimp only; omega, ?_⟩
      ·rcases List.mem_append.1 hi with hi | hi
       ·exact hL i hi
       ·simp at hi; subst hi; exact hsd
      ·dsimp only
       rw [hmp, List.length_append, ← hrl3]
       exact ⟨by repeat' (first | exact trivial | exact rfl | refine And.intro ?_ ?_), by repeat' (first | exact trivial | exact rfl | refine And.intro ?_ ?_)⟩
     ·have hmp : L.map natR ++ [natR start] = ((L ++ [start]).map fun i : Nat => (i : Int)).map numR := by
       rw [List.map_map, List.map_append]; rfl
      have hml : (L.map natR).length + 1 = ((L ++ [start]).map fun i : Nat => (i : Int)).length := by simp
      ((conv => whnf); repeat ((first | (refine And.intro hrl3.symm ?_) | (refine And.intro hc63 ?_) | (refine And.intro hc48 ?_) | (intro hq; try simp only [lnS] at hq) | refine sI ?_ | refine .intro _ (.intro rfl ?_)); (conv => whnf)))
      rename_i cap'
      have hmr : (((L ++ [start]).map fun i : Nat => (i : Int)).reverse).map numR = ((L ++ [start]).reverse).map natR := by
       rw [← List.map_reverse, List.map_map]; rfl
      refine CallVC.sub (hp' := [(76, .mrow 3 1 cap' (((L ++ [start]).map fun i : Nat => (i : Int)).map numR))]) ⟨congrArg (fun r => some (HObj.mrow 3 1 cap' r)) hmp, trivial⟩ ?_
      show CallVC _ _ _ _ _ [SV.mw 76 1 ((L.map natR).length + 1)] _
      rw [hml]
      refine rev_call _ cap' [] (by simp; omega) ?_
      rw [hmr]
      ((conv => whnf); repeat' ((first | (intro hq; (try simp only [lnS] at hq); (try rewrite [List.length_map])) | refine sJ ?_ | refine .intro _ (.intro rfl ?_) | (refine .intro (show (_ : Nat) < List.length _ from by first | omega | (simp only [lnS]; omega) | simp) ?_) | (refine And.intro (show (L.map natR).length + 1 = (((L ++ [start]).reverse).map natR).length from by simp) ?_) | refine draw_rule hty (by kernel_rfl) (by kernel_rfl) ?_ | ((first | refine brB_dec ?_ ?_ | refine brB_ndec ?_ ?_) <;> intro hb <;> (first | contradiction | ((try simp only [lnS] at hb); try (exfalso; omega)))) | (refine brB_split ?_ ?_ <;> intro hb <;> (first | contradiction | exact bT hb (by assumption) | exact bF hb (by assumption) | skip))) <;> (conv => whnf)))
      refine ⟨.inr ⟨(L ++ [start]).reverse, by simp, rfl, fun i hi => ?_, by simp; omega, hcirc⟩⟩
      rw [List.mem_reverse] at hi
      rcases List.mem_append.1 hi with hi | hi
      ·exact hL i hi
      ·simp at hi; subst hi; exact hs
    ·replace h4 : ¬ (j : Int) = start := h4
     cases b2
     ·((conv => whnf); repeat' ((first | (intro hq; (try simp only [lnS] at hq); (try rewrite [List.length_map])) | refine sJ ?_ | refine .intro _ (.intro rfl ?_) | (refine .intro (show (_ : Nat) < List.length _ from by first | omega | (simp only [lnS]; omega) | simp) ?_) | (refine ⟨_, hrowj, ?_⟩) | (refine And.intro hsl ?_) | (refine And.intro hb63 ?_) | (refine And.intro hb48 ?_) | refine draw_rule hty (by kernel_rfl) (by kernel_rfl) ?_ | ((first | refine brB_dec ?_ ?_ | refine brB_ndec ?_ ?_) <;> intro hb <;> (first | contradiction | ((try simp only [lnS] at hb); try (exfalso; omega)))) | (refine brB_split ?_ ?_ <;> intro hb <;> (first | contradiction | exact bT hb (by assumption) | exact bF hb (by assumption) | skip))) <;> (conv => whnf)))
      refine ⟨(k + 1, W ++ [⟨j, true, at', ma + 1⟩], S.set j (markB (b1, false) true)), ⟨hpush (fun h => h4 (by rw [h.1])) (by rw [hsa]; rfl), hM2 true, hW2 _, by dsimp only; omega⟩, by dsimp only; omega, ?_⟩
      dsimp only
      rw [List.map_append, List.map_set, List.length_append]
      exact ⟨by repeat' (first | exact trivial | exact rfl | refine And.intro ?_ ?_), by repeat' (first | exact trivial | exact rfl | refine And.intro ?_ ?_)⟩
     ·((conv => whnf); repeat' ((first | (intro hq; (try simp only [lnS] at hq); (try rewrite [List.length_map])) | refine sJ ?_ | refine .intro _ (.intro rfl ?_) | (refine .intro (show (_ : Nat) < List.length _ from by first | omega | (simp only [lnS]; omega) | simp) ?_) | (refine ⟨_, hrowj, ?_⟩) | (refine And.intro hsl ?_) | refine draw_rule hty (by kernel_rfl) (by kernel_rfl) ?_ | ((first | refine brB_dec ?_ ?_ | refine brB_ndec ?_ ?_) <;> intro hb <;> (first | contradiction | ((try simp only [lnS] at hb); try (exfalso; omega)))) | (refine brB_split ?_ ?_ <;> intro hb <;> (first | contradiction | exact bT hb (by assumption) | exact bF hb (by assumption) | skip))) <;> (conv => whnf)))
      exact ⟨(k + 1, W, S), ⟨hskip (fun h => h4 (by rw [h.1])) (by rw [hsa]; rfl), hM, hwat, by dsimp only; omega⟩, by dsimp only; omega, ⟨by repeat' (first | exact trivial | exact rfl | refine And.intro ?_ ?_), by repeat' (first | exact trivial | exact rfl | refine And.intro ?_ ?_)⟩⟩
  ·have hkA2 : k = A.length := by dsimp only at h3; omega
   ((conv => whnf); repeat' ((first | (intro hq; (try simp only [lnS] at hq); (try rewrite [List.length_map])) | refine sJ ?_ | refine .intro _ (.intro rfl ?_) | (refine .intro (show (_ : Nat) < List.length _ from by first | omega | (simp only [lnS]; omega) | simp) ?_) | fail | refine draw_rule hty (by kernel_rfl) (by kernel_rfl) ?_ | ((first | refine brB_dec ?_ ?_ | refine brB_ndec ?_ ?_) <;> intro hb <;> (first | contradiction | ((try simp only [lnS] at hb); try (exfalso; omega)))) | (refine brB_split ?_ ?_ <;> intro hb <;> (first | contradiction | exact bT hb (by assumption) | exact bF hb (by assumption) | skip))) <;> (conv => whnf)))
   refine ⟨(at' + 1, W, S), ⟨hB.next hwat (by rw [← hA]; omega), hM, by dsimp only; omega⟩, by dsimp only; omega, ⟨by repeat' (first | exact trivial | exact rfl | refine And.intro ?_ ?_), by repeat' (first | exact trivial | exact rfl | refine And.intro ?_ ?_)⟩⟩
 ·((conv => whnf); repeat' ((first | (intro hq; (try simp only [lnS] at hq); (try rewrite [List.length_map])) | refine sJ ?_ | refine .intro _ (.intro rfl ?_) | (refine .intro (show (_ : Nat) < List.length _ from by first | omega | (simp only [lnS]; omega) | simp) ?_) | fail | refine draw_rule hty (by kernel_rfl) (by kernel_rfl) ?_ | ((first | refine brB_dec ?_ ?_ | refine brB_ndec ?_ ?_) <;> intro hb <;> (first | contradiction | ((try simp only [lnS] at hb); try (exfalso; omega)))) | (refine brB_split ?_ ?_ <;> intro hb <;> (first | contradiction | exact bT hb (by assumption) | exact bF hb (by assumption) | skip))) <;> (conv => whnf)))
  refine ⟨.inl ⟨rfl, hB.none fun w' hw' => ?_⟩⟩
  have h2 := (List.getElem?_eq_some_iff.1 hw').1
  have h1 : ¬ (at' : Int) < ((W.map wayR).length : Nat) := h1
  omega
end Go.Proofs.YtnemengadjimcaaGreatDoor
