/-
  BaseOrder, walked. Base: what Minus, Common and Keep make, plainly. BaseKeeps, walked.
  Conditions: none.
-/
import Derived.Test.YtnemengadjimcaaGreatDoorMQu
set_option linter.unnecessarySimpa false
set_option linter.unusedSectionVars false
set_option linter.unusedSimpArgs false
set_option linter.unusedVariables false
set_option maxHeartbeats 16000000
namespace Go.Proofs.YtnemengadjimcaaGreatDoor
open Go.Proofs
set_option maxRecDepth 10000
attribute [local irreducible] SemVC CallVC Tri Stuck YVC GenP GenVC
end Go.Proofs.YtnemengadjimcaaGreatDoor
namespace Go.Proofs.YtnemengadjimcaaGreatDoor
open Go.Proofs
def findP (x : Ax) (b : List Ax) : Option Ax := b.find? fun y => decide (cmpAx y x = 0)
theorem findP_some {x y : Ax} {b : List Ax} (h : findP x b = some y) : y ∈ b ∧ cmpAx y x = 0 := ⟨List.mem_of_find?_eq_some h, by simpa using List.find?_some h⟩
theorem findP_none {x : Ax} {b : List Ax} : findP x b = none ↔ ∀ y ∈ b, cmpAx y x ≠ 0 := by
 unfold findP; rw [List.find?_eq_none]; simp
theorem partB_find {x : Ax} : ∀ {b : List Ax}, StrA b → partB x (dropB x b) = findP x b
 | [], _ => rfl
 | y :: r, h => by
  obtain ⟨h1, h2⟩ := List.pairwise_cons.1 h
  by_cases hy : cmpAx y x < 0
  ·rw [dropB, if_pos hy, partB_find h2]
   unfold findP
   rw [List.find?_cons_of_neg (by simp; omega)]
  ·rw [dropB, if_neg hy]
   show (if cmpAx y x = 0 then some y else none) = _
   by_cases h0 : cmpAx y x = 0
   ·rw [if_pos h0]
    unfold findP
    rw [List.find?_cons_of_pos (by simpa using h0)]
   ·rw [if_neg h0]
    refine (findP_none.2 fun z hz => ?_).symm
    rcases List.mem_cons.1 hz with rfl | hz
    ·exact h0
    ·intro e
     have h3 := h1 z hz
     have h4 : cmpAx y x < 0 := by rw [← cmp_congr rfl (like_iff.1 e)]; exact h3
     exact hy h4
theorem find_dropB {x x' : Ax} (h : cmpAx x x' < 0) : ∀ (b : List Ax), findP x' (dropB x b) = findP x' b
 | [] => rfl
 | y :: r => by
  rw [dropB]
  split
  ·rename_i hy
   rw [find_dropB h r]
   unfold findP
   have := cmpAx_tr hy h
   rw [List.find?_cons_of_neg (by simp; omega)]
  ·rfl
theorem dropB_str {x : Ax} : ∀ {b : List Ax}, StrA b → StrA (dropB x b)
 | [], h => h
 | y :: r, h => by
  rw [dropB]
  split
  ·exact dropB_str (List.pairwise_cons.1 h).2
  ·exact h
theorem combL_eq (kf : Ax → Option Ax → Ax × Bool) : ∀ {a b : List Ax}, StrA a → StrA b → combL kf a b = a.flatMap fun x => keptB (kf x (findP x b))
 | [], b, _, _ => rfl
 | x :: a, b, ha, hb => by
  obtain ⟨h1, h2⟩ := List.pairwise_cons.1 ha
  rw [combL, partB_find hb, combL_eq kf h2 (dropB_str hb), List.flatMap_cons]
  congr 1
  have : ∀ x' ∈ a, keptB (kf x' (findP x' (dropB x b))) = keptB (kf x' (findP x' b)) := fun x' hx' => by rw [find_dropB (h1 x' hx')]
  have key : ∀ l : List Ax, (∀ x' ∈ l, keptB (kf x' (findP x' (dropB x b))) = keptB (kf x' (findP x' b))) → l.flatMap (fun x' => keptB (kf x' (findP x' (dropB x b)))) = l.flatMap fun x' => keptB (kf x' (findP x' b)) := by
   intro l
   induction l with
   | nil => intro _; rfl
   | cons z r ih =>
    intro h
    rw [List.flatMap_cons, List.flatMap_cons, h z (by simp), ih fun y hy => h y (List.mem_cons_of_mem _ hy)]
  exact key a this
theorem BaseOk.sub {l m : List Ax} (h : BaseOk l) (hm : ∀ x ∈ m, x ∈ l) (hs : StrA m) (hl : m.length ≤ 1024) : BaseOk m where
 tidy := fun x hx => h.tidy x (hm x hx)
 str := hs
 few := hl
 open_ := fun x hx => h.open_ x (hm x hx)
 circ := fun hc => h.circ (circ_er (fun x hx => ⟨x, hm x hx, cmpAx_self x⟩) hc)
theorem BaseOk.sublist {l m : List Ax} (h : BaseOk l) (hm : m.Sublist l) : BaseOk m :=
 h.sub (fun x hx => hm.subset hx) (h.str.sublist hm) (Nat.le_trans hm.length_le h.few)
theorem BaseOk.zero {l : List Ax} (h : BaseOk l) : checkB l = 0 := (checkB_iff l).2 h
theorem opL_ok {l : List Ax} (h : BaseOk l) : BaseOk (opL l) := h.sublist List.filter_sublist
theorem strA_ne2 {b : List Ax} (h : StrA b) {i k : Nat} (hi : i < b.length) (hk : k < b.length) (hne : k ≠ i) : cmpAx b[i] b[k] ≠ 0 := by
 intro e
 have hp := List.pairwise_iff_getElem.1 h
 rcases Nat.lt_or_ge i k with h1 | h1
 ·have := hp i k hi hk h1; omega
 ·have := hp k i hk hi (by omega)
  have := cmpAx_lc.anti b[k] b[i]; omega
theorem find_at {l : List Ax} (h : BaseOk l) {i : Nat} (hi : i < l.length) : findA l l[i] = ((i : Int), true) := by
 have ht := h.tidy _ (List.getElem_mem hi)
 unfold findA
 rw [ht, if_neg (by simp)]
 have : idxA l[i] l = some i := idx_hit hi (fun y hy => by
  obtain ⟨k, hk, rfl⟩ := List.mem_take_iff_getElem.1 hy
  exact strA_ne2 h.str hi (by omega) (by omega)) (cmpAx_self _)
 rw [this]
theorem pick_sub {l : List Ax} {W : List Nat} (hs : W.Pairwise (· < ·)) (hi : ∀ i ∈ W, i < l.length) : (pickL l (W.map fun i : Nat => (i : Int))).Sublist l := by
 have h1 : pickL l (W.map fun i : Nat => (i : Int)) = W.map fun i => (l[i]?).getD a0 := by
  unfold pickL
  rw [List.map_map]; rfl
 rw [h1]
 have key : ∀ (l : List Ax) (d : Nat) (W : List Nat), W.Pairwise (· < ·) → (∀ i ∈ W, d ≤ i ∧ i < d + l.length) → (W.map fun i => (l[i - d]?).getD a0).Sublist l := by
  intro l
  induction l with
  | nil =>
   intro d W _ h
   cases W with
   | nil => exact .slnil
   | cons i r => have := h i (by simp); simp at this; omega
  | cons x r ih =>
   intro d W hs h
   cases W with
   | nil => exact List.nil_sublist _
   | cons i W =>
    obtain ⟨p1, p2⟩ := List.pairwise_cons.1 hs
    have h0 := h i (by simp)
    rw [List.length_cons] at h0
    by_cases hid : i = d
    ·subst hid
     have e : (W.map fun k => ((x :: r)[k - i]?).getD a0) = W.map fun k => (r[k - (i + 1)]?).getD a0 := List.map_congr_left fun k hk => by
      have := p1 k hk
      rw [show k - i = (k - (i + 1)) + 1 by omega, List.getElem?_cons_succ]
     rw [List.map_cons, e, Nat.sub_self]
     refine .cons_cons _ (ih (i + 1) W p2 fun k hk => ?_)
     have := p1 k hk
     have := h k (by simp [hk])
     rw [List.length_cons] at this
     omega
    ·have e : ((i :: W).map fun k => ((x :: r)[k - d]?).getD a0) = (i :: W).map fun k => (r[k - (d + 1)]?).getD a0 := List.map_congr_left fun k hk => by
      have : i ≤ k := by
       rcases List.mem_cons.1 hk with rfl | hk
       ·exact Nat.le_refl _
       ·exact Nat.le_of_lt (p1 k hk)
      rw [show k - d = (k - (d + 1)) + 1 by omega, List.getElem?_cons_succ]
     rw [e]
     refine .cons _ (ih (d + 1) (i :: W) hs fun k hk => ?_)
     have h1 := h k hk
     rw [List.length_cons] at h1
     have : i ≤ k := by
      rcases List.mem_cons.1 hk with rfl | hk
      ·exact Nat.le_refl _
      ·exact Nat.le_of_lt (p1 k hk)
     omega
 have := key l 0 W hs (fun i h => ⟨Nat.zero_le _, by have := hi i h; omega⟩)
 simpa using this
theorem inc_nat {n : Nat} : ∀ {W : List Nat} {last : Int}, (W.Pairwise (· < ·)) → (∀ i ∈ W, last < (i : Int) ∧ i < n) → incB n last (W.map fun i : Nat => (i : Int)) = true
 | [], _, _, _ => rfl
 | i :: r, last, hs, h => by
  obtain ⟨p1, p2⟩ := List.pairwise_cons.1 hs
  obtain ⟨q1, q2⟩ := h i (by simp)
  rw [List.map_cons, incB, inc_nat p2 fun k hk => ⟨by have := p1 k hk; omega, (h k (by simp [hk])).2⟩]
  simp
  omega
theorem pick_at {l : List Ax} {W : List Nat} (hi : ∀ i ∈ W, i < l.length) {k : Nat} (hk : k < W.length) : ∃ hp : k < (pickL l (W.map fun i : Nat => (i : Int))).length, (pickL l (W.map fun i : Nat => (i : Int)))[k] = l[W[k]]'(hi _ (List.getElem_mem hk)) := by
 refine ⟨by unfold pickL; simpa using hk, ?_⟩
 unfold pickL pickA
 have := hi _ (List.getElem_mem hk)
 simp [this]
theorem keep_ok {l : List Ax} (h : BaseOk l) {W : List Nat} (hs : W.Pairwise (· < ·)) (hi : ∀ i ∈ W, i < l.length) : keepE l (W.map fun i : Nat => (i : Int)) = (pickL l (W.map fun i : Nat => (i : Int)), 0) := by
 unfold keepE
 rw [if_neg (by simp [h.zero]), if_neg (by rw [inc_nat hs fun i hm => ⟨by omega, hi i hm⟩]; simp)]
open Classical in
theorem common_sub {l m : List Ax} (hl : BaseOk l) (hm : m.Sublist l) : setE kfC l m = (m, 0) := by
 have hmo := hl.sublist hm
 have hb : bothB l m = 0 := by unfold bothB; rw [if_neg (by simp [hl.zero]), hmo.zero]
 unfold setE
 rw [if_neg (by simp [hb])]
 congr 1
 rw [combL_eq kfC hl.str hmo.str]
 have hpt : ∀ x ∈ l, keptB (kfC x (findP x m)) = if x ∈ m then [x] else [] := by
  intro x hx
  by_cases hxm : x ∈ m
  ·rw [if_pos hxm]
   cases hf : findP x m with
   | none => exact absurd (cmpAx_self x) (findP_none.1 hf x hxm)
   | some y =>
    obtain ⟨h1, h2⟩ := findP_some hf
    have := strA_one hmo.str h1 hxm h2
    subst this
    have e : ({ y with isopen := y.isopen && y.isopen } : Ax) = y := by simp
    unfold keptB kfC
    simp [e]
  ·rw [if_neg hxm]
   cases hf : findP x m with
   | none => unfold keptB kfC; simp
   | some y =>
    obtain ⟨h1, h2⟩ := findP_some hf
    have := strA_one hl.str (hm.subset h1) hx h2
    subst this
    exact absurd h1 hxm
 have e1 : ∀ k : List Ax, (∀ x ∈ k, x ∈ l) → (k.flatMap fun x => keptB (kfC x (findP x m))) = k.filter fun x => decide (x ∈ m) := by
  intro k
  induction k with
  | nil => intro _; rfl
  | cons x r ih =>
   intro h
   rw [List.flatMap_cons, hpt x (h x (by simp)), ih fun y hy => h y (List.mem_cons_of_mem _ hy), List.filter_cons]
   by_cases hx : x ∈ m
   ·simp [hx]
   ·simp [hx]
 rw [e1 l fun x h => h]
 refine strA_unique (hl.str.sublist List.filter_sublist) hmo.str fun x => ?_
 rw [List.mem_filter]
 simp
 exact fun h => hm.subset h
end Go.Proofs.YtnemengadjimcaaGreatDoor
namespace Go.Proofs.YtnemengadjimcaaGreatDoor
open Go.Proofs
set_option maxRecDepth 10000
theorem Tri.oslH2 {P : Program} {f : FuncId} {s0 : SV} {id z : Nat} {rows rows' : List (List D)} {hp : Hp} {post : SV → Prop} (e : rows = rows') (h : Tri P f [s0, .d (.sl z rows')] hp post) : Tri P f [s0, .osl id z rows] hp post := by
 subst e
 unfold Tri at h ⊢
 intro w ρ vs a b c
 refine h w ρ vs a ⟨b.1, fun j s v hs hv => ?_⟩ c
 match j, hs with
 | 0, hs => exact b.2 0 s v hs hv
 | 1, hs =>
  injection hs with hs; subst hs
  exact .d _ _ (b.2 1 _ v rfl hv).osl_inv.1
attribute [local irreducible] SemVC CallVC Tri Stuck YVC GenP GenVC
theorem natR_at {W : List Nat} {j : Nat} (h : j < W.length) : (W.map natR)[((j : Nat) : Int).toNat]? = some (natR W[j]) := by
 rw [Int.toNat_natCast, List.getElem?_map, List.getElem?_eq_getElem h]; rfl
def opW (b : List Ax) (W : List Nat) : Nat := (opL (pickL b (W.map fun i : Nat => (i : Int)))).length
structure WOk (b : List Ax) (j : Nat) (W : List Nat) (cnt : Nat) : Prop where
 inc : W.Pairwise (· < ·)
 lt : ∀ i ∈ W, i < j
 len : W.length ≤ j
 num : cnt = opW b W
 cl : cnt ≤ j
theorem WOk.skip {b : List Ax} {j : Nat} {W : List Nat} {c : Nat} (h : WOk b j W c) : WOk b (j + 1) W c :=
 ⟨h.inc, fun i hi => by have := h.lt i hi; omega, by have := h.len; omega, h.num, by have := h.cl; omega⟩
theorem WOk.snoc {b : List Ax} {j : Nat} {W : List Nat} {c : Nat} (h : WOk b j W c) (hj : j < b.length) : WOk b (j + 1) (W ++ [j]) (c + (if b[j].isopen = true then 1 else 0)) := by
 refine ⟨?_, fun i hi => ?_, by have := h.len; simp; omega, ?_, by have := h.cl; split <;> omega⟩
 ·rw [List.pairwise_append]
  exact ⟨h.inc, by simp, fun x hx y hy => by simp at hy; subst hy; exact h.lt x hx⟩
 ·rcases List.mem_append.1 hi with hi | hi
  ·have := h.lt i hi; omega
  ·simp at hi; omega
 ·have e : pickL b ((W ++ [j]).map fun i : Nat => (i : Int)) = pickL b (W.map fun i : Nat => (i : Int)) ++ [b[j]] := by
   unfold pickL pickA
   simp [hj]
  unfold opW
  rw [e]
  unfold opL
  rw [List.filter_append, List.length_append, List.filter_cons, List.filter_nil]
  have := h.num
  unfold opW opL at this
  rw [this]
  split <;> simp
theorem keeps_spec (b : List Ax) (z : Int) (hsz : ∀ x ∈ b, SzAx x) (hz0 : 0 ≤ z) (hz1 : z < 65536) : Tri Tryz.prog 8 [.d (basR b), .d (.int .u16 z)] NG (fun r => r = .d (.bool true)) := by
 have cf := bFew_spec [b] (fun m hm => by simp at hm; subst hm; exact hsz)
 have cf := fun (id : Nat) => Tri.osl (id := id) cf
 have hfl : bFew [b] = true → b.length ≤ 14 := fun h => by
  unfold bFew at h
  simp at h
  omega
 have cc := bCheck_spec b
 have hok := (checkB_iff b).1
 generalize bFew [b] = few at *
 generalize checkB b = e at *
 refine tri_of_bodyO 200 false [2, 8, 11] hty Tryz.func8 rfl (kp [0, 1, 2, 4, 5, 6, 7, 8, 9, 10, 11, 12, 13, 14, 15, 16, 17, 19, 29, 32, 33, 34, 40, 50, 88, 90, 91, 92, 93, 145]) [] _ _ _ (by simp [Tryz.f8]) (by decide) ?_
 ((conv => whnf); repeat ((first | (intro hq; try simp only [lnS] at hq) | refine sI ?_ | refine .intro _ (.intro rfl ?_)); (conv => whnf)))
 refine call_tri NG bSane_spec ⟨rfl, rfl, trivial⟩ (fun r hs => ?_)
 subst hs
 ((conv => whnf); repeat ((first | (intro hq; try simp only [lnS] at hq) | refine sI ?_ | refine .intro _ (.intro rfl ?_)); (conv => whnf)))
 refine call_tri [] (cf _) trivial (fun r hs => ?_)
 subst hs
 cases few
 ·((conv => whnf); repeat' ((first | (intro hq; (try simp only [lnS] at hq); (try rewrite [List.length_map])) | refine sJ ?_ | refine .intro _ (.intro rfl ?_) | (refine .intro (show (_ : Nat) < List.length _ from by first | omega | (simp only [lnS]; omega) | simp) ?_) | fail | refine draw_rule hty (by kernel_rfl) (by kernel_rfl) ?_ | ((first | refine brB_dec ?_ ?_ | refine brB_ndec ?_ ?_) <;> intro hb <;> (first | contradiction | ((try simp only [lnS] at hb); try (exfalso; omega)))) | (refine brB_split ?_ ?_ <;> intro hb <;> (first | contradiction | exact bT hb (by assumption) | exact bF hb (by assumption) | skip))) <;> (conv => whnf)))
  rfl
 have hl := hfl rfl
 clear cf hfl
 ((conv => whnf); repeat ((first | (intro hq; try simp only [lnS] at hq) | refine sI ?_ | refine .intro _ (.intro rfl ?_)); (conv => whnf)))
 refine call_tri NG cc ⟨rfl, rfl, trivial⟩ (fun r hs => ?_)
 subst hs
 ((conv => whnf); repeat ((first | (intro hq; try simp only [lnS] at hq) | refine sI ?_ | refine .intro _ (.intro rfl ?_)); (conv => whnf)))
 refine brB_ndec (fun h1 => ?_) (fun h1 => ?_)
 ·((conv => whnf); repeat' ((first | (intro hq; (try simp only [lnS] at hq); (try rewrite [List.length_map])) | refine sJ ?_ | refine .intro _ (.intro rfl ?_) | (refine .intro (show (_ : Nat) < List.length _ from by first | omega | (simp only [lnS]; omega) | simp) ?_) | fail | refine draw_rule hty (by kernel_rfl) (by kernel_rfl) ?_ | ((first | refine brB_dec ?_ ?_ | refine brB_ndec ?_ ?_) <;> intro hb <;> (first | contradiction | ((try simp only [lnS] at hb); try (exfalso; omega)))) | (refine brB_split ?_ ?_ <;> intro hb <;> (first | contradiction | exact bT hb (by assumption) | exact bF hb (by assumption) | skip))) <;> (conv => whnf)))
  rfl
 have hB := hok h1
 clear hok cc
 ((conv => whnf); repeat ((first | (intro hq; try simp only [lnS] at hq) | refine sI ?_ | refine .intro _ (.intro rfl ?_)); (conv => whnf)))
 rw [show (b.map axR).length = b.length from List.length_map ..]
 refine SemVC.own 5 70 3 1 rfl (fresh_of (by with_unfolding_all exact rfl)) ?_
 refine loop_rule hty (fun y : Nat × List Nat × Nat => ([(1, .d (.int .u16 z)), (2, .ea 1 [[.sl 16 (b.map axR)]] 0 0), (5, .osl 70 1 (y.2.1.map natR)), (6, .d (.int .i64 y.2.2)), (32, .d (.int .i64 b.length)), (33, .d (.int .i64 y.1))], (70, .own 3 1 (y.2.1.map natR).length) :: NG)) (fun y => y.1 ≤ b.length ∧ WOk b y.1 y.2.1 y.2.2) (fun y => b.length - y.1) (0, [], 0) ⟨Nat.zero_le _, ⟨.nil, by simp, by simp, rfl, by simp⟩⟩ ⟨by repeat' (first | exact trivial | exact rfl | refine And.intro ?_ ?_), ⟨rfl, rfl, rfl, trivial⟩⟩ ?_
 rintro ⟨j, W, c⟩ ⟨hj, hW⟩
 dsimp only at hj hW
 have hWl := hW.len
 have hcl := hW.cl
 ((conv => whnf); repeat ((first | (intro hq; try simp only [lnS] at hq) | refine sI ?_ | refine .intro _ (.intro rfl ?_)); (conv => whnf)))
 refine brB_dec (fun h2 => ?_) (fun h2 => ?_)
 ·have hjl : j < b.length := by dsimp only at h2; omega
  have hrow := axR_rows hjl
  have hsn := hW.snoc hjl
  have hwl : (W.map natR).length = W.length := List.length_map ..
  have hb63 : (W.map natR).length + 1 ≤ 9223372036854775807 := by rw [hwl]; omega
  have hb48 : ((W.map natR).length + 1) * 8 ≤ 140737488355328 := by rw [hwl]; omega
  have hmp : (W ++ [j]).map natR = W.map natR ++ [natR j] := by rw [List.map_append]; rfl
  ((conv => whnf); repeat ((first | (intro hq; try simp only [lnS] at hq) | refine sI ?_ | refine .intro _ (.intro rfl ?_)); (conv => whnf)))
  refine brB_dec (fun h3 => ?_) (fun h3 => ?_)
  ·obtain ⟨x, hx⟩ : ∃ x, x = b[j] := ⟨_, rfl⟩
   rw [← hx] at hrow hsn
   clear hx
   obtain ⟨xk, xo, x1, x2, x3, x4, x5, x6⟩ := x
   cases xo
   ·rw [show (if (Ax.mk xk false x1 x2 x3 x4 x5 x6).isopen = true then 1 else 0) = 0 from rfl] at hsn
    ((conv => whnf); repeat' ((first | (intro hq; (try simp only [lnS] at hq); (try rewrite [List.length_map])) | refine sJ ?_ | refine .intro _ (.intro rfl ?_) | (refine .intro (show (_ : Nat) < List.length _ from by first | omega | (simp only [lnS]; omega) | simp) ?_) | (refine ⟨_, hrow, ?_⟩) | (refine And.intro hb63 ?_) | (refine And.intro hb48 ?_) | refine draw_rule hty (by kernel_rfl) (by kernel_rfl) ?_ | ((first | refine brB_dec ?_ ?_ | refine brB_ndec ?_ ?_) <;> intro hb <;> (first | contradiction | ((try simp only [lnS] at hb); try (exfalso; omega)))) | (refine brB_split ?_ ?_ <;> intro hb <;> (first | contradiction | exact bT hb (by assumption) | exact bF hb (by assumption) | skip))) <;> (conv => whnf)))
    refine ⟨(j + 1, W ++ [j], c), ⟨by dsimp only; omega, hsn⟩, by dsimp only; omega, ?_⟩
    dsimp only
    rw [hmp, List.length_append]
    exact ⟨by repeat' (first | exact trivial | exact rfl | refine And.intro ?_ ?_), ⟨rfl, rfl, rfl, trivial⟩⟩
   ·rw [show (if (Ax.mk xk true x1 x2 x3 x4 x5 x6).isopen = true then 1 else 0) = 1 from rfl] at hsn
    ((conv => whnf); repeat' ((first | (intro hq; (try simp only [lnS] at hq); (try rewrite [List.length_map])) | refine sJ ?_ | refine .intro _ (.intro rfl ?_) | (refine .intro (show (_ : Nat) < List.length _ from by first | omega | (simp only [lnS]; omega) | simp) ?_) | (refine ⟨_, hrow, ?_⟩) | (refine And.intro hb63 ?_) | (refine And.intro hb48 ?_) | refine draw_rule hty (by kernel_rfl) (by kernel_rfl) ?_ | ((first | refine brB_dec ?_ ?_ | refine brB_ndec ?_ ?_) <;> intro hb <;> (first | contradiction | ((try simp only [lnS] at hb); try (exfalso; omega)))) | (refine brB_split ?_ ?_ <;> intro hb <;> (first | contradiction | exact bT hb (by assumption) | exact bF hb (by assumption) | skip))) <;> (conv => whnf)))
    refine ⟨(j + 1, W ++ [j], c + 1), ⟨by dsimp only; omega, hsn⟩, by dsimp only; omega, ?_⟩
    dsimp only
    rw [hmp, List.length_append]
    exact ⟨by repeat' (first | exact trivial | exact rfl | refine And.intro ?_ ?_), ⟨rfl, rfl, rfl, trivial⟩⟩
  ·((conv => whnf); repeat' ((first | (intro hq; (try simp only [lnS] at hq); (try rewrite [List.length_map])) | refine sJ ?_ | refine .intro _ (.intro rfl ?_) | (refine .intro (show (_ : Nat) < List.length _ from by first | omega | (simp only [lnS]; omega) | simp) ?_) | fail | refine draw_rule hty (by kernel_rfl) (by kernel_rfl) ?_ | ((first | refine brB_dec ?_ ?_ | refine brB_ndec ?_ ?_) <;> intro hb <;> (first | contradiction | ((try simp only [lnS] at hb); try (exfalso; omega)))) | (refine brB_split ?_ ?_ <;> intro hb <;> (first | contradiction | exact bT hb (by assumption) | exact bF hb (by assumption) | skip))) <;> (conv => whnf)))
   exact ⟨(j + 1, W, c), ⟨by dsimp only; omega, hW.skip⟩, by dsimp only; omega, ⟨by repeat' (first | exact trivial | exact rfl | refine And.intro ?_ ?_), ⟨rfl, rfl, rfl, trivial⟩⟩⟩
 have hjl : j = b.length := by dsimp only at h2; omega
 subst hjl
 have hk := keep_ok hB hW.inc hW.lt
 have hsub := pick_sub hW.inc hW.lt
 have hat := fun k hk => pick_at (W := W) hW.lt (k := k) hk
 have ck := keep_spec b (W.map fun i : Nat => (i : Int)) (by rw [List.length_map]; omega)
 rw [hk] at ck
 have ck2 := fun (id : Nat) => Tri.oslH2 (id := id) (rows := W.map natR) (by rw [List.map_map]; rfl) ck
 have hxl : (pickL b (W.map fun i : Nat => (i : Int))).length = W.length := by unfold pickL; rw [List.length_map, List.length_map]
 have hnum := hW.num
 unfold opW at hnum
 have hcom := common_sub hB hsub
 generalize pickL b (W.map fun i : Nat => (i : Int)) = x at *
 have hX := hB.sublist hsub
 have c1 := bCheck_spec x
 rw [hX.zero] at c1
 have c2 := open_spec x (by omega)
 have c3 := bCheck_spec (opL x)
 rw [(opL_ok hX).zero] at c3
 have c4 := common_spec' b x
 rw [hcom] at c4
 have hbs : ∀ y ∈ b, SmA y := fun y hy => smA_ok (tidyA_valid (by rw [hB.tidy y hy]))
 have hxs : ∀ y ∈ x, SmA y := fun y hy => hbs y (hsub.subset hy)
 have c5 := same_spec' x x hxs hxs
 rw [eqL_iff.2 rfl] at c5
 clear ck hk hcom h2 hj
 ((conv => whnf); repeat ((first | (intro hq; try simp only [lnS] at hq) | refine sI ?_ | refine .intro _ (.intro rfl ?_)); (conv => whnf)))
 refine call_tri NG (ck2 _) ⟨rfl, rfl, trivial⟩ (fun r hs => ?_)
 subst hs
 ((conv => whnf); repeat ((first | (refine call_tri NG c1 ⟨rfl, rfl, trivial⟩ (fun r hs => ?_); subst hs) | (intro hq; try simp only [lnS] at hq) | refine sI ?_ | refine .intro _ (.intro rfl ?_)); (conv => whnf)))
 have hxl2 : (x.map axR).length = x.length := List.length_map ..
 have hwl : (W.map natR).length = W.length := List.length_map ..
 refine brB_ndec (fun h2 => ?_) (fun h2 => ?_)
 ·exfalso
  have h2 : ¬ ((x.map axR).length : Int) = ((W.map natR).length : Nat) := h2
  omega
 clear h2
 ((conv => whnf); repeat ((first | (refine call_tri [] c2 trivial (fun r hs => ?_); subst hs) | (intro hq; try simp only [lnS] at hq) | refine sI ?_ | refine .intro _ (.intro rfl ?_)); (conv => whnf)))
 refine brB_ndec (fun h2 => ?_) (fun h2 => ?_)
 ·exfalso
  have h2 : ¬ (((opL x).map axR).length : Int) = (c : Nat) := h2
  rw [List.length_map] at h2
  omega
 clear h2
 ((conv => whnf); repeat ((first | (refine call_tri [] c2 trivial (fun r hs => ?_); subst hs) | (refine call_tri NG c3 ⟨rfl, rfl, trivial⟩ (fun r hs => ?_); subst hs) | (intro hq; try simp only [lnS] at hq) | refine sI ?_ | refine .intro _ (.intro rfl ?_)); (conv => whnf)))
 rw [hxl2]
 refine loop_rule hty (fun i : Nat => ([(2, .ea 1 [[.sl 16 (b.map axR)]] 0 0), (5, .osl 70 1 (W.map natR)), (8, .ea 1 [[.sl 16 (x.map axR)]] 0 0), (90, .d (.sl 16 (x.map axR))), (91, .d (.int .i64 x.length)), (92, .d (.int .i64 i))], NG)) (fun i => i ≤ x.length) (fun i => x.length - i) 0 (Nat.zero_le _) ⟨by repeat' (first | exact trivial | exact rfl | refine And.intro ?_ ?_), ⟨rfl, rfl, trivial⟩⟩ ?_
 rintro i hi
 ((conv => whnf); repeat ((first | (intro hq; try simp only [lnS] at hq) | refine sI ?_ | refine .intro _ (.intro rfl ?_)); (conv => whnf)))
 refine brB_dec (fun h2 => ?_) (fun h2 => ?_)
 ·have hil : i < x.length := by omega
  have hiW : i < W.length := by omega
  obtain ⟨_, hxi⟩ := hat i hiW
  have hWb := hW.lt _ (List.getElem_mem hiW)
  have hrow := axR_rows hil
  have hrowW := natR_at hiW
  have hrowB := axR_rows hWb
  have d1 := find_spec b b[W[i]] hbs
  rw [find_at hB hWb] at d1
  have d2 := find_spec x x[i] hxs
  rw [find_at hX hil] at d2
  rw [hxi] at hrow d2
  generalize b[W[i]] = a at *
  generalize W[i] = n at *
  ((conv => whnf); repeat ((first | (refine ⟨_, hrow, ?_⟩) | (refine call_tri NG d1 ⟨rfl, rfl, trivial⟩ (fun r hs => ?_); subst hs) | (intro hq; try simp only [lnS] at hq) | refine sI ?_ | refine .intro _ (.intro rfl ?_)); (conv => whnf)))
  (conv => whnf)
  (refine tree2_rule (id := 22) hty (.first 0 (.first 1 (.first 2 (.first 3 (.first 4 (.first 5 (.first 6 (.first 7 (.first 8 (.alt 9 (.first 10 (.first 11 (.first 12 (.first 13 (.first 14 .done))))) .stop)))))))))) (by kernel_rfl) (by kernel_rfl) ?_)
  ((conv => whnf); repeat ((first | (refine ⟨_, hrowW, ?_⟩) | (refine ⟨_, hrowB, ?_⟩) | (intro hq; try simp only [lnS] at hq) | refine sI ?_ | refine .intro _ (.intro rfl ?_)); (conv => whnf)))
  refine And.intro ?_ (by exact trivial)
  ((conv => whnf); repeat ((first | (intro hq; try simp only [lnS] at hq) | refine sI ?_ | refine .intro _ (.intro rfl ?_)); (conv => whnf)))
  refine call_tri NG d2 ⟨rfl, rfl, trivial⟩ (fun r hs => ?_)
  subst hs
  dsimp only
  ((conv => whnf); repeat ((first | (intro hq; try simp only [lnS] at hq) | refine sI ?_ | refine .intro _ (.intro rfl ?_)); (conv => whnf)))
  have q1 : (!decide ((n : Int) = (n : Int))) = false := by simp
  have q2 : (!decide ((i : Int) = (i : Int))) = false := by simp
  obtain ⟨xk, xo, x1, x2, x3, x4, x5, x6⟩ := a
  refine draw_rule hty (by kernel_rfl) (by kernel_rfl) ?_
  ((conv => whnf); repeat ((first | (refine ⟨_, hrowW, ?_⟩) | (refine ⟨_, hrowB, ?_⟩) | (intro hq; try simp only [lnS] at hq) | refine sI ?_ | refine .intro _ (.intro rfl ?_)); (conv => whnf)))
  rw [q1]
  ((conv => whnf); repeat ((first | (refine ⟨_, hrowW, ?_⟩) | (refine ⟨_, hrowB, ?_⟩) | (intro hq; try simp only [lnS] at hq) | refine sI ?_ | refine .intro _ (.intro rfl ?_)); (conv => whnf)))
  rw [q2]
  cases xo
  all_goals ((conv => whnf); repeat ((first | (refine ⟨_, hrowW, ?_⟩) | (refine ⟨_, hrowB, ?_⟩) | (intro hq; try simp only [lnS] at hq) | refine sI ?_ | refine .intro _ (.intro rfl ?_)); (conv => whnf)))
  all_goals exact ⟨i + 1, by dsimp only; omega, by dsimp only; omega, ⟨by repeat' (first | exact trivial | exact rfl | refine And.intro ?_ ?_), ⟨rfl, rfl, trivial⟩⟩⟩
 ·have hil : i = x.length := by omega
  ((conv => whnf); repeat ((first | (refine call_tri NG c4 ⟨rfl, rfl, trivial⟩ (fun r hs => ?_); subst hs) | (intro hq; try simp only [lnS] at hq) | refine sI ?_ | refine .intro _ (.intro rfl ?_)); (conv => whnf)))
  refine call_tri [] c5 trivial (fun r hs => ?_)
  subst hs
  ((conv => whnf); repeat ((first | (intro hq; try simp only [lnS] at hq) | refine sI ?_ | refine .intro _ (.intro rfl ?_)); (conv => whnf)))
  rfl
end Go.Proofs.YtnemengadjimcaaGreatDoor
