/-
  Layer 6: the graph. slices.Reverse on numbers.
  Conditions: none.
-/
import Derived.Test.YtnemengadjimcaaGreatDoorMQf
import Derived.Test.YtnemengadjimcaaGreatDoorMQk
import Derived.Test.YtnemengadjimcaaGreatDoorMBp
import Derived.Test.YtnemengadjimcaaGreatDoorMAc
import Derived.Test.YtnemengadjimcaaGreatDoorMQs
import Derived.Test.YtnemengadjimcaaGreatDoorMSna
set_option linter.unnecessarySimpa false
set_option linter.unusedSectionVars false
set_option linter.unusedSimpArgs false
set_option linter.unusedVariables false
set_option maxHeartbeats 16000000
namespace Go.Proofs.YtnemengadjimcaaGreatDoor
open Go.Proofs
set_option maxRecDepth 10000
attribute [local irreducible] SemVC CallVC Tri Stuck YVC GenP GenVC
def stpR (p : Nat × Bool) : List D := [.int .i64 p.1, .bool p.2]
def adjR (l : List (Nat × Bool)) : List D := [.sl 2 (l.map stpR)]
def strS (R : List Str) : D := .sl 1 (R.map strR)
def AdjOk (M : List (Str × Inn)) (R : List Str) (a : Str) (l : List (Nat × Bool)) : Prop := ∀ to t, (to, t) ∈ l ↔ ∃ b, R[to]? = some b ∧ ME M a b t
theorem gOk_of {M : List (Str × Inn)} (hn : (M.map (·.1)).Nodup) {G : Adj} (hl : G.length = (sortK (M.map (·.1))).length) (h : ∀ i a, (sortK (M.map (·.1)))[i]? = some a → AdjOk M (sortK (M.map (·.1))) a (adjAt G i)) : GOk M (sortK (M.map (·.1))) G where
 len := hl
 nd := (List.mergeSort_perm _ _).nodup_iff.2 hn
 mem := fun a => mem_sortK
 sound := fun i j t he => by
  have hi := adj_lt he
  obtain ⟨b, h1, h2⟩ := (h i _ (List.getElem?_eq_getElem (by omega)) j t).1 he
  exact ⟨(List.getElem?_eq_some_iff.1 h1).1, _, b, List.getElem?_eq_getElem (by omega), h1, h2⟩
 full := fun i j t a b h1 h2 h3 => (h i a h1 j t).2 ⟨b, h2, h3⟩
theorem mpH_ids (M : List (Str × Inn)) (g : List Nat × Nat) (hp0 : Hp) (F : FarH hp0) (k : Nat) (hk : k ∈ idsH (mpH M g hp0)) : k = 33 ∨ (80 ≤ k ∧ k < 100) ∨ (1000 ≤ k ∧ k < 1000 + M.length) := by
 have := stH_ids M g hp0 F k (by
  unfold stH
  rw [idsH_cons]
  exact List.mem_append_right _ hk)
 by_cases h : k = 23
 ·subst h
  unfold mpH at hk
  rw [idsH_cons, idsH_app] at hk
  simp only [List.mem_append, List.mem_cons] at hk
  rcases hk with (hk | hk) | hk | hk
  ·cases hk
  ·have hk : 23 ∈ idsE (entO 0 M) := hk
   have := entO_lt 0 M 23 hk; omega
  ·have := hpO_ids 0 M 23 hk; omega
  ·have := F.lo 23 hk; omega
 ·omega
theorem mpH_self {M : List (Str × Inn)} {g : List Nat × Nat} {hp0 : Hp} (F : FarH hp0) : subH (mpH M g hp0) (mpH M g hp0) := by
 refine subH_iff fun p hp => ?_
 have h1 := subH_mem (stH_sub (M := M) (g := g) F) p (List.mem_cons_of_mem _ hp)
 have h2 := mpH_ids M g hp0 F p.1 (key_ids hp)
 have h3 : getH ((23, HObj.cells 117 [.xv 33 mapV]) :: mpH M g hp0) p.1 = some p.2 := h1
 rwa [getH, if_neg (by omega)] at h3
theorem inn_get {M : List (Str × Inn)} {a : Str} (h : a ∈ M.map (·.1)) : ∃ i x, posO a M = some i ∧ M[i]? = some (a, x) := by
 cases hp : posO a M with
 | none => exact absurd h (posO_none.1 hp)
 | some i =>
  obtain ⟨x, hx⟩ := posO_some hp
  exact ⟨i, x, rfl, hx⟩
theorem entB_keys (l : List (Str × Bool)) : (entB l).map (·.1) = l.map (·.1) := by
 unfold entB; rw [List.map_map]; rfl
theorem nmC {k id : Nat} {o : HObj} {hp : Hp} (h1 : k ≠ id) (h2 : k ∉ o.ids) (h3 : k ∉ idsH hp) : k ∉ idsH ((id, o) :: hp) := by
 rw [idsH_cons]
 simp only [List.cons_append, List.mem_cons, List.mem_append]
 rintro (h | h | h)
 ·exact h1 h
 ·exact h2 h
 ·exact h3 h
theorem hd_self {k : Nat} {o : HObj} {hp : Hp} (h : subH hp hp) (hk : ∀ p ∈ hp, p.1 ≠ k) : subH ((k, o) :: hp) ((k, o) :: hp) :=
 ⟨getH_eq, subH_skip h hk⟩
theorem kyC {k id : Nat} {o : HObj} {hp : Hp} (h1 : id ≠ k) (h : ∀ p ∈ hp, p.1 ≠ k) : ∀ p ∈ (id, o) :: hp, p.1 ≠ k := by
 intro p hp
 rcases List.mem_cons.1 hp with rfl | hp
 ·exact h1
 ·exact h p hp
theorem kyN {k : Nat} {hp : Hp} (h : k ∉ idsH hp) : ∀ p ∈ hp, p.1 ≠ k := fun p hp e => h (e ▸ key_ids hp)
theorem freeM_of {pin : List Nat} {fr : Fr} {hp : Hp} {c d : Nat} (h1 : ∀ k, 100 ≤ k → k < 200 → k ∉ pin) (h2 : ∀ k, 100 ≤ k → k < 200 → k ∉ idsF fr) (h3 : ∀ k, 100 ≤ k → k < 200 → k ∉ idsH hp) (h4 : d < 100 ∨ 200 ≤ d) (h5 : subH hp hp) (h6 : c ∉ idsH hp) : FreeM pin fr hp c d :=
 ⟨h1, h2, h3, fun k _ _ => by omega, fun o => subH_skip h5 fun p hp e => h6 (e ▸ key_ids hp)⟩
theorem mget_mem {β : Type} {k : Str} : ∀ {l : List (Str × β)}, k ∈ l.map (·.1) ↔ ∃ v, mget l k = some v
 | [] => by simp [mget]
 | (q, w) :: r => by
  rw [mget]
  by_cases h : k = q
  ·rw [if_pos h]; simp [h]
  ·rw [if_neg h, ← mget_mem]; simp [h]
theorem newGraph_call (M : List (Str × Inn)) (g : List Nat × Nat) (hn : (M.map (·.1)).Nodup) (hl : M.length ≤ 1000000) (hli : ∀ p ∈ M, p.2.1.length ≤ 1000000) (hp0 : Hp) (F : FarH hp0) {pin : List Nat} {fr : Fr} {K : SV → Hp → Prop} (hp1 : ∀ k, (50 ≤ k ∧ k < 80) ∨ (100 ≤ k ∧ k < 200) → k ∉ pin) (hf : ∀ k, (50 ≤ k ∧ k < 80) ∨ (100 ≤ k ∧ k < 200) → k ∉ idsF fr)
  (hk : ∀ R G, GOk M R G → R.length = M.length → K (.agg [.d (strS R), .osl 65 1 (G.map adjR)]) hp0) :
  CallVC Tryz.prog pin fr (mpH M g hp0) 88 [.xv 33 mapV] K := by
 have hI := mpH_ids M g hp0 F
 refine CallVC.weak ?_
 refine call_inlineF false [] hty Tryz.func88 rfl (kp [0, 2, 4, 5, 7, 8, 9, 15, 16, 17, 18, 25, 26, 27, 28, 38]) 60 (by simp [Tryz.f88]) ?_
 have pinn : ∀ k, (50 ≤ k ∧ k < 80) ∨ (100 ≤ k ∧ k < 200) → k ∉ pin ++ idsF fr := fun k h q => (List.mem_append.1 q).elim (hp1 k h) (hf k h)
 have frM : ∀ k, (50 ≤ k ∧ k < 80) ∨ (100 ≤ k ∧ k < 200) → k ∉ idsH (mpH M g hp0) := fun k h q => by have := hI k q; omega
 ((conv => whnf); repeat ((first | (refine And.intro (show fresh 62 _ _ _ from ⟨pinn _ (by omega), by simp [idsF_nil, idsF_cons, SV.ids, SV.idsL, argFr, ids_ofV], frM _ (by omega)⟩) ?_) | (intro hq; try simp only [lnS] at hq) | refine sI ?_ | refine .intro _ (.intro rfl ?_)); (conv => whnf)))
 refine call_inlineF false [] hty Tryz.func130 rfl (kp [0, 1, 2]) 50 (by simp [Tryz.f130]) ?_
 ((conv => whnf); repeat ((first | (refine And.intro (show fresh 51 _ _ _ from ⟨fun q => (List.mem_append.1 q).elim (pinn _ (by omega)) (by simp [idsF_nil, idsF_cons, SV.ids, SV.idsL, argFr, ids_ofV]), by simp [idsF_nil, idsF_cons, SV.ids, SV.idsL, argFr, ids_ofV], nmC (show 51 ≠ 62 by decide) (by simp [ids_cells, SV.ids, SV.idsL]) (frM _ (by omega))⟩) ?_) | (refine And.intro (by simp [SV.ids, SV.idsL]) ?_) | (intro hq; try simp only [lnS] at hq) | refine sI ?_ | refine .intro _ (.intro rfl ?_)); (conv => whnf)))
 have sk : ∀ {hp : Hp} (k : Nat) (o : HObj), (50 ≤ k ∧ k < 80) ∨ (100 ≤ k ∧ k < 200) → subH (mpH M g hp0) hp → subH (mpH M g hp0) ((k, o) :: hp) := fun k o hk h => subH_skip h (kyN (frM k hk))
 have self62 : ∀ o : HObj, subH ((62, o) :: mpH M g hp0) ((62, o) :: mpH M g hp0) := fun o => hd_self (mpH_self F) (kyN (frM _ (by omega)))
 refine sortedM1 (entO 0 M) g (by rw [entO_len]; exact hl) 33 _ (getH_ne getH_eq (show 62 ≠ 33 by decide)) (freeM_of (fun k a b => pinn k (by omega)) (fun k a b => by simp [oneOf, idsF_nil, idsF_cons, SV.ids, SV.idsL, argFr, ids_ofV]; omega) (fun k a b => nmC (show k ≠ 62 by omega) (by simp [ids_cells, SV.ids, SV.idsL]) (frM k (by omega))) (.inl (by decide)) (self62 _) (nmC (show 51 ≠ 62 by decide) (by simp [ids_cells, SV.ids, SV.idsL]) (frM _ (by omega)))) (by decide) ?_
 rw [entO_keys]
 have hRl : (sortK (M.map (·.1))).length = M.length := by
  have := (List.mergeSort_perm (M.map (·.1)) fun x y => decide (x ≤ y)).length_eq
  rw [List.length_map] at this
  exact this
 have hRs := sortK_strict hn
 have hRm : ∀ a, a ∈ sortK (M.map (·.1)) → a ∈ M.map (·.1) := fun a h => mem_sortK.1 h
 have hRn : (sortK (M.map (·.1))).Nodup := (List.mergeSort_perm _ _).nodup_iff.2 hn
 have hfin := fun G h1 h2 => hk _ G (gOk_of hn h1 h2) hRl
 generalize sortK (M.map (·.1)) = R at *
 ((conv => whnf); repeat ((first | (intro hq; try simp only [lnS] at hq) | refine sI ?_ | refine .intro _ (.intro rfl ?_)); (conv => whnf)))
 rw [List.length_map]
 refine SemVC.ownC 62 65 115 158 1 1 rfl rfl ⟨pinn _ (by omega), by simp [idsF_nil, idsF_cons, SV.ids, SV.idsL, argFr, ids_ofV], nmC (show 65 ≠ 62 by decide) (by simp [ids_cells, SV.ids, SV.idsL]) (frM _ (by omega))⟩ ?_
 refine loop_rule hty (fun y : Nat × Adj => ([(0, .xv 33 mapV), (2, .ptr 62 0), (15, .d (strS R)), (16, .d (.int .i64 R.length)), (17, .d (.int .i64 y.1))], (65, .own 158 1 (y.2.map adjR).length) :: (62, .cells 115 [.d (strS R), .osl 65 1 (y.2.map adjR)]) :: mpH M g hp0)) (fun y => (y.1 ≤ R.length ∧ y.2.length = y.1) ∧ ∀ i a, i < y.1 → R[i]? = some a → AdjOk M R a (adjAt y.2 i)) (fun y => R.length - y.1) (0, []) ⟨by exact ⟨Nat.zero_le _, rfl⟩, fun i a h => by dsimp only at h; omega⟩ ⟨by repeat' (first | exact trivial | exact rfl | refine And.intro ?_ ?_), rfl, rfl, subH_skip (subH_skip (mpH_self F) (kyN (frM _ (by omega)))) (kyN (frM _ (by omega)))⟩ ?_
 rintro ⟨j, G⟩ ⟨⟨hj, hGl⟩, hG⟩
 dsimp only at hj hGl hG
 ((conv => whnf); repeat ((first | (intro hq; try simp only [lnS] at hq) | refine sI ?_ | refine .intro _ (.intro rfl ?_)); (conv => whnf)))
 refine brB_dec (fun h1 => ?_) (fun h1 => ?_)
 ·have hjl : j < R.length := by dsimp only at h1; omega
  have hrow := strR_at hjl
  have hRj : R[j]? = some R[j] := List.getElem?_eq_getElem hjl
  obtain ⟨i, x, hpos, hi⟩ := inn_get (hRm _ (List.getElem_mem hjl))
  generalize R[j] = a at *
  have hm := mget_entO a 0 M
  rw [hpos] at hm
  have hgi := hpO_get 0 M i _ hp0 hi
  have hxl := hli _ (List.mem_of_getElem? hi)
  dsimp only at hxl
  ((conv => whnf); repeat ((first | (refine ⟨_, hrow, ?_⟩) | (intro hq; try simp only [lnS] at hq) | refine sI ?_ | refine .intro _ (.intro rfl ?_)); (conv => whnf)))
  refine lookup_map (id := 33) (ents := entO 0 M) (k := a) (bs := g.1) (clock := g.2) rfl rfl (keyT_str rfl) rfl rfl rfl rfl ?_
  rw [hm, show lookRes false (Option.map (fun i => SV.xv (1000 + (0 + i)) mapV) (some i)) (ofV (Value.map none)) = SV.xv (1000 + (0 + i)) mapV from rfl]
  ((conv => whnf); repeat ((first | (intro hq; try simp only [lnS] at hq) | refine sI ?_ | refine .intro _ (.intro rfl ?_)); (conv => whnf)))
  have fr1 : ∀ k o, (50 ≤ k ∧ k < 80) ∨ (100 ≤ k ∧ k < 200) → k ≠ 65 → k ≠ 62 → k ∉ idsH ((65, .own 158 1 o) :: (62, .cells 115 [.d (strS R), .osl 65 1 (G.map adjR)]) :: mpH M g hp0) := fun k o h h1 h2 => nmC h1 (by simp [ids_own]) (nmC h2 (by simp [ids_cells, SV.ids, SV.idsL, h1]) (frM k h))
  have self65 : ∀ o, subH ((65, .own 158 1 o) :: (62, .cells 115 [.d (strS R), .osl 65 1 (G.map adjR)]) :: mpH M g hp0) ((65, .own 158 1 o) :: (62, .cells 115 [.d (strS R), .osl 65 1 (G.map adjR)]) :: mpH M g hp0) := fun o => hd_self (self62 _) (kyC (by decide) (kyN (frM _ (by omega))))
  refine call_inlineF false [] hty Tryz.func131 rfl (kp [0, 1, 2]) 52 (by simp [Tryz.f131]) ?_
  ((conv => whnf); repeat ((first | (refine And.intro (show fresh 53 _ _ _ from ⟨fun q => (List.mem_append.1 q).elim (pinn _ (by omega)) (by simp [idsF_nil, idsF_cons, SV.ids, SV.idsL, argFr, ids_ofV]; omega), by simp [idsF_nil, idsF_cons, SV.ids, SV.idsL, argFr, ids_ofV]; omega, fr1 53 _ (by omega) (by decide) (by decide)⟩) ?_) | (refine And.intro (by simp [SV.ids, SV.idsL]; omega) ?_) | (intro hq; try simp only [lnS] at hq) | refine sI ?_ | refine .intro _ (.intro rfl ?_)); (conv => whnf)))
  refine sortedM2 (entB x.1) x.2 (by unfold entB; rw [List.length_map]; exact hxl) (1000 + (0 + i)) _ (getH_ne (getH_ne (getH_ne hgi (show 33 ≠ 1000 + (0 + i) by omega)) (show 62 ≠ 1000 + (0 + i) by omega)) (show 65 ≠ 1000 + (0 + i) by omega)) (freeM_of (fun k a b => pinn k (by omega)) (fun k a b => by simp [oneOf, idsF_nil, idsF_cons, SV.ids, SV.idsL, argFr, ids_ofV]; omega) (fun k a b => fr1 k _ (by omega) (by omega) (by omega)) (.inr (by omega)) (self65 _) (fr1 53 _ (by omega) (by decide) (by decide))) (by omega) ?_
  rw [entB_keys]
  have hSl : (sortK (x.1.map (·.1))).length = x.1.length := by
   have := (List.mergeSort_perm (x.1.map (·.1)) fun x y => decide (x ≤ y)).length_eq
   rw [List.length_map] at this
   exact this
  have hSm : ∀ s, s ∈ sortK (x.1.map (·.1)) ↔ ∃ v, mget x.1 s = some v := fun s => mem_sortK.trans mget_mem
  have hME : ∀ b t, ME M a b t ↔ mget x.1 b = some t := fun b t => by
   constructor
   ·rintro ⟨i', x', h1, h2⟩
    have := nodup_at hn hi h1
    subst this
    rw [hi] at h1
    simp at h1
    rw [h1]; exact h2
   ·intro h; exact ⟨i, x, hi, h⟩
  generalize sortK (x.1.map (·.1)) = S at *
  ((conv => whnf); repeat ((first | (intro hq; try simp only [lnS] at hq) | refine sI ?_ | refine .intro _ (.intro rfl ?_)); (conv => whnf)))
  rw [List.length_map]
  refine SemVC.own 5 66 162 2 rfl ⟨pinn _ (by omega), by simp [idsF_nil, idsF_cons, SV.ids, SV.idsL, argFr, ids_ofV], fr1 66 _ (by omega) (by decide) (by decide)⟩ ?_
  refine loop_rule hty (fun y : Nat × List (Nat × Bool) => ([(0, .xv 33 mapV), (2, .ptr 62 0), (4, .d (.str a)), (5, .osl 66 2 (y.2.map stpR)), (15, .d (strS R)), (16, .d (.int .i64 R.length)), (17, .d (.int .i64 j)), (25, .d (strS S)), (26, .d (.int .i64 S.length)), (27, .d (.int .i64 y.1))], (66, .own 162 2 (y.2.map stpR).length) :: (65, .own 158 1 (G.map adjR).length) :: (62, .cells 115 [.d (strS R), .osl 65 1 (G.map adjR)]) :: mpH M g hp0)) (fun y => (y.1 ≤ S.length ∧ y.2.length ≤ y.1) ∧ ∀ to t, (to, t) ∈ y.2 ↔ ∃ b, b ∈ S.take y.1 ∧ R[to]? = some b ∧ mget x.1 b = some t) (fun y => S.length - y.1) (0, []) ⟨by exact ⟨Nat.zero_le _, Nat.le_refl _⟩, fun to t => by simp⟩ ⟨by repeat' (first | exact trivial | exact rfl | refine And.intro ?_ ?_), rfl, rfl, rfl, sk 66 _ (by omega) (sk 65 _ (by omega) (sk 62 _ (by omega) (mpH_self F)))⟩ ?_
  rintro ⟨k, l⟩ ⟨⟨hk1, hk2⟩, hlm⟩
  dsimp only at hk1 hk2 hlm
  ((conv => whnf); repeat ((first | (intro hq; try simp only [lnS] at hq) | refine sI ?_ | refine .intro _ (.intro rfl ?_)); (conv => whnf)))
  refine brB_dec (fun h2 => ?_) (fun h2 => ?_)
  ·have hkl : k < S.length := by dsimp only at h2; omega
   have hrow2 := strR_at hkl
   have hst : S.take (k + 1) = S.take k ++ [S[k]] := List.take_succ_eq_append_getElem hkl
   obtain ⟨v, hv⟩ := (hSm _).1 (List.getElem_mem hkl)
   generalize S[k] = s at *
   have bs := bsearch_spec R s hRs (by omega)
   ((conv => whnf); repeat ((first | (refine ⟨_, hrow2, ?_⟩) | (intro hq; try simp only [lnS] at hq) | refine sI ?_ | refine .intro _ (.intro rfl ?_)); (conv => whnf)))
   refine call_tri [] bs trivial (fun r hs => ?_)
   obtain ⟨n, b, rfl, hb1, hb2⟩ := hs.ex
   cases b
   ·((conv => whnf); repeat' ((first | (intro hq; (try simp only [lnS] at hq); (try rewrite [List.length_map])) | refine sJ ?_ | refine .intro _ (.intro rfl ?_) | (refine .intro (show (_ : Nat) < List.length _ from by first | omega | (simp only [lnS]; omega) | simp) ?_) | fail | refine draw_rule hty (by kernel_rfl) (by kernel_rfl) ?_ | ((first | refine brB_dec ?_ ?_ | refine brB_ndec ?_ ?_) <;> intro hb <;> (first | contradiction | ((try simp only [lnS] at hb); try (exfalso; omega)))) | (refine brB_split ?_ ?_ <;> intro hb <;> (first | contradiction | exact bT hb (by assumption) | exact bF hb (by assumption) | skip))) <;> (conv => whnf)))
    refine ⟨(k + 1, l), ⟨by dsimp only; omega, fun to t => ?_⟩, by dsimp only; omega, ⟨by repeat' (first | exact trivial | exact rfl | refine And.intro ?_ ?_), rfl, rfl, rfl, sk 66 _ (by omega) (sk 65 _ (by omega) (sk 62 _ (by omega) (mpH_self F)))⟩⟩
    rw [hlm, hst]
    constructor
    ·rintro ⟨b, q1, q2⟩; exact ⟨b, List.mem_append_left _ q1, q2⟩
    ·rintro ⟨b, q1, q2, q3⟩
     rcases List.mem_append.1 q1 with q1 | q1
     ·exact ⟨b, q1, q2, q3⟩
     ·simp at q1; subst q1
      exact absurd (List.mem_of_getElem? q2) (hb2 rfl)
   ·have hRn2 := hb1 rfl
    have hl2 := look_entB (mget x.1 s)
    rw [← mget_entB, hv] at hl2
    have hrl : (l.map stpR).length = l.length := List.length_map ..
    have hb63 : (l.map stpR).length + 1 ≤ 9223372036854775807 := by rw [hrl]; omega
    have hb48 : ((l.map stpR).length + 1) * 16 ≤ 140737488355328 := by rw [hrl]; omega
    ((conv => whnf); repeat ((first | (intro hq; try simp only [lnS] at hq) | refine sI ?_ | refine .intro _ (.intro rfl ?_)); (conv => whnf)))
    refine lookup_map (id := 33) (ents := entO 0 M) (k := a) (bs := g.1) (clock := g.2) rfl rfl (keyT_str rfl) rfl rfl rfl rfl ?_
    rw [hm, show lookRes false (Option.map (fun i => SV.xv (1000 + (0 + i)) mapV) (some i)) (ofV (Value.map none)) = SV.xv (1000 + (0 + i)) mapV from rfl]
    ((conv => whnf); repeat ((first | (intro hq; try simp only [lnS] at hq) | refine sI ?_ | refine .intro _ (.intro rfl ?_)); (conv => whnf)))
    refine lookup_map (id := 1000 + (0 + i)) (ents := entB x.1) (k := s) (bs := x.2.1) (clock := x.2.2) rfl rfl (keyT_str rfl) rfl rfl (getH_ne (getH_ne (getH_ne (getH_ne hgi (show 33 ≠ 1000 + (0 + i) by omega)) (show 62 ≠ 1000 + (0 + i) by omega)) (show 65 ≠ 1000 + (0 + i) by omega)) (show 66 ≠ 1000 + (0 + i) by omega)) rfl ?_
    rw [show ofV (Value.bool false) = SV.d (.bool false) from rfl, hl2]
    ((conv => whnf); repeat ((first | (refine And.intro (show fresh 107 _ _ _ from ⟨pinn _ (by omega), by simp [oneOf, mkAgg, splice, allD, idsF_nil, idsF_cons, SV.ids, SV.idsL, argFr, ids_ofV] <;> omega, nmC (show 107 ≠ 66 by decide) (by simp [ids_own]) (fr1 107 _ (by omega) (by decide) (by decide))⟩) ?_) | (refine And.intro hb63 ?_) | (refine And.intro hb48 ?_) | (intro hq; try simp only [lnS] at hq) | refine sI ?_ | refine .intro _ (.intro rfl ?_)); (conv => whnf)))
    have hmp : (l ++ [(n, v)]).map stpR = l.map stpR ++ [[.int .i64 n, .bool v]] := by rw [List.map_append]; rfl
    refine ⟨(k + 1, l ++ [(n, v)]), ⟨⟨by dsimp only; omega, by dsimp only; rw [List.length_append, List.length_singleton]; omega⟩, fun to t => ?_⟩, by dsimp only; omega, ?_⟩
    ·rw [hst]
     dsimp only
     rw [List.mem_append, hlm]
     constructor
     ·rintro (⟨b, q1, q2⟩ | q)
      ·exact ⟨b, List.mem_append_left _ q1, q2⟩
      ·simp at q
       obtain ⟨rfl, rfl⟩ := q
       exact ⟨s, by simp, hRn2, hv⟩
     ·rintro ⟨b, q1, q2, q3⟩
      rcases List.mem_append.1 q1 with q1 | q1
      ·exact .inl ⟨b, q1, q2, q3⟩
      ·simp at q1; subst q1
       right
       rw [hv] at q3
       injection q3 with q3
       obtain ⟨e1, e2⟩ := List.getElem?_eq_some_iff.1 q2
       obtain ⟨e3, e4⟩ := List.getElem?_eq_some_iff.1 hRn2
       have := (List.getElem_inj hRn).1 (e2.trans e4.symm)
       simp [this, q3]
    ·dsimp only
     rw [hmp, List.length_append]
     exact ⟨by repeat' (first | exact trivial | exact rfl | refine And.intro ?_ ?_), rfl, rfl, rfl, sk _ _ (by right; exact ⟨Nat.le_of_ble_eq_true rfl, Nat.le_of_ble_eq_true rfl⟩) (sk 66 _ (by omega) (sk 65 _ (by omega) (sk 62 _ (by omega) (mpH_self F))))⟩
  ·((conv => whnf); repeat ((first | (refine And.intro (show fresh 113 _ _ _ from ⟨pinn _ (by omega), by simp [oneOf, idsF_nil, idsF_cons, SV.ids, SV.idsL, argFr, ids_ofV], nmC (show 113 ≠ 66 by decide) (by simp [ids_own]) (fr1 113 _ (by omega) (by decide) (by decide))⟩) ?_) | (intro hq; try simp only [lnS] at hq) | refine sI ?_ | refine .intro _ (.intro rfl ?_)); (conv => whnf)))
   have hkl : k = S.length := by dsimp only at h2; omega
   subst hkl
   rw [List.take_length] at hlm
   have hmp : (G ++ [l]).map adjR = G.map adjR ++ [adjR l] := by rw [List.map_append]; rfl
   refine ⟨(j + 1, G ++ [l]), ⟨⟨by dsimp only; omega, by dsimp only; rw [List.length_append, List.length_singleton]; omega⟩, fun i' a' hi' ha' => ?_⟩, by dsimp only; omega, ?_⟩
   ·dsimp only at hi' ⊢
    by_cases hij : i' < j
    ·have e : adjAt (G ++ [l]) i' = adjAt G i' := by
      unfold adjAt
      rw [List.getElem?_append_left (by omega)]
     rw [e]
     exact hG i' a' hij ha'
    ·have : i' = j := by omega
     subst this
     rw [hRj] at ha'
     injection ha' with ha'
     subst ha'
     have e : adjAt (G ++ [l]) i' = l := by
      unfold adjAt
      rw [List.getElem?_append_right (by omega), hGl, Nat.sub_self]; rfl
     rw [e]
     intro to t
     rw [hlm]
     constructor
     ·rintro ⟨b, q1, q2, q3⟩; exact ⟨b, q2, (hME b t).2 q3⟩
     ·rintro ⟨b, q1, q2⟩
      have q3 := (hME b t).1 q2
      exact ⟨b, (hSm b).2 ⟨t, q3⟩, q1, q3⟩
   ·dsimp only
    rw [hmp, List.length_append]
    exact ⟨by repeat' (first | exact trivial | exact rfl | refine And.intro ?_ ?_), rfl, rfl, sk _ _ (by right; exact ⟨Nat.le_of_ble_eq_true rfl, Nat.le_of_ble_eq_true rfl⟩) (sk 66 _ (by omega) (sk 65 _ (by omega) (sk 62 _ (by omega) (mpH_self F))))⟩
 ·have hjl : j = R.length := by dsimp only at h1; omega
  ((conv => whnf); repeat ((first | (intro hq; try simp only [lnS] at hq) | refine sI ?_ | refine .intro _ (.intro rfl ?_)); (conv => whnf)))
  refine ⟨hp0, ?_, hfin G (by omega) (fun i a ha => hG i a (by have := (List.getElem?_eq_some_iff.1 ha).1; omega) ha)⟩
  have h0 : subH hp0 (mpH M g hp0) := subH_iff fun p hp => subH_mem (mpH_self F) p (List.mem_cons_of_mem _ (List.mem_append_right _ hp))
  exact subH_skip (subH_skip h0 fun p hp e => by have := F.lo _ (key_ids hp); omega) fun p hp e => by have := F.lo _ (key_ids hp); omega
end Go.Proofs.YtnemengadjimcaaGreatDoor
namespace Go.Proofs.YtnemengadjimcaaGreatDoor
open Go.Proofs
set_option maxRecDepth 10000
attribute [local irreducible] SemVC CallVC Tri Stuck YVC GenP GenVC
structure RevI (l : List Int) (i : Nat) (rows : List Int) : Prop where
 len : rows.length = l.length
 at_ : ∀ (k : Nat) (h : k < l.length), rows[k]'(by omega) = if k < i ∨ l.length ≤ k + i then l[l.length - 1 - k]'(by omega) else l[k]
theorem RevI.zero (l : List Int) : RevI l 0 l := ⟨rfl, fun k h => by rw [if_neg (by omega)]⟩
theorem RevI.step {l rows : List Int} {i : Nat} (h : RevI l i rows) (hi : 2 * i + 1 < l.length) (x y : Int) (hx : x = l[l.length - 1 - i]'(by omega)) (hy : y = l[i]'(by omega)) : RevI l (i + 1) ((rows.set i x).set (l.length - 1 - i) y) := by
 have hl := h.len
 refine ⟨by simp [h.len], fun k hk => ?_⟩
 rw [List.getElem_set, List.getElem_set]
 by_cases h1 : l.length - 1 - i = k
 ·rw [if_pos h1, if_pos (by omega), hy]; congr 1; omega
 ·rw [if_neg h1]
  by_cases h2 : i = k
  ·rw [if_pos h2, if_pos (by omega), hx]; congr 1; omega
  ·rw [if_neg h2, h.at_ k hk]
   by_cases h3 : k < i ∨ l.length ≤ k + i
   ·rw [if_pos h3, if_pos (by omega)]
   ·rw [if_neg h3, if_neg (by omega)]
theorem RevI.done {l rows : List Int} {i : Nat} (h : RevI l i rows) (hi : l.length ≤ 2 * i + 1) : rows = l.reverse := by
 have hl := h.len
 refine List.ext_getElem (by simp [h.len]) fun k h1 h2 => ?_
 rw [List.getElem_reverse, h.at_ k (by omega)]
 by_cases h3 : k < i ∨ l.length ≤ k + i
 ·rw [if_pos h3]
 ·rw [if_neg h3]; congr 1; omega
theorem RevI.mid {l rows : List Int} {i k : Nat} (h : RevI l i rows) (h1 : i ≤ k) (h2 : k + i < l.length) : rows[k]'(by have := h.len; omega) = l[k]'(by omega) := by
 rw [h.at_ k (by omega), if_neg (by omega)]
theorem rev_call (l : List Int) (cap : Nat) (rest : Hp) {pin : List Nat} {fr : Fr} {K : SV → Hp → Prop} (hl : l.length ≤ 1000000)
  (fin : K (oneOf []) ((76, .mrow 3 1 cap (l.reverse.map numR)) :: rest)) :
  CallVC Tryz.prog pin fr ((76, .mrow 3 1 cap (l.map numR)) :: rest) 135 [.mw 76 1 l.length] K := by
 refine call_inline hty Tryz.func135 rfl (kp [0, 2, 3, 9]) 500 (by simp [Tryz.f135]) ?_
 ((conv => whnf); repeat ((first | (intro hq; try simp only [lnS] at hq) | refine sI ?_ | refine .intro _ (.intro rfl ?_)); (conv => whnf)))
 refine loop_eq hty (fun y : Nat × List Int => ([(0, .mw 76 1 l.length), (2, .d (.int .i64 y.1)), (3, .d (.int .i64 (l.length - 1 - y.1)))], (76, .mrow 3 1 cap (y.2.map numR)) :: rest)) (fun y => y.1 ≤ l.length ∧ RevI l y.1 y.2) (fun y => l.length - y.1) (0, l) ⟨Nat.zero_le _, .zero l⟩ (by repeat' (first | exact trivial | exact rfl | exact wkInt (by dsimp only; omega) | refine And.intro ?_ ?_)) rfl ?_
 rintro ⟨i, rows⟩ ⟨hi, hR⟩
 dsimp only at hi hR
 have hlen := hR.len
 ((conv => whnf); repeat ((first | (intro hq; try simp only [lnS] at hq) | refine sI ?_ | refine .intro _ (.intro rfl ?_)); (conv => whnf)))
 refine brB_dec (fun h1 => ?_) (fun h1 => ?_)
 ·dsimp only at h1
  (conv => whnf)
  refine ord_rule hty [0, 1, 2, 3, 4, 5, 6, 7, 8, 9, 10, 11, 12, 13, 14, 15] (by kernel_rfl) (by kernel_rfl) ?_
  ((conv => whnf); repeat' ((first | (intro hq; (try simp only [lnS] at hq); (try rewrite [List.length_map])) | refine sJ ?_ | refine .intro _ (.intro rfl ?_) | (refine .intro (show (_ : Nat) < List.length _ from by first | omega | (simp only [lnS]; omega) | simp) ?_) | (refine ⟨_, row_at (by first | omega | (simp only [List.length_map]; omega)), ?_⟩) | refine draw_rule hty (by kernel_rfl) (by kernel_rfl) ?_ | ((first | refine brB_dec ?_ ?_ | refine brB_ndec ?_ ?_) <;> intro hb <;> (first | contradiction | ((try simp only [lnS] at hb); try (exfalso; omega)))) | (refine brB_split ?_ ?_ <;> intro hb <;> (first | contradiction | exact bT hb (by assumption) | exact bF hb (by assumption) | skip))) <;> (conv => whnf)))
  refine ⟨_, List.getElem?_eq_getElem (by simp only [List.length_set, List.length_map]; omega), ?_⟩
  ((conv => whnf); repeat' ((first | (intro hq; (try simp only [lnS] at hq); (try rewrite [List.length_map])) | refine sJ ?_ | refine .intro _ (.intro rfl ?_) | (refine .intro (show (_ : Nat) < List.length _ from by first | omega | (simp only [lnS]; omega) | simp) ?_) | (refine ⟨_, row_at (by first | omega | (simp only [List.length_map]; omega)), ?_⟩) | refine draw_rule hty (by kernel_rfl) (by kernel_rfl) ?_ | ((first | refine brB_dec ?_ ?_ | refine brB_ndec ?_ ?_) <;> intro hb <;> (first | contradiction | ((try simp only [lnS] at hb); try (exfalso; omega)))) | (refine brB_split ?_ ?_ <;> intro hb <;> (first | contradiction | exact bT hb (by assumption) | exact bF hb (by assumption) | skip))) <;> (conv => whnf)))
  have e1 : ((l.length : Int) - 1 - (i : Int)).toNat = l.length - 1 - i := by omega
  refine ⟨(i + 1, (rows.set i (rows[l.length - 1 - i]'(by omega))).set (l.length - 1 - i) (rows[i]'(by omega))), ⟨by dsimp only; omega, hR.step (by omega) _ _ (hR.mid (by omega) (by omega)) (hR.mid (by omega) (by omega))⟩, by dsimp only; omega, by repeat' (first | exact trivial | exact rfl | exact wkInt (by dsimp only; omega) | refine And.intro ?_ ?_), ?_⟩
  simp only [e1, Int.toNat_natCast, List.map_set]
  rfl
 ·dsimp only at h1
  rw [hR.done (by omega)]
  exact fin
end Go.Proofs.YtnemengadjimcaaGreatDoor
