/-
  The keys of a set of strings, collected and sorted: maps.Keys, slices.AppendSeq, slices.Collect, slices.Sorted.
  Conditions: none.
-/
import Derived.Test.YtpecmehekandgaaGreatDoorMAo
import Derived.Test.YtpecmehekandgaaGreatDoorMA1
import Derived.Test.YtpecmehekandgaaGreatDoorMSna
import Derived.Sort.KeysCollected
set_option linter.unnecessarySimpa false
set_option linter.unusedSectionVars false
set_option linter.unusedSimpArgs false
set_option linter.unusedVariables false
namespace Go.Proofs.YtpecmehekandgaaGreatDoor
open Go.Proofs
set_option maxRecDepth 10000
attribute [local irreducible] SemVC CallVC Tri Stuck YVC GenP GenVC
theorem idsF_nil : idsF [] = [] := rfl
theorem idsF_cons (k : Nat) (s : SV) (r : Fr) : idsF ((k, s) :: r) = s.ids ++ idsF r := rfl
theorem idsH_nil : idsH [] = [] := rfl
theorem idsH_cons (k : Nat) (o : HObj) (r : Hp) : idsH ((k, o) :: r) = (k :: o.ids) ++ idsH r := rfl
theorem ids_cells (t : TypeId) (cs : List SV) : (HObj.cells t cs).ids = SV.idsL cs := rfl
theorem ids_mrow (e z cap : Nat) (rows : List (List D)) : (HObj.mrow e z cap rows).ids = [] := rfl
theorem ids_own (e z n : Nat) : (HObj.own e z n).ids = [] := rfl
theorem ids_loop (L : LoopI) (s : LoopAt) : (HObj.loop L s).ids = idsF L.fr := rfl
theorem ids_iter (m : Nat) (bs : List Nat) (c : Nat) (v : List Nat) : (HObj.ext (iterX m bs c v)).ids = [m] := rfl
theorem ids_ofV (v : Value) : (ofV v).ids = [] := by
  unfold ofV
  split <;> (try split) <;> rfl
theorem subH_skip {id : Nat} {o : HObj} : ∀ {hp' hp : Hp}, subH hp' hp → (∀ p ∈ hp', p.1 ≠ id) → subH hp' ((id, o) :: hp)
  | [], _, _, _ => trivial
  | (k, x) :: r, hp, h, hn => by
    refine ⟨?_, subH_skip h.2 fun p hp => hn p (List.mem_cons_of_mem _ hp)⟩
    have : k ≠ id := hn (k, x) (by simp)
    show getH ((id, o) :: hp) k = some x
    rw [getH_cons_ne (Ne.symm this)]
    exact h.1
theorem key_ids {hp : Hp} {p : Nat × HObj} (h : p ∈ hp) : p.1 ∈ idsH hp := by
  simp only [idsH, List.mem_flatMap, List.mem_cons]
  exact ⟨p, h, .inl rfl⟩
theorem subH_big {hp0 hp : Hp} (hh : ∀ k, 100 ≤ k → k ∉ idsH hp0) {id : Nat} (hid : 100 ≤ id) {o : HObj} (h : subH hp0 hp) : subH hp0 ((id, o) :: hp) :=
  subH_skip h fun p hp e => hh id hid (e ▸ key_ids hp)
def visK (ks : List (List UInt8)) (i : Nat) : List UInt8 := ks.getD i []
theorem entK_get {ks : List (List UInt8)} {i : Nat} {p : List UInt8 × SV} (h : (entK ks)[i]? = some p) : i < ks.length ∧ p = (visK ks i, SV.d (.bool true)) := by
  rw [entK, List.getElem?_map, Option.map_eq_some_iff] at h
  obtain ⟨k, h1, rfl⟩ := h
  refine ⟨(List.getElem?_eq_some_iff.1 h1).1, ?_⟩
  rw [visK, List.getD, h1]; rfl
theorem delHK_of {t : Nat} : ∀ {hp0 : Hp} {K : Hp → Prop}, t ∉ idsH hp0 → K hp0 → delHK hp0 t K
  | [], _, _, h => h
  | (k, o) :: r, K, hn, h => by
    have h1 : k ≠ t := fun e => hn (by rw [idsH_cons]; simp [e])
    have h2 : t ∉ idsH r := fun e => hn (by rw [idsH_cons]; simp [e])
    rw [delHK, if_neg h1]
    exact delHK_of h2 h
theorem exists_tail {x : Nat × HObj} {hp : Hp} {K : Hp → Prop} (h : subH hp (x :: hp)) (hk : K hp) : ∃ hp'', subH hp'' (x :: hp) ∧ K hp'' := ⟨hp, h, hk⟩
theorem getH_none {id : Nat} : ∀ {hp : Hp}, id ∉ idsH hp → getH hp id = none
  | [], _ => rfl
  | (k, o) :: r, h => by
    have h1 : k ≠ id := fun e => h (by rw [idsH_cons]; simp [e])
    have h2 : id ∉ idsH r := fun e => h (by rw [idsH_cons]; simp [e])
    rw [getH_cons_ne h1]
    exact getH_none h2
def sortK (ks : List (List UInt8)) : List (List UInt8) := ks.mergeSort fun x y => decide (x ≤ y)
theorem perm_vis {α : Type} {l : List α} {vis : List Nat} (hn : vis.Nodup) (hv : ∀ i ∈ vis, i < l.length) (ha : ∀ i, i < l.length → i ∈ vis) (f : Nat → α) (hf : ∀ i (h : i < l.length), f i = l[i]) : (vis.map f).Perm l := by
  have h1 : vis.Perm (List.range l.length) := (List.perm_ext_iff_of_nodup hn List.nodup_range).2 fun i => by rw [List.mem_range]; exact ⟨hv i, ha i⟩
  have h2 := h1.map f
  have h3 : (List.range l.length).map f = l := by
    apply List.ext_getElem
    · simp
    · intro i h1 h2
      simp [hf i h2]
  rwa [h3] at h2
theorem vis_len {vis : List Nat} {n : Nat} (hn : vis.Nodup) (hv : ∀ i ∈ vis, i < n) : vis.length ≤ n := by
  have h := List.Nodup.length_le_of_subset hn (fun i hi => List.mem_range.2 (hv i hi))
  simpa using h
set_option maxHeartbeats 16000000 in
theorem appendSeq_34 (ks : List (List UInt8)) (g : List Nat × Nat) (hlen : ks.length ≤ 1000000) (hp0 : Hp) {pin : List Nat} {fr : Fr} {K : SV → Hp → Prop} (hp1 : ∀ k, 100 ≤ k → k ∉ pin) (hf : ∀ k, 100 ≤ k → k ∉ idsF fr) (hh : ∀ k, 100 ≤ k → k ∉ idsH hp0) (hs : ∀ o1 o2, subH hp0 ((34, o1) :: (51, o2) :: hp0))
    (hk : ∀ (ks' : List (List UInt8)) (cap : Nat), ks'.Perm ks → K (.mw 145 1 ks'.length) ((145, .mrow 9 1 cap (ks'.map strR)) :: (34, setO ks g) :: (51, .cells 80 [.xv 34 mapV]) :: hp0)) :
    CallVC Tryz.prog pin fr ((34, setO ks g) :: (51, .cells 80 [.xv 34 mapV]) :: hp0) 103 [.d .nil, .fn 79 [] [.ptr 51 0]] K := by
  refine CallVC.weak ?_
  refine call_inlineF false [] hty Tryz.func103 rfl (kp [0, 1, 2, 4, 5, 6, 7]) 139 (by simp [Tryz.f103]) ?_
  ((conv => whnf); repeat ((first | (refine And.intro (by refine ⟨?_, ?_, ?_⟩ <;> simp [idsF_nil, idsF_cons, idsH_nil, idsH_cons, argFr, SV.ids, SV.idsL, ids_cells, ids_mrow, ids_own, ids_loop, ids_iter, setO_ids, ids_ofV, setH, hp1, hf, hh]) ?_) | (refine And.intro (by simp [SV.ids, SV.idsL]) ?_) | (intro hq; try simp only [lnS] at hq) | refine sI ?_ | refine .intro _ (.intro rfl ?_)); (conv => whnf)))
  refine SemVC.mownC 141 145 32 9 1 0 rfl rfl (by refine ⟨?_, ?_, ?_⟩ <;> simp [idsF_nil, idsF_cons, idsH_nil, idsH_cons, argFr, SV.ids, SV.idsL, ids_cells, ids_mrow, ids_own, ids_loop, ids_iter, setO_ids, ids_ofV, setH, hp1, hf, hh]) ?_
  refine range_rule 149 (by refine ⟨?_, ?_, ?_⟩ <;> simp [idsF_nil, idsF_cons, idsH_nil, idsH_cons, argFr, SV.ids, SV.idsL, ids_cells, ids_mrow, ids_own, ids_loop, ids_iter, setO_ids, ids_ofV, setH, hp1, hf, hh]) trivial ?_
  ((conv => whnf); repeat ((first | (intro hq; try simp only [lnS] at hq) | refine sI ?_ | refine .intro _ (.intro rfl ?_)); (conv => whnf)))
  refine call_inlineF false [] hty Tryz.func79 rfl (kp [0, 1, 3, 5, 7, 13]) 150 (by simp [Tryz.f79]) ?_
  ((conv => whnf); repeat ((first | (refine range_map rfl rfl rfl rfl 147 (by refine ⟨?_, ?_, ?_⟩ <;> simp [idsF_nil, idsF_cons, idsH_nil, idsH_cons, argFr, SV.ids, SV.idsL, ids_cells, ids_mrow, ids_own, ids_loop, ids_iter, setO_ids, ids_ofV, setH, hp1, hf, hh]) ?_) | (intro hq; try simp only [lnS] at hq) | refine sI ?_ | refine .intro _ (.intro rfl ?_)); (conv => whnf)))
  refine loop_eq hty (fun y : List Nat × Nat => ([(0, .yld 149), (5, .xv 147 iterV)], (147, .ext (iterX 34 g.1 g.2 y.1)) :: (149, _) :: (145, .mrow 9 1 y.2 ((y.1.map (visK ks)).map strR)) :: (141, .cells 32 [.mw 145 1 y.1.length]) :: (34, setO ks g) :: (51, .cells 80 [.xv 34 mapV]) :: hp0)) (fun y => y.1.Nodup ∧ ∀ i ∈ y.1, i < ks.length) (fun y => ks.length - y.1.length) ([], 0) ⟨.nil, by simp⟩ (by repeat' (first | exact trivial | exact rfl | refine And.intro ?_ ?_)) rfl ?_
  rintro ⟨vis, cap⟩ ⟨hvn, hvl⟩
  dsimp only at hvn hvl
  have hvle := vis_len hvn hvl
  ((conv => whnf); repeat ((first | (intro hq; try simp only [lnS] at hq) | refine sI ?_ | refine .intro _ (.intro rfl ?_)); (conv => whnf)))
  refine next_map rfl rfl rfl rfl (fun ha => ?_) (fun i p hp hni => ?_)
  · have ha' : ∀ i, i < ks.length → i ∈ vis := fun i hi => ha i (by simpa [entK] using hi)
    have hperm := perm_vis hvn hvl ha' (visK ks) (fun i h => by rw [visK, List.getD, List.getElem?_eq_getElem h]; rfl)
    have hend := hk (vis.map (visK ks)) cap hperm
    rw [List.length_map] at hend
    ((conv => whnf); repeat ((first | (intro hq; try simp only [lnS] at hq) | refine sI ?_ | refine .intro _ (.intro rfl ?_)); (conv => whnf)))
    refine delHK_of (hh _ (by decide)) ?_
    ((conv => whnf); repeat ((first | (intro hq; try simp only [lnS] at hq) | refine sI ?_ | refine .intro _ (.intro rfl ?_)); (conv => whnf)))
    refine ⟨_, ?_, hend⟩
    refine ⟨rfl, rfl, rfl, subH_big hh (by decide) (subH_big hh (by decide) (subH_big hh (by decide) (hs _ _)))⟩
  · obtain ⟨hil, rfl⟩ := entK_get hp
    have hvl2 : vis.length + 1 ≤ ks.length := by
      have h1 : (vis ++ [i]).Nodup := by
        rw [List.nodup_append]
        exact ⟨hvn, by simp, fun a ha b hb => by simp at hb; subst hb; exact fun e => hni (e ▸ ha)⟩
      have := vis_len h1 (fun j hj => by rcases List.mem_append.1 hj with h | h; exact hvl j h; simp at h; subst h; exact hil)
      simpa using this
    have hrl : ((vis.map (visK ks)).map strR).length = vis.length := by rw [List.length_map, List.length_map]
    have hb63 : ((vis.map (visK ks)).map strR).length + 1 ≤ 9223372036854775807 := by rw [hrl]; omega
    have hb48 : (((vis.map (visK ks)).map strR).length + 1) * 16 ≤ 140737488355328 := by rw [hrl]; omega
    ((conv => whnf); repeat ((first | (refine entry_map rfl rfl rfl rfl hp ?_) | (intro hq; try simp only [lnS] at hq) | refine sI ?_ | refine .intro _ (.intro rfl ?_)); (conv => whnf)))
    refine YVC.weak ?_
    refine yield_roundF [] hty (kp [0, 1, 2, 4, 5, 6, 7]) 160 rfl rfl ?_
    ((conv => whnf); repeat ((first | (refine And.intro (by refine ⟨?_, ?_, ?_⟩ <;> simp [idsF_nil, idsF_cons, idsH_nil, idsH_cons, argFr, SV.ids, SV.idsL, ids_cells, ids_mrow, ids_own, ids_loop, ids_iter, setO_ids, ids_ofV, setH, hp1, hf, hh]) ?_) | (refine And.intro hrl.symm ?_) | (refine And.intro hb63 ?_) | (refine And.intro hb48 ?_) | (intro hq; try simp only [lnS] at hq) | refine sI ?_ | refine .intro _ (.intro rfl ?_)); (conv => whnf)))
    rename_i cap'
    refine exists_tail ⟨rfl, rfl, rfl, rfl, rfl, rfl, subH_big hh (Nat.le_of_ble_eq_true rfl) (subH_big hh (by decide) (subH_big hh (by decide) (subH_big hh (by decide) (subH_big hh (by decide) (hs _ _)))))⟩ ?_
    ((conv => whnf); repeat ((first | (intro hq; try simp only [lnS] at hq) | refine sI ?_ | refine .intro _ (.intro rfl ?_)); (conv => whnf)))
    have hrows : ((vis ++ [i]).map (visK ks)).map strR = (vis.map (visK ks)).map strR ++ [[.str (visK ks i)]] := by
      rw [List.map_append, List.map_append]; rfl
    have hmw : SV.mw 145 1 (vis ++ [i]).length = SV.mw 145 1 (((vis.map (visK ks)).map strR).length + 1) := by rw [hrl, List.length_append]; rfl
    refine ⟨(vis ++ [i], cap'), ⟨?_, ?_⟩, ?_, by repeat' (first | exact trivial | exact rfl | refine And.intro ?_ ?_), ?_⟩
    · dsimp only
      rw [List.nodup_append]
      exact ⟨hvn, by simp, fun a ha b hb => by simp at hb; subst hb; exact fun e => hni (e ▸ ha)⟩
    · intro j hj
      rcases List.mem_append.1 hj with h | h
      · exact hvl j h
      · simp at h; subst h; exact hil
    · dsimp only; rw [List.length_append]; simp; omega
    · dsimp only
      rw [hrows, hmw]
      rfl
set_option maxHeartbeats 16000000 in
theorem sorted_34 (ks : List (List UInt8)) (g : List Nat × Nat) (hlen : ks.length ≤ 1000000) (hp0 : Hp) {pin : List Nat} {fr : Fr} {K : SV → Hp → Prop} (hp1 : ∀ k, 100 ≤ k → k ∉ pin) (hf : ∀ k, 100 ≤ k → k ∉ idsF fr) (hh : ∀ k, 100 ≤ k → k ∉ idsH hp0) (hs : ∀ o1 o2, subH hp0 ((34, o1) :: (51, o2) :: hp0)) (hr : 64 ∉ pin ∧ 64 ∉ idsF fr ∧ 64 ∉ idsH hp0)
    (hk : ∀ (cap : Nat), K (.mw 64 1 (sortK ks).length) ((64, .mrow 9 1 cap ((sortK ks).map strR)) :: (34, setO ks g) :: (51, .cells 80 [.xv 34 mapV]) :: hp0)) :
    CallVC Tryz.prog pin fr ((34, setO ks g) :: (51, .cells 80 [.xv 34 mapV]) :: hp0) 44 [.fn 79 [] [.ptr 51 0]] K := by
  refine CallVC.closeP 64 ?_
  refine call_inlineF false [] hty Tryz.func44 rfl (kp [0, 2, 3]) 110 (by simp [Tryz.f44]) ?_
  ((conv => whnf); repeat ((first | (intro hq; try simp only [lnS] at hq) | refine sI ?_ | refine .intro _ (.intro rfl ?_)); (conv => whnf)))
  refine call_inlineF false [] hty Tryz.func77 rfl (kp [0, 2]) 120 (by simp [Tryz.f77]) ?_
  ((conv => whnf); repeat ((first | (intro hq; try simp only [lnS] at hq) | refine sI ?_ | refine .intro _ (.intro rfl ?_)); (conv => whnf)))
  refine appendSeq_34 ks g hlen hp0 (fun k hk => by simp [idsF_nil, idsF_cons, SV.ids, SV.idsL, ids_ofV, hp1 k hk, hf k hk]; omega) (fun k hk => by simp [idsF_nil, idsF_cons, SV.ids, SV.idsL, argFr, ids_ofV]; omega) hh hs (fun ks' cap hperm => ?_)
  have hpl := hperm.length_eq
  ((conv => whnf); repeat ((first | (intro hq; try simp only [lnS] at hq) | refine sI ?_ | refine .intro _ (.intro rfl ?_)); (conv => whnf)))
  refine sortStr_call Tryz.sortStr ks' rfl rfl (by omega) ?_
  have hso : (ks'.mergeSort fun x y => decide (x ≤ y)) = sortK ks := mergeSort_of_perm hperm
  rw [hso]
  have hsl : (sortK ks).length = ks.length := (List.mergeSort_perm _ _).length_eq
  ((conv => whnf); repeat ((first | (intro hq; try simp only [lnS] at hq) | refine sI ?_ | refine .intro _ (.intro rfl ?_)); (conv => whnf)))
  refine ⟨145, _, 1, cap, ks'.length, ks'.length, _, (34, setO ks g) :: (51, .cells 80 [.xv 34 mapV]) :: hp0, .inr ⟨rfl, rfl⟩, rfl, ?_, Nat.le_refl _, ⟨hr.1, hr.2.1, ?_⟩, ⟨rfl, rfl, subH_big hh (by decide) (hs _ _)⟩, ?_, fun cap' => ?_⟩
  · rw [List.length_map, hsl]; exact hpl
  · show 64 ∉ idsH ((145, .mrow _ _ _ _) :: (34, setO ks g) :: (51, .cells 80 [.xv 34 mapV]) :: hp0)
    simp [idsH_cons, ids_cells, ids_mrow, setO_ids, SV.idsL, SV.ids, hr.2.2]
  · exact getH_none (by simp [idsH_cons, ids_cells, ids_mrow, setO_ids, SV.idsL, SV.ids, hh])
  · have := hk cap'
    rw [List.take_of_length_le (by rw [List.length_map]; omega), show ks'.length = (sortK ks).length by omega]
    exact this
set_option maxHeartbeats 16000000 in
theorem appendSeq_35 (ks : List (List UInt8)) (g : List Nat × Nat) (hlen : ks.length ≤ 1000000) (hp0 : Hp) {pin : List Nat} {fr : Fr} {K : SV → Hp → Prop} (hp1 : ∀ k, 100 ≤ k → k ∉ pin) (hf : ∀ k, 100 ≤ k → k ∉ idsF fr) (hh : ∀ k, 100 ≤ k → k ∉ idsH hp0) (hs : ∀ o1 o2, subH hp0 ((35, o1) :: (52, o2) :: hp0))
    (hk : ∀ (ks' : List (List UInt8)) (cap : Nat), ks'.Perm ks → K (.mw 145 1 ks'.length) ((145, .mrow 9 1 cap (ks'.map strR)) :: (35, setO ks g) :: (52, .cells 80 [.xv 35 mapV]) :: hp0)) :
    CallVC Tryz.prog pin fr ((35, setO ks g) :: (52, .cells 80 [.xv 35 mapV]) :: hp0) 103 [.d .nil, .fn 79 [] [.ptr 52 0]] K := by
  refine CallVC.weak ?_
  refine call_inlineF false [] hty Tryz.func103 rfl (kp [0, 1, 2, 4, 5, 6, 7]) 139 (by simp [Tryz.f103]) ?_
  ((conv => whnf); repeat ((first | (refine And.intro (by refine ⟨?_, ?_, ?_⟩ <;> simp [idsF_nil, idsF_cons, idsH_nil, idsH_cons, argFr, SV.ids, SV.idsL, ids_cells, ids_mrow, ids_own, ids_loop, ids_iter, setO_ids, ids_ofV, setH, hp1, hf, hh]) ?_) | (refine And.intro (by simp [SV.ids, SV.idsL]) ?_) | (intro hq; try simp only [lnS] at hq) | refine sI ?_ | refine .intro _ (.intro rfl ?_)); (conv => whnf)))
  refine SemVC.mownC 141 145 32 9 1 0 rfl rfl (by refine ⟨?_, ?_, ?_⟩ <;> simp [idsF_nil, idsF_cons, idsH_nil, idsH_cons, argFr, SV.ids, SV.idsL, ids_cells, ids_mrow, ids_own, ids_loop, ids_iter, setO_ids, ids_ofV, setH, hp1, hf, hh]) ?_
  refine range_rule 149 (by refine ⟨?_, ?_, ?_⟩ <;> simp [idsF_nil, idsF_cons, idsH_nil, idsH_cons, argFr, SV.ids, SV.idsL, ids_cells, ids_mrow, ids_own, ids_loop, ids_iter, setO_ids, ids_ofV, setH, hp1, hf, hh]) trivial ?_
  ((conv => whnf); repeat ((first | (intro hq; try simp only [lnS] at hq) | refine sI ?_ | refine .intro _ (.intro rfl ?_)); (conv => whnf)))
  refine call_inlineF false [] hty Tryz.func79 rfl (kp [0, 1, 3, 5, 7, 13]) 150 (by simp [Tryz.f79]) ?_
  ((conv => whnf); repeat ((first | (refine range_map rfl rfl rfl rfl 147 (by refine ⟨?_, ?_, ?_⟩ <;> simp [idsF_nil, idsF_cons, idsH_nil, idsH_cons, argFr, SV.ids, SV.idsL, ids_cells, ids_mrow, ids_own, ids_loop, ids_iter, setO_ids, ids_ofV, setH, hp1, hf, hh]) ?_) | (intro hq; try simp only [lnS] at hq) | refine sI ?_ | refine .intro _ (.intro rfl ?_)); (conv => whnf)))
  refine loop_eq hty (fun y : List Nat × Nat => ([(0, .yld 149), (5, .xv 147 iterV)], (147, .ext (iterX 35 g.1 g.2 y.1)) :: (149, _) :: (145, .mrow 9 1 y.2 ((y.1.map (visK ks)).map strR)) :: (141, .cells 32 [.mw 145 1 y.1.length]) :: (35, setO ks g) :: (52, .cells 80 [.xv 35 mapV]) :: hp0)) (fun y => y.1.Nodup ∧ ∀ i ∈ y.1, i < ks.length) (fun y => ks.length - y.1.length) ([], 0) ⟨.nil, by simp⟩ (by repeat' (first | exact trivial | exact rfl | refine And.intro ?_ ?_)) rfl ?_
  rintro ⟨vis, cap⟩ ⟨hvn, hvl⟩
  dsimp only at hvn hvl
  have hvle := vis_len hvn hvl
  ((conv => whnf); repeat ((first | (intro hq; try simp only [lnS] at hq) | refine sI ?_ | refine .intro _ (.intro rfl ?_)); (conv => whnf)))
  refine next_map rfl rfl rfl rfl (fun ha => ?_) (fun i p hp hni => ?_)
  · have ha' : ∀ i, i < ks.length → i ∈ vis := fun i hi => ha i (by simpa [entK] using hi)
    have hperm := perm_vis hvn hvl ha' (visK ks) (fun i h => by rw [visK, List.getD, List.getElem?_eq_getElem h]; rfl)
    have hend := hk (vis.map (visK ks)) cap hperm
    rw [List.length_map] at hend
    ((conv => whnf); repeat ((first | (intro hq; try simp only [lnS] at hq) | refine sI ?_ | refine .intro _ (.intro rfl ?_)); (conv => whnf)))
    refine delHK_of (hh _ (by decide)) ?_
    ((conv => whnf); repeat ((first | (intro hq; try simp only [lnS] at hq) | refine sI ?_ | refine .intro _ (.intro rfl ?_)); (conv => whnf)))
    refine ⟨_, ?_, hend⟩
    refine ⟨rfl, rfl, rfl, subH_big hh (by decide) (subH_big hh (by decide) (subH_big hh (by decide) (hs _ _)))⟩
  · obtain ⟨hil, rfl⟩ := entK_get hp
    have hvl2 : vis.length + 1 ≤ ks.length := by
      have h1 : (vis ++ [i]).Nodup := by
        rw [List.nodup_append]
        exact ⟨hvn, by simp, fun a ha b hb => by simp at hb; subst hb; exact fun e => hni (e ▸ ha)⟩
      have := vis_len h1 (fun j hj => by rcases List.mem_append.1 hj with h | h; exact hvl j h; simp at h; subst h; exact hil)
      simpa using this
    have hrl : ((vis.map (visK ks)).map strR).length = vis.length := by rw [List.length_map, List.length_map]
    have hb63 : ((vis.map (visK ks)).map strR).length + 1 ≤ 9223372036854775807 := by rw [hrl]; omega
    have hb48 : (((vis.map (visK ks)).map strR).length + 1) * 16 ≤ 140737488355328 := by rw [hrl]; omega
    ((conv => whnf); repeat ((first | (refine entry_map rfl rfl rfl rfl hp ?_) | (intro hq; try simp only [lnS] at hq) | refine sI ?_ | refine .intro _ (.intro rfl ?_)); (conv => whnf)))
    refine YVC.weak ?_
    refine yield_roundF [] hty (kp [0, 1, 2, 4, 5, 6, 7]) 160 rfl rfl ?_
    ((conv => whnf); repeat ((first | (refine And.intro (by refine ⟨?_, ?_, ?_⟩ <;> simp [idsF_nil, idsF_cons, idsH_nil, idsH_cons, argFr, SV.ids, SV.idsL, ids_cells, ids_mrow, ids_own, ids_loop, ids_iter, setO_ids, ids_ofV, setH, hp1, hf, hh]) ?_) | (refine And.intro hrl.symm ?_) | (refine And.intro hb63 ?_) | (refine And.intro hb48 ?_) | (intro hq; try simp only [lnS] at hq) | refine sI ?_ | refine .intro _ (.intro rfl ?_)); (conv => whnf)))
    rename_i cap'
    refine exists_tail ⟨rfl, rfl, rfl, rfl, rfl, rfl, subH_big hh (Nat.le_of_ble_eq_true rfl) (subH_big hh (by decide) (subH_big hh (by decide) (subH_big hh (by decide) (subH_big hh (by decide) (hs _ _)))))⟩ ?_
    ((conv => whnf); repeat ((first | (intro hq; try simp only [lnS] at hq) | refine sI ?_ | refine .intro _ (.intro rfl ?_)); (conv => whnf)))
    have hrows : ((vis ++ [i]).map (visK ks)).map strR = (vis.map (visK ks)).map strR ++ [[.str (visK ks i)]] := by
      rw [List.map_append, List.map_append]; rfl
    have hmw : SV.mw 145 1 (vis ++ [i]).length = SV.mw 145 1 (((vis.map (visK ks)).map strR).length + 1) := by rw [hrl, List.length_append]; rfl
    refine ⟨(vis ++ [i], cap'), ⟨?_, ?_⟩, ?_, by repeat' (first | exact trivial | exact rfl | refine And.intro ?_ ?_), ?_⟩
    · dsimp only
      rw [List.nodup_append]
      exact ⟨hvn, by simp, fun a ha b hb => by simp at hb; subst hb; exact fun e => hni (e ▸ ha)⟩
    · intro j hj
      rcases List.mem_append.1 hj with h | h
      · exact hvl j h
      · simp at h; subst h; exact hil
    · dsimp only; rw [List.length_append]; simp; omega
    · dsimp only
      rw [hrows, hmw]
      rfl
set_option maxHeartbeats 16000000 in
theorem sorted_35 (ks : List (List UInt8)) (g : List Nat × Nat) (hlen : ks.length ≤ 1000000) (hp0 : Hp) {pin : List Nat} {fr : Fr} {K : SV → Hp → Prop} (hp1 : ∀ k, 100 ≤ k → k ∉ pin) (hf : ∀ k, 100 ≤ k → k ∉ idsF fr) (hh : ∀ k, 100 ≤ k → k ∉ idsH hp0) (hs : ∀ o1 o2, subH hp0 ((35, o1) :: (52, o2) :: hp0)) (hr : 65 ∉ pin ∧ 65 ∉ idsF fr ∧ 65 ∉ idsH hp0)
    (hk : ∀ (cap : Nat), K (.mw 65 1 (sortK ks).length) ((65, .mrow 9 1 cap ((sortK ks).map strR)) :: (35, setO ks g) :: (52, .cells 80 [.xv 35 mapV]) :: hp0)) :
    CallVC Tryz.prog pin fr ((35, setO ks g) :: (52, .cells 80 [.xv 35 mapV]) :: hp0) 44 [.fn 79 [] [.ptr 52 0]] K := by
  refine CallVC.closeP 65 ?_
  refine call_inlineF false [] hty Tryz.func44 rfl (kp [0, 2, 3]) 110 (by simp [Tryz.f44]) ?_
  ((conv => whnf); repeat ((first | (intro hq; try simp only [lnS] at hq) | refine sI ?_ | refine .intro _ (.intro rfl ?_)); (conv => whnf)))
  refine call_inlineF false [] hty Tryz.func77 rfl (kp [0, 2]) 120 (by simp [Tryz.f77]) ?_
  ((conv => whnf); repeat ((first | (intro hq; try simp only [lnS] at hq) | refine sI ?_ | refine .intro _ (.intro rfl ?_)); (conv => whnf)))
  refine appendSeq_35 ks g hlen hp0 (fun k hk => by simp [idsF_nil, idsF_cons, SV.ids, SV.idsL, ids_ofV, hp1 k hk, hf k hk]; omega) (fun k hk => by simp [idsF_nil, idsF_cons, SV.ids, SV.idsL, argFr, ids_ofV]; omega) hh hs (fun ks' cap hperm => ?_)
  have hpl := hperm.length_eq
  ((conv => whnf); repeat ((first | (intro hq; try simp only [lnS] at hq) | refine sI ?_ | refine .intro _ (.intro rfl ?_)); (conv => whnf)))
  refine sortStr_call Tryz.sortStr ks' rfl rfl (by omega) ?_
  have hso : (ks'.mergeSort fun x y => decide (x ≤ y)) = sortK ks := mergeSort_of_perm hperm
  rw [hso]
  have hsl : (sortK ks).length = ks.length := (List.mergeSort_perm _ _).length_eq
  ((conv => whnf); repeat ((first | (intro hq; try simp only [lnS] at hq) | refine sI ?_ | refine .intro _ (.intro rfl ?_)); (conv => whnf)))
  refine ⟨145, _, 1, cap, ks'.length, ks'.length, _, (35, setO ks g) :: (52, .cells 80 [.xv 35 mapV]) :: hp0, .inr ⟨rfl, rfl⟩, rfl, ?_, Nat.le_refl _, ⟨hr.1, hr.2.1, ?_⟩, ⟨rfl, rfl, subH_big hh (by decide) (hs _ _)⟩, ?_, fun cap' => ?_⟩
  · rw [List.length_map, hsl]; exact hpl
  · show 65 ∉ idsH ((145, .mrow _ _ _ _) :: (35, setO ks g) :: (52, .cells 80 [.xv 35 mapV]) :: hp0)
    simp [idsH_cons, ids_cells, ids_mrow, setO_ids, SV.idsL, SV.ids, hr.2.2]
  · exact getH_none (by simp [idsH_cons, ids_cells, ids_mrow, setO_ids, SV.idsL, SV.ids, hh])
  · have := hk cap'
    rw [List.take_of_length_le (by rw [List.length_map]; omega), show ks'.length = (sortK ks).length by omega]
    exact this
set_option maxHeartbeats 16000000 in
theorem appendSeq_36 (ks : List (List UInt8)) (g : List Nat × Nat) (hlen : ks.length ≤ 1000000) (hp0 : Hp) {pin : List Nat} {fr : Fr} {K : SV → Hp → Prop} (hp1 : ∀ k, 100 ≤ k → k ∉ pin) (hf : ∀ k, 100 ≤ k → k ∉ idsF fr) (hh : ∀ k, 100 ≤ k → k ∉ idsH hp0) (hs : ∀ o1 o2, subH hp0 ((36, o1) :: (53, o2) :: hp0))
    (hk : ∀ (ks' : List (List UInt8)) (cap : Nat), ks'.Perm ks → K (.mw 145 1 ks'.length) ((145, .mrow 9 1 cap (ks'.map strR)) :: (36, setO ks g) :: (53, .cells 80 [.xv 36 mapV]) :: hp0)) :
    CallVC Tryz.prog pin fr ((36, setO ks g) :: (53, .cells 80 [.xv 36 mapV]) :: hp0) 103 [.d .nil, .fn 79 [] [.ptr 53 0]] K := by
  refine CallVC.weak ?_
  refine call_inlineF false [] hty Tryz.func103 rfl (kp [0, 1, 2, 4, 5, 6, 7]) 139 (by simp [Tryz.f103]) ?_
  ((conv => whnf); repeat ((first | (refine And.intro (by refine ⟨?_, ?_, ?_⟩ <;> simp [idsF_nil, idsF_cons, idsH_nil, idsH_cons, argFr, SV.ids, SV.idsL, ids_cells, ids_mrow, ids_own, ids_loop, ids_iter, setO_ids, ids_ofV, setH, hp1, hf, hh]) ?_) | (refine And.intro (by simp [SV.ids, SV.idsL]) ?_) | (intro hq; try simp only [lnS] at hq) | refine sI ?_ | refine .intro _ (.intro rfl ?_)); (conv => whnf)))
  refine SemVC.mownC 141 145 32 9 1 0 rfl rfl (by refine ⟨?_, ?_, ?_⟩ <;> simp [idsF_nil, idsF_cons, idsH_nil, idsH_cons, argFr, SV.ids, SV.idsL, ids_cells, ids_mrow, ids_own, ids_loop, ids_iter, setO_ids, ids_ofV, setH, hp1, hf, hh]) ?_
  refine range_rule 149 (by refine ⟨?_, ?_, ?_⟩ <;> simp [idsF_nil, idsF_cons, idsH_nil, idsH_cons, argFr, SV.ids, SV.idsL, ids_cells, ids_mrow, ids_own, ids_loop, ids_iter, setO_ids, ids_ofV, setH, hp1, hf, hh]) trivial ?_
  ((conv => whnf); repeat ((first | (intro hq; try simp only [lnS] at hq) | refine sI ?_ | refine .intro _ (.intro rfl ?_)); (conv => whnf)))
  refine call_inlineF false [] hty Tryz.func79 rfl (kp [0, 1, 3, 5, 7, 13]) 150 (by simp [Tryz.f79]) ?_
  ((conv => whnf); repeat ((first | (refine range_map rfl rfl rfl rfl 147 (by refine ⟨?_, ?_, ?_⟩ <;> simp [idsF_nil, idsF_cons, idsH_nil, idsH_cons, argFr, SV.ids, SV.idsL, ids_cells, ids_mrow, ids_own, ids_loop, ids_iter, setO_ids, ids_ofV, setH, hp1, hf, hh]) ?_) | (intro hq; try simp only [lnS] at hq) | refine sI ?_ | refine .intro _ (.intro rfl ?_)); (conv => whnf)))
  refine loop_eq hty (fun y : List Nat × Nat => ([(0, .yld 149), (5, .xv 147 iterV)], (147, .ext (iterX 36 g.1 g.2 y.1)) :: (149, _) :: (145, .mrow 9 1 y.2 ((y.1.map (visK ks)).map strR)) :: (141, .cells 32 [.mw 145 1 y.1.length]) :: (36, setO ks g) :: (53, .cells 80 [.xv 36 mapV]) :: hp0)) (fun y => y.1.Nodup ∧ ∀ i ∈ y.1, i < ks.length) (fun y => ks.length - y.1.length) ([], 0) ⟨.nil, by simp⟩ (by repeat' (first | exact trivial | exact rfl | refine And.intro ?_ ?_)) rfl ?_
  rintro ⟨vis, cap⟩ ⟨hvn, hvl⟩
  dsimp only at hvn hvl
  have hvle := vis_len hvn hvl
  ((conv => whnf); repeat ((first | (intro hq; try simp only [lnS] at hq) | refine sI ?_ | refine .intro _ (.intro rfl ?_)); (conv => whnf)))
  refine next_map rfl rfl rfl rfl (fun ha => ?_) (fun i p hp hni => ?_)
  · have ha' : ∀ i, i < ks.length → i ∈ vis := fun i hi => ha i (by simpa [entK] using hi)
    have hperm := perm_vis hvn hvl ha' (visK ks) (fun i h => by rw [visK, List.getD, List.getElem?_eq_getElem h]; rfl)
    have hend := hk (vis.map (visK ks)) cap hperm
    rw [List.length_map] at hend
    ((conv => whnf); repeat ((first | (intro hq; try simp only [lnS] at hq) | refine sI ?_ | refine .intro _ (.intro rfl ?_)); (conv => whnf)))
    refine delHK_of (hh _ (by decide)) ?_
    ((conv => whnf); repeat ((first | (intro hq; try simp only [lnS] at hq) | refine sI ?_ | refine .intro _ (.intro rfl ?_)); (conv => whnf)))
    refine ⟨_, ?_, hend⟩
    refine ⟨rfl, rfl, rfl, subH_big hh (by decide) (subH_big hh (by decide) (subH_big hh (by decide) (hs _ _)))⟩
  · obtain ⟨hil, rfl⟩ := entK_get hp
    have hvl2 : vis.length + 1 ≤ ks.length := by
      have h1 : (vis ++ [i]).Nodup := by
        rw [List.nodup_append]
        exact ⟨hvn, by simp, fun a ha b hb => by simp at hb; subst hb; exact fun e => hni (e ▸ ha)⟩
      have := vis_len h1 (fun j hj => by rcases List.mem_append.1 hj with h | h; exact hvl j h; simp at h; subst h; exact hil)
      simpa using this
    have hrl : ((vis.map (visK ks)).map strR).length = vis.length := by rw [List.length_map, List.length_map]
    have hb63 : ((vis.map (visK ks)).map strR).length + 1 ≤ 9223372036854775807 := by rw [hrl]; omega
    have hb48 : (((vis.map (visK ks)).map strR).length + 1) * 16 ≤ 140737488355328 := by rw [hrl]; omega
    ((conv => whnf); repeat ((first | (refine entry_map rfl rfl rfl rfl hp ?_) | (intro hq; try simp only [lnS] at hq) | refine sI ?_ | refine .intro _ (.intro rfl ?_)); (conv => whnf)))
    refine YVC.weak ?_
    refine yield_roundF [] hty (kp [0, 1, 2, 4, 5, 6, 7]) 160 rfl rfl ?_
    ((conv => whnf); repeat ((first | (refine And.intro (by refine ⟨?_, ?_, ?_⟩ <;> simp [idsF_nil, idsF_cons, idsH_nil, idsH_cons, argFr, SV.ids, SV.idsL, ids_cells, ids_mrow, ids_own, ids_loop, ids_iter, setO_ids, ids_ofV, setH, hp1, hf, hh]) ?_) | (refine And.intro hrl.symm ?_) | (refine And.intro hb63 ?_) | (refine And.intro hb48 ?_) | (intro hq; try simp only [lnS] at hq) | refine sI ?_ | refine .intro _ (.intro rfl ?_)); (conv => whnf)))
    rename_i cap'
    refine exists_tail ⟨rfl, rfl, rfl, rfl, rfl, rfl, subH_big hh (Nat.le_of_ble_eq_true rfl) (subH_big hh (by decide) (subH_big hh (by decide) (subH_big hh (by decide) (subH_big hh (by decide) (hs _ _)))))⟩ ?_
    ((conv => whnf); repeat ((first | (intro hq; try simp only [lnS] at hq) | refine sI ?_ | refine .intro _ (.intro rfl ?_)); (conv => whnf)))
    have hrows : ((vis ++ [i]).map (visK ks)).map strR = (vis.map (visK ks)).map strR ++ [[.str (visK ks i)]] := by
      rw [List.map_append, List.map_append]; rfl
    have hmw : SV.mw 145 1 (vis ++ [i]).length = SV.mw 145 1 (((vis.map (visK ks)).map strR).length + 1) := by rw [hrl, List.length_append]; rfl
    refine ⟨(vis ++ [i], cap'), ⟨?_, ?_⟩, ?_, by repeat' (first | exact trivial | exact rfl | refine And.intro ?_ ?_), ?_⟩
    · dsimp only
      rw [List.nodup_append]
      exact ⟨hvn, by simp, fun a ha b hb => by simp at hb; subst hb; exact fun e => hni (e ▸ ha)⟩
    · intro j hj
      rcases List.mem_append.1 hj with h | h
      · exact hvl j h
      · simp at h; subst h; exact hil
    · dsimp only; rw [List.length_append]; simp; omega
    · dsimp only
      rw [hrows, hmw]
      rfl
set_option maxHeartbeats 16000000 in
theorem sorted_36 (ks : List (List UInt8)) (g : List Nat × Nat) (hlen : ks.length ≤ 1000000) (hp0 : Hp) {pin : List Nat} {fr : Fr} {K : SV → Hp → Prop} (hp1 : ∀ k, 100 ≤ k → k ∉ pin) (hf : ∀ k, 100 ≤ k → k ∉ idsF fr) (hh : ∀ k, 100 ≤ k → k ∉ idsH hp0) (hs : ∀ o1 o2, subH hp0 ((36, o1) :: (53, o2) :: hp0)) (hr : 66 ∉ pin ∧ 66 ∉ idsF fr ∧ 66 ∉ idsH hp0)
    (hk : ∀ (cap : Nat), K (.mw 66 1 (sortK ks).length) ((66, .mrow 9 1 cap ((sortK ks).map strR)) :: (36, setO ks g) :: (53, .cells 80 [.xv 36 mapV]) :: hp0)) :
    CallVC Tryz.prog pin fr ((36, setO ks g) :: (53, .cells 80 [.xv 36 mapV]) :: hp0) 44 [.fn 79 [] [.ptr 53 0]] K := by
  refine CallVC.closeP 66 ?_
  refine call_inlineF false [] hty Tryz.func44 rfl (kp [0, 2, 3]) 110 (by simp [Tryz.f44]) ?_
  ((conv => whnf); repeat ((first | (intro hq; try simp only [lnS] at hq) | refine sI ?_ | refine .intro _ (.intro rfl ?_)); (conv => whnf)))
  refine call_inlineF false [] hty Tryz.func77 rfl (kp [0, 2]) 120 (by simp [Tryz.f77]) ?_
  ((conv => whnf); repeat ((first | (intro hq; try simp only [lnS] at hq) | refine sI ?_ | refine .intro _ (.intro rfl ?_)); (conv => whnf)))
  refine appendSeq_36 ks g hlen hp0 (fun k hk => by simp [idsF_nil, idsF_cons, SV.ids, SV.idsL, ids_ofV, hp1 k hk, hf k hk]; omega) (fun k hk => by simp [idsF_nil, idsF_cons, SV.ids, SV.idsL, argFr, ids_ofV]; omega) hh hs (fun ks' cap hperm => ?_)
  have hpl := hperm.length_eq
  ((conv => whnf); repeat ((first | (intro hq; try simp only [lnS] at hq) | refine sI ?_ | refine .intro _ (.intro rfl ?_)); (conv => whnf)))
  refine sortStr_call Tryz.sortStr ks' rfl rfl (by omega) ?_
  have hso : (ks'.mergeSort fun x y => decide (x ≤ y)) = sortK ks := mergeSort_of_perm hperm
  rw [hso]
  have hsl : (sortK ks).length = ks.length := (List.mergeSort_perm _ _).length_eq
  ((conv => whnf); repeat ((first | (intro hq; try simp only [lnS] at hq) | refine sI ?_ | refine .intro _ (.intro rfl ?_)); (conv => whnf)))
  refine ⟨145, _, 1, cap, ks'.length, ks'.length, _, (36, setO ks g) :: (53, .cells 80 [.xv 36 mapV]) :: hp0, .inr ⟨rfl, rfl⟩, rfl, ?_, Nat.le_refl _, ⟨hr.1, hr.2.1, ?_⟩, ⟨rfl, rfl, subH_big hh (by decide) (hs _ _)⟩, ?_, fun cap' => ?_⟩
  · rw [List.length_map, hsl]; exact hpl
  · show 66 ∉ idsH ((145, .mrow _ _ _ _) :: (36, setO ks g) :: (53, .cells 80 [.xv 36 mapV]) :: hp0)
    simp [idsH_cons, ids_cells, ids_mrow, setO_ids, SV.idsL, SV.ids, hr.2.2]
  · exact getH_none (by simp [idsH_cons, ids_cells, ids_mrow, setO_ids, SV.idsL, SV.ids, hh])
  · have := hk cap'
    rw [List.take_of_length_le (by rw [List.length_map]; omega), show ks'.length = (sortK ks).length by omega]
    exact this
set_option maxHeartbeats 16000000 in
theorem appendSeq_37 (ks : List (List UInt8)) (g : List Nat × Nat) (hlen : ks.length ≤ 1000000) (hp0 : Hp) {pin : List Nat} {fr : Fr} {K : SV → Hp → Prop} (hp1 : ∀ k, 100 ≤ k → k ∉ pin) (hf : ∀ k, 100 ≤ k → k ∉ idsF fr) (hh : ∀ k, 100 ≤ k → k ∉ idsH hp0) (hs : ∀ o1 o2, subH hp0 ((37, o1) :: (54, o2) :: hp0))
    (hk : ∀ (ks' : List (List UInt8)) (cap : Nat), ks'.Perm ks → K (.mw 145 1 ks'.length) ((145, .mrow 9 1 cap (ks'.map strR)) :: (37, setO ks g) :: (54, .cells 80 [.xv 37 mapV]) :: hp0)) :
    CallVC Tryz.prog pin fr ((37, setO ks g) :: (54, .cells 80 [.xv 37 mapV]) :: hp0) 103 [.d .nil, .fn 79 [] [.ptr 54 0]] K := by
  refine CallVC.weak ?_
  refine call_inlineF false [] hty Tryz.func103 rfl (kp [0, 1, 2, 4, 5, 6, 7]) 139 (by simp [Tryz.f103]) ?_
  ((conv => whnf); repeat ((first | (refine And.intro (by refine ⟨?_, ?_, ?_⟩ <;> simp [idsF_nil, idsF_cons, idsH_nil, idsH_cons, argFr, SV.ids, SV.idsL, ids_cells, ids_mrow, ids_own, ids_loop, ids_iter, setO_ids, ids_ofV, setH, hp1, hf, hh]) ?_) | (refine And.intro (by simp [SV.ids, SV.idsL]) ?_) | (intro hq; try simp only [lnS] at hq) | refine sI ?_ | refine .intro _ (.intro rfl ?_)); (conv => whnf)))
  refine SemVC.mownC 141 145 32 9 1 0 rfl rfl (by refine ⟨?_, ?_, ?_⟩ <;> simp [idsF_nil, idsF_cons, idsH_nil, idsH_cons, argFr, SV.ids, SV.idsL, ids_cells, ids_mrow, ids_own, ids_loop, ids_iter, setO_ids, ids_ofV, setH, hp1, hf, hh]) ?_
  refine range_rule 149 (by refine ⟨?_, ?_, ?_⟩ <;> simp [idsF_nil, idsF_cons, idsH_nil, idsH_cons, argFr, SV.ids, SV.idsL, ids_cells, ids_mrow, ids_own, ids_loop, ids_iter, setO_ids, ids_ofV, setH, hp1, hf, hh]) trivial ?_
  ((conv => whnf); repeat ((first | (intro hq; try simp only [lnS] at hq) | refine sI ?_ | refine .intro _ (.intro rfl ?_)); (conv => whnf)))
  refine call_inlineF false [] hty Tryz.func79 rfl (kp [0, 1, 3, 5, 7, 13]) 150 (by simp [Tryz.f79]) ?_
  ((conv => whnf); repeat ((first | (refine range_map rfl rfl rfl rfl 147 (by refine ⟨?_, ?_, ?_⟩ <;> simp [idsF_nil, idsF_cons, idsH_nil, idsH_cons, argFr, SV.ids, SV.idsL, ids_cells, ids_mrow, ids_own, ids_loop, ids_iter, setO_ids, ids_ofV, setH, hp1, hf, hh]) ?_) | (intro hq; try simp only [lnS] at hq) | refine sI ?_ | refine .intro _ (.intro rfl ?_)); (conv => whnf)))
  refine loop_eq hty (fun y : List Nat × Nat => ([(0, .yld 149), (5, .xv 147 iterV)], (147, .ext (iterX 37 g.1 g.2 y.1)) :: (149, _) :: (145, .mrow 9 1 y.2 ((y.1.map (visK ks)).map strR)) :: (141, .cells 32 [.mw 145 1 y.1.length]) :: (37, setO ks g) :: (54, .cells 80 [.xv 37 mapV]) :: hp0)) (fun y => y.1.Nodup ∧ ∀ i ∈ y.1, i < ks.length) (fun y => ks.length - y.1.length) ([], 0) ⟨.nil, by simp⟩ (by repeat' (first | exact trivial | exact rfl | refine And.intro ?_ ?_)) rfl ?_
  rintro ⟨vis, cap⟩ ⟨hvn, hvl⟩
  dsimp only at hvn hvl
  have hvle := vis_len hvn hvl
  ((conv => whnf); repeat ((first | (intro hq; try simp only [lnS] at hq) | refine sI ?_ | refine .intro _ (.intro rfl ?_)); (conv => whnf)))
  refine next_map rfl rfl rfl rfl (fun ha => ?_) (fun i p hp hni => ?_)
  · have ha' : ∀ i, i < ks.length → i ∈ vis := fun i hi => ha i (by simpa [entK] using hi)
    have hperm := perm_vis hvn hvl ha' (visK ks) (fun i h => by rw [visK, List.getD, List.getElem?_eq_getElem h]; rfl)
    have hend := hk (vis.map (visK ks)) cap hperm
    rw [List.length_map] at hend
    ((conv => whnf); repeat ((first | (intro hq; try simp only [lnS] at hq) | refine sI ?_ | refine .intro _ (.intro rfl ?_)); (conv => whnf)))
    refine delHK_of (hh _ (by decide)) ?_
    ((conv => whnf); repeat ((first | (intro hq; try simp only [lnS] at hq) | refine sI ?_ | refine .intro _ (.intro rfl ?_)); (conv => whnf)))
    refine ⟨_, ?_, hend⟩
    refine ⟨rfl, rfl, rfl, subH_big hh (by decide) (subH_big hh (by decide) (subH_big hh (by decide) (hs _ _)))⟩
  · obtain ⟨hil, rfl⟩ := entK_get hp
    have hvl2 : vis.length + 1 ≤ ks.length := by
      have h1 : (vis ++ [i]).Nodup := by
        rw [List.nodup_append]
        exact ⟨hvn, by simp, fun a ha b hb => by simp at hb; subst hb; exact fun e => hni (e ▸ ha)⟩
      have := vis_len h1 (fun j hj => by rcases List.mem_append.1 hj with h | h; exact hvl j h; simp at h; subst h; exact hil)
      simpa using this
    have hrl : ((vis.map (visK ks)).map strR).length = vis.length := by rw [List.length_map, List.length_map]
    have hb63 : ((vis.map (visK ks)).map strR).length + 1 ≤ 9223372036854775807 := by rw [hrl]; omega
    have hb48 : (((vis.map (visK ks)).map strR).length + 1) * 16 ≤ 140737488355328 := by rw [hrl]; omega
    ((conv => whnf); repeat ((first | (refine entry_map rfl rfl rfl rfl hp ?_) | (intro hq; try simp only [lnS] at hq) | refine sI ?_ | refine .intro _ (.intro rfl ?_)); (conv => whnf)))
    refine YVC.weak ?_
    refine yield_roundF [] hty (kp [0, 1, 2, 4, 5, 6, 7]) 160 rfl rfl ?_
    ((conv => whnf); repeat ((first | (refine And.intro (by refine ⟨?_, ?_, ?_⟩ <;> simp [idsF_nil, idsF_cons, idsH_nil, idsH_cons, argFr, SV.ids, SV.idsL, ids_cells, ids_mrow, ids_own, ids_loop, ids_iter, setO_ids, ids_ofV, setH, hp1, hf, hh]) ?_) | (refine And.intro hrl.symm ?_) | (refine And.intro hb63 ?_) | (refine And.intro hb48 ?_) | (intro hq; try simp only [lnS] at hq) | refine sI ?_ | refine .intro _ (.intro rfl ?_)); (conv => whnf)))
    rename_i cap'
    refine exists_tail ⟨rfl, rfl, rfl, rfl, rfl, rfl, subH_big hh (Nat.le_of_ble_eq_true rfl) (subH_big hh (by decide) (subH_big hh (by decide) (subH_big hh (by decide) (subH_big hh (by decide) (hs _ _)))))⟩ ?_
    ((conv => whnf); repeat ((first | (intro hq; try simp only [lnS] at hq) | refine sI ?_ | refine .intro _ (.intro rfl ?_)); (conv => whnf)))
    have hrows : ((vis ++ [i]).map (visK ks)).map strR = (vis.map (visK ks)).map strR ++ [[.str (visK ks i)]] := by
      rw [List.map_append, List.map_append]; rfl
    have hmw : SV.mw 145 1 (vis ++ [i]).length = SV.mw 145 1 (((vis.map (visK ks)).map strR).length + 1) := by rw [hrl, List.length_append]; rfl
    refine ⟨(vis ++ [i], cap'), ⟨?_, ?_⟩, ?_, by repeat' (first | exact trivial | exact rfl | refine And.intro ?_ ?_), ?_⟩
    · dsimp only
      rw [List.nodup_append]
      exact ⟨hvn, by simp, fun a ha b hb => by simp at hb; subst hb; exact fun e => hni (e ▸ ha)⟩
    · intro j hj
      rcases List.mem_append.1 hj with h | h
      · exact hvl j h
      · simp at h; subst h; exact hil
    · dsimp only; rw [List.length_append]; simp; omega
    · dsimp only
      rw [hrows, hmw]
      rfl
set_option maxHeartbeats 16000000 in
theorem sorted_37 (ks : List (List UInt8)) (g : List Nat × Nat) (hlen : ks.length ≤ 1000000) (hp0 : Hp) {pin : List Nat} {fr : Fr} {K : SV → Hp → Prop} (hp1 : ∀ k, 100 ≤ k → k ∉ pin) (hf : ∀ k, 100 ≤ k → k ∉ idsF fr) (hh : ∀ k, 100 ≤ k → k ∉ idsH hp0) (hs : ∀ o1 o2, subH hp0 ((37, o1) :: (54, o2) :: hp0)) (hr : 67 ∉ pin ∧ 67 ∉ idsF fr ∧ 67 ∉ idsH hp0)
    (hk : ∀ (cap : Nat), K (.mw 67 1 (sortK ks).length) ((67, .mrow 9 1 cap ((sortK ks).map strR)) :: (37, setO ks g) :: (54, .cells 80 [.xv 37 mapV]) :: hp0)) :
    CallVC Tryz.prog pin fr ((37, setO ks g) :: (54, .cells 80 [.xv 37 mapV]) :: hp0) 44 [.fn 79 [] [.ptr 54 0]] K := by
  refine CallVC.closeP 67 ?_
  refine call_inlineF false [] hty Tryz.func44 rfl (kp [0, 2, 3]) 110 (by simp [Tryz.f44]) ?_
  ((conv => whnf); repeat ((first | (intro hq; try simp only [lnS] at hq) | refine sI ?_ | refine .intro _ (.intro rfl ?_)); (conv => whnf)))
  refine call_inlineF false [] hty Tryz.func77 rfl (kp [0, 2]) 120 (by simp [Tryz.f77]) ?_
  ((conv => whnf); repeat ((first | (intro hq; try simp only [lnS] at hq) | refine sI ?_ | refine .intro _ (.intro rfl ?_)); (conv => whnf)))
  refine appendSeq_37 ks g hlen hp0 (fun k hk => by simp [idsF_nil, idsF_cons, SV.ids, SV.idsL, ids_ofV, hp1 k hk, hf k hk]; omega) (fun k hk => by simp [idsF_nil, idsF_cons, SV.ids, SV.idsL, argFr, ids_ofV]; omega) hh hs (fun ks' cap hperm => ?_)
  have hpl := hperm.length_eq
  ((conv => whnf); repeat ((first | (intro hq; try simp only [lnS] at hq) | refine sI ?_ | refine .intro _ (.intro rfl ?_)); (conv => whnf)))
  refine sortStr_call Tryz.sortStr ks' rfl rfl (by omega) ?_
  have hso : (ks'.mergeSort fun x y => decide (x ≤ y)) = sortK ks := mergeSort_of_perm hperm
  rw [hso]
  have hsl : (sortK ks).length = ks.length := (List.mergeSort_perm _ _).length_eq
  ((conv => whnf); repeat ((first | (intro hq; try simp only [lnS] at hq) | refine sI ?_ | refine .intro _ (.intro rfl ?_)); (conv => whnf)))
  refine ⟨145, _, 1, cap, ks'.length, ks'.length, _, (37, setO ks g) :: (54, .cells 80 [.xv 37 mapV]) :: hp0, .inr ⟨rfl, rfl⟩, rfl, ?_, Nat.le_refl _, ⟨hr.1, hr.2.1, ?_⟩, ⟨rfl, rfl, subH_big hh (by decide) (hs _ _)⟩, ?_, fun cap' => ?_⟩
  · rw [List.length_map, hsl]; exact hpl
  · show 67 ∉ idsH ((145, .mrow _ _ _ _) :: (37, setO ks g) :: (54, .cells 80 [.xv 37 mapV]) :: hp0)
    simp [idsH_cons, ids_cells, ids_mrow, setO_ids, SV.idsL, SV.ids, hr.2.2]
  · exact getH_none (by simp [idsH_cons, ids_cells, ids_mrow, setO_ids, SV.idsL, SV.ids, hh])
  · have := hk cap'
    rw [List.take_of_length_le (by rw [List.length_map]; omega), show ks'.length = (sortK ks).length by omega]
    exact this
end Go.Proofs.YtpecmehekandgaaGreatDoor
