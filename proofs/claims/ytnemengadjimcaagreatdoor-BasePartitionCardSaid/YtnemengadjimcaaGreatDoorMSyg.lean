/-
  Base: Keep. A contract by a walk through the body whose own objects are numbered from a number. Base: the chapter's examples. BaseOrder, walked. Base: what Minus, Common and Keep make, plainly. slices.Grow of nil: rows of the call's own with room.
  Conditions: none.
-/
import Derived.Test.YtnemengadjimcaaGreatDoorMQo
import Derived.Test.YtnemengadjimcaaGreatDoorMBp
import Derived.Test.YtnemengadjimcaaGreatDoorMSna
import Derived.Shelf.Spec.SlicesGrow
set_option linter.unnecessarySimpa false
set_option linter.unusedSectionVars false
set_option linter.unusedSimpArgs false
set_option linter.unusedVariables false
set_option maxHeartbeats 16000000
namespace Go.Proofs.YtnemengadjimcaaGreatDoor
open Go.Proofs
set_option maxRecDepth 10000
attribute [local irreducible] SemVC CallVC Tri Stuck YVC GenP GenVC
def incB (n : Int) : Int → List Int → Bool
 | _, [] => true
 | last, i :: r => !(decide (i ≤ last)) && (!(decide (n ≤ i)) && incB n i r)
theorem incB_in {n : Int} : ∀ {w : List Int} {last : Int}, -1 ≤ last → incB n last w = true → ∀ i ∈ w, 0 ≤ i ∧ i < n
 | [], _, _, _, i, h => by cases h
 | j :: r, last, hl, hb, i, h => by
  rw [incB, Bool.and_eq_true, Bool.and_eq_true] at hb
  obtain ⟨b1, b2, b3⟩ := hb
  have b1 : ¬ j ≤ last := by simpa using b1
  have b2 : ¬ n ≤ j := by simpa using b2
  rcases List.mem_cons.1 h with rfl | h
  ·omega
  ·exact incB_in (by omega) b3 i h
def pickA (l : List Ax) (i : Int) : Ax := (l[i.toNat]?).getD a0
def pickL (l : List Ax) (w : List Int) : List Ax := w.map (pickA l)
noncomputable def keepE (l : List Ax) (w : List Int) : List Ax × Int := if checkB l ≠ 0 then ([], checkB l) else if incB l.length (-1) w = false then ([], 1) else (pickL l w, 0)
theorem numR_at {w : List Int} {j : Nat} (h : j < w.length) : (w.map numR)[((j : Nat) : Int).toNat]? = some (numR w[j]) := by
 rw [Int.toNat_natCast, List.getElem?_map, List.getElem?_eq_getElem h]; rfl
theorem keep_spec (l : List Ax) (w : List Int) (hw : w.length ≤ 1000000) : Tri Tryz.prog 32 [.d (basR l), .d (.sl 1 (w.map numR))] NG (fun r => r = .tup [.d (basR (keepE l w).1), .d (.int .i64 (keepE l w).2)]) := by
 refine Tri.pairB ?_
 have c1 := bCheck_spec l
 have hv : keepE l w = if checkB l ≠ 0 then ([], checkB l) else if incB l.length (-1) w = false then ([], 1) else (pickL l w, 0) := rfl
 rw [hv]
 clear hv
 have hfew : checkB l = 0 → l.length ≤ 1024 := fun h => ((checkB_iff l).1 h).few
 generalize checkB l = e at *
 refine tri_of_bodyF false [2] hty Tryz.func32 rfl (kp [0, 1, 2, 4, 5, 6, 7, 9, 11, 15, 18, 19, 20, 21, 33, 37, 38, 39, 40]) [] _ _ _ (by simp [Tryz.f32]) (by decide) ?_
 ((conv => whnf); repeat ((first | (refine call_tri NG c1 ⟨rfl, rfl, trivial⟩ (fun r hs => ?_); subst hs) | (intro hq; try simp only [lnS] at hq) | refine sI ?_ | refine .intro _ (.intro rfl ?_)); (conv => whnf)))
 refine brB_ndec (fun h1 => ?_) (fun h1 => ?_)
 ·rw [if_pos h1]
  ((conv => whnf); repeat' ((first | (intro hq; (try simp only [lnS] at hq); (try rewrite [List.length_map])) | refine sJ ?_ | refine .intro _ (.intro rfl ?_) | (refine .intro (show (_ : Nat) < List.length _ from by first | omega | (simp only [lnS]; omega) | simp) ?_) | fail | refine draw_rule hty (by kernel_rfl) (by kernel_rfl) ?_ | ((first | refine brB_dec ?_ ?_ | refine brB_ndec ?_ ?_) <;> intro hb <;> (first | contradiction | ((try simp only [lnS] at hb); try (exfalso; omega)))) | (refine brB_split ?_ ?_ <;> intro hb <;> (first | contradiction | exact bT hb (by assumption) | exact bF hb (by assumption) | skip))) <;> (conv => whnf)))
  exact nilB _
 rw [if_neg (by simp [h1])]
 have hl := hfew h1
 clear hfew c1 h1
 ((conv => whnf); repeat ((first | (intro hq; try simp only [lnS] at hq) | refine sI ?_ | refine .intro _ (.intro rfl ?_)); (conv => whnf)))
 rw [show (w.map numR).length = w.length from List.length_map ..]
 refine loop_rule hty (fun y : Nat × Int => ([(1, .d (.sl 1 (w.map numR))), (2, .ea 1 [[.sl 16 (l.map axR)]] 0 0), (4, .ptr 4 0), (5, .d (.int .i64 0)), (7, .d (.int .i64 y.2)), (18, .d (.sl 1 (w.map numR))), (19, .d (.int .i64 w.length)), (20, .d (.int .i64 y.1))], (4, .cells 38 [.d .nil]) :: NG)) (fun y => (y.1 ≤ w.length ∧ -1 ≤ y.2) ∧ incB l.length (-1) w = incB l.length y.2 (w.drop y.1)) (fun y => w.length - y.1) (0, -1) ⟨⟨Nat.zero_le _, by decide⟩, rfl⟩ ⟨by repeat' (first | exact trivial | exact rfl | refine And.intro ?_ ?_), ⟨rfl, rfl, rfl, trivial⟩⟩ ?_
 rintro ⟨j, last⟩ ⟨⟨hj, hla⟩, hi⟩
 dsimp only at hj hla hi
 ((conv => whnf); repeat ((first | (intro hq; try simp only [lnS] at hq) | refine sI ?_ | refine .intro _ (.intro rfl ?_)); (conv => whnf)))
 refine brB_dec (fun h1 => ?_) (fun h1 => ?_)
 ·have hjl : j < w.length := by dsimp only at h1; omega
  have hrow := numR_at hjl
  rw [drop_at hjl, incB] at hi
  generalize w[j] = i at *
  have hll : (l.map axR).length = l.length := List.length_map ..
  ((conv => whnf); repeat ((first | (refine ⟨_, hrow, ?_⟩) | (intro hq; try simp only [lnS] at hq) | refine sI ?_ | refine .intro _ (.intro rfl ?_)); (conv => whnf)))
  refine brB_dec (fun h2 => ?_) (fun h2 => ?_)
  ·have h2 : i ≤ last := h2
   rw [if_pos (by rw [hi]; simp [h2])]
   ((conv => whnf); repeat' ((first | (intro hq; (try simp only [lnS] at hq); (try rewrite [List.length_map])) | refine sJ ?_ | refine .intro _ (.intro rfl ?_) | (refine .intro (show (_ : Nat) < List.length _ from by first | omega | (simp only [lnS]; omega) | simp) ?_) | fail | refine draw_rule hty (by kernel_rfl) (by kernel_rfl) ?_ | ((first | refine brB_dec ?_ ?_ | refine brB_ndec ?_ ?_) <;> intro hb <;> (first | contradiction | ((try simp only [lnS] at hb); try (exfalso; omega)))) | (refine brB_split ?_ ?_ <;> intro hb <;> (first | contradiction | exact bT hb (by assumption) | exact bF hb (by assumption) | skip))) <;> (conv => whnf)))
   exact nilB _
  ·have h2 : ¬ i ≤ last := h2
   ((conv => whnf); repeat ((first | (intro hq; try simp only [lnS] at hq) | refine sI ?_ | refine .intro _ (.intro rfl ?_)); (conv => whnf)))
   refine brB_dec (fun h3 => ?_) (fun h3 => ?_)
   ·have h3 : ((l.map axR).length : Int) ≤ i := h3
    rw [hll] at h3
    rw [if_pos (by rw [hi]; simp [h3])]
    ((conv => whnf); repeat' ((first | (intro hq; (try simp only [lnS] at hq); (try rewrite [List.length_map])) | refine sJ ?_ | refine .intro _ (.intro rfl ?_) | (refine .intro (show (_ : Nat) < List.length _ from by first | omega | (simp only [lnS]; omega) | simp) ?_) | fail | refine draw_rule hty (by kernel_rfl) (by kernel_rfl) ?_ | ((first | refine brB_dec ?_ ?_ | refine brB_ndec ?_ ?_) <;> intro hb <;> (first | contradiction | ((try simp only [lnS] at hb); try (exfalso; omega)))) | (refine brB_split ?_ ?_ <;> intro hb <;> (first | contradiction | exact bT hb (by assumption) | exact bF hb (by assumption) | skip))) <;> (conv => whnf)))
    exact nilB _
   ·have h3 : ¬ ((l.map axR).length : Int) ≤ i := h3
    rw [hll] at h3
    ((conv => whnf); repeat' ((first | (intro hq; (try simp only [lnS] at hq); (try rewrite [List.length_map])) | refine sJ ?_ | refine .intro _ (.intro rfl ?_) | (refine .intro (show (_ : Nat) < List.length _ from by first | omega | (simp only [lnS]; omega) | simp) ?_) | fail | refine draw_rule hty (by kernel_rfl) (by kernel_rfl) ?_ | ((first | refine brB_dec ?_ ?_ | refine brB_ndec ?_ ?_) <;> intro hb <;> (first | contradiction | ((try simp only [lnS] at hb); try (exfalso; omega)))) | (refine brB_split ?_ ?_ <;> intro hb <;> (first | contradiction | exact bT hb (by assumption) | exact bF hb (by assumption) | skip))) <;> (conv => whnf)))
    refine ⟨(j + 1, i), ⟨⟨by dsimp only; omega, by dsimp only; omega⟩, by dsimp only; rw [hi]; simp [h2, h3]⟩, by dsimp only; omega, ⟨by repeat' (first | exact trivial | exact rfl | refine And.intro ?_ ?_), ⟨rfl, rfl, rfl, trivial⟩⟩⟩
 have hjl : j = w.length := by dsimp only at h1; omega
 subst hjl
 rw [List.drop_length] at hi
 have hi : incB l.length (-1) w = true := hi
 have hin := incB_in (by decide) hi
 rw [if_neg (by rw [hi]; decide)]
 clear h1 hj
 ((conv => whnf); repeat ((first | (intro hq; try simp only [lnS] at hq) | refine sI ?_ | refine .intro _ (.intro rfl ?_)); (conv => whnf)))
 rw [show (w.map numR).length = w.length from List.length_map ..]
 refine SemVC.ownC 4 70 38 49 16 0 rfl rfl (fresh_of (by with_unfolding_all exact rfl)) ?_
 refine loop_rule hty (fun j : Nat => ([(2, .ea 1 [[.sl 16 (l.map axR)]] 0 0), (4, .ptr 4 0), (5, .d (.int .i64 0)), (37, .d (.sl 1 (w.map numR))), (38, .d (.int .i64 w.length)), (39, .d (.int .i64 j))], (70, .own 49 16 ((pickL l (w.take j)).map axR).length) :: (4, .cells 38 [.osl 70 16 ((pickL l (w.take j)).map axR)]) :: NG)) (fun j => j ≤ w.length) (fun j => w.length - j) 0 (Nat.zero_le _) ⟨by repeat' (first | exact trivial | exact rfl | refine And.intro ?_ ?_), ⟨rfl, rfl, rfl, rfl, trivial⟩⟩ ?_
 rintro j hj
 ((conv => whnf); repeat ((first | (intro hq; try simp only [lnS] at hq) | refine sI ?_ | refine .intro _ (.intro rfl ?_)); (conv => whnf)))
 refine brB_dec (fun h1 => ?_) (fun h1 => ?_)
 ·have hjl : j < w.length := by omega
  have hrow := numR_at hjl
  obtain ⟨i1, i2⟩ := hin _ (List.getElem_mem hjl)
  have hpk : pickL l (w.take (j + 1)) = pickL l (w.take j) ++ [pickA l w[j]] := by
   unfold pickL
   rw [List.take_succ_eq_append_getElem hjl, List.map_append]; rfl
  have hrow2 : (l.map axR)[w[j].toNat]? = some (axR (pickA l w[j])) := by
   have hk : w[j].toNat < l.length := by omega
   rw [List.getElem?_map, List.getElem?_eq_getElem hk]
   unfold pickA
   rw [List.getElem?_eq_getElem hk]; rfl
  have hPl : ((pickL l (w.take j)).map axR).length = j := by unfold pickL; rw [List.length_map, List.length_map, List.length_take]; omega
  have hb63 : ((pickL l (w.take j)).map axR).length + 1 ≤ 9223372036854775807 := by rw [hPl]; omega
  have hb48 : (((pickL l (w.take j)).map axR).length + 1) * 216 ≤ 140737488355328 := by rw [hPl]; omega
  have hil : w[j].toNat < (l.map axR).length := by rw [List.length_map]; omega
  generalize pickA l w[j] = x at *
  generalize pickL l (w.take j) = P at *
  generalize w[j] = i at *
  ((conv => whnf); repeat ((first | (refine ⟨_, hrow, ?_⟩) | (intro hq; try simp only [lnS] at hq) | refine sI ?_ | refine .intro _ (.intro rfl ?_)); (conv => whnf)))
  refine ord_rule hty [0, 1, 2, 3, 4, 5, 6, 7, 8, 9, 10] (by kernel_rfl) (by kernel_rfl) ?_
  ((conv => whnf); repeat ((first | (refine And.intro i1 ?_) | (refine And.intro hil ?_) | (refine ⟨_, hrow2, ?_⟩) | (refine And.intro hb63 ?_) | (refine And.intro hb48 ?_) | (intro hq; try simp only [lnS] at hq) | refine sI ?_ | refine .intro _ (.intro rfl ?_)); (conv => whnf)))
  refine ⟨j + 1, by omega, by dsimp only; omega, ?_⟩
  dsimp only
  rw [hpk, List.map_append, List.length_append]
  exact ⟨by repeat' (first | exact trivial | exact rfl | refine And.intro ?_ ?_), ⟨rfl, rfl, rfl, rfl, trivial⟩⟩
 ·have hjl : j = w.length := by omega
  subst hjl
  rw [List.take_length]
  ((conv => whnf); repeat' ((first | (intro hq; (try simp only [lnS] at hq); (try rewrite [List.length_map])) | refine sJ ?_ | refine .intro _ (.intro rfl ?_) | (refine .intro (show (_ : Nat) < List.length _ from by first | omega | (simp only [lnS]; omega) | simp) ?_) | fail | refine draw_rule hty (by kernel_rfl) (by kernel_rfl) ?_ | ((first | refine brB_dec ?_ ?_ | refine brB_ndec ?_ ?_) <;> intro hb <;> (first | contradiction | ((try simp only [lnS] at hb); try (exfalso; omega)))) | (refine brB_split ?_ ?_ <;> intro hb <;> (first | contradiction | exact bT hb (by assumption) | exact bF hb (by assumption) | skip))) <;> (conv => whnf)))
  exact sameB _ _
end Go.Proofs.YtnemengadjimcaaGreatDoor
namespace Go.Proofs.YtnemengadjimcaaGreatDoor
open Go.RowKit
section
variable {P : Program}
theorem tri_of_bodyO (off : Nat) (zc : Bool) (frz : List Nat) {ti : TypeId → Option TI} (hti : TyOK P ti) {f : FuncId} {fn : Func} {c : Code} (hf : P.funcs[f]? = some fn) (hb : fn.body = some c) (keep : Nat → Bool) (pin : List Nat) (args : List SV) (hp : Hp) (post : SV → Prop)
  (hn : args.length ≤ fn.ntmps) (hnd : (hp.map (·.1)).Nodup) (hx : X ⟨P, ti, pin, fn.ntmps, keep, off, none, zc, frz⟩ c (argFr 0 args) (roH hp) (retVC ti fn.results.toList post)) : Tri P f args hp post := by
 intro w ρ vs hslt hargs hro
 refine callsIn_FW (r := none) (n := 0) |>.1 (callsIn_of_wp_marks hf hb trivial ?_)
 have hm : Mem ⟨w, ρ.S, fun _ => False, pin, ρ, none, [], 0⟩ ρ (roH hp) w := by
  have hat : ∀ id o, getH (roH hp) id = some o → ρ.at id o = none := by
   intro id o ho
   rcases getH_roH hp id o hnd ho with ⟨t, cs, rfl, _⟩ | ⟨g, z, rows, rfl, _⟩ | ⟨X, rfl, _⟩
   ·rfl
   ·rfl
   ·rfl
  refine ⟨rfl, rfl, .refl _, Nat.le_refl _, fun _ _ _ => rfl, fun _ _ h => h, fun _ _ h _ _ => h, hslt, fun _ _ _ => rfl, ?_, ?_, ?_, fun id _ => ρ.moved_refl id, ?_, fun b hb => by cases hb⟩
  ·intro id o ho
   rcases getH_roH hp id o hnd ho with ⟨t, cs, rfl, h | h⟩ | ⟨g, z, rows, rfl, h⟩ | ⟨X, rfl, h | h⟩
   ·exact hro id _ h
   ·exact hro id _ h
   ·exact hro id _ h
   ·exact hro id _ h
   ·exact hro id _ h
  ·intro id o id' o' g h1 _ h3 _; rw [hat id o h1] at h3; cases h3
  ·intro id o g h1 h3; rw [hat id o h1] at h3; cases h3
  ·intro id x g _ _ _ id' o' h3 h4; rw [hat id' o' h3] at h4; cases h4
 have hfs : FSat ρ w (argFr 0 args) (vs ++ Array.replicate (fn.ntmps - vs.size) undef) := by
  intro t s ht
  obtain ⟨_, h2⟩ := getF_argFr args 0 t s ht
  simp only [Nat.sub_zero] at h2
  have hlt := (List.getElem?_eq_some_iff.1 h2).1
  have hlt' : t < vs.size := by rw [hargs.1]; exact hlt
  refine ⟨vs[t], ?_, hargs.2 t s _ h2 (Array.getElem?_eq_getElem hlt')⟩
  rw [Array.getElem?_append_left hlt', Array.getElem?_eq_getElem hlt']
 refine wpIn_mono (X_sound (C := ⟨P, ti, pin, fn.ntmps, keep, off, none, zc, frz⟩) hti c _ _ _ hx ⟨w, ρ.S, fun _ => False, pin, ρ, none, [], 0⟩ _ w rfl rfl ⟨?_, rfl, ρ, hm, hfs⟩) ?_
 ·simp only [Array.size_append, Array.size_replicate]
  have := hargs.1
  omega
 ·rintro e a' w' ⟨x, fr', hp', E', hE, hrel, hk, hnt, hdf, ρ', hm', hf'⟩
  obtain ⟨own, o1, o2, o3, o4, o5⟩ := take_own hE rfl
  have fin : resVC ti fr' hp' fn.results.toList (fun l => thawLK hp' l fun l => (oneOf l).ids = [] ∧ post (oneOf l)) → LeavesInM (FW none) 0 P fn a'.tmps (fun e w' => ∃ v S' s, e = .returned v ∧ post s ∧ Grew w w' ∧ (∀ b i, ρ.S b i → S' b i) ∧ (∀ b i, S' b i → ρ.S b i ∨ w.heap.size ≤ b) ∧ (∀ b i, S' b i → b < w'.heap.size) ∧ Rep w' (ρ.withS S') s v) a'.defers .returning w' := by
   intro hk
   rw [hdf, o2]
   refine shutAll own E' w' hm' ⟨_, o1, o5⟩ o4 o3 ?_
   rintro E'' w'' ⟨q1, q2, q3, q4, q5, q6⟩ hm'' hkp
   have hf'' : FSat ρ' w'' fr' a'.tmps := hf'.mono hkp (fun _ _ x => x) fun i _ => ρ'.moved_refl i
   obtain ⟨us, l, r1, r2, r3, r4⟩ := res_ok hti hm'' hf'' _ _ hk
   obtain ⟨l', ⟨k1, k2⟩, k3, k4⟩ := thawLK_ok hm'' l us _ r2 r3 r4
   have eW : E''.w = w := q1.trans hE.w
   have eS : E''.S = ρ.S := q2.trans hE.S
   have eB : E''.B = fun _ => False := q3.trans hE.B
   refine ⟨_, run_results r1, _, Sfz ρ' hp', oneOf l', rfl, k2, ⟨by rw [hm''.os, eW], by rw [hm''.tape, eW], by have := hm''.output; rw [eW] at this; exact this, by have := hm''.size; rw [eW] at this; exact this, fun b hb => ?_⟩, fun b i hs => .inl (hm''.sold b i (by rw [eS]; exact hs)), ?_, ?_, ?_⟩
   ·have := hm''.old b (by rw [eW]; exact hb) (by rw [eB]; exact fun h => h)
    rw [eW] at this; exact this
   ·rintro b i (hs | ⟨id, e, z, cap, rows, ho, hb, _⟩)
    ·rcases Nat.lt_or_ge b w.heap.size with hlt | hge
     ·left
      have := hm''.snew b i hs (by rw [eW]; exact hlt) (by rw [eB]; exact fun h => h)
      rw [eS] at this; exact this
     ·exact .inr hge
    ·rcases hm''.hb id _ b ho hb with hge | hB
     ·rw [eW] at hge; exact .inr hge
     ·rw [eB] at hB; exact hB.elim
   ·rintro b i (hs | ⟨id, e, z, cap, rows, ho, hb, _⟩)
    ·exact hm''.slt b i hs
    ·exact hm''.blk_lt ho hb
   ·refine (rep_oneOf (w := w'') (ρ := ρ'.withS (Sfz ρ' hp')) (l := l') (by rw [k3]; exact r2) k4).mono (fun _ _ _ => rfl) (fun _ _ h => h) fun id hid => ?_
    rw [k1] at hid
    cases hid
  cases x <;> cases e <;> simp only [Ex.rel] at hrel <;> simp only [retVC] at hk
  ·exact fin hk
  ·exact hk.elim
  ·exact hk.elim
  ·exact fin hk
end
end Go.Proofs.YtnemengadjimcaaGreatDoor
namespace Go.Proofs.YtnemengadjimcaaGreatDoor
open Go.Proofs
set_option maxRecDepth 10000
theorem Tri.aggB {P : Program} {f : FuncId} {cs : List SV} {ds ds' : List D} {hp : Hp} {post : SV → Prop} (h : Tri P f [.d (.agg ds)] hp post) (hx : asDL cs = some ds') (hw : WkDL ds' ds) : Tri P f [.agg cs] hp post := by
 unfold Tri at h ⊢
 intro w ρ vs a b c
 refine h w ρ vs a ⟨b.1, fun j s v hs hv => ?_⟩ c
 match j, hs with
 | 0, hs =>
  injection hs with hs; subst hs
  obtain ⟨us, rfl, e1, e2⟩ := (b.2 0 _ v rfl hv).agg_inv
  obtain ⟨l1, l2⟩ := asDL_ok hx
  refine .d _ _ (WkD_ok (a := .agg ds') (.agg ds' us (by rw [e1, l1]) fun j x v hx' hv' => ?_) _ (by simpa [WkD] using hw))
  obtain ⟨s, hs, hd⟩ := l2 j x hx'
  exact asD_ok hd (e2 j s v hs hv')
theorem Tri.oslB {P : Program} {f : FuncId} {id z : Nat} {rows rows' : List (List D)} {hp : Hp} {post : SV → Prop} (h : Tri P f [.d (.sl z rows')] hp post) (hw : WkDR rows rows') : Tri P f [.osl id z rows] hp post := by
 unfold Tri at h ⊢
 intro w ρ vs a b c
 refine h w ρ vs a ⟨b.1, fun j s v hs hv => ?_⟩ c
 match j, hs with
 | 0, hs =>
  injection hs with hs; subst hs
  exact .d _ _ (WkD_ok (b.2 0 _ v rfl hv).osl_inv.1 _ (by simpa [WkD] using hw))
theorem Tri.oslB2 {P : Program} {f : FuncId} {s0 : SV} {id z : Nat} {rows rows' : List (List D)} {hp : Hp} {post : SV → Prop} (h : Tri P f [s0, .d (.sl z rows')] hp post) (hw : WkDR rows rows') : Tri P f [s0, .osl id z rows] hp post := by
 unfold Tri at h ⊢
 intro w ρ vs a b c
 refine h w ρ vs a ⟨b.1, fun j s v hs hv => ?_⟩ c
 match j, hs with
 | 0, hs => exact b.2 0 s v hs hv
 | 1, hs =>
  injection hs with hs; subst hs
  exact .d _ _ (WkD_ok (b.2 1 _ v rfl hv).osl_inv.1 _ (by simpa [WkD] using hw))
attribute [local irreducible] SemVC CallVC Tri Stuck YVC GenP GenVC
def lkA : Ax := ⟨9, false, c0, c0, [], [114], [97], [98]⟩
def lkO : Ax := ⟨9, true, c0, c0, [], [114], [97], [98]⟩
def rfA : Ax := ⟨7, false, c0, c0, [], [114], [], []⟩
theorem tid1 : tidyA lkA = (lkA, 0) := by kernel_rfl
theorem tid2 : tidyA lkO = (lkO, 0) := by kernel_rfl
theorem tid3 : tidyA rfA = (rfA, 0) := by kernel_rfl
theorem mrg1 : mergA [lkA, lkO, lkA] = [lkO] := by kernel_rfl
theorem cmp11 : cmpAx lkA lkA = 0 := by kernel_rfl
theorem cmp12 : cmpAx lkA lkO = 0 := by kernel_rfl
theorem cmp21 : cmpAx lkO lkA = 0 := by kernel_rfl
theorem no_circ : ¬ Circ (ET []) := by
 rintro ⟨L, w, t, h⟩
 obtain ⟨i, hi, _⟩ := h.strict
 cases h.edge i hi
theorem ok2 : checkB [lkO] = 0 := (checkB_iff _).2 ⟨fun x hx => by simp at hx; subst hx; exact tid2, by simp, by decide, fun x hx _ => by simp at hx; subst hx; rfl, by
 have e : stepsL [lkO] = [] := by kernel_rfl
 rw [e]; exact no_circ⟩
theorem bad1 : checkB [lkA, lkA] = 70 := by
 have h1 : firstB [lkA, lkA] = 0 := (firstB_iff _).2 fun x hx => by simp at hx; subst hx; exact tid1
 have h2 : sortedB [lkA, lkA] = false := by kernel_rfl
 unfold checkB
 rw [if_neg (by rw [h1]; simp), if_pos h2]
theorem bad2 : checkB [rfA] = 71 := by
 have h1 : firstB [rfA] = 0 := (firstB_iff _).2 fun x hx => by simp at hx; subst hx; exact tid3
 have h2 : sortedB [rfA] = true := rfl
 unfold checkB
 rw [if_neg (by rw [h1]; simp), if_neg (by rw [h2]; simp), if_neg (by decide), if_pos (by kernel_rfl)]
theorem new1 : newE [lkA, lkO, lkA] = ([lkO], 0) := by
 have h1 : tidM [lkA, lkO, lkA] = [lkA, lkO, lkA] := by unfold tidM; simp [tid1, tid2]
 have h2 : newB [lkA, lkO, lkA] = [lkO] := by
  rw [← newB_any (.refl [lkA, lkO, lkA]) (by simp [cmp11, cmp12, cmp21]), mrg1]
 have h3 : tidE [lkA, lkO, lkA] = 0 := (tidE_iff _).2 fun x hx => by
  simp at hx
  rcases hx with rfl | rfl | rfl
  ·rw [tid1]
  ·rw [tid2]
  ·rw [tid1]
 unfold newE
 rw [if_neg (by rw [h3]; simp), h1, h2, if_neg (by rw [ok2]; simp)]
theorem new2 : newE [rfA] = ([], 71) := by
 have h1 : tidM [rfA] = [rfA] := by unfold tidM; simp [tid3]
 have h2 : newB [rfA] = [rfA] := by
  rw [← newB_any (.refl [rfA]) (by simp)]; rfl
 have h3 : tidE [rfA] = 0 := (tidE_iff _).2 fun x hx => by simp at hx; subst hx; rw [tid3]
 unfold newE
 rw [if_neg (by rw [h3]; simp), h1, h2, if_pos (by rw [bad2]; simp), bad2]
theorem fnd1 : findA [lkO] lkA = (0, true) := by
 unfold findA
 rw [tid1, if_neg (by simp)]
 have : idxA lkA [lkO] = some 0 := by unfold idxA; simp [List.findIdx?_cons, cmp12]
 rw [this]; rfl
theorem cmp22 : cmpAx lkO lkO = 0 := by kernel_rfl
theorem min1 : setE kfM [lkO] [lkO] = ([], 0) := by
 have h : bothB [lkO] [lkO] = 0 := by unfold bothB; rw [if_neg (by rw [ok2]; simp), ok2]
 unfold setE
 rw [if_neg (by rw [h]; simp)]
 have e : dropB lkO [lkO] = [lkO] := by rw [dropB, if_neg (by rw [cmp22]; decide)]
 have e2 : partB lkO [lkO] = some lkO := by
  show (if cmpAx lkO lkO = 0 then some lkO else none) = some lkO
  rw [if_pos cmp22]
 rw [combL, e, e2]; rfl
theorem kep1 : keepE [lkO] [0, 0] = ([], 1) := by
 unfold keepE
 rw [if_neg (by rw [ok2]; simp), if_pos (by kernel_rfl)]
def lkRow (o : Bool) : List D := [.int .i64 9, .bool o, .int .i64 0, .str [], .int .i64 0, .int .i64 0, .nil, .int .i64 0, .str [], .int .i64 0, .int .i64 0, .nil, .nil, .str [114], .str [97], .str [98]]
def rfRow : List D := [.int .i64 7, .bool false, .int .i64 0, .str [], .int .i64 0, .int .i64 0, .nil, .int .i64 0, .str [], .int .i64 0, .int .i64 0, .nil, .nil, .str [114], .str [], .str []]
theorem bSane_spec : Tri Tryz.prog 21 [] NG (fun r => r = .d (.bool true)) := by
 have k1 := new_spec [lkA, lkO, lkA] (by decide)
 rw [new1] at k1
 have k1 := fun (id : Nat) => Tri.oslB (id := id) (rows := [lkRow false, lkRow true, lkRow false]) k1 (by repeat' (first | exact trivial | exact rfl | refine And.intro ?_ ?_))
 have k2 := new_spec [rfA] (by decide)
 rw [new2] at k2
 have k2 := fun (id : Nat) => Tri.oslB (id := id) (rows := [rfRow]) k2 (by repeat' (first | exact trivial | exact rfl | refine And.intro ?_ ?_))
 have k3 := find_spec [lkO] lkA (fun x hx => by simp at hx; subst hx; exact smA_ok (by kernel_rfl))
 rw [fnd1] at k3
 have k3 := Tri.weakD (ps := [.d (basR [lkO]), .d (.agg (lkRow false))]) k3 (by repeat' (first | exact trivial | exact rfl | refine And.intro ?_ ?_))
 have k4 := minus_spec [lkO] [lkO]
 rw [min1] at k4
 have k5 := keep_spec [lkO] [0, 0] (by decide)
 rw [kep1] at k5
 have k5 := fun (id : Nat) => Tri.oslB2 (id := id) (rows := [[.int .i64 0], [.int .i64 0]]) k5 (by repeat' (first | exact trivial | exact rfl | refine And.intro ?_ ?_))
 have k6 := bCheck_spec [lkA, lkA]
 rw [bad1] at k6
 have k7 := bCheck_spec [lkO]
 rw [ok2] at k7
 refine tri_of_bodyO 100 false [1, 3, 5, 9, 11] hty Tryz.func21 rfl (kp [0, 1, 2, 3, 4, 6, 7, 8, 9, 10, 12]) [] _ _ _ (by simp [Tryz.f21]) (by decide) ?_
 ((conv => whnf); repeat ((first | (intro hq; try simp only [lnS] at hq) | refine sI ?_ | refine .intro _ (.intro rfl ?_)); (conv => whnf)))
 refine call_tri NG (k1 _) ⟨rfl, rfl, trivial⟩ (fun r hs => ?_)
 subst hs
 ((conv => whnf); repeat ((first | (intro hq; try simp only [lnS] at hq) | refine sI ?_ | refine .intro _ (.intro rfl ?_)); (conv => whnf)))
 refine call_tri NG (k2 _) ⟨rfl, rfl, trivial⟩ (fun r hs => ?_)
 subst hs
 ((conv => whnf); repeat ((first | (intro hq; try simp only [lnS] at hq) | refine sI ?_ | refine .intro _ (.intro rfl ?_)); (conv => whnf)))
 refine call_tri NG k3 ⟨rfl, rfl, trivial⟩ (fun r hs => ?_)
 subst hs
 ((conv => whnf); repeat ((first | (intro hq; try simp only [lnS] at hq) | refine sI ?_ | refine .intro _ (.intro rfl ?_)); (conv => whnf)))
 refine call_tri NG k4 ⟨rfl, rfl, trivial⟩ (fun r hs => ?_)
 subst hs
 ((conv => whnf); repeat ((first | (intro hq; try simp only [lnS] at hq) | refine sI ?_ | refine .intro _ (.intro rfl ?_)); (conv => whnf)))
 refine call_tri NG (k5 _) ⟨rfl, rfl, trivial⟩ (fun r hs => ?_)
 subst hs
 ((conv => whnf); repeat ((first | (intro hq; try simp only [lnS] at hq) | refine sI ?_ | refine .intro _ (.intro rfl ?_)); (conv => whnf)))
 ((conv => whnf); repeat' ((first | (intro hq; (try simp only [lnS] at hq); (try rewrite [List.length_map])) | refine sJ ?_ | refine .intro _ (.intro rfl ?_) | (refine .intro (show (_ : Nat) < List.length _ from by first | omega | (simp only [lnS]; omega) | simp) ?_) | (refine call_tri NG (Tri.aggB k6 rfl (by repeat' (first | exact trivial | exact rfl | refine And.intro ?_ ?_))) ⟨rfl, rfl, trivial⟩ (fun r hs => ?_); subst hs) | (refine call_tri NG k7 ⟨rfl, rfl, trivial⟩ (fun r hs => ?_); subst hs) | refine draw_rule hty (by kernel_rfl) (by kernel_rfl) ?_ | ((first | refine brB_dec ?_ ?_ | refine brB_ndec ?_ ?_) <;> intro hb <;> (first | contradiction | ((try simp only [lnS] at hb); try (exfalso; omega)))) | (refine brB_split ?_ ?_ <;> intro hb <;> (first | contradiction | exact bT hb (by assumption) | exact bF hb (by assumption) | skip))) <;> (conv => whnf)))
 rfl
end Go.Proofs.YtnemengadjimcaaGreatDoor
namespace Go.Proofs.YtnemengadjimcaaGreatDoor
open Go.Proofs
set_option maxRecDepth 10000
theorem Tri.oslH {P : Program} {f : FuncId} {id z : Nat} {rows : List (List D)} {hp : Hp} {post : SV → Prop} (h : Tri P f [.d (.sl z rows)] hp post) : Tri P f [.osl id z rows] hp post := by
 unfold Tri at h ⊢
 intro w ρ vs a b c
 refine h w ρ vs a ⟨b.1, fun j s v hs hv => ?_⟩ c
 match j, hs with
 | 0, hs =>
  injection hs with hs; subst hs
  exact .d _ _ (b.2 0 _ v rfl hv).osl_inv.1
attribute [local irreducible] SemVC CallVC Tri Stuck YVC GenP GenVC
end Go.Proofs.YtnemengadjimcaaGreatDoor
namespace Go.Proofs.YtnemengadjimcaaGreatDoor
open Go.Proofs
def findP (x : Ax) (b : List Ax) : Option Ax := b.find? fun y => decide (cmpAx y x = 0)
theorem findP_some {x y : Ax} {b : List Ax} (h : findP x b = some y) : y ∈ b ∧ cmpAx y x = 0 := ⟨List.mem_of_find?_eq_some h, by simpa using List.find?_some h⟩
theorem findP_none {x : Ax} {b : List Ax} : findP x b = none ↔ ∀ y ∈ b, cmpAx y x ≠ 0 := by
 unfold findP; rw [List.find?_eq_none]; simp
theorem partB_find {x : Ax} : ∀ {b : List Ax}, StrA b → partB x (dropB x b) = findP x b
 | [], _ => rfl
 | y :: r, h => by
  obtain ⟨h1, h2⟩ := List.pairwise_cons.1 h
  by_cases hy : cmpAx y x < 0
  ·rw [dropB, if_pos hy, partB_find h2]
   unfold findP
   rw [List.find?_cons_of_neg (by simp; omega)]
  ·rw [dropB, if_neg hy]
   show (if cmpAx y x = 0 then some y else none) = _
   by_cases h0 : cmpAx y x = 0
   ·rw [if_pos h0]
    unfold findP
    rw [List.find?_cons_of_pos (by simpa using h0)]
   ·rw [if_neg h0]
    refine (findP_none.2 fun z hz => ?_).symm
    rcases List.mem_cons.1 hz with rfl | hz
    ·exact h0
    ·intro e
     have h3 := h1 z hz
     have h4 : cmpAx y x < 0 := by rw [← cmp_congr rfl (like_iff.1 e)]; exact h3
     exact hy h4
theorem find_dropB {x x' : Ax} (h : cmpAx x x' < 0) : ∀ (b : List Ax), findP x' (dropB x b) = findP x' b
 | [] => rfl
 | y :: r => by
  rw [dropB]
  split
  ·rename_i hy
   rw [find_dropB h r]
   unfold findP
   have := cmpAx_tr hy h
   rw [List.find?_cons_of_neg (by simp; omega)]
  ·rfl
theorem dropB_str {x : Ax} : ∀ {b : List Ax}, StrA b → StrA (dropB x b)
 | [], h => h
 | y :: r, h => by
  rw [dropB]
  split
  ·exact dropB_str (List.pairwise_cons.1 h).2
  ·exact h
theorem combL_eq (kf : Ax → Option Ax → Ax × Bool) : ∀ {a b : List Ax}, StrA a → StrA b → combL kf a b = a.flatMap fun x => keptB (kf x (findP x b))
 | [], b, _, _ => rfl
 | x :: a, b, ha, hb => by
  obtain ⟨h1, h2⟩ := List.pairwise_cons.1 ha
  rw [combL, partB_find hb, combL_eq kf h2 (dropB_str hb), List.flatMap_cons]
  congr 1
  have : ∀ x' ∈ a, keptB (kf x' (findP x' (dropB x b))) = keptB (kf x' (findP x' b)) := fun x' hx' => by rw [find_dropB (h1 x' hx')]
  have key : ∀ l : List Ax, (∀ x' ∈ l, keptB (kf x' (findP x' (dropB x b))) = keptB (kf x' (findP x' b))) → l.flatMap (fun x' => keptB (kf x' (findP x' (dropB x b)))) = l.flatMap fun x' => keptB (kf x' (findP x' b)) := by
   intro l
   induction l with
   | nil => intro _; rfl
   | cons z r ih =>
    intro h
    rw [List.flatMap_cons, List.flatMap_cons, h z (by simp), ih fun y hy => h y (List.mem_cons_of_mem _ hy)]
  exact key a this
theorem BaseOk.sub {l m : List Ax} (h : BaseOk l) (hm : ∀ x ∈ m, x ∈ l) (hs : StrA m) (hl : m.length ≤ 1024) : BaseOk m where
 tidy := fun x hx => h.tidy x (hm x hx)
 str := hs
 few := hl
 open_ := fun x hx => h.open_ x (hm x hx)
 circ := fun hc => h.circ (circ_er (fun x hx => ⟨x, hm x hx, cmpAx_self x⟩) hc)
theorem BaseOk.sublist {l m : List Ax} (h : BaseOk l) (hm : m.Sublist l) : BaseOk m :=
 h.sub (fun x hx => hm.subset hx) (h.str.sublist hm) (Nat.le_trans hm.length_le h.few)
theorem BaseOk.zero {l : List Ax} (h : BaseOk l) : checkB l = 0 := (checkB_iff l).2 h
end Go.Proofs.YtnemengadjimcaaGreatDoor
namespace Go.Proofs.YtnemengadjimcaaGreatDoor
open Go.RowKit Go.Shelf Go.Proofs
section
variable {P : Program}
theorem CallVC.growNil {r : Ren} (L : Lays8.n4 P r) {T : TI} {dd : TypeDesc} {i : TypeInfo} {zv : Value} (hT : TIok P (r.t 25) T dd i zv) (hpos : 0 < T.size) {pin : List Nat} {fr : Fr} {hp : Hp} {K : SV → Hp → Prop} (id n : Nat) (hn : n * T.bytes ≤ 140737488355328) (h63 : n ≤ 4611686018427387904) (hfr : fresh id pin fr hp)
  (hk : ∀ cap, K (.mw id T.size 0) ((id, .mrow (r.t 25) T.size cap []) :: hp)) : CallVC P pin fr hp (r.f 4) [.d .nil, .d (.int .i64 n)] K := by
 intro E ρ w tm hpin hm hf vs hargs
 obtain ⟨ha1, ha2⟩ := hargs
 obtain ⟨f1, f2, f3⟩ := hfr
 have hv : ∃ v0 v1, vs = #[v0, v1] := by
  rcases vs with ⟨l⟩
  match l, ha1 with
  | [a, b], _ => exact ⟨a, b, rfl⟩
 obtain ⟨v0, v1, rfl⟩ := hv
 have e0 := (ha2 0 _ v0 rfl rfl).nil_inv
 have e1 := (ha2 1 _ v1 rfl rfl).int_inv
 subst e0 e1
 rcases Nat.eq_zero_or_pos n with h0 | h0
 ·subst h0
  refine (Any8.slices_Grow_room L none 0 0 0 w (by omega) (by omega) (by omega) (by omega)).mono ?_
  rintro e w' ⟨rfl, rfl⟩
  obtain ⟨m1, m2, m3⟩ := hm.newMrow (id := id) (e := r.t 25) (z := T.size) (cap := 0) (rows := []) (v := .slice none 0 0) f3 (by rw [hpin]; exact f1) (Grew.refl w') (.inl ⟨rfl, rfl, none, rfl⟩) (fun g hg => by simp [mblk] at hg)
  exact ⟨_, _, _, _, rfl, hk 0, m1, hf.mono m2 (fun _ _ x => x) fun j hi => m3 j fun e => f2 (e ▸ hi), .mw id _ 0 0 none (by simp) (by simp) (fun h => absurd rfl h) (by simp [Env.retop]) (by simp [Env.retop])⟩
 ·refine (Any8.slices_Grow_grow L i zv hT.info hT.zero (by rw [hT.size]; exact hpos) none 0 0 n [] w (by omega) (by omega) (by rw [hT.bytes, Nat.zero_add]; exact hn) (by omega) (by simp) (fun _ => rfl) (fun a h => by cases h)).mono ?_
  rintro e w' ⟨rfl, hw⟩
  simp only [Nat.zero_add, Nat.sub_zero] at hw ⊢
  have hge := grownCap_ge w n 0 (r.t 25)
  have hle : grownCap w n 0 (r.t 25) ≤ maxLen := grownCap_le_maxLen w n 0 (r.t 25) (by simp only [maxLen]; omega)
  obtain ⟨G, hG⟩ : ∃ G, G = grownCap w n 0 (r.t 25) := ⟨_, rfl⟩
  rw [← hG] at hge hle hw ⊢
  have h1 : zv.cells.size = T.size := by rw [hT.cells, hT.size]
  obtain ⟨cur, hc⟩ : ∃ cur, cur = (([] : List Value).toArray ++ Builtin.zeroCells zv.cells n ++ Builtin.zeroCells zv.cells (G - n)) := ⟨_, rfl⟩
  rw [← hc] at hw
  subst hw
  have hsz : cur.size = G * T.size := by
   rw [hc, Array.size_append, Array.size_append, size_zeroCells, size_zeroCells, h1, List.size_toArray, List.length_nil, Nat.zero_add, ← Nat.add_mul]
   congr 1; omega
  have hmut : MutAt (w.drew.alloc (.cells cur (r.t 25))) ρ.S (r.t 25) T.size G [] (.slice (some ⟨w.heap.size, 0, none⟩) 0 G) :=
   .inr ⟨by omega, w.heap.size, cur, rfl, heap_alloc_new w.drew _, by simp, hle, hsz, ⟨by simp, by simp, by simp, by simp⟩, fun j hj => by have := hm.slt _ j hj; omega⟩
  obtain ⟨m1, m2, m3⟩ := hm.newMrow (id := id) f3 (by rw [hpin]; exact f1) ((Grew.drew w).trans (Grew.alloc w.drew _)) hmut (fun g hg => by
    simp [mblk] at hg
    omega)
  exact ⟨_, _, _, _, rfl, hk G, m1, hf.mono m2 (fun _ _ x => x) fun j hi => m3 j fun e => f2 (e ▸ hi), .mw id _ 0 G _ (by simp) hle (fun _ => ⟨_, rfl⟩) (by simp [Env.retop]) (by simp [Env.retop])⟩
end
end Go.Proofs.YtnemengadjimcaaGreatDoor
