/-
  Base: slices.Concat of axioms. Base: Union, walked. BasePartition, plainly. BasePartition, walked.
  Conditions: none.
-/
import Derived.Test.YtnemengadjimcaaGreatDoorMSyg
import Derived.Test.YtnemengadjimcaaGreatDoorMLzp
set_option linter.unnecessarySimpa false
set_option linter.unusedSectionVars false
set_option linter.unusedSimpArgs false
set_option linter.unusedVariables false
set_option maxHeartbeats 16000000
namespace Go.Proofs.YtnemengadjimcaaGreatDoor
open Go.Proofs
set_option maxRecDepth 10000
attribute [local irreducible] SemVC CallVC Tri Stuck YVC GenP GenVC
theorem growAx_n : Tryz.growAx_ren.f 4 = 128 := rfl
theorem growAx_t : Tryz.growAx_ren.t 25 = 49 := rfl
theorem axGrow_call (n : Nat) (hn : n ≤ 1000000) {pin : List Nat} {fr : Fr} {hp : Hp} {K : SV → Hp → Prop} (hfr : fresh 70 pin fr hp) (hk : ∀ cap, K (.mw 70 16 0) ((70, .mrow 49 16 cap []) :: hp)) :
  CallVC Tryz.prog pin fr hp 128 [.d .nil, .d (.int .i64 n)] K := by
 have h0 : ty 49 = some ⟨.struct [(3, 0), (4, 1), (47, 2), (47, 7), (32, 12), (9, 13), (9, 14), (9, 15)], 16, 216, [.int .i64 0, .bool false, .int .i64 0, .str [], .int .i64 0, .int .i64 0, .nil, .int .i64 0, .str [], .int .i64 0, .int .i64 0, .nil, .nil, .str [], .str [], .str []]⟩ := rfl
 obtain ⟨dd, i, zv, hT⟩ := tiOf_ok (hty _ _ h0)
 have L := Tryz.growAx
 rw [← growAx_n]
 rw [← growAx_t] at hT hk
 exact CallVC.growNil L hT (by decide) 70 n (by show n * 216 ≤ 140737488355328; omega) (by omega) hfr hk
def catA (l : List Ax) : List D := [.sl 16 (l.map axR)]
def catM (ls : List (List Ax)) : D := .sl 1 (ls.map catA)
theorem flatA_take {ls : List (List Ax)} {j : Nat} (h : j < ls.length) : (ls.take (j + 1)).flatten = (ls.take j).flatten ++ ls[j] := by
 rw [List.take_succ_eq_append_getElem h, List.flatten_append]; simp
theorem flatA_le (ls : List (List Ax)) (j : Nat) : (ls.take j).flatten.length ≤ ls.flatten.length := by
 conv => rhs; rw [← List.take_append_drop j ls, List.flatten_append, List.length_append]
 omega
theorem axConcat_spec (ls : List (List Ax)) (h : ls.flatten.length ≤ 1000000) (hl : ls.length ≤ 1000000) : Tri Tryz.prog 84 [.d (catM ls)] [] (fun r => r = .d ((.sl 16 (ls.flatten.map axR)))) := by
 refine tri_of_bodyF false [] hty Tryz.func84 rfl (kp [0, 2, 3, 5, 6, 8, 9, 10, 11, 12, 20, 25, 26, 27, 28]) [] _ _ _ (by simp [Tryz.f84]) (by simp) ?_
 ((conv => whnf); repeat ((first | (intro hq; try simp only [lnS] at hq) | refine sI ?_ | refine .intro _ (.intro rfl ?_)); (conv => whnf)))
 refine loop_rule hty (fun j : Nat => ([(0, .d (catM ls)), (3, .d (.int .i64 (ls.take j).flatten.length)), (9, .d (catM ls)), (10, .d (.int .i64 ls.length)), (11, .d (.int .i64 j))], [])) (fun j => j ≤ ls.length) (fun j => ls.length - j) 0 (by omega) ⟨by repeat' (first | exact trivial | exact rfl | (rw [List.length_map]; exact rfl) | refine And.intro ?_ ?_), trivial⟩ ?_
 rintro j hj
 ((conv => whnf); repeat ((first | (intro hq; try simp only [lnS] at hq) | refine sI ?_ | refine .intro _ (.intro rfl ?_)); (conv => whnf)))
 refine brB_dec (fun h1 => ?_) (fun h1 => ?_)
 ·have hjl : j < ls.length := by omega
  have hrow : (ls.map catA)[(j : Int).toNat]? = some (catA ls[j]) := rowC_at hjl
  have hft := flatA_take hjl
  have hfl := flatA_le ls (j + 1)
  generalize ls[j] = x at hrow hft
  have hcast : (((ls.take (j + 1)).flatten.length : Nat) : Int) = ((ls.take j).flatten.length : Nat) + (x.length : Nat) := by
   rw [hft, List.length_append]; omega
  ((conv => whnf); repeat' ((first | (intro hq; (try simp only [lnS] at hq); (try rewrite [List.length_map])) | refine sJ ?_ | refine .intro _ (.intro rfl ?_) | (refine .intro (show (_ : Nat) < List.length _ from by first | omega | (simp only [lnS]; omega) | simp) ?_) | (refine ⟨_, hrow, ?_⟩) | refine draw_rule hty (by kernel_rfl) (by kernel_rfl) ?_ | ((first | refine brB_dec ?_ ?_ | refine brB_ndec ?_ ?_) <;> intro hb <;> (first | contradiction | ((try simp only [lnS] at hb); try (exfalso; omega)))) | (refine brB_split ?_ ?_ <;> intro hb <;> (first | contradiction | exact bT hb (by assumption) | exact bF hb (by assumption) | skip))) <;> (conv => whnf)))
  refine ⟨j + 1, by dsimp only; omega, by dsimp only; omega, ⟨?_, trivial⟩⟩
  dsimp only
  rw [hcast]
  repeat' (first | exact trivial | exact rfl | refine And.intro ?_ ?_)
 have hjl : j = ls.length := by omega
 subst hjl
 rw [List.take_length]
 ((conv => whnf); repeat ((first | (intro hq; try simp only [lnS] at hq) | refine sI ?_ | refine .intro _ (.intro rfl ?_)); (conv => whnf)))
 refine axGrow_call _ h (fresh_of (by with_unfolding_all exact rfl)) (fun cap => ?_)
 ((conv => whnf); repeat ((first | (intro hq; try simp only [lnS] at hq) | refine sI ?_ | refine .intro _ (.intro rfl ?_)); (conv => whnf)))
 refine loop_rule hty (fun y : Nat × Nat => ([(6, .mw 70 16 (ls.take y.1).flatten.length), (25, .d (catM ls)), (26, .d (.int .i64 ls.length)), (27, .d (.int .i64 y.1))], [(70, .mrow 49 16 y.2 ((ls.take y.1).flatten.map axR))])) (fun y => y.1 ≤ ls.length) (fun y => ls.length - y.1) (0, cap) (by dsimp only; omega) ⟨by repeat' (first | exact trivial | exact rfl | (rw [List.length_map]; exact rfl) | refine And.intro ?_ ?_), ⟨rfl, trivial⟩⟩ ?_
 rintro ⟨j, cap⟩ hj
 dsimp only at hj
 ((conv => whnf); repeat ((first | (intro hq; try simp only [lnS] at hq) | refine sI ?_ | refine .intro _ (.intro rfl ?_)); (conv => whnf)))
 refine brB_dec (fun h1 => ?_) (fun h1 => ?_)
 ·have hjl : j < ls.length := by dsimp only at h1; omega
  have hrow : (ls.map catA)[(j : Int).toNat]? = some (catA ls[j]) := rowC_at hjl
  have hft := flatA_take hjl
  have hfl := flatA_le ls (j + 1)
  generalize ls[j] = x at hrow hft
  rw [hft, List.length_append] at hfl
  ((conv => whnf); repeat' ((first | (intro hq; (try simp only [lnS] at hq); (try rewrite [List.length_map])) | refine sJ ?_ | refine .intro _ (.intro rfl ?_) | (refine .intro (show (_ : Nat) < List.length _ from by first | omega | (simp only [lnS]; omega) | simp) ?_) | (refine ⟨_, hrow, ?_⟩) | refine draw_rule hty (by kernel_rfl) (by kernel_rfl) ?_ | ((first | refine brB_dec ?_ ?_ | refine brB_ndec ?_ ?_) <;> intro hb <;> (first | contradiction | ((try simp only [lnS] at hb); try (exfalso; omega)))) | (refine brB_split ?_ ?_ <;> intro hb <;> (first | contradiction | exact bT hb (by assumption) | exact bF hb (by assumption) | skip))) <;> (conv => whnf)))
  refine ⟨(List.length_map ..).symm, by simp only [List.length_map]; omega, ?_, fun cap' hc => ?_⟩
  ·show (((ls.take j).flatten.map axR).length + (x.map axR).length) * 216 ≤ 140737488355328
   simp only [List.length_map]; omega
  ·((conv => whnf); repeat ((first | (intro hq; try simp only [lnS] at hq) | refine sI ?_ | refine .intro _ (.intro rfl ?_)); (conv => whnf)))
   refine ⟨(j + 1, cap'), by dsimp only; omega, by dsimp only; omega, ?_, ?_⟩
   ·repeat' (first | exact trivial | exact rfl | exact wkMw (by (try dsimp only); rw [hft]; simp only [List.length_append, List.length_map]) | refine And.intro ?_ ?_)
   ·dsimp only
    rw [hft, List.map_append]
    repeat' (first | exact trivial | exact rfl | refine And.intro ?_ ?_)
 ·have hjl : j = ls.length := by dsimp only at h1; omega
  subst hjl
  rw [List.take_length]
  ((conv => whnf); repeat' ((first | (intro hq; (try simp only [lnS] at hq); (try rewrite [List.length_map])) | refine sJ ?_ | refine .intro _ (.intro rfl ?_) | (refine .intro (show (_ : Nat) < List.length _ from by first | omega | (simp only [lnS]; omega) | simp) ?_) | fail | refine draw_rule hty (by kernel_rfl) (by kernel_rfl) ?_ | ((first | refine brB_dec ?_ ?_ | refine brB_ndec ?_ ?_) <;> intro hb <;> (first | contradiction | ((try simp only [lnS] at hb); try (exfalso; omega)))) | (refine brB_split ?_ ?_ <;> intro hb <;> (first | contradiction | exact bT hb (by assumption) | exact bF hb (by assumption) | skip))) <;> (conv => whnf)))
  refine ⟨(List.length_map ..).symm, ?_⟩
  ((conv => whnf); repeat ((first | (intro hq; try simp only [lnS] at hq) | refine sI ?_ | refine .intro _ (.intro rfl ?_)); (conv => whnf)))
  rfl
end Go.Proofs.YtnemengadjimcaaGreatDoor
namespace Go.Proofs.YtnemengadjimcaaGreatDoor
open Go.Proofs
set_option maxRecDepth 10000
attribute [local irreducible] SemVC CallVC Tri Stuck YVC GenP GenVC
noncomputable def unE (a b : List Ax) : List Ax × Int := if bothB a b ≠ 0 then ([], bothB a b) else newE (a ++ b)
theorem union_spec (a b : List Ax) : Tri Tryz.prog 38 [.d (basR a), .d (basR b)] NG (fun r => r = .tup [.d (basR (unE a b).1), .d (.int .i64 (unE a b).2)]) := by
 refine Tri.pairB ?_
 have c1 := both_spec' a b
 have hv : unE a b = if bothB a b ≠ 0 then ([], bothB a b) else newE (a ++ b) := rfl
 have hb0 := both_ok (a := a) (b := b)
 rw [hv]
 clear hv
 generalize bothB a b = e at *
 refine tri_of_bodyF false [2, 3] hty Tryz.func38 rfl (kp [0, 1, 2, 3, 4, 5, 6, 11]) [] _ _ _ (by simp [Tryz.f38]) (by decide) ?_
 ((conv => whnf); repeat ((first | (refine call_tri NG c1 ⟨rfl, rfl, trivial⟩ (fun r hs => ?_); subst hs) | (intro hq; try simp only [lnS] at hq) | refine sI ?_ | refine .intro _ (.intro rfl ?_)); (conv => whnf)))
 refine brB_ndec (fun h1 => ?_) (fun h1 => ?_)
 ·rw [if_pos h1]
  ((conv => whnf); repeat' ((first | (intro hq; (try simp only [lnS] at hq); (try rewrite [List.length_map])) | refine sJ ?_ | refine .intro _ (.intro rfl ?_) | (refine .intro (show (_ : Nat) < List.length _ from by first | omega | (simp only [lnS]; omega) | simp) ?_) | fail | refine draw_rule hty (by kernel_rfl) (by kernel_rfl) ?_ | ((first | refine brB_dec ?_ ?_ | refine brB_ndec ?_ ?_) <;> intro hb <;> (first | contradiction | ((try simp only [lnS] at hb); try (exfalso; omega)))) | (refine brB_split ?_ ?_ <;> intro hb <;> (first | contradiction | exact bT hb (by assumption) | exact bF hb (by assumption) | skip))) <;> (conv => whnf)))
  exact nilB _
 ·rw [if_neg (by simp [h1])]
  obtain ⟨q1, q2⟩ := hb0 h1
  have o1 := (checkB_iff a).1 q1
  have o2 := (checkB_iff b).1 q2
  have f1 := o1.few
  have f2 := o2.few
  have c2 := axConcat_spec [a, b] (by simp; omega) (by simp)
  rw [show [a, b].flatten = a ++ b by simp] at c2
  have c2 := fun (id : Nat) => Tri.osl (id := id) c2
  have c3 := new_spec (a ++ b) (by simp; omega)
  generalize newE (a ++ b) = r at *
  obtain ⟨r1, r2⟩ := r
  ((conv => whnf); repeat ((first | (refine call_tri [] (c2 _) trivial (fun r hs => ?_); subst hs) | (refine call_tri NG c3 ⟨rfl, rfl, trivial⟩ (fun r hs => ?_); subst hs) | (intro hq; try simp only [lnS] at hq) | refine sI ?_ | refine .intro _ (.intro rfl ?_)); (conv => whnf)))
  exact sameB _ _
end Go.Proofs.YtnemengadjimcaaGreatDoor
namespace Go.Proofs.YtnemengadjimcaaGreatDoor
open Go.Proofs
theorem tidyA_opn {x : Ax} (o : Bool) (h : tidyA x = (x, 0)) : tidyA { x with isopen := o } = ({ x with isopen := o }, 0) := by
 have hz := tidyA_valid (x := x) (by rw [h])
 have hz' : axiomE { x with isopen := o } = 0 := hz
 unfold tidyA at h ⊢
 rw [if_neg (by rw [hz]; simp)] at h
 rw [if_neg (by rw [hz']; simp)]
 unfold tidyU at h ⊢
 dsimp only at h ⊢
 split at h
 ·rename_i h1
  exact absurd (congrArg Prod.snd h) h1
 ·rename_i h1
  rw [if_neg h1]
  split at h
  ·rename_i h2
   exact absurd (congrArg Prod.snd h) h2
  ·rename_i h2
   rw [if_neg h2]
   split at h
   ·rename_i h3
    rw [if_pos h3]
    exact Prod.ext (congrArg (fun y : Ax => { y with isopen := o }) (congrArg Prod.fst h)) rfl
   ·rename_i h3
    rw [if_neg h3]
    exact Prod.ext (congrArg (fun y : Ax => { y with isopen := o }) (congrArg Prod.fst h)) rfl
theorem tidy_er {x y : Ax} (h : erA x = erA y) (hy : tidyA y = (y, 0)) : tidyA x = (x, 0) := by
 have hx : x = { y with isopen := x.isopen } := eq_of_er h rfl
 have := tidyA_opn x.isopen hy
 rw [← hx] at this
 exact this
theorem role_er {x y : Ax} (h : erA x = erA y) : roleA x = roleA y := by
 have e : (erA x).kind = (erA y).kind := by rw [h]
 have e : x.kind = y.kind := e
 unfold roleA
 rw [e]
theorem newB_len (l : List Ax) : (newB l).length ≤ l.length := by
 unfold newB
 have := mergA_len (l.mergeSort fun x y => decide (cmpAx x y ≤ 0))
 rw [List.length_mergeSort] at this
 exact this
structure GoodA (l : List Ax) : Prop where
 tidy : ∀ x ∈ l, tidyA x = (x, 0)
 opn : ∀ x ∈ l, roleA x = true → x.isopen = true
 few : l.length ≤ 1024
theorem GoodA.congr {l m : List Ax} (h : GoodA l) (hm : ∀ x ∈ m, x ∈ l) (hn : m.length ≤ 1024) : GoodA m := ⟨fun x hx => h.tidy x (hm x hx), fun x hx => h.opn x (hm x hx), hn⟩
theorem newB_tidy {l : List Ax} (h : GoodA l) : ∀ x ∈ newB l, tidyA x = (x, 0) := fun x hx => by
 obtain ⟨y, hy, e⟩ := (newB_of l).mem x hx
 exact tidy_er (like_iff.1 e) (h.tidy y hy)
theorem newB_circ (l : List Ax) : Circ (ET (stepsL (newB l))) ↔ Circ (ET (stepsL l)) :=
 ⟨circ_er (newB_of l).mem, circ_er fun y hy => by
  obtain ⟨x, hx, e⟩ := (newB_of l).all y hy
  exact ⟨x, hx, like_iff.2 (like_iff.1 e).symm⟩⟩
theorem roles_circ {l : List Ax} (h : ∀ x ∈ l, tidyA x = (x, 0)) (hc : Circ (ET (stepsL l))) : rolesE l = 60 := by
 unfold rolesE
 rw [if_neg (by rw [firstA_ok fun x hx => tidyA_valid (by rw [h x hx])]; simp), if_pos hc]
theorem roles_none {l : List Ax} (h : ∀ x ∈ l, tidyA x = (x, 0)) (hc : ¬ Circ (ET (stepsL l))) : rolesE l = 0 := by
 unfold rolesE
 rw [if_neg (by rw [firstA_ok fun x hx => tidyA_valid (by rw [h x hx])]; simp), if_neg hc]
theorem newB_check {l : List Ax} (h : GoodA l) : checkB (newB l) = rolesE l := by
 have hN := newB_of l
 have ht := newB_tidy h
 unfold checkB
 rw [if_neg (by rw [(firstB_iff _).2 ht]; simp), if_neg (by rw [(sortedB_iff _).2 hN.str]; simp), if_neg (by have := newB_len l; have := h.few; omega), if_neg ?_]
 ·by_cases hc : Circ (ET (stepsL l))
  ·rw [roles_circ h.tidy hc, roles_circ ht ((newB_circ l).2 hc)]
  ·rw [roles_none h.tidy hc, roles_none ht (fun q => hc ((newB_circ l).1 q))]
 ·intro hs
  obtain ⟨x, hx, hs⟩ := List.any_eq_true.1 hs
  unfold secretB at hs
  rw [Bool.and_eq_true] at hs
  obtain ⟨y, hy, e⟩ := hN.mem x hx
  have := (hN.opn x hx).2 ⟨y, hy, e, h.opn y hy (by rw [← role_er (like_iff.1 e)]; exact hs.1)⟩
  rw [this] at hs
  exact absurd hs.2 (by decide)
theorem newE_good {l : List Ax} (h : GoodA l) : newE l = if rolesE l ≠ 0 then ([], rolesE l) else (newB l, 0) := by
 have h1 : tidM l = l := by
  unfold tidM
  conv => rhs; rw [← List.map_id l]
  exact List.map_congr_left fun x hx => by rw [h.tidy x hx]; rfl
 unfold newE
 rw [h1, if_neg (by rw [(tidE_iff l).2 fun x hx => by rw [h.tidy x hx]]; simp), newB_check h]
theorem newE_circ {l : List Ax} (h : GoodA l) (hc : Circ (ET (stepsL l))) : newE l = ([], 60) := by
 rw [newE_good h, roles_circ h.tidy hc]; rfl
theorem newE_none {l : List Ax} (h : GoodA l) (hc : ¬ Circ (ET (stepsL l))) : newE l = (newB l, 0) := by
 rw [newE_good h, roles_none h.tidy hc]; rfl
def mnL (a b : List Ax) : List Ax := a.filter fun x => (findP x b).isNone
def cmL (a b : List Ax) : List Ax := a.filterMap fun x => (findP x b).map fun y => { x with isopen := x.isopen && y.isopen }
theorem mn_eq {a b : List Ax} (ha : StrA a) (hb : StrA b) : combL kfM a b = mnL a b := by
 rw [combL_eq kfM ha hb]
 unfold mnL
 clear ha hb
 induction a with
 | nil => rfl
 | cons x r ih =>
  rw [List.flatMap_cons, ih, List.filter_cons]
  unfold keptB kfM
  dsimp only
  split <;> rfl
theorem cm_eq {a b : List Ax} (ha : StrA a) (hb : StrA b) : combL kfC a b = cmL a b := by
 rw [combL_eq kfC ha hb]
 unfold cmL
 clear ha hb
 induction a with
 | nil => rfl
 | cons x r ih =>
  rw [List.flatMap_cons, ih, List.filterMap_cons]
  cases findP x b <;> rfl
theorem parts_len (a b : List Ax) : (mnL a b).length + (cmL a b).length = a.length := by
 unfold mnL cmL
 induction a with
 | nil => rfl
 | cons x r ih =>
  rw [List.filter_cons, List.filterMap_cons]
  cases findP x b with
  | none => simp only [Option.isNone_none, if_true, Option.map_none, List.length_cons]; omega
  | some y => simp only [Option.isNone_some, Bool.false_eq_true, if_false, Option.map_some, List.length_cons]; omega
theorem cm_mem {a b : List Ax} {z : Ax} (h : z ∈ cmL a b) : ∃ x ∈ a, ∃ y, findP x b = some y ∧ z = { x with isopen := x.isopen && y.isopen } := by
 unfold cmL at h
 obtain ⟨x, hx, e⟩ := List.mem_filterMap.1 h
 cases hf : findP x b with
 | none => rw [hf] at e; cases e
 | some y =>
  rw [hf] at e
  injection e with e
  exact ⟨x, hx, y, hf, e.symm⟩
theorem cm_in {a b : List Ax} {x y : Ax} (hx : x ∈ a) (hf : findP x b = some y) : { x with isopen := x.isopen && y.isopen } ∈ cmL a b := by
 unfold cmL
 exact List.mem_filterMap.2 ⟨x, hx, by rw [hf]; rfl⟩
theorem mn_ok {a b : List Ax} (ha : BaseOk a) : BaseOk (mnL a b) := ha.sublist List.filter_sublist
theorem cm_ok {a b : List Ax} (ha : BaseOk a) (hb : BaseOk b) : BaseOk (cmL a b) where
 tidy := fun z hz => by
  obtain ⟨x, hx, y, _, rfl⟩ := cm_mem hz
  exact tidyA_opn _ (ha.tidy x hx)
 str := by
  unfold StrA cmL
  refine List.Pairwise.filterMap (S := fun x y => cmpAx x y < 0) _ (fun x x' hr z hz z' hz' => ?_) ha.str
  cases hf : findP x b with
  | none => rw [hf] at hz; cases hz
  | some y =>
   cases hf' : findP x' b with
   | none => rw [hf'] at hz'; cases hz'
   | some y' =>
    rw [hf] at hz
    rw [hf'] at hz'
    cases hz
    cases hz'
    exact hr
 few := Nat.le_trans (List.length_filterMap_le _ _) ha.few
 open_ := fun z hz hr => by
  obtain ⟨x, hx, y, hf, rfl⟩ := cm_mem hz
  obtain ⟨hy, e⟩ := findP_some hf
  have hrx : roleA x = true := hr
  have h1 := ha.open_ x hx hrx
  have h2 := hb.open_ y hy (by rw [role_er (like_iff.1 e)]; exact hrx)
  show (x.isopen && y.isopen) = true
  rw [h1, h2]; rfl
 circ := fun hc => ha.circ (circ_er (fun z hz => by
  obtain ⟨x, hx, y, _, rfl⟩ := cm_mem hz
  exact ⟨x, hx, like_iff.2 rfl⟩) hc)
def anyA (l : List Ax) (x : Ax) : Bool := l.any fun y => decide (cmpAx y x = 0)
theorem anyA_iff {l : List Ax} {x : Ax} : anyA l x = true ↔ ∃ y ∈ l, cmpAx y x = 0 := by
 unfold anyA; rw [List.any_eq_true]
 exact ⟨fun ⟨y, h1, h2⟩ => ⟨y, h1, of_decide_eq_true h2⟩, fun ⟨y, h1, h2⟩ => ⟨y, h1, decide_eq_true h2⟩⟩
theorem any_find (l : List Ax) (x : Ax) : anyA l x = (findP x l).isSome := by
 rw [Bool.eq_iff_iff, anyA_iff]
 cases h : findP x l with
 | none => simpa using findP_none.1 h
 | some y => simpa using ⟨y, findP_some h⟩
theorem any_mn {a b : List Ax} (ha : BaseOk a) {x : Ax} (hx : x ∈ a) : anyA (mnL a b) x = !anyA b x := by
 rw [Bool.eq_iff_iff, anyA_iff, any_find]
 constructor
 ·rintro ⟨y, hy, e⟩
  obtain ⟨h1, h2⟩ := List.mem_filter.1 hy
  have := strA_one ha.str h1 hx e
  subst this
  cases h : findP y b with
  | none => rfl
  | some z => rw [h] at h2; cases h2
 ·intro h
  refine ⟨x, List.mem_filter.2 ⟨hx, ?_⟩, cmpAx_self x⟩
  cases h' : findP x b with
  | none => rfl
  | some z => rw [h'] at h; cases h
theorem any_cm {a b : List Ax} (ha : BaseOk a) {x : Ax} (hx : x ∈ a) : anyA (cmL a b) x = anyA b x := by
 rw [Bool.eq_iff_iff, anyA_iff, any_find]
 constructor
 ·rintro ⟨z, hz, e⟩
  obtain ⟨x', hx', y, hf, rfl⟩ := cm_mem hz
  have := strA_one ha.str hx' hx e
  subst this
  rw [hf]; rfl
 ·intro h
  cases h' : findP x b with
  | none => rw [h'] at h; cases h
  | some y => exact ⟨_, cm_in hx h', cmpAx_self x⟩
theorem strA_nodup {l : List Ax} (h : StrA l) : l.Nodup := h.imp fun {x y} h e => by subst e; exact cmpAx_irr _ h
def fndI (o : Option Nat) : Int := match o with | some i => (i : Int) | none => 0
def opI (l : List Ax) (o : Option Nat) : Bool := match o with | some i => (match l[i]? with | some y => y.isopen | none => false) | none => false
theorem findA_eq {l : List Ax} {x : Ax} (h : tidyA x = (x, 0)) : findA l x = (fndI (idxA x l), (idxA x l).isSome) := by
 unfold findA
 rw [h, if_neg (by simp)]
 dsimp only
 cases idxA x l <;> rfl
theorem opI_iff {l : List Ax} (hl : StrA l) {x : Ax} : opI l (idxA x l) = true ↔ ∃ y ∈ l, cmpAx x y = 0 ∧ y.isopen = true := by
 cases h : idxA x l with
 | none => exact ⟨(fun h => by cases h), fun ⟨y, h1, h2, _⟩ => absurd h2 (idx_none.1 h y h1)⟩
 | some i =>
  obtain ⟨hi, e⟩ := idx_some h
  show (match l[i]? with | some y => y.isopen | none => false) = true ↔ _
  rw [List.getElem?_eq_getElem hi]
  dsimp only
  constructor
  ·intro h; exact ⟨l[i], List.getElem_mem hi, e, h⟩
  ·rintro ⟨y, h1, h2, h3⟩
   have : y = l[i] := strA_one hl h1 (List.getElem_mem hi) (like_iff.2 ((like_iff.1 h2).symm.trans (like_iff.1 e)))
   rw [← this]; exact h3
theorem both_zero {a b : List Ax} (ha : BaseOk a) (hb : BaseOk b) : bothB a b = 0 := by
 unfold bothB; rw [if_neg (by rw [ha.zero]; simp), hb.zero]
theorem unE_eq {a b : List Ax} (ha : BaseOk a) (hb : BaseOk b) : unE a b = newE (a ++ b) := by
 unfold unE; rw [if_neg (by rw [both_zero ha hb]; simp)]
section
variable {a b : List Ax} (ha : BaseOk a) (hb : BaseOk b) (la : a.length ≤ 14) (lb : b.length ≤ 14)
include ha hb la lb
theorem good_ab : GoodA (a ++ b) := by
 refine ⟨fun x hx => ?_, fun x hx => ?_, by rw [List.length_append]; omega⟩
 ·rcases List.mem_append.1 hx with hx | hx
  ·exact ha.tidy x hx
  ·exact hb.tidy x hx
 ·rcases List.mem_append.1 hx with hx | hx
  ·exact ha.open_ x hx
  ·exact hb.open_ x hx
theorem good_ba : GoodA (b ++ a) := (good_ab ha hb la lb).congr (fun x hx => by rw [List.mem_append] at hx ⊢; exact hx.symm) (by rw [List.length_append]; omega)
theorem mn_sub : ∀ x ∈ mnL a b ++ b, x ∈ a ++ b := fun x hx => by
 rcases List.mem_append.1 hx with hx | hx
 ·exact List.mem_append_left _ (List.mem_filter.1 hx).1
 ·exact List.mem_append_right _ hx
theorem good_mb : GoodA (mnL a b ++ b) := (good_ab ha hb la lb).congr (mn_sub ha hb la lb) (by have : (mnL a b).length ≤ a.length := List.length_filter_le _ _; rw [List.length_append]; omega)
theorem ab_mb : ∀ x ∈ a ++ b, ∃ y ∈ mnL a b ++ b, cmpAx x y = 0 := fun x hx => by
 rcases List.mem_append.1 hx with hx | hx
 ·cases h : findP x b with
  | none => exact ⟨x, List.mem_append_left _ (List.mem_filter.2 ⟨hx, by rw [h]; rfl⟩), cmpAx_self x⟩
  | some y =>
   obtain ⟨h1, h2⟩ := findP_some h
   exact ⟨y, List.mem_append_right _ h1, like_iff.2 (like_iff.1 h2).symm⟩
 ·exact ⟨x, List.mem_append_right _ hx, cmpAx_self x⟩
theorem circ_ba : Circ (ET (stepsL (b ++ a))) ↔ Circ (ET (stepsL (a ++ b))) :=
 ⟨circ_er fun x hx => ⟨x, by rw [List.mem_append] at hx ⊢; exact hx.symm, cmpAx_self x⟩, circ_er fun x hx => ⟨x, by rw [List.mem_append] at hx ⊢; exact hx.symm, cmpAx_self x⟩⟩
theorem circ_mb : Circ (ET (stepsL (mnL a b ++ b))) ↔ Circ (ET (stepsL (a ++ b))) :=
 ⟨circ_er fun x hx => ⟨x, mn_sub ha hb la lb x hx, cmpAx_self x⟩, circ_er (ab_mb ha hb la lb)⟩
theorem un_circ (hc : Circ (ET (stepsL (a ++ b)))) : unE a b = ([], 60) ∧ unE b a = ([], 60) ∧ unE (mnL a b) b = ([], 60) ∧ rolesE (a ++ b) = 60 := by
 rw [unE_eq ha hb, unE_eq hb ha, unE_eq (mn_ok ha) hb]
 exact ⟨newE_circ (good_ab ha hb la lb) hc, newE_circ (good_ba ha hb la lb) ((circ_ba ha hb la lb).2 hc), newE_circ (good_mb ha hb la lb) ((circ_mb ha hb la lb).2 hc), roles_circ (good_ab ha hb la lb).tidy hc⟩
theorem un_none (hc : ¬ Circ (ET (stepsL (a ++ b)))) : unE a b = (newB (a ++ b), 0) ∧ unE b a = (newB (a ++ b), 0) ∧ unE (mnL a b) b = (newB (mnL a b ++ b), 0) := by
 rw [unE_eq ha hb, unE_eq hb ha, unE_eq (mn_ok ha) hb]
 refine ⟨newE_none (good_ab ha hb la lb) hc, ?_, newE_none (good_mb ha hb la lb) fun q => hc ((circ_mb ha hb la lb).1 q)⟩
 rw [newE_none (good_ba ha hb la lb) (fun q => hc ((circ_ba ha hb la lb).1 q)), newB_eq (tl := b ++ a) (tl' := a ++ b) fun x => by rw [List.mem_append, List.mem_append]; exact or_comm]
theorem un_er : (newB (a ++ b)).map erA = (newB (mnL a b ++ b)).map erA := by
 have h1 := newB_of (a ++ b)
 have h2 := newB_of (mnL a b ++ b)
 refine strA_unique (strA_er h1.str) (strA_er h2.str) fun z => ?_
 rw [List.mem_map, List.mem_map]
 constructor
 ·rintro ⟨x, hx, rfl⟩
  obtain ⟨y, hy, e⟩ := h1.mem x hx
  obtain ⟨y', hy', e'⟩ := ab_mb ha hb la lb y hy
  obtain ⟨x', hx', e''⟩ := h2.all y' hy'
  exact ⟨x', hx', (like_iff.1 e'').trans ((like_iff.1 e').symm.trans (like_iff.1 e).symm)⟩
 ·rintro ⟨x, hx, rfl⟩
  obtain ⟨y, hy, e⟩ := h2.mem x hx
  obtain ⟨x', hx', e'⟩ := h1.all y (mn_sub ha hb la lb y hy)
  exact ⟨x', hx', (like_iff.1 e').trans (like_iff.1 e).symm⟩
theorem un_wlen : (newB (mnL a b ++ b)).length = (newB (a ++ b)).length := by
 have := congrArg List.length (un_er ha hb la lb)
 rw [List.length_map, List.length_map] at this
 exact this.symm
theorem un_at {n : Nat} (h : n < (newB (a ++ b)).length) : cmpAx (newB (a ++ b))[n] ((newB (mnL a b ++ b))[n]'(by rw [un_wlen ha hb la lb]; exact h)) = 0 := by
 have e := un_er ha hb la lb
 have e2 := congrArg (fun l : List Ax => l[n]?) e
 rw [List.getElem?_map, List.getElem?_map, List.getElem?_eq_getElem h, List.getElem?_eq_getElem (by rw [un_wlen ha hb la lb]; exact h)] at e2
 injection e2 with e2
 exact like_iff.2 e2
theorem un_len : (newB (a ++ b)).length = (mnL a b).length + b.length := by
 rw [← un_wlen ha hb la lb]
 have h2 := newB_of (mnL a b ++ b)
 have n1 : ((newB (mnL a b ++ b)).map erA).Nodup := strA_nodup (strA_er h2.str)
 have n2 : ((mnL a b ++ b).map erA).Nodup := by
  rw [List.map_append, List.nodup_append]
  refine ⟨strA_nodup (strA_er (mn_ok ha).str), strA_nodup (strA_er hb.str), ?_⟩
  intro x hx y hy e
  subst e
  obtain ⟨p, hp, e1⟩ := List.mem_map.1 hx
  obtain ⟨q, hq, e2⟩ := List.mem_map.1 hy
  have h3 := (List.mem_filter.1 hp).2
  cases h4 : findP p b with
  | none => exact findP_none.1 h4 q hq (like_iff.2 (e2.trans e1.symm))
  | some z => rw [h4] at h3; cases h3
 have hp := (List.perm_ext_iff_of_nodup n1 n2).2 fun z => by
  rw [List.mem_map, List.mem_map]
  constructor
  ·rintro ⟨x, hx, rfl⟩
   obtain ⟨y, hy, e⟩ := h2.mem x hx
   exact ⟨y, hy, (like_iff.1 e).symm⟩
  ·rintro ⟨y, hy, rfl⟩
   obtain ⟨x, hx, e⟩ := h2.all y hy
   exact ⟨x, hx, like_iff.1 e⟩
 have := hp.length_eq
 rw [List.length_map, List.length_map, List.length_append] at this
 exact this
theorem un_open {x : Ax} (hx : x ∈ newB (a ++ b)) : x.isopen = (opI a (idxA x a) || opI b (idxA x b)) := by
 rw [Bool.eq_iff_iff, Bool.or_eq_true, opI_iff ha.str, opI_iff hb.str, (newB_of (a ++ b)).opn x hx]
 constructor
 ·rintro ⟨y, h1, h2⟩
  rcases List.mem_append.1 h1 with h1 | h1
  ·exact .inl ⟨y, h1, h2⟩
  ·exact .inr ⟨y, h1, h2⟩
 ·rintro (⟨y, h1, h2⟩ | ⟨y, h1, h2⟩)
  ·exact ⟨y, List.mem_append_left _ h1, h2⟩
  ·exact ⟨y, List.mem_append_right _ h1, h2⟩
theorem un_some {x : Ax} (hx : x ∈ newB (a ++ b)) : ¬ (idxA x a = none ∧ idxA x b = none) := by
 rintro ⟨h1, h2⟩
 obtain ⟨y, hy, e⟩ := (newB_of (a ++ b)).mem x hx
 rcases List.mem_append.1 hy with hy | hy
 ·exact idx_none.1 h1 y hy e
 ·exact idx_none.1 h2 y hy e
end
end Go.Proofs.YtnemengadjimcaaGreatDoor
namespace Go.Proofs.YtnemengadjimcaaGreatDoor
open Go.Proofs
set_option maxRecDepth 10000
attribute [local irreducible] SemVC CallVC Tri Stuck YVC GenP GenVC
theorem partition_spec (a b : List Ax) (hsa : ∀ x ∈ a, SzAx x) (hsb : ∀ x ∈ b, SzAx x) : Tri Tryz.prog 10 [.d (basR a), .d (basR b)] NG (fun r => r = .d (.bool true)) := by
 have cf := bFew_spec [a, b] (fun m hm => by
  simp at hm
  rcases hm with rfl | rfl
  ·exact hsa
  ·exact hsb)
 have cf := fun (id : Nat) => Tri.osl (id := id) cf
 have hfl : bFew [a, b] = true → a.length ≤ 14 ∧ b.length ≤ 14 := fun h => by
  unfold bFew at h
  simp at h
  omega
 have ca := bCheck_spec a
 have cb := bCheck_spec b
 have hoa := (checkB_iff a).1
 have hob := (checkB_iff b).1
 generalize bFew [a, b] = few at *
 generalize checkB a = ea at *
 generalize checkB b = eb at *
 refine tri_of_bodyO 200 false [2, 3, 5, 7, 10, 11, 13, 15, 20] hty Tryz.func10 rfl (kp [0, 1, 2, 3, 4, 5, 6, 7, 8, 10, 11, 12, 13, 14, 15, 16, 18, 19, 20, 21, 22, 23, 24, 25, 27, 44, 85, 87, 88, 89, 90, 108, 143, 145, 182, 184, 185, 186, 187, 228, 270]) [] _ _ _ (by simp [Tryz.f10]) (by decide) ?_
 ((conv => whnf); repeat ((first | (intro hq; try simp only [lnS] at hq) | refine sI ?_ | refine .intro _ (.intro rfl ?_)); (conv => whnf)))
 refine call_tri NG bSane_spec ⟨rfl, rfl, trivial⟩ (fun r hs => ?_)
 subst hs
 ((conv => whnf); repeat ((first | (intro hq; try simp only [lnS] at hq) | refine sI ?_ | refine .intro _ (.intro rfl ?_)); (conv => whnf)))
 refine call_tri [] (cf _) trivial (fun r hs => ?_)
 subst hs
 cases few
 ·((conv => whnf); repeat' ((first | (intro hq; (try simp only [lnS] at hq); (try rewrite [List.length_map])) | refine sJ ?_ | refine .intro _ (.intro rfl ?_) | (refine .intro (show (_ : Nat) < List.length _ from by first | omega | (simp only [lnS]; omega) | simp) ?_) | fail | refine draw_rule hty (by kernel_rfl) (by kernel_rfl) ?_ | ((first | refine brB_dec ?_ ?_ | refine brB_ndec ?_ ?_) <;> intro hb <;> (first | contradiction | ((try simp only [lnS] at hb); try (exfalso; omega)))) | (refine brB_split ?_ ?_ <;> intro hb <;> (first | contradiction | exact bT hb (by assumption) | exact bF hb (by assumption) | skip))) <;> (conv => whnf)))
  rfl
 obtain ⟨la, lb⟩ := hfl rfl
 clear cf hfl
 ((conv => whnf); repeat ((first | (intro hq; try simp only [lnS] at hq) | refine sI ?_ | refine .intro _ (.intro rfl ?_)); (conv => whnf)))
 refine call_tri NG ca ⟨rfl, rfl, trivial⟩ (fun r hs => ?_)
 subst hs
 by_cases h1 : ea = 0
 case neg =>
  have q : (!decide (ea = 0)) = true := by simp [h1]
  ((conv => whnf); repeat ((first | (intro hq; try simp only [lnS] at hq) | refine sI ?_ | refine .intro _ (.intro rfl ?_)); (conv => whnf)))
  rw [q]
  ((conv => whnf); repeat' ((first | (intro hq; (try simp only [lnS] at hq); (try rewrite [List.length_map])) | refine sJ ?_ | refine .intro _ (.intro rfl ?_) | (refine .intro (show (_ : Nat) < List.length _ from by first | omega | (simp only [lnS]; omega) | simp) ?_) | fail | refine draw_rule hty (by kernel_rfl) (by kernel_rfl) ?_ | ((first | refine brB_dec ?_ ?_ | refine brB_ndec ?_ ?_) <;> intro hb <;> (first | contradiction | ((try simp only [lnS] at hb); try (exfalso; omega)))) | (refine brB_split ?_ ?_ <;> intro hb <;> (first | contradiction | exact bT hb (by assumption) | exact bF hb (by assumption) | skip))) <;> (conv => whnf)))
  rfl
 subst h1
 have hA := hoa rfl
 clear hoa ca
 ((conv => whnf); repeat ((first | (intro hq; try simp only [lnS] at hq) | refine sI ?_ | refine .intro _ (.intro rfl ?_)); (conv => whnf)))
 refine call_tri NG cb ⟨rfl, rfl, trivial⟩ (fun r hs => ?_)
 subst hs
 ((conv => whnf); repeat ((first | (intro hq; try simp only [lnS] at hq) | refine sI ?_ | refine .intro _ (.intro rfl ?_)); (conv => whnf)))
 refine brB_ndec (fun h1 => ?_) (fun h1 => ?_)
 ·((conv => whnf); repeat' ((first | (intro hq; (try simp only [lnS] at hq); (try rewrite [List.length_map])) | refine sJ ?_ | refine .intro _ (.intro rfl ?_) | (refine .intro (show (_ : Nat) < List.length _ from by first | omega | (simp only [lnS]; omega) | simp) ?_) | fail | refine draw_rule hty (by kernel_rfl) (by kernel_rfl) ?_ | ((first | refine brB_dec ?_ ?_ | refine brB_ndec ?_ ?_) <;> intro hb <;> (first | contradiction | ((try simp only [lnS] at hb); try (exfalso; omega)))) | (refine brB_split ?_ ?_ <;> intro hb <;> (first | contradiction | exact bT hb (by assumption) | exact bF hb (by assumption) | skip))) <;> (conv => whnf)))
  rfl
 have hB := hob h1
 clear hob cb hsa hsb
 have hM := mn_ok (b := b) hA
 have hC := cm_ok hA hB
 have c1 := minus_spec a b
 have c2 := common_spec' a b
 rw [show setE kfM a b = (mnL a b, 0) from by unfold setE; rw [if_neg (by rw [both_zero hA hB]; simp), mn_eq hA.str hB.str]] at c1
 rw [show setE kfC a b = (cmL a b, 0) from by unfold setE; rw [if_neg (by rw [both_zero hA hB]; simp), cm_eq hA.str hB.str]] at c2
 have c3 := bCheck_spec (mnL a b)
 rw [hM.zero] at c3
 have c4 := bCheck_spec (cmL a b)
 rw [hC.zero] at c4
 have hpl := parts_len a b
 have hml : (mnL a b).length ≤ 14 := by omega
 have hcl : (cmL a b).length ≤ 14 := by omega
 have sok : ∀ {l : List Ax}, BaseOk l → ∀ y ∈ l, SmA y := fun h y hy => smA_ok (tidyA_valid (by rw [h.tidy y hy]))
 have hh1 := fun x hx => any_mn (b := b) hA (x := x) hx
 have hh2 := fun x hx => any_cm (b := b) hA (x := x) hx
 have d1 := fun x (hx : x ∈ a) => bHas_spec b x (sok hA x hx) (sok hB)
 have d2 := fun x (hx : x ∈ a) => bHas_spec (mnL a b) x (sok hA x hx) (sok hM)
 have d3 := fun x (hx : x ∈ a) => bHas_spec (cmL a b) x (sok hA x hx) (sok hC)
 have e1 := union_spec a b
 have e2 := union_spec b a
 have e3 := union_spec (mnL a b) b
 have uc := un_circ hA hB la lb
 have un := un_none hA hB la lb
 have hw1 := un_wlen hA hB la lb
 have hw2 := un_len hA hB la lb
 have hw3 : ∀ n (h : n < (newB (a ++ b)).length) (h' : n < (newB (mnL a b ++ b)).length), cmpAx (newB (a ++ b))[n] (newB (mnL a b ++ b))[n] = 0 := fun n h _ => un_at hA hB la lb h
 have hg := good_ab hA hB la lb
 have hu1 := newB_tidy hg
 have hu2 := newB_tidy (good_mb hA hB la lb)
 have hu3 := fun x hx => un_open hA hB la lb (x := x) hx
 have hu4 := fun x hx => un_some hA hB la lb (x := x) hx
 generalize mnL a b = m at *
 generalize cmL a b = c at *
 ((conv => whnf); repeat ((first | (refine call_tri NG c1 ⟨rfl, rfl, trivial⟩ (fun r hs => ?_); subst hs) | (refine call_tri NG c2 ⟨rfl, rfl, trivial⟩ (fun r hs => ?_); subst hs) | (refine call_tri NG c3 ⟨rfl, rfl, trivial⟩ (fun r hs => ?_); subst hs) | (refine call_tri NG c4 ⟨rfl, rfl, trivial⟩ (fun r hs => ?_); subst hs) | (intro hq; try simp only [lnS] at hq) | refine sI ?_ | refine .intro _ (.intro rfl ?_)); (conv => whnf)))
 refine brB_ndec (fun h2 => ?_) (fun h2 => ?_)
 ·exfalso
  have h2 : ¬ (((m.map axR).length : Int) + (c.map axR).length = (a.map axR).length) := h2
  simp only [List.length_map] at h2
  omega
 clear h2 c1 c2 c3 c4
 ((conv => whnf); repeat ((first | (intro hq; try simp only [lnS] at hq) | refine sI ?_ | refine .intro _ (.intro rfl ?_)); (conv => whnf)))
 rw [show (a.map axR).length = a.length from List.length_map ..]
 refine loop_rule hty (fun j : Nat => ([(2, .ea 1 [[.sl 16 (a.map axR)]] 0 0), (3, .ea 1 [[.sl 16 (b.map axR)]] 0 0), (5, .ea 1 [[.sl 16 (m.map axR)]] 0 0), (7, .ea 1 [[.sl 16 (c.map axR)]] 0 0), (87, .d (.sl 16 (a.map axR))), (88, .d (.int .i64 a.length)), (89, .d (.int .i64 j))], NG)) (fun j => j ≤ a.length) (fun j => a.length - j) 0 (Nat.zero_le _) ⟨by repeat' (first | exact trivial | exact rfl | refine And.intro ?_ ?_), ⟨rfl, rfl, trivial⟩⟩ ?_
 rintro j hj
 ((conv => whnf); repeat ((first | (intro hq; try simp only [lnS] at hq) | refine sI ?_ | refine .intro _ (.intro rfl ?_)); (conv => whnf)))
 refine brB_dec (fun h2 => ?_) (fun h2 => ?_)
 ·have hjl : j < a.length := by omega
  have hrow := axR_rows hjl
  have hx := List.getElem_mem hjl
  have k1 : Tri Tryz.prog 43 [.d (basR b), .d (.agg (axR a[j]))] [] (fun r => r = .d (.bool (anyA b a[j]))) := d1 _ hx
  have k2 : Tri Tryz.prog 43 [.d (basR m), .d (.agg (axR a[j]))] [] (fun r => r = .d (.bool (anyA m a[j]))) := d2 _ hx
  have k3 : Tri Tryz.prog 43 [.d (basR c), .d (.agg (axR a[j]))] [] (fun r => r = .d (.bool (anyA c a[j]))) := d3 _ hx
  rw [hh1 _ hx] at k2
  rw [hh2 _ hx] at k3
  generalize a[j] = x at *
  generalize anyA b x = t at *
  ((conv => whnf); repeat ((first | (refine ⟨_, hrow, ?_⟩) | (intro hq; try simp only [lnS] at hq) | refine sI ?_ | refine .intro _ (.intro rfl ?_)); (conv => whnf)))
  cases t
  all_goals
   refine draw_rule hty (by kernel_rfl) (by kernel_rfl) ?_
   ((conv => whnf); repeat ((first | (refine ⟨_, hrow, ?_⟩) | (refine ⟨by kernel_rfl, .d (.bool _), _, [], rfl, trivial, k1, ?_⟩) | (refine ⟨by kernel_rfl, .d (.bool _), _, [], rfl, trivial, k2, ?_⟩) | (refine ⟨by kernel_rfl, .d (.bool _), _, [], rfl, trivial, k3, ?_⟩) | (intro hq; try simp only [lnS] at hq) | refine sI ?_ | refine .intro _ (.intro rfl ?_)); (conv => whnf)))
   exact ⟨j + 1, by dsimp only; omega, by dsimp only; omega, ⟨by repeat' (first | exact trivial | exact rfl | refine And.intro ?_ ?_), ⟨rfl, rfl, trivial⟩⟩⟩
 have hjl : j = a.length := by omega
 clear hjl hj h2 d1 d2 d3 hh1 hh2
 by_cases hc : Circ (ET (stepsL (a ++ b)))
 ·obtain ⟨u1, u2, u3, u4⟩ := uc hc
  clear uc un
  rw [u1] at e1
  rw [u2] at e2
  rw [u3] at e3
  have cr := roles_spec (a ++ b) (by rw [List.length_append]; omega)
  rw [u4] at cr
  have cs := same_spec' [] [] (by simp) (by simp)
  ((conv => whnf); repeat ((first | (refine call_tri NG e1 ⟨rfl, rfl, trivial⟩ (fun r hs => ?_); subst hs) | (refine call_tri NG e2 ⟨rfl, rfl, trivial⟩ (fun r hs => ?_); subst hs) | (refine call_tri NG e3 ⟨rfl, rfl, trivial⟩ (fun r hs => ?_); subst hs) | (refine call_tri [] cs trivial (fun r hs => ?_); subst hs) | (intro hq; try simp only [lnS] at hq) | refine sI ?_ | refine .intro _ (.intro rfl ?_)); (conv => whnf)))
  (conv => whnf)
  (refine tree2_rule (id := 21) hty (.first 1 (.first 2 (.first 4 (.first 5 (.alt 0 (.alt 3 (.alt 6 (.alt 7 (.first 8 (.first 9 (.first 10 (.first 11 (.first 12 .done))))) .stop) .stop) .stop) .stop))))) (by kernel_rfl) (by kernel_rfl) ?_)
  ((conv => whnf); repeat ((first | (intro hq; try simp only [lnS] at hq) | refine sI ?_ | refine .intro _ (.intro rfl ?_)); (conv => whnf)))
  refine And.intro ?_ (by exact trivial)
  ((conv => whnf); repeat ((first | (intro hq; try simp only [lnS] at hq) | refine sI ?_ | refine .intro _ (.intro rfl ?_)); (conv => whnf)))
  refine And.intro ?_ (by exact trivial)
  ((conv => whnf); repeat ((first | (refine And.intro (congrArg (fun n => some (HObj.own 49 16 n)) List.length_append.symm) ?_) | (intro hq; try simp only [lnS] at hq) | refine sI ?_ | refine .intro _ (.intro rfl ?_)); (conv => whnf)))
  refine And.intro ?_ (by exact trivial)
  ((conv => whnf); repeat ((first | (refine And.intro (congrArg (fun n => some (HObj.own 49 16 n)) List.length_append.symm) ?_) | (intro hq; try simp only [lnS] at hq) | refine sI ?_ | refine .intro _ (.intro rfl ?_)); (conv => whnf)))
  refine And.intro ?_ (by exact trivial)
  ((conv => whnf); repeat ((first | (intro hq; try simp only [lnS] at hq) | refine sI ?_ | refine .intro _ (.intro rfl ?_)); (conv => whnf)))
  rw [List.map_append] at cr
  refine call_tri NG (Tri.oslH (id := 347) cr) ⟨rfl, rfl, trivial⟩ (fun r hs => ?_)
  obtain ⟨s, rfl⟩ := hs.ex
  ((conv => whnf); repeat ((first | (intro hq; try simp only [lnS] at hq) | refine sI ?_ | refine .intro _ (.intro rfl ?_)); (conv => whnf)))
  rfl
 ·obtain ⟨u1, u2, u3⟩ := un hc
  clear uc un
  rw [u1] at e1
  rw [u2] at e2
  rw [u3] at e3
  generalize newB (a ++ b) = u at *
  generalize newB (m ++ b) = w at *
  have cs := same_spec' u u (fun y hy => smA_ok (tidyA_valid (by rw [hu1 y hy]))) (fun y hy => smA_ok (tidyA_valid (by rw [hu1 y hy])))
  rw [eqL_iff.2 rfl] at cs
  ((conv => whnf); repeat ((first | (refine call_tri NG e1 ⟨rfl, rfl, trivial⟩ (fun r hs => ?_); subst hs) | (refine call_tri NG e2 ⟨rfl, rfl, trivial⟩ (fun r hs => ?_); subst hs) | (refine call_tri NG e3 ⟨rfl, rfl, trivial⟩ (fun r hs => ?_); subst hs) | (refine call_tri [] cs trivial (fun r hs => ?_); subst hs) | (intro hq; try simp only [lnS] at hq) | refine sI ?_ | refine .intro _ (.intro rfl ?_)); (conv => whnf)))
  refine brB_ndec (fun h2 => ?_) (fun h2 => ?_)
  ·exfalso
   have h2 : ¬ (((u.map axR).length : Int) = (m.map axR).length + (b.map axR).length) := h2
   simp only [List.length_map] at h2
   omega
  clear h2
  ((conv => whnf); repeat ((first | (intro hq; try simp only [lnS] at hq) | refine sI ?_ | refine .intro _ (.intro rfl ?_)); (conv => whnf)))
  refine brB_ndec (fun h2 => ?_) (fun h2 => ?_)
  ·exfalso
   have h2 : ¬ (((w.map axR).length : Int) = (u.map axR).length) := h2
   simp only [List.length_map] at h2
   omega
  clear h2
  ((conv => whnf); repeat ((first | (intro hq; try simp only [lnS] at hq) | refine sI ?_ | refine .intro _ (.intro rfl ?_)); (conv => whnf)))
  rw [show (u.map axR).length = u.length from List.length_map ..]
  refine loop_rule hty (fun n : Nat => ([(2, .ea 1 [[.sl 16 (a.map axR)]] 0 0), (3, .ea 1 [[.sl 16 (b.map axR)]] 0 0), (15, .ea 1 [[.sl 16 (w.map axR)]] 0 0), (184, .d (.sl 16 (u.map axR))), (185, .d (.int .i64 u.length)), (186, .d (.int .i64 n))], NG)) (fun n => n ≤ u.length) (fun n => u.length - n) 0 (Nat.zero_le _) ⟨by repeat' (first | exact trivial | exact rfl | refine And.intro ?_ ?_), ⟨rfl, rfl, trivial⟩⟩ ?_
  rintro n hn
  ((conv => whnf); repeat ((first | (intro hq; try simp only [lnS] at hq) | refine sI ?_ | refine .intro _ (.intro rfl ?_)); (conv => whnf)))
  refine brB_dec (fun h2 => ?_) (fun h2 => ?_)
  ·have hnu : n < u.length := by omega
   have hnw : n < w.length := by omega
   have hrow := axR_rows hnu
   have hrowW := axR_rows hnw
   have hx := List.getElem_mem hnu
   have hz := hw3 n hnu hnw
   have hxt := hu1 _ hx
   have hxo := hu3 _ hx
   have hxn := hu4 _ hx
   have hyt := hu2 _ (List.getElem_mem hnw)
   have f1 := find_spec a u[n] (sok hA)
   have f2 := find_spec b u[n] (sok hB)
   rw [findA_eq hxt] at f1 f2
   have s1 := smA_ok (tidyA_valid (by rw [hxt]) : axiomE u[n] = 0)
   have s2 := smA_ok (tidyA_valid (by rw [hyt]) : axiomE w[n] = 0)
   have cc := CompareAxiom_spec u[n] w[n] s1.1 s1.2.1 s1.2.2 s2.1 s2.2.1 s2.2.2
   rw [hz] at cc
   have ia := fun i (h : idxA u[n] a = some i) => (idx_some h).1
   have ib := fun i (h : idxA u[n] b = some i) => (idx_some h).1
   generalize u[n] = x at *
   generalize w[n] = y at *
   clear hx hz hxt hyt s1 s2 hw3 hu1 hu2 hu3 hu4 hw1 hw2
   generalize idxA x a = oa at *
   generalize idxA x b = ob at *
   ((conv => whnf); repeat ((first | (refine ⟨_, hrow, ?_⟩) | (intro hq; try simp only [lnS] at hq) | refine sI ?_ | refine .intro _ (.intro rfl ?_)); (conv => whnf)))
   rcases oa with _ | i <;> rcases ob with _ | k
   ·exact absurd ⟨rfl, rfl⟩ hxn
   ·skip
    rw [show opI a none = false from rfl] at hxo
    have hk := ib k rfl
    have hrB := axR_rows hk
    have hoB : opI b (some k) = b[k].isopen := by unfold opI; dsimp only; rw [List.getElem?_eq_getElem hk]
    rw [hoB] at hxo
    generalize b[k] = q at *
    clear hoB ib
    simp only [fndI, Option.isSome_some, Option.isSome_none] at f1 f2
    refine call_tri NG f1 ⟨rfl, rfl, trivial⟩ (fun r hs => ?_)
    subst hs
    ((conv => whnf); repeat ((first | (refine call_tri NG f2 ⟨rfl, rfl, trivial⟩ (fun r hs => ?_); subst hs) | (intro hq; try simp only [lnS] at hq) | refine sI ?_ | refine .intro _ (.intro rfl ?_)); (conv => whnf)))
    refine brB_dec (fun h3 => ?_) (fun h3 => ?_)
    ·exfalso
     have h3 : (((b.map axR).length : Nat) : Int) ≤ (k : Int) := h3
     rw [List.length_map] at h3
     omega
    clear h3
    ((conv => whnf); repeat ((first | (intro hq; try simp only [lnS] at hq) | refine sI ?_ | refine .intro _ (.intro rfl ?_)); (conv => whnf)))
    obtain ⟨xk, xo, x1, x2, x3, x4, x5, x6⟩ := x
    obtain ⟨qk, qo, q1, q2, q3, q4, q5, q6⟩ := q
    have hxo : xo = qo := hxo
    subst hxo
    cases xo
    all_goals ((conv => whnf); repeat ((first | (refine ⟨_, hrB, ?_⟩) | (intro hq; try simp only [lnS] at hq) | refine sI ?_ | refine .intro _ (.intro rfl ?_)); (conv => whnf)))
    all_goals
     refine draw_rule hty (by kernel_rfl) (by kernel_rfl) ?_
     ((conv => whnf); repeat ((first | (refine ⟨_, hrowW, ?_⟩) | (refine ⟨by kernel_rfl, .d (.int .i64 _), _, [], rfl, trivial, cc, ?_⟩) | (intro hq; try simp only [lnS] at hq) | refine sI ?_ | refine .intro _ (.intro rfl ?_)); (conv => whnf)))
     exact ⟨n + 1, by dsimp only; omega, by dsimp only; omega, ⟨by repeat' (first | exact trivial | exact rfl | refine And.intro ?_ ?_), ⟨rfl, rfl, trivial⟩⟩⟩
   ·skip
    have hi := ia i rfl
    have hrA := axR_rows hi
    have hoA : opI a (some i) = a[i].isopen := by unfold opI; dsimp only; rw [List.getElem?_eq_getElem hi]
    rw [hoA] at hxo
    generalize a[i] = p at *
    clear hoA ia
    rw [show opI b none = false from rfl] at hxo
    simp only [fndI, Option.isSome_some, Option.isSome_none] at f1 f2
    refine call_tri NG f1 ⟨rfl, rfl, trivial⟩ (fun r hs => ?_)
    subst hs
    ((conv => whnf); repeat ((first | (refine call_tri NG f2 ⟨rfl, rfl, trivial⟩ (fun r hs => ?_); subst hs) | (intro hq; try simp only [lnS] at hq) | refine sI ?_ | refine .intro _ (.intro rfl ?_)); (conv => whnf)))
    refine brB_dec (fun h3 => ?_) (fun h3 => ?_)
    ·exfalso
     have h3 : (((a.map axR).length : Nat) : Int) ≤ (i : Int) := h3
     rw [List.length_map] at h3
     omega
    clear h3
    ((conv => whnf); repeat ((first | (intro hq; try simp only [lnS] at hq) | refine sI ?_ | refine .intro _ (.intro rfl ?_)); (conv => whnf)))
    obtain ⟨xk, xo, x1, x2, x3, x4, x5, x6⟩ := x
    obtain ⟨pk, po, p1, p2, p3, p4, p5, p6⟩ := p
    have hxo : xo = po := by simpa using hxo
    subst hxo
    cases xo
    all_goals ((conv => whnf); repeat ((first | (refine ⟨_, hrA, ?_⟩) | (intro hq; try simp only [lnS] at hq) | refine sI ?_ | refine .intro _ (.intro rfl ?_)); (conv => whnf)))
    all_goals
     refine draw_rule hty (by kernel_rfl) (by kernel_rfl) ?_
     ((conv => whnf); repeat ((first | (refine ⟨_, hrowW, ?_⟩) | (refine ⟨by kernel_rfl, .d (.int .i64 _), _, [], rfl, trivial, cc, ?_⟩) | (intro hq; try simp only [lnS] at hq) | refine sI ?_ | refine .intro _ (.intro rfl ?_)); (conv => whnf)))
     exact ⟨n + 1, by dsimp only; omega, by dsimp only; omega, ⟨by repeat' (first | exact trivial | exact rfl | refine And.intro ?_ ?_), ⟨rfl, rfl, trivial⟩⟩⟩
   ·skip
    have hi := ia i rfl
    have hrA := axR_rows hi
    have hoA : opI a (some i) = a[i].isopen := by unfold opI; dsimp only; rw [List.getElem?_eq_getElem hi]
    rw [hoA] at hxo
    generalize a[i] = p at *
    clear hoA ia
    have hk := ib k rfl
    have hrB := axR_rows hk
    have hoB : opI b (some k) = b[k].isopen := by unfold opI; dsimp only; rw [List.getElem?_eq_getElem hk]
    rw [hoB] at hxo
    generalize b[k] = q at *
    clear hoB ib
    simp only [fndI, Option.isSome_some, Option.isSome_none] at f1 f2
    refine call_tri NG f1 ⟨rfl, rfl, trivial⟩ (fun r hs => ?_)
    subst hs
    ((conv => whnf); repeat ((first | (refine call_tri NG f2 ⟨rfl, rfl, trivial⟩ (fun r hs => ?_); subst hs) | (intro hq; try simp only [lnS] at hq) | refine sI ?_ | refine .intro _ (.intro rfl ?_)); (conv => whnf)))
    refine brB_dec (fun h3 => ?_) (fun h3 => ?_)
    ·exfalso
     have h3 : (((a.map axR).length : Nat) : Int) ≤ (i : Int) := h3
     rw [List.length_map] at h3
     omega
    clear h3
    ((conv => whnf); repeat ((first | (intro hq; try simp only [lnS] at hq) | refine sI ?_ | refine .intro _ (.intro rfl ?_)); (conv => whnf)))
    refine brB_dec (fun h3 => ?_) (fun h3 => ?_)
    ·exfalso
     have h3 : (((b.map axR).length : Nat) : Int) ≤ (k : Int) := h3
     rw [List.length_map] at h3
     omega
    clear h3
    ((conv => whnf); repeat ((first | (intro hq; try simp only [lnS] at hq) | refine sI ?_ | refine .intro _ (.intro rfl ?_)); (conv => whnf)))
    obtain ⟨xk, xo, x1, x2, x3, x4, x5, x6⟩ := x
    obtain ⟨pk, po, p1, p2, p3, p4, p5, p6⟩ := p
    obtain ⟨qk, qo, q1, q2, q3, q4, q5, q6⟩ := q
    have hxo : xo = (po || qo) := hxo
    subst hxo
    cases po <;> cases qo
    all_goals ((conv => whnf); repeat ((first | (refine ⟨_, hrA, ?_⟩) | (refine ⟨_, hrB, ?_⟩) | (intro hq; try simp only [lnS] at hq) | refine sI ?_ | refine .intro _ (.intro rfl ?_)); (conv => whnf)))
    all_goals
     refine draw_rule hty (by kernel_rfl) (by kernel_rfl) ?_
     ((conv => whnf); repeat ((first | (refine ⟨_, hrowW, ?_⟩) | (refine ⟨by kernel_rfl, .d (.int .i64 _), _, [], rfl, trivial, cc, ?_⟩) | (intro hq; try simp only [lnS] at hq) | refine sI ?_ | refine .intro _ (.intro rfl ?_)); (conv => whnf)))
     exact ⟨n + 1, by dsimp only; omega, by dsimp only; omega, ⟨by repeat' (first | exact trivial | exact rfl | refine And.intro ?_ ?_), ⟨rfl, rfl, trivial⟩⟩⟩
  ·((conv => whnf); repeat' ((first | (intro hq; (try simp only [lnS] at hq); (try rewrite [List.length_map])) | refine sJ ?_ | refine .intro _ (.intro rfl ?_) | (refine .intro (show (_ : Nat) < List.length _ from by first | omega | (simp only [lnS]; omega) | simp) ?_) | fail | refine draw_rule hty (by kernel_rfl) (by kernel_rfl) ?_ | ((first | refine brB_dec ?_ ?_ | refine brB_ndec ?_ ?_) <;> intro hb <;> (first | contradiction | ((try simp only [lnS] at hb); try (exfalso; omega)))) | (refine brB_split ?_ ?_ <;> intro hb <;> (first | contradiction | exact bT hb (by assumption) | exact bF hb (by assumption) | skip))) <;> (conv => whnf)))
   rfl
end Go.Proofs.YtnemengadjimcaaGreatDoor
