/-
  Terms: Vocabulary.
  Conditions: none.
-/
import Derived.Test.YtpecmehekandgaaGreatDoorMAo
import Derived.Test.YtpecmehekandgaaGreatDoorMAp
import Derived.Test.YtpecmehekandgaaGreatDoorMTca
set_option linter.unnecessarySimpa false
set_option linter.unusedSectionVars false
set_option linter.unusedSimpArgs false
set_option linter.unusedVariables false
namespace Go.Proofs.YtpecmehekandgaaGreatDoor
open Go.Proofs
set_option maxRecDepth 10000
attribute [local irreducible] SemVC CallVC Tri Stuck YVC GenP GenVC
def addC (v : Nm) (c : Cn) : Nm :=
  if c.kind = 3 then { v with a := addK v.a c.name }
  else if c.kind = 6 then { v with b := addK v.b c.name }
  else if c.kind = 7 then { v with c := addK v.c c.name }
  else if c.kind = 4 then { v with d := addK v.d c.name }
  else v
def addR (v : Nm) (s : List UInt8) : Nm := { v with b := addK v.b s }
def addI (v : Nm) (s : List UInt8) : Nm := { v with d := addK v.d s }
def addS (v : Nm) (c : Cn) : Nm := (nodes c).foldl addC v
def addX (v : Nm) (x : Ax) : Nm := addI (addI (addR (x.roles.foldl addR ([x.left, x.right].foldl addS v)) x.role) x.a) x.b
def vocV (l : List Ax) : Nm := l.foldl addX ⟨[], [], [], []⟩
def vocN (l : List Ax) : Nm := ⟨sortK (vocV l).a, sortK ((vocV l).b.erase []), sortK (vocV l).c, sortK ((vocV l).d.erase [])⟩
def firstA : List Ax → Int
  | [] => 0
  | x :: r => if axiomE x ≠ 0 then axiomE x else firstA r
def vocR (l : List Ax) : Nm × Int := if firstA l ≠ 0 then (⟨[], [], [], []⟩, firstA l) else (vocN l, 0)
def numN (v : Nm) : Nat := v.a.length + v.b.length + v.c.length + v.d.length
theorem addK_len (ks : List (List UInt8)) (k : List UInt8) : (addK ks k).length ≤ ks.length + 1 := by
  unfold addK; split <;> simp
theorem addC_num (v : Nm) (c : Cn) : numN (addC v c) ≤ numN v + 1 := by
  have h1 := addK_len v.a c.name
  have h2 := addK_len v.b c.name
  have h3 := addK_len v.c c.name
  have h4 := addK_len v.d c.name
  unfold addC numN
  split
  · dsimp only; omega
  · split
    · dsimp only; omega
    · split
      · dsimp only; omega
      · split
        · dsimp only; omega
        · omega
theorem fold_num {α : Type} (f : Nm → α → Nm) (k : Nat) (h : ∀ v x, numN (f v x) ≤ numN v + k) : ∀ (l : List α) (v : Nm), numN (l.foldl f v) ≤ numN v + l.length * k
  | [], v => by simp
  | x :: r, v => by
    have h1 := fold_num f k h r (f v x)
    have h2 := h v x
    rw [List.foldl_cons, List.length_cons, Nat.add_mul, Nat.one_mul]
    omega
theorem addR_num (v : Nm) (s : List UInt8) : numN (addR v s) ≤ numN v + 1 := by
  have := addK_len v.b s
  unfold addR numN; dsimp only; omega
theorem addI_num (v : Nm) (s : List UInt8) : numN (addI v s) ≤ numN v + 1 := by
  have := addK_len v.d s
  unfold addI numN; dsimp only; omega
theorem empty_size {c : Cn} (h : emptyF c = true) : sizeF c = 1 := by
  unfold emptyF at h
  simp only [Bool.and_eq_true, decide_eq_true_eq] at h
  rw [sizeF_sum, h.2.2.2.2]; rfl
theorem useAt_most {k : Int} (h : 1 ≤ k ∧ k ≤ 9) : (useAt k).most ≤ 4 := by
  have : k = 1 ∨ k = 2 ∨ k = 3 ∨ k = 4 ∨ k = 5 ∨ k = 6 ∨ k = 7 ∨ k = 8 ∨ k = 9 := by omega
  rcases this with h | h | h | h | h | h | h | h | h <;> rw [h] <;> decide
theorem axiomE_bnd {x : Ax} (h : axiomE x = 0) : sizeF x.left ≤ 64 ∧ sizeF x.right ≤ 64 ∧ x.roles.length ≤ 4 := by
  obtain ⟨hk, hl, hr⟩ := axiomE_ok h
  have hm := useAt_most hk
  unfold axiomE at h
  split at h
  · simp at h
  · rename_i hs
    have hs : shapedF x = true := by simpa using hs
    unfold shapedF at hs
    rw [if_neg (by omega)] at hs
    generalize useAt x.kind = u at *
    unfold shapedU at hs
    simp only [Bool.and_eq_true, Bool.or_eq_true, decide_eq_true_eq] at hs
    refine ⟨?_, ?_, ?_⟩
    · cases hu : u.left
      · have : emptyF x.left = true := by simp_all
        rw [empty_size this]; omega
      · exact (conceptE_ok (hl hu)).1
    · cases hu : u.right
      · have : emptyF x.right = true := by simp_all
        rw [empty_size this]; omega
      · exact (conceptE_ok (hr hu)).1
    · omega
theorem addX_num {x : Ax} (h : axiomE x = 0) (v : Nm) : numN (addX v x) ≤ numN v + 140 := by
  obtain ⟨h1, h2, h3⟩ := axiomE_bnd h
  have a1 := fold_num addC 1 addC_num (nodes x.left) v
  have a2 := fold_num addC 1 addC_num (nodes x.right) (addS v x.left)
  have a3 := fold_num addR 1 addR_num x.roles (addS (addS v x.left) x.right)
  have a4 := addR_num (x.roles.foldl addR (addS (addS v x.left) x.right)) x.role
  have a5 := addI_num (addR (x.roles.foldl addR (addS (addS v x.left) x.right)) x.role) x.a
  have a6 := addI_num (addI (addR (x.roles.foldl addR (addS (addS v x.left) x.right)) x.role) x.a) x.b
  have e1 : (nodes x.left).length ≤ 64 := h1
  have e2 : (nodes x.right).length ≤ 64 := h2
  have e3 : (nodes x.left).foldl addC v = addS v x.left := rfl
  have e4 : (nodes x.right).foldl addC (addS v x.left) = addS (addS v x.left) x.right := rfl
  rw [e3] at a1
  rw [e4] at a2
  have e5 : addX v x = addI (addI (addR (x.roles.foldl addR (addS (addS v x.left) x.right)) x.role) x.a) x.b := rfl
  rw [e5]
  omega
theorem vocV_num : ∀ (l : List Ax) (v : Nm), (∀ x ∈ l, axiomE x = 0) → numN (l.foldl addX v) ≤ numN v + l.length * 140
  | [], v, _ => by simp
  | x :: r, v, h => by
    have h1 := vocV_num r (addX v x) fun y hy => h y (List.mem_cons_of_mem _ hy)
    have h2 := addX_num (h x (List.mem_cons_self ..)) v
    rw [List.foldl_cons, List.length_cons]
    omega
structure VG where
  a : List Nat × Nat
  b : List Nat × Nat
  c : List Nat × Nat
  d : List Nat × Nat
def ofE : List (Int × SV) := [(3, .xv 34 mapV), (6, .xv 35 mapV), (7, .xv 36 mapV), (4, .xv 37 mapV)]
def ofO (g : List Nat × Nat) : HObj := .ext (mapX (fun n => D.int .i64 n) ofE g.1 g.2)
theorem ofO_ids (g : List Nat × Nat) : (ofO g).ids = [34, 35, 36, 37] := rfl
theorem ids_glob (g z : Nat) (rows : List (List D)) : (HObj.glob g z rows).ids = [] := rfl
theorem ids_setX (ks : List (List UInt8)) (bs : List Nat) (c : Nat) : (HObj.ext (mapX (fun l => D.str l) (entK ks) bs c)).ids = [] := idsE_entK ks
def vsH (v : Nm) (g : VG) (r : Hp) : Hp := (34, setO v.a g.a) :: (35, setO v.b g.b) :: (36, setO v.c g.c) :: (37, setO v.d g.d) :: r
def restH (o : List Nat × Nat) : Hp := (38, ofO o) :: (11, .cells 81 [.xv 38 mapV]) :: (2, .cells 49 [.d .nil, .d .nil, .d .nil, .d .nil]) :: NG
structure PairN (v : Nm) (e : Int) (s : SV) : Prop where
  ex : ∃ a, s = .tup [.d a, .d (.int .i64 e)] ∧ (a = .agg (nmR v) ∨ WkD a (.agg (nmR v)))
theorem Tri.pairN {P : Program} {f : FuncId} {qs : List SV} {hp : Hp} {v : Nm} {e : Int} (h : Tri P f qs hp (PairN v e)) : Tri P f qs hp (fun r => r = .tup [.d (.agg (nmR v)), .d (.int .i64 e)]) := by
  refine Tri.resT h ?_
  rintro s ⟨a, rfl, rfl | hw⟩
  · exact .inl rfl
  · exact .inr ⟨_, [.d (.agg (nmR v)), .d (.int .i64 e)], rfl, ⟨hw, by exact rfl, trivial⟩, rfl⟩
theorem zeroN (e : Int) : PairN ⟨[], [], [], []⟩ e (.tup [.d (.agg [.nil, .nil, .nil, .nil]), .d (.int .i64 e)]) := by
  refine ⟨_, rfl, .inr ?_⟩
  exact ⟨rfl, rfl, rfl, rfl, trivial⟩
theorem firstA_err : ∀ {l : List Ax} {j : Nat} (h : j < l.length), (∀ x ∈ l.take j, axiomE x = 0) → ¬ axiomE l[j] = 0 → firstA l = axiomE l[j]
  | x :: r, 0, _, _, he => by
    have he : axiomE x ≠ 0 := he
    rw [firstA, if_pos he]; rfl
  | x :: r, j + 1, h, hz, he => by
    have h0 : axiomE x = 0 := hz x (by simp)
    rw [firstA, if_neg (by simpa using h0)]
    exact firstA_err (by simpa using h) (fun y hy => hz y (by simp [hy])) he
theorem firstA_ok : ∀ {l : List Ax}, (∀ x ∈ l, axiomE x = 0) → firstA l = 0
  | [], _ => rfl
  | x :: r, h => by
    rw [firstA, if_neg (by simpa using h x (by simp))]
    exact firstA_ok fun y hy => h y (by simp [hy])
theorem nmH {t : Nat} {r : Hp} (h : t ∉ idsH r) {B : Prop} (b : B) : t ∉ idsH r ∧ B := ⟨h, b⟩
theorem frH {id : Nat} {pin : List Nat} {fr : Fr} {hp : Hp} (h : fresh id pin fr hp) {B : Prop} (b : B) : fresh id pin fr hp ∧ B := ⟨h, b⟩
theorem axR_rows {l : List Ax} {j : Nat} (h : j < l.length) : (l.map axR)[(j : Int).toNat]? = some (axR l[j]) := by
  rw [Int.toNat_natCast, List.getElem?_map, List.getElem?_eq_getElem h]; rfl
set_option maxHeartbeats 64000000 in
theorem Vocabulary_spec (l : List Ax) (hl : l.length ≤ 5000) : Tri Tryz.prog 25 [.d (.sl 16 (l.map axR))] NG (fun r => r = .tup [.d (.agg (nmR (vocR l).1)), .d (.int .i64 (vocR l).2)]) := by
  refine Tri.pairN ?_
  refine tri_of_bodyF false [5, 13, 15] hty Tryz.func25 rfl (kp [0, 2, 3, 5, 6, 7, 8, 9, 10, 11, 13, 15, 16, 17, 18, 20, 21, 22, 23, 24, 30, 44, 45, 46, 47, 54, 55, 56, 57, 61, 62, 70, 76, 77, 78, 79]) [] _ _ _ (by simp [Tryz.f25]) (by decide) ?_
  ((conv => whnf); repeat ((first | (intro hq; try simp only [lnS] at hq) | refine sI ?_ | refine .intro _ (.intro rfl ?_)); (conv => whnf)))
  refine loop_rule hty (fun j : Nat => ([(0, .d (.sl 16 (l.map axR))), (2, .ptr 2 0), (21, .d (.sl 16 (l.map axR))), (22, .d (.int .i64 l.length)), (23, .d (.int .i64 j))], (2, .cells 49 [.d .nil, .d .nil, .d .nil, .d .nil]) :: NG)) (fun j => j ≤ l.length ∧ ∀ x ∈ l.take j, axiomE x = 0) (fun j => l.length - j) 0 ⟨by omega, by simp⟩ ⟨by repeat' (first | exact trivial | exact rfl | (rw [List.length_map]; exact rfl) | refine And.intro ?_ ?_), ⟨rfl, rfl, rfl, trivial⟩⟩ ?_
  rintro j ⟨hj, hz⟩
  ((conv => whnf); repeat ((first | (intro hq; try simp only [lnS] at hq) | refine sI ?_ | refine .intro _ (.intro rfl ?_)); (conv => whnf)))
  refine brB_dec (fun h1 => ?_) (fun h1 => ?_)
  · have hjl : j < l.length := by omega
    have hrow := axR_rows hjl
    have hc := checkAxiom_spec l[j]
    ((conv => whnf); repeat ((first | (refine ⟨_, hrow, ?_⟩) | (refine call_tri NG hc ⟨rfl, rfl, trivial⟩ (fun r hs => ?_); subst hs) | (intro hq; try simp only [lnS] at hq) | refine sI ?_ | refine .intro _ (.intro rfl ?_)); (conv => whnf)))
    refine brB_ndec (fun h2 => ?_) (fun h2 => ?_)
    · have hv : vocR l = (⟨[], [], [], []⟩, axiomE l[j]) := by
        rw [vocR, firstA_err hjl hz h2, if_pos h2]
      rw [hv]
      ((conv => whnf); repeat' ((first | (intro hq; (try simp only [lnS] at hq); (try rewrite [List.length_map])) | refine sJ ?_ | refine .intro _ (.intro rfl ?_) | (refine .intro (show (_ : Nat) < List.length _ from by first | omega | (simp only [lnS]; omega) | simp) ?_) | fail | refine draw_rule hty (by kernel_rfl) (by kernel_rfl) ?_ | ((first | refine brB_dec ?_ ?_ | refine brB_ndec ?_ ?_) <;> intro hb <;> (first | contradiction | ((try simp only [lnS] at hb); try (exfalso; omega)))) | (refine brB_split ?_ ?_ <;> intro hb <;> (first | contradiction | exact bT hb (by assumption) | exact bF hb (by assumption) | skip))) <;> (conv => whnf)))
      exact zeroN _
    · ((conv => whnf); repeat' ((first | (intro hq; (try simp only [lnS] at hq); (try rewrite [List.length_map])) | refine sJ ?_ | refine .intro _ (.intro rfl ?_) | (refine .intro (show (_ : Nat) < List.length _ from by first | omega | (simp only [lnS]; omega) | simp) ?_) | fail | refine draw_rule hty (by kernel_rfl) (by kernel_rfl) ?_ | ((first | refine brB_dec ?_ ?_ | refine brB_ndec ?_ ?_) <;> intro hb <;> (first | contradiction | ((try simp only [lnS] at hb); try (exfalso; omega)))) | (refine brB_split ?_ ?_ <;> intro hb <;> (first | contradiction | exact bT hb (by assumption) | exact bF hb (by assumption) | skip))) <;> (conv => whnf)))
      refine ⟨j + 1, ⟨by omega, ?_⟩, by dsimp only; omega, ⟨by repeat' (first | exact trivial | exact rfl | refine And.intro ?_ ?_), ⟨rfl, rfl, rfl, trivial⟩⟩⟩
      intro x hx
      rw [List.take_succ_eq_append_getElem hjl] at hx
      rcases List.mem_append.1 hx with hx | hx
      · exact hz x hx
      · simp at hx; subst hx; exact h2
  · have hjl : j = l.length := by omega
    subst hjl
    rw [List.take_length] at hz
    have hv : vocR l = (vocN l, 0) := by rw [vocR, firstA_ok hz, if_neg (by simp)]
    rw [hv]
    ((conv => whnf); repeat ((first | (intro hq; try simp only [lnS] at hq) | refine sI ?_ | refine .intro _ (.intro rfl ?_)); (conv => whnf)))
    refine make_map rfl rfl (fun l => D.str l) 34 (fresh_of (by with_unfolding_all exact rfl)) ?_
    ((conv => whnf); repeat ((first | (intro hq; try simp only [lnS] at hq) | refine sI ?_ | refine .intro _ (.intro rfl ?_)); (conv => whnf)))
    refine make_map rfl rfl (fun l => D.str l) 35 (fresh_of (by with_unfolding_all exact rfl)) ?_
    ((conv => whnf); repeat ((first | (intro hq; try simp only [lnS] at hq) | refine sI ?_ | refine .intro _ (.intro rfl ?_)); (conv => whnf)))
    refine make_map rfl rfl (fun l => D.str l) 36 (fresh_of (by with_unfolding_all exact rfl)) ?_
    ((conv => whnf); repeat ((first | (intro hq; try simp only [lnS] at hq) | refine sI ?_ | refine .intro _ (.intro rfl ?_)); (conv => whnf)))
    refine make_map rfl rfl (fun l => D.str l) 37 (fresh_of (by with_unfolding_all exact rfl)) ?_
    ((conv => whnf); repeat ((first | (intro hq; try simp only [lnS] at hq) | refine sI ?_ | refine .intro _ (.intro rfl ?_)); (conv => whnf)))
    refine make_map rfl rfl (fun n => D.int .i64 n) 38 (fresh_of (by with_unfolding_all exact rfl)) ?_
    ((conv => whnf); repeat ((first | (intro hq; try simp only [lnS] at hq) | refine sI ?_ | refine .intro _ (.intro rfl ?_)); (conv => whnf)))
    refine update_map (.inr rfl) rfl (keyT_int rfl) rfl rfl rfl rfl (fun bs1 c1 => ?_)
    ((conv => whnf); repeat ((first | (intro hq; try simp only [lnS] at hq) | refine sI ?_ | refine .intro _ (.intro rfl ?_)); (conv => whnf)))
    refine update_map (.inr rfl) rfl (keyT_int rfl) rfl rfl rfl rfl (fun bs2 c2 => ?_)
    ((conv => whnf); repeat ((first | (intro hq; try simp only [lnS] at hq) | refine sI ?_ | refine .intro _ (.intro rfl ?_)); (conv => whnf)))
    refine update_map (.inr rfl) rfl (keyT_int rfl) rfl rfl rfl rfl (fun bs3 c3 => ?_)
    ((conv => whnf); repeat ((first | (intro hq; try simp only [lnS] at hq) | refine sI ?_ | refine .intro _ (.intro rfl ?_)); (conv => whnf)))
    refine update_map (.inr rfl) rfl (keyT_int rfl) rfl rfl rfl rfl (fun bs4 c4 => ?_)
    ((conv => whnf); repeat ((first | (intro hq; try simp only [lnS] at hq) | refine sI ?_ | refine .intro _ (.intro rfl ?_)); (conv => whnf)))
    refine loop_rule hty (fun y : Nat × VG => ([(2, .ptr 2 0), (7, .xv 34 mapV), (8, .xv 35 mapV), (9, .xv 36 mapV), (10, .xv 37 mapV), (11, .ptr 11 0), (44, .d (.sl 16 (l.map axR))), (45, .d (.int .i64 l.length)), (46, .d (.int .i64 y.1))], vsH (vocV (l.take y.1)) y.2 (restH (bs4, c4)))) (fun y => y.1 ≤ l.length) (fun y => l.length - y.1) (0, ⟨([], 0), ([], 0), ([], 0), ([], 0)⟩) (by dsimp only; omega) ⟨by repeat' (first | exact trivial | exact rfl | (rw [List.length_map]; exact rfl) | refine And.intro ?_ ?_), ⟨rfl, rfl, rfl, rfl, rfl, rfl, rfl, rfl, rfl, trivial⟩⟩ ?_
    rintro ⟨j, g⟩ hj
    dsimp only at hj
    ((conv => whnf); repeat ((first | (intro hq; try simp only [lnS] at hq) | refine sI ?_ | refine .intro _ (.intro rfl ?_)); (conv => whnf)))
    refine brB_dec (fun h2 => ?_) (fun h2 => ?_)
    · have hjl : j < l.length := by dsimp only at h2; omega
      have hrow := axR_rows hjl
      have hvt : vocV (l.take (j + 1)) = addX (vocV (l.take j)) l[j] := by
        rw [vocV, List.take_succ_eq_append_getElem hjl, List.foldl_append]; rfl
      generalize vocV (l.take j) = v at hvt ⊢
      generalize l[j] = x at hrow hvt
      ((conv => whnf); repeat ((first | (refine frH (by refine ⟨?_, ?_, ?_⟩ <;> simp [idsF_nil, idsF_cons, idsH_nil, idsH_cons, argFr, SV.ids, SV.idsL, ids_cells, ids_mrow, ids_own, ids_loop, ids_iter, ids_glob, setO_ids, ofO_ids, ids_ofV, ids_setX, oneOf, setH, NG, restH, vsH]) ?_) | (refine ⟨_, hrow, ?_⟩) | (refine nmH (by simp [idsF_nil, idsF_cons, idsH_nil, idsH_cons, argFr, SV.ids, SV.idsL, ids_cells, ids_mrow, ids_own, ids_loop, ids_iter, ids_glob, setO_ids, ofO_ids, ids_ofV, ids_setX, oneOf, setH, NG, restH, vsH]) ?_) | (intro hq; try simp only [lnS] at hq) | refine sI ?_ | refine .intro _ (.intro rfl ?_)); (conv => whnf)))
      refine loop_rule hty (fun y : Nat × VG => ([(2, .ptr 2 0), (7, .xv 34 mapV), (8, .xv 35 mapV), (9, .xv 36 mapV), (10, .xv 37 mapV), (11, .ptr 11 0), (44, .d (.sl 16 (l.map axR))), (45, .d (.int .i64 l.length)), (46, .d (.int .i64 j)), (13, .ea 16 [axR x] 0 0), (54, .d (.sl 5 ([x.left, x.right].map cnX))), (55, .d (.int .i64 2)), (56, .d (.int .i64 y.1))], vsH (([x.left, x.right].take y.1).foldl addS v) y.2 (restH (bs4, c4)))) (fun y => y.1 ≤ 2) (fun y => 2 - y.1) (0, g) (by dsimp only; omega) ⟨by repeat' (first | exact trivial | exact rfl | exact ⟨rfl, rfl⟩ | refine And.intro ?_ ?_), ⟨rfl, rfl, rfl, rfl, rfl, rfl, rfl, rfl, rfl, trivial⟩⟩ ?_
      rintro ⟨i, g1⟩ hi
      dsimp only at hi
      ((conv => whnf); repeat ((first | (intro hq; try simp only [lnS] at hq) | refine sI ?_ | refine .intro _ (.intro rfl ?_)); (conv => whnf)))
      refine brB_dec (fun h3 => ?_) (fun h3 => ?_)
      · have hil : i < [x.left, x.right].length := by simp; dsimp only at h3; omega
        have hrow2 : ([x.left, x.right].map cnX)[(i : Int).toNat]? = some (cnX [x.left, x.right][i]) := rowC_at hil
        have htk : ([x.left, x.right].take (i + 1)).foldl addS v = addS (([x.left, x.right].take i).foldl addS v) [x.left, x.right][i] := by
          rw [List.take_succ_eq_append_getElem hil, List.foldl_append]; rfl
        generalize ([x.left, x.right].take i).foldl addS v = v1 at htk ⊢
        generalize [x.left, x.right][i] = c at hrow2 htk
        have hcR := cnR_eq c
        have hw := walk_spec c
        simp only [hcR] at hw
        ((conv => whnf); repeat ((first | (refine frH (by refine ⟨?_, ?_, ?_⟩ <;> simp [idsF_nil, idsF_cons, idsH_nil, idsH_cons, argFr, SV.ids, SV.idsL, ids_cells, ids_mrow, ids_own, ids_loop, ids_iter, ids_glob, setO_ids, ofO_ids, ids_ofV, ids_setX, oneOf, setH, NG, restH, vsH]) ?_) | (refine nmH (by simp [idsF_nil, idsF_cons, idsH_nil, idsH_cons, argFr, SV.ids, SV.idsL, ids_cells, ids_mrow, ids_own, ids_loop, ids_iter, ids_glob, setO_ids, ofO_ids, ids_ofV, ids_setX, oneOf, setH, NG, restH, vsH]) ?_) | (refine ⟨_, hrow2, ?_⟩) | (refine call_tri [] hw trivial (fun r hs => ?_); subst hs) | (intro hq; try simp only [lnS] at hq) | refine sI ?_ | refine .intro _ (.intro rfl ?_)); (conv => whnf)))
        refine range_rule 60 (by refine ⟨?_, ?_, ?_⟩ <;> simp [idsF_nil, idsF_cons, idsH_nil, idsH_cons, argFr, SV.ids, SV.idsL, ids_cells, ids_mrow, ids_own, ids_loop, ids_iter, ids_glob, setO_ids, ofO_ids, ids_ofV, ids_setX, oneOf, setH, NG, restH, vsH]) trivial ?_
        ((conv => whnf); repeat ((first | (intro hq; try simp only [lnS] at hq) | refine sI ?_ | refine .intro _ (.intro rfl ?_)); (conv => whnf)))
        refine CallVC.sub (hp' := (60, _) :: vsH v1 g1 (restH (bs4, c4))) ⟨rfl, rfl, rfl, rfl, rfl, rfl, rfl, rfl, rfl, rfl, trivial⟩ ?_
        rw [← hcR]
        refine rounds_spec (lid := 60) (by decide) (fun s : Nm × VG => vsH s.1 s.2 (restH (bs4, c4))) (fun done s => s.1 = done.foldl addC v1) (fun _ => False) c (v1, g1) rfl (by with_unfolding_all exact rfl) (fun s k hk => by simp [idsF_nil, idsF_cons, idsH_nil, idsH_cons, argFr, SV.ids, SV.idsL, ids_cells, ids_mrow, ids_own, ids_loop, ids_iter, ids_glob, setO_ids, ofO_ids, ids_ofV, ids_setX, oneOf, setH, NG, restH, vsH]; omega) (by simp) (fun k hk => by simp [idsF_nil, idsF_cons, idsH_nil, idsH_cons, argFr, SV.ids, SV.idsL, ids_cells, ids_mrow, ids_own, ids_loop, ids_iter, ids_glob, setO_ids, ofO_ids, ids_ofV, ids_setX, oneOf, setH, NG, restH, vsH]; omega) ?_ ?_ ?_
        · rintro done y s pin fr K hI ⟨rest, hA⟩ p1 p2 h5 h6
          have hyR := cnR_eq y
          rw [hyR]
          have hinv : ∀ v', addC s.1 y = v' → v' = (done ++ [y]).foldl addC v1 := by
            intro v' h
            rw [List.foldl_append, ← hI]
            exact h.symm
          have hbig : ∀ k, 100 ≤ k → k ∉ pin ++ idsF fr ++ [60] := by
            intro k hk hm
            simp only [List.mem_append, List.mem_singleton] at hm
            rcases hm with (hm | hm) | hm
            · exact p1 k hk hm
            · exact p2 k hk hm
            · omega
          refine yield_roundF [16] hty (kp [0, 2, 3, 5, 6, 7, 8, 9, 10, 11, 13, 15, 16, 17, 18, 20, 21, 22, 23, 24, 30, 44, 45, 46, 47, 54, 55, 56, 57, 61, 62, 70, 76, 77, 78, 79]) 600 rfl rfl ?_
          ((conv => whnf); repeat ((first | (refine frH ⟨hbig _ (Nat.le_of_ble_eq_true rfl), bigF (by with_unfolding_all exact rfl) _ (Nat.le_of_ble_eq_true rfl), (by simp [idsF_nil, idsF_cons, idsH_nil, idsH_cons, argFr, SV.ids, SV.idsL, ids_cells, ids_mrow, ids_own, ids_loop, ids_iter, ids_glob, setO_ids, ofO_ids, ids_ofV, ids_setX, oneOf, setH, NG, restH, vsH])⟩ ?_) | (refine nmH (by simp [idsF_nil, idsF_cons, idsH_nil, idsH_cons, argFr, SV.ids, SV.idsL, ids_cells, ids_mrow, ids_own, ids_loop, ids_iter, ids_glob, setO_ids, ofO_ids, ids_ofV, ids_setX, oneOf, setH, NG, restH, vsH]) ?_) | (intro hq; try simp only [lnS] at hq) | refine sI ?_ | refine .intro _ (.intro rfl ?_)); (conv => whnf)))
          refine lookup_map rfl rfl (keyT_int rfl) rfl rfl rfl rfl ?_
          by_cases hk3 : y.kind = 3
          · have hmg : mget ofE y.kind = some (.xv 34 mapV) := by rw [hk3]; rfl
            have hadd : addC s.1 y = { s.1 with a := addK s.1.a y.name } := by unfold addC; rw [if_pos hk3]
            rw [hmg]
            ((conv => whnf); repeat ((first | (intro hq; try simp only [lnS] at hq) | refine sI ?_ | refine .intro _ (.intro rfl ?_)); (conv => whnf)))
            refine update_map (.inl rfl) rfl (keyT_str rfl) rfl rfl rfl rfl (fun bs c => ?_)
            have hms := mset_entK y.name s.1.a
            ((conv => whnf); repeat ((first | (intro hq; try simp only [lnS] at hq) | refine sI ?_ | refine .intro _ (.intro rfl ?_)); (conv => whnf)))
            have hfin := h5 ({ s.1 with a := addK s.1.a y.name }, { s.2 with a := (bs, c) }) (hinv _ hadd)
            simp only [vsH, setO, ← hms] at hfin
            exact hfin
          by_cases hk6 : y.kind = 6
          · have hmg : mget ofE y.kind = some (.xv 35 mapV) := by rw [hk6]; rfl
            have hadd : addC s.1 y = { s.1 with b := addK s.1.b y.name } := by unfold addC; rw [if_neg hk3, if_pos hk6]
            rw [hmg]
            ((conv => whnf); repeat ((first | (intro hq; try simp only [lnS] at hq) | refine sI ?_ | refine .intro _ (.intro rfl ?_)); (conv => whnf)))
            refine update_map (.inl rfl) rfl (keyT_str rfl) rfl rfl rfl rfl (fun bs c => ?_)
            have hms := mset_entK y.name s.1.b
            ((conv => whnf); repeat ((first | (intro hq; try simp only [lnS] at hq) | refine sI ?_ | refine .intro _ (.intro rfl ?_)); (conv => whnf)))
            have hfin := h5 ({ s.1 with b := addK s.1.b y.name }, { s.2 with b := (bs, c) }) (hinv _ hadd)
            simp only [vsH, setO, ← hms] at hfin
            exact hfin
          by_cases hk7 : y.kind = 7
          · have hmg : mget ofE y.kind = some (.xv 36 mapV) := by rw [hk7]; rfl
            have hadd : addC s.1 y = { s.1 with c := addK s.1.c y.name } := by unfold addC; rw [if_neg hk3, if_neg hk6, if_pos hk7]
            rw [hmg]
            ((conv => whnf); repeat ((first | (intro hq; try simp only [lnS] at hq) | refine sI ?_ | refine .intro _ (.intro rfl ?_)); (conv => whnf)))
            refine update_map (.inl rfl) rfl (keyT_str rfl) rfl rfl rfl rfl (fun bs c => ?_)
            have hms := mset_entK y.name s.1.c
            ((conv => whnf); repeat ((first | (intro hq; try simp only [lnS] at hq) | refine sI ?_ | refine .intro _ (.intro rfl ?_)); (conv => whnf)))
            have hfin := h5 ({ s.1 with c := addK s.1.c y.name }, { s.2 with c := (bs, c) }) (hinv _ hadd)
            simp only [vsH, setO, ← hms] at hfin
            exact hfin
          by_cases hk4 : y.kind = 4
          · have hmg : mget ofE y.kind = some (.xv 37 mapV) := by rw [hk4]; rfl
            have hadd : addC s.1 y = { s.1 with d := addK s.1.d y.name } := by unfold addC; rw [if_neg hk3, if_neg hk6, if_neg hk7, if_pos hk4]
            rw [hmg]
            ((conv => whnf); repeat ((first | (intro hq; try simp only [lnS] at hq) | refine sI ?_ | refine .intro _ (.intro rfl ?_)); (conv => whnf)))
            refine update_map (.inl rfl) rfl (keyT_str rfl) rfl rfl rfl rfl (fun bs c => ?_)
            have hms := mset_entK y.name s.1.d
            ((conv => whnf); repeat ((first | (intro hq; try simp only [lnS] at hq) | refine sI ?_ | refine .intro _ (.intro rfl ?_)); (conv => whnf)))
            have hfin := h5 ({ s.1 with d := addK s.1.d y.name }, { s.2 with d := (bs, c) }) (hinv _ hadd)
            simp only [vsH, setO, ← hms] at hfin
            exact hfin
          have hmg : mget ofE y.kind = none := by
            unfold ofE
            rw [mget, if_neg hk3, mget, if_neg hk6, mget, if_neg hk7, mget, if_neg hk4]; rfl
          have hadd : addC s.1 y = s.1 := by unfold addC; rw [if_neg hk3, if_neg hk6, if_neg hk7, if_neg hk4]
          rw [hmg]
          ((conv => whnf); repeat ((first | (intro hq; try simp only [lnS] at hq) | refine sI ?_ | refine .intro _ (.intro rfl ?_)); (conv => whnf)))
          exact h5 s (hinv _ hadd)
        · rintro ⟨sv, sg⟩ hI
          dsimp only at hI
          subst hI
          ((conv => whnf); repeat ((first | (intro hq; try simp only [lnS] at hq) | refine sI ?_ | refine .intro _ (.intro rfl ?_)); (conv => whnf)))
          refine ⟨(i + 1, sg), by dsimp only; dsimp only at h3; omega, by dsimp only; dsimp only at h3; omega, ⟨by repeat' (first | exact trivial | exact rfl | refine And.intro ?_ ?_), ?_⟩⟩
          dsimp only
          rw [htk]
          exact ⟨rfl, rfl, rfl, rfl, rfl, rfl, rfl, rfl, rfl, trivial⟩
        · rintro s h
          exact h.elim
      · have hi2 : i = 2 := by dsimp only at h3; omega
        subst hi2
        have htk : ([x.left, x.right].take 2).foldl addS v = [x.left, x.right].foldl addS v := rfl
        rw [htk]
        have hvx : addX v x = addI (addI (addR (x.roles.foldl addR ([x.left, x.right].foldl addS v)) x.role) x.a) x.b := rfl
        rw [hvx] at hvt
        generalize [x.left, x.right].foldl addS v = v2 at hvt ⊢
        ((conv => whnf); repeat ((first | (intro hq; try simp only [lnS] at hq) | refine sI ?_ | refine .intro _ (.intro rfl ?_)); (conv => whnf)))
        refine loop_rule hty (fun y : Nat × VG => ([(2, .ptr 2 0), (7, .xv 34 mapV), (8, .xv 35 mapV), (9, .xv 36 mapV), (10, .xv 37 mapV), (11, .ptr 11 0), (44, .d (.sl 16 (l.map axR))), (45, .d (.int .i64 l.length)), (46, .d (.int .i64 j)), (13, .ea 16 [axR x] 0 0), (76, .d (.sl 1 (x.roles.map strR))), (77, .d (.int .i64 x.roles.length)), (78, .d (.int .i64 y.1))], vsH ((x.roles.take y.1).foldl addR v2) y.2 (restH (bs4, c4)))) (fun y => y.1 ≤ x.roles.length) (fun y => x.roles.length - y.1) (0, g1) (by dsimp only; omega) ⟨by repeat' (first | exact trivial | exact rfl | (rw [List.length_map]; exact rfl) | refine And.intro ?_ ?_), ⟨rfl, rfl, rfl, rfl, rfl, rfl, rfl, rfl, rfl, trivial⟩⟩ ?_
        rintro ⟨k, g2⟩ hk
        dsimp only at hk
        ((conv => whnf); repeat ((first | (intro hq; try simp only [lnS] at hq) | refine sI ?_ | refine .intro _ (.intro rfl ?_)); (conv => whnf)))
        refine brB_dec (fun h4 => ?_) (fun h4 => ?_)
        · have hkl : k < x.roles.length := by dsimp only at h4; omega
          have hrow3 : (x.roles.map strR)[(k : Int).toNat]? = some (strR x.roles[k]) := rowC_at hkl
          have htr : (x.roles.take (k + 1)).foldl addR v2 = addR ((x.roles.take k).foldl addR v2) x.roles[k] := by
            rw [List.take_succ_eq_append_getElem hkl, List.foldl_append]; rfl
          generalize (x.roles.take k).foldl addR v2 = v3 at htr ⊢
          generalize x.roles[k] = r at hrow3 htr
          ((conv => whnf); repeat ((first | (refine ⟨_, hrow3, ?_⟩) | (intro hq; try simp only [lnS] at hq) | refine sI ?_ | refine .intro _ (.intro rfl ?_)); (conv => whnf)))
          refine update_map (.inl rfl) rfl (keyT_str rfl) rfl rfl rfl rfl (fun bs c => ?_)
          have hms := mset_entK r v3.b
          ((conv => whnf); repeat ((first | (intro hq; try simp only [lnS] at hq) | refine sI ?_ | refine .intro _ (.intro rfl ?_)); (conv => whnf)))
          refine ⟨(k + 1, { g2 with b := (bs, c) }), by dsimp only; omega, by dsimp only; omega, ⟨by repeat' (first | exact trivial | exact rfl | refine And.intro ?_ ?_), ?_⟩⟩
          dsimp only
          rw [htr]
          simp only [vsH, setO, addR, ← hms]
          exact ⟨rfl, rfl, rfl, rfl, rfl, rfl, rfl, rfl, rfl, trivial⟩
        · have hkl : k = x.roles.length := by dsimp only at h4; omega
          subst hkl
          rw [List.take_length]
          generalize x.roles.foldl addR v2 = v3 at hvt ⊢
          have hm1 := mset_entK x.role v3.b
          have hm2 := mset_entK x.a v3.d
          have hm3 := mset_entK x.b (addK v3.d x.a)
          ((conv => whnf); repeat ((first | (intro hq; try simp only [lnS] at hq) | refine sI ?_ | refine .intro _ (.intro rfl ?_)); (conv => whnf)))
          refine update_map (.inl rfl) rfl (keyT_str rfl) rfl rfl rfl rfl (fun bs5 c5 => ?_)
          ((conv => whnf); repeat ((first | (intro hq; try simp only [lnS] at hq) | refine sI ?_ | refine .intro _ (.intro rfl ?_)); (conv => whnf)))
          refine update_map (.inl rfl) rfl (keyT_str rfl) rfl rfl rfl rfl (fun bs6 c6 => ?_)
          ((conv => whnf); repeat ((first | (intro hq; try simp only [lnS] at hq) | refine sI ?_ | refine .intro _ (.intro rfl ?_)); (conv => whnf)))
          refine update_map (.inl rfl) rfl (keyT_str rfl) rfl rfl rfl rfl (fun bs7 c7 => ?_)
          ((conv => whnf); repeat ((first | (intro hq; try simp only [lnS] at hq) | refine sI ?_ | refine .intro _ (.intro rfl ?_)); (conv => whnf)))
          refine ⟨(j + 1, { g2 with b := (bs5, c5), d := (bs7, c7) }), by dsimp only; omega, by dsimp only; omega, ⟨by repeat' (first | exact trivial | exact rfl | refine And.intro ?_ ?_), ?_⟩⟩
          dsimp only
          rw [hvt]
          simp only [vsH, setO, addR, addI, ← hm1, ← hm3, ← hm2]
          exact ⟨rfl, rfl, rfl, rfl, rfl, rfl, rfl, rfl, rfl, trivial⟩
    · have hjl : j = l.length := by dsimp only at h2; omega
      subst hjl
      rw [List.take_length]
      have hnum := vocV_num l ⟨[], [], [], []⟩ hz
      have hnum : numN (vocV l) ≤ 700000 := by
        have e : numN ⟨[], [], [], []⟩ = 0 := rfl
        rw [e] at hnum
        have : vocV l = l.foldl addX ⟨[], [], [], []⟩ := rfl
        rw [this]; omega
      have hvn : vocN l = ⟨sortK (vocV l).a, sortK ((vocV l).b.erase []), sortK (vocV l).c, sortK ((vocV l).d.erase [])⟩ := rfl
      rw [hvn]
      generalize vocV l = v at hnum ⊢
      obtain ⟨va, vb, vc, vd⟩ := v
      have hnum : va.length + vb.length + vc.length + vd.length ≤ 700000 := hnum
      have hb1 : (vb.erase []).length ≤ vb.length := List.length_erase_le
      have hd1 : (vd.erase []).length ≤ vd.length := List.length_erase_le
      ((conv => whnf); repeat ((first | (intro hq; try simp only [lnS] at hq) | refine sI ?_ | refine .intro _ (.intro rfl ?_)); (conv => whnf)))
      refine delete_map rfl rfl (keyT_str rfl) rfl rfl rfl (fun bs5 => ?_)
      rw [mdel_entK]
      ((conv => whnf); repeat ((first | (intro hq; try simp only [lnS] at hq) | refine sI ?_ | refine .intro _ (.intro rfl ?_)); (conv => whnf)))
      refine delete_map rfl rfl (keyT_str rfl) rfl rfl rfl (fun bs6 => ?_)
      rw [mdel_entK]
      ((conv => whnf); repeat ((first | (intro hq; try simp only [lnS] at hq) | refine sI ?_ | refine .intro _ (.intro rfl ?_)); (conv => whnf)))
      refine call_inlineF false [] hty Tryz.func45 rfl (kp [0, 1, 2]) 50 (by simp [Tryz.f45]) ?_
      ((conv => whnf); repeat ((first | (refine frH (by refine ⟨?_, ?_, ?_⟩ <;> simp [idsF_nil, idsF_cons, idsH_nil, idsH_cons, argFr, SV.ids, SV.idsL, ids_cells, ids_mrow, ids_own, ids_loop, ids_iter, ids_glob, setO_ids, ofO_ids, ids_ofV, ids_setX, oneOf, setH, NG, restH, vsH]) ?_) | (refine And.intro (by simp [SV.ids, SV.idsL]) ?_) | (intro hq; try simp only [lnS] at hq) | refine sI ?_ | refine .intro _ (.intro rfl ?_)); (conv => whnf)))
      refine CallVC.sub (hp' := (34, setO va g.a) :: (51, .cells 80 [.xv 34 mapV]) :: (35, setO (vb.erase []) (bs5, g.b.2)) :: (36, setO vc g.c) :: (37, setO (vd.erase []) (bs6, g.d.2)) :: restH (bs4, c4)) ⟨rfl, rfl, rfl, rfl, rfl, rfl, rfl, rfl, rfl, rfl, trivial⟩ ?_
      refine sorted_34 va g.a (by omega) _ (fun k hk => by simp) (bigF (by with_unfolding_all exact rfl)) (fun k hk => by simp [idsF_nil, idsF_cons, idsH_nil, idsH_cons, argFr, SV.ids, SV.idsL, ids_cells, ids_mrow, ids_own, ids_loop, ids_iter, ids_glob, setO_ids, ofO_ids, ids_ofV, ids_setX, oneOf, setH, NG, restH, vsH]; omega) (fun o1 o2 => ⟨rfl, rfl, rfl, rfl, rfl, rfl, rfl, rfl, trivial⟩) ⟨by simp, notMem_of (by with_unfolding_all exact rfl), by simp [idsF_nil, idsF_cons, idsH_nil, idsH_cons, argFr, SV.ids, SV.idsL, ids_cells, ids_mrow, ids_own, ids_loop, ids_iter, ids_glob, setO_ids, ofO_ids, ids_ofV, ids_setX, oneOf, setH, NG, restH, vsH]⟩ (fun cap34 => ?_)
      ((conv => whnf); repeat ((first | (intro hq; try simp only [lnS] at hq) | refine sI ?_ | refine .intro _ (.intro rfl ?_)); (conv => whnf)))
      refine call_inlineF false [] hty Tryz.func45 rfl (kp [0, 1, 2]) 51 (by simp [Tryz.f45]) ?_
      ((conv => whnf); repeat ((first | (refine frH (by refine ⟨?_, ?_, ?_⟩ <;> simp [idsF_nil, idsF_cons, idsH_nil, idsH_cons, argFr, SV.ids, SV.idsL, ids_cells, ids_mrow, ids_own, ids_loop, ids_iter, ids_glob, setO_ids, ofO_ids, ids_ofV, ids_setX, oneOf, setH, NG, restH, vsH]) ?_) | (refine And.intro (by simp [SV.ids, SV.idsL]) ?_) | (intro hq; try simp only [lnS] at hq) | refine sI ?_ | refine .intro _ (.intro rfl ?_)); (conv => whnf)))
      refine CallVC.sub (hp' := (35, setO (vb.erase []) (bs5, g.b.2)) :: (52, .cells 80 [.xv 35 mapV]) :: (64, .mrow 9 1 cap34 ((sortK va).map strR)) :: (34, setO va g.a) :: (51, .cells 80 [.xv 34 mapV]) :: (36, setO vc g.c) :: (37, setO (vd.erase []) (bs6, g.d.2)) :: restH (bs4, c4)) ⟨rfl, rfl, rfl, rfl, rfl, rfl, rfl, rfl, rfl, rfl, rfl, rfl, trivial⟩ ?_
      refine sorted_35 (vb.erase []) (bs5, g.b.2) (by omega) _ (fun k hk => by simp) (bigF (by with_unfolding_all exact rfl)) (fun k hk => by simp [idsF_nil, idsF_cons, idsH_nil, idsH_cons, argFr, SV.ids, SV.idsL, ids_cells, ids_mrow, ids_own, ids_loop, ids_iter, ids_glob, setO_ids, ofO_ids, ids_ofV, ids_setX, oneOf, setH, NG, restH, vsH]; omega) (fun o1 o2 => ⟨rfl, rfl, rfl, rfl, rfl, rfl, rfl, rfl, rfl, rfl, trivial⟩) ⟨by simp, notMem_of (by with_unfolding_all exact rfl), by simp [idsF_nil, idsF_cons, idsH_nil, idsH_cons, argFr, SV.ids, SV.idsL, ids_cells, ids_mrow, ids_own, ids_loop, ids_iter, ids_glob, setO_ids, ofO_ids, ids_ofV, ids_setX, oneOf, setH, NG, restH, vsH]⟩ (fun cap35 => ?_)
      ((conv => whnf); repeat ((first | (intro hq; try simp only [lnS] at hq) | refine sI ?_ | refine .intro _ (.intro rfl ?_)); (conv => whnf)))
      refine call_inlineF false [] hty Tryz.func45 rfl (kp [0, 1, 2]) 52 (by simp [Tryz.f45]) ?_
      ((conv => whnf); repeat ((first | (refine frH (by refine ⟨?_, ?_, ?_⟩ <;> simp [idsF_nil, idsF_cons, idsH_nil, idsH_cons, argFr, SV.ids, SV.idsL, ids_cells, ids_mrow, ids_own, ids_loop, ids_iter, ids_glob, setO_ids, ofO_ids, ids_ofV, ids_setX, oneOf, setH, NG, restH, vsH]) ?_) | (refine And.intro (by simp [SV.ids, SV.idsL]) ?_) | (intro hq; try simp only [lnS] at hq) | refine sI ?_ | refine .intro _ (.intro rfl ?_)); (conv => whnf)))
      refine CallVC.sub (hp' := (36, setO vc g.c) :: (53, .cells 80 [.xv 36 mapV]) :: (65, .mrow 9 1 cap35 ((sortK (vb.erase [])).map strR)) :: (35, setO (vb.erase []) (bs5, g.b.2)) :: (52, .cells 80 [.xv 35 mapV]) :: (64, .mrow 9 1 cap34 ((sortK va).map strR)) :: (34, setO va g.a) :: (51, .cells 80 [.xv 34 mapV]) :: (37, setO (vd.erase []) (bs6, g.d.2)) :: restH (bs4, c4)) ⟨rfl, rfl, rfl, rfl, rfl, rfl, rfl, rfl, rfl, rfl, rfl, rfl, rfl, rfl, trivial⟩ ?_
      refine sorted_36 vc g.c (by omega) _ (fun k hk => by simp) (bigF (by with_unfolding_all exact rfl)) (fun k hk => by simp [idsF_nil, idsF_cons, idsH_nil, idsH_cons, argFr, SV.ids, SV.idsL, ids_cells, ids_mrow, ids_own, ids_loop, ids_iter, ids_glob, setO_ids, ofO_ids, ids_ofV, ids_setX, oneOf, setH, NG, restH, vsH]; omega) (fun o1 o2 => ⟨rfl, rfl, rfl, rfl, rfl, rfl, rfl, rfl, rfl, rfl, rfl, rfl, trivial⟩) ⟨by simp, notMem_of (by with_unfolding_all exact rfl), by simp [idsF_nil, idsF_cons, idsH_nil, idsH_cons, argFr, SV.ids, SV.idsL, ids_cells, ids_mrow, ids_own, ids_loop, ids_iter, ids_glob, setO_ids, ofO_ids, ids_ofV, ids_setX, oneOf, setH, NG, restH, vsH]⟩ (fun cap36 => ?_)
      ((conv => whnf); repeat ((first | (intro hq; try simp only [lnS] at hq) | refine sI ?_ | refine .intro _ (.intro rfl ?_)); (conv => whnf)))
      refine call_inlineF false [] hty Tryz.func45 rfl (kp [0, 1, 2]) 53 (by simp [Tryz.f45]) ?_
      ((conv => whnf); repeat ((first | (refine frH (by refine ⟨?_, ?_, ?_⟩ <;> simp [idsF_nil, idsF_cons, idsH_nil, idsH_cons, argFr, SV.ids, SV.idsL, ids_cells, ids_mrow, ids_own, ids_loop, ids_iter, ids_glob, setO_ids, ofO_ids, ids_ofV, ids_setX, oneOf, setH, NG, restH, vsH]) ?_) | (refine And.intro (by simp [SV.ids, SV.idsL]) ?_) | (intro hq; try simp only [lnS] at hq) | refine sI ?_ | refine .intro _ (.intro rfl ?_)); (conv => whnf)))
      refine CallVC.sub (hp' := (37, setO (vd.erase []) (bs6, g.d.2)) :: (54, .cells 80 [.xv 37 mapV]) :: (66, .mrow 9 1 cap36 ((sortK vc).map strR)) :: (36, setO vc g.c) :: (53, .cells 80 [.xv 36 mapV]) :: (65, .mrow 9 1 cap35 ((sortK (vb.erase [])).map strR)) :: (35, setO (vb.erase []) (bs5, g.b.2)) :: (52, .cells 80 [.xv 35 mapV]) :: (64, .mrow 9 1 cap34 ((sortK va).map strR)) :: (34, setO va g.a) :: (51, .cells 80 [.xv 34 mapV]) :: restH (bs4, c4)) ⟨rfl, rfl, rfl, rfl, rfl, rfl, rfl, rfl, rfl, rfl, rfl, rfl, rfl, rfl, rfl, rfl, trivial⟩ ?_
      refine sorted_37 (vd.erase []) (bs6, g.d.2) (by omega) _ (fun k hk => by simp) (bigF (by with_unfolding_all exact rfl)) (fun k hk => by simp [idsF_nil, idsF_cons, idsH_nil, idsH_cons, argFr, SV.ids, SV.idsL, ids_cells, ids_mrow, ids_own, ids_loop, ids_iter, ids_glob, setO_ids, ofO_ids, ids_ofV, ids_setX, oneOf, setH, NG, restH, vsH]; omega) (fun o1 o2 => ⟨rfl, rfl, rfl, rfl, rfl, rfl, rfl, rfl, rfl, rfl, rfl, rfl, rfl, rfl, trivial⟩) ⟨by simp, notMem_of (by with_unfolding_all exact rfl), by simp [idsF_nil, idsF_cons, idsH_nil, idsH_cons, argFr, SV.ids, SV.idsL, ids_cells, ids_mrow, ids_own, ids_loop, ids_iter, ids_glob, setO_ids, ofO_ids, ids_ofV, ids_setX, oneOf, setH, NG, restH, vsH]⟩ (fun cap37 => ?_)
      ((conv => whnf); repeat ((first | (refine And.intro (List.length_map ..).symm ?_) | (intro hq; try simp only [lnS] at hq) | refine sI ?_ | refine .intro _ (.intro rfl ?_)); (conv => whnf)))
      exact ⟨_, rfl, .inl rfl⟩
end Go.Proofs.YtpecmehekandgaaGreatDoor
