/-
  Layer 6: check, and what is exempt. Layer 6: the maps of steps. Terms: the vocabulary, plainly: whose names it holds.
  Conditions: none.
-/
import Derived.Test.YtnemengadjimcaaGreatDoorMQp
set_option linter.unnecessarySimpa false
set_option linter.unusedSectionVars false
set_option linter.unusedSimpArgs false
set_option linter.unusedVariables false
namespace Go.Proofs.YtnemengadjimcaaGreatDoor
open Go.Proofs
set_option maxRecDepth 10000
attribute [local irreducible] SemVC CallVC Tri Stuck YVC GenP GenVC
set_option maxHeartbeats 8000000 in
theorem rlCheck_spec (l : List Ax) : Tri Tryz.prog 87 [.d (.sl 16 (l.map axR))] NG (fun r => r = .d (.int .i64 (firstA l))) := by
  refine Tri.len 0 rfl fun hlen => ?_
  rw [List.length_map] at hlen
  refine tri_of_bodyF false [4] hty Tryz.func87 rfl (kp [0, 2, 4, 5, 6, 7, 8, 9, 15]) [] _ _ _ (by simp [Tryz.f87]) (by decide) ?_
  ((conv => whnf); repeat ((first | (intro hq; try simp only [lnS] at hq) | refine sI ?_ | refine .intro _ (.intro rfl ?_)); (conv => whnf)))
  refine loop_rule hty (fun j : Nat => ([(2, .d (.int .i64 0)), (6, .d (.sl 16 (l.map axR))), (7, .d (.int .i64 l.length)), (8, .d (.int .i64 j))], NG)) (fun j => j ≤ l.length ∧ ∀ x ∈ l.take j, axiomE x = 0) (fun j => l.length - j) 0 ⟨by omega, by simp⟩ ⟨by repeat' (first | exact trivial | exact rfl | (rw [List.length_map]; exact rfl) | refine And.intro ?_ ?_), ⟨rfl, rfl, trivial⟩⟩ ?_
  rintro j ⟨hj, hz⟩
  ((conv => whnf); repeat ((first | (intro hq; try simp only [lnS] at hq) | refine sI ?_ | refine .intro _ (.intro rfl ?_)); (conv => whnf)))
  refine brB_dec (fun h1 => ?_) (fun h1 => ?_)
  · have hjl : j < l.length := by omega
    have hrow := axR_rows hjl
    have hc := checkAxiom_spec l[j]
    have herr := firstA_err hjl hz
    have hz2 : axiomE l[j] = 0 → ∀ x ∈ l.take (j + 1), axiomE x = 0 := fun h2 x hx => by
      rw [List.take_succ_eq_append_getElem hjl] at hx
      rcases List.mem_append.1 hx with hx | hx
      · exact hz x hx
      · simp at hx; subst hx; exact h2
    generalize axiomE l[j] = e at *
    generalize l[j] = x at *
    ((conv => whnf); repeat ((first | (refine ⟨_, hrow, ?_⟩) | (refine call_tri NG hc ⟨rfl, rfl, trivial⟩ (fun r hs => ?_); subst hs) | (intro hq; try simp only [lnS] at hq) | refine sI ?_ | refine .intro _ (.intro rfl ?_)); (conv => whnf)))
    refine brB_ndec (fun h2 => ?_) (fun h2 => ?_)
    · rw [herr h2]
      ((conv => whnf); repeat' ((first | (intro hq; (try simp only [lnS] at hq); (try rewrite [List.length_map])) | refine sJ ?_ | refine .intro _ (.intro rfl ?_) | (refine .intro (show (_ : Nat) < List.length _ from by first | omega | (simp only [lnS]; omega) | simp) ?_) | fail | refine draw_rule hty (by kernel_rfl) (by kernel_rfl) ?_ | ((first | refine brB_dec ?_ ?_ | refine brB_ndec ?_ ?_) <;> intro hb <;> (first | contradiction | ((try simp only [lnS] at hb); try (exfalso; omega)))) | (refine brB_split ?_ ?_ <;> intro hb <;> (first | contradiction | exact bT hb (by assumption) | exact bF hb (by assumption) | skip))) <;> (conv => whnf)))
      rfl
    · ((conv => whnf); repeat' ((first | (intro hq; (try simp only [lnS] at hq); (try rewrite [List.length_map])) | refine sJ ?_ | refine .intro _ (.intro rfl ?_) | (refine .intro (show (_ : Nat) < List.length _ from by first | omega | (simp only [lnS]; omega) | simp) ?_) | fail | refine draw_rule hty (by kernel_rfl) (by kernel_rfl) ?_ | ((first | refine brB_dec ?_ ?_ | refine brB_ndec ?_ ?_) <;> intro hb <;> (first | contradiction | ((try simp only [lnS] at hb); try (exfalso; omega)))) | (refine brB_split ?_ ?_ <;> intro hb <;> (first | contradiction | exact bT hb (by assumption) | exact bF hb (by assumption) | skip))) <;> (conv => whnf)))
      exact ⟨j + 1, ⟨by omega, hz2 (by simpa using h2)⟩, by dsimp only; omega, ⟨by repeat' (first | exact trivial | exact rfl | refine And.intro ?_ ?_), ⟨rfl, rfl, trivial⟩⟩⟩
  · have hjl : j = l.length := by omega
    subst hjl
    rw [List.take_length] at hz
    rw [firstA_ok hz]
    ((conv => whnf); repeat' ((first | (intro hq; (try simp only [lnS] at hq); (try rewrite [List.length_map])) | refine sJ ?_ | refine .intro _ (.intro rfl ?_) | (refine .intro (show (_ : Nat) < List.length _ from by first | omega | (simp only [lnS]; omega) | simp) ?_) | fail | refine draw_rule hty (by kernel_rfl) (by kernel_rfl) ?_ | ((first | refine brB_dec ?_ ?_ | refine brB_ndec ?_ ?_) <;> intro hb <;> (first | contradiction | ((try simp only [lnS] at hb); try (exfalso; omega)))) | (refine brB_split ?_ ?_ <;> intro hb <;> (first | contradiction | exact bT hb (by assumption) | exact bF hb (by assumption) | skip))) <;> (conv => whnf)))
    rfl
theorem manyR_take (x : Ax) {j : Nat} (h : j < x.roles.length) : (x.roles.take (j + 1)).countP (fun r => decide (r = x.role)) = (x.roles.take j).countP (fun r => decide (r = x.role)) + (if x.roles[j] = x.role then 1 else 0) := by
  rw [List.take_succ_eq_append_getElem h, List.countP_append, List.countP_singleton]
  simp
theorem strR_at {l : List (List UInt8)} {i : Nat} (h : i < l.length) : (l.map strR)[((i : Nat) : Int).toNat]? = some (strR l[i]) := by
  rw [Int.toNat_natCast, List.getElem?_map, List.getElem?_eq_getElem h]; rfl
theorem rolN_at {x : Ax} {i : Nat} (h : i < x.roles.length) : rolN x i = x.roles[i] := by
  rw [rolN, List.getElem?_eq_getElem h]; rfl
set_option maxHeartbeats 8000000 in
theorem exempt_spec (x : Ax) (i : Nat) (hi : i < x.roles.length) (hl : x.roles.length ≤ 1000000) : Tri Tryz.prog 134 [.d (.agg (axR x)), .d (.int .i64 i)] [] (fun r => r = .d (.bool (exemptB x i))) := by
  have hrow := strR_at hi
  have hr := rolN_at hi
  have hx : ∀ c : Nat, manyR x = c → ∀ b, exemptB x i = b → exemptB x i = b := fun _ _ _ h => h
  refine tri_of_bodyF false [2] hty Tryz.func134 rfl (kp [0, 1, 2, 4, 5, 6, 8, 16, 21, 22, 23, 24, 30]) [] _ _ _ (by simp [Tryz.f134]) (by simp) ?_
  ((conv => whnf); repeat ((first | (intro hq; try simp only [lnS] at hq) | refine sI ?_ | refine .intro _ (.intro rfl ?_)); (conv => whnf)))
  refine draw_rule hty (by kernel_rfl) (by kernel_rfl) ?_
  ((conv => whnf); repeat ((first | (refine ⟨_, hrow, ?_⟩) | (intro hq; try simp only [lnS] at hq) | refine sI ?_ | refine .intro _ (.intro rfl ?_)); (conv => whnf)))
  refine brB_ndec (fun h1 => ?_) (fun h1 => ?_)
  · have hv : exemptB x i = false := by unfold exemptB; rw [hr]; simp [h1]
    rw [hv]
    ((conv => whnf); repeat' ((first | (intro hq; (try simp only [lnS] at hq); (try rewrite [List.length_map])) | refine sJ ?_ | refine .intro _ (.intro rfl ?_) | (refine .intro (show (_ : Nat) < List.length _ from by first | omega | (simp only [lnS]; omega) | simp) ?_) | fail | refine draw_rule hty (by kernel_rfl) (by kernel_rfl) ?_ | ((first | refine brB_dec ?_ ?_ | refine brB_ndec ?_ ?_) <;> intro hb <;> (first | contradiction | ((try simp only [lnS] at hb); try (exfalso; omega)))) | (refine brB_split ?_ ?_ <;> intro hb <;> (first | contradiction | exact bT hb (by assumption) | exact bF hb (by assumption) | skip))) <;> (conv => whnf)))
    rfl
  · have h1 : x.roles[i] = x.role := by simpa using h1
    ((conv => whnf); repeat ((first | (intro hq; try simp only [lnS] at hq) | refine sI ?_ | refine .intro _ (.intro rfl ?_)); (conv => whnf)))
    refine loop_rule hty (fun j : Nat => ([(1, .d (.int .i64 i)), (2, .ea 16 [axR x] 0 0), (5, .d (.int .i64 x.roles.length)), (6, .d (.int .i64 ((x.roles.take j).countP fun r => decide (r = x.role) : Nat))), (21, .d (.sl 1 (x.roles.map strR))), (22, .d (.int .i64 x.roles.length)), (23, .d (.int .i64 j))], [])) (fun j => j ≤ x.roles.length) (fun j => x.roles.length - j) 0 (by omega) ⟨by repeat' (first | exact trivial | exact rfl | (rw [List.length_map]; exact rfl) | refine And.intro ?_ ?_), trivial⟩ ?_
    rintro j hj
    ((conv => whnf); repeat ((first | (intro hq; try simp only [lnS] at hq) | refine sI ?_ | refine .intro _ (.intro rfl ?_)); (conv => whnf)))
    refine brB_dec (fun h2 => ?_) (fun h2 => ?_)
    · have hjl : j < x.roles.length := by omega
      have hrow2 := strR_at hjl
      have hm := manyR_take x hjl
      have hcl := List.countP_le_length (p := fun r => decide (r = x.role)) (l := x.roles.take j)
      rw [List.length_take] at hcl
      generalize (x.roles.take j).countP (fun r => decide (r = x.role)) = c at *
      ((conv => whnf); repeat ((first | (refine ⟨_, hrow2, ?_⟩) | (intro hq; try simp only [lnS] at hq) | refine sI ?_ | refine .intro _ (.intro rfl ?_)); (conv => whnf)))
      refine brB_dec (fun h3 => ?_) (fun h3 => ?_)
      · rw [if_pos h3] at hm
        ((conv => whnf); repeat' ((first | (intro hq; (try simp only [lnS] at hq); (try rewrite [List.length_map])) | refine sJ ?_ | refine .intro _ (.intro rfl ?_) | (refine .intro (show (_ : Nat) < List.length _ from by first | omega | (simp only [lnS]; omega) | simp) ?_) | fail | refine draw_rule hty (by kernel_rfl) (by kernel_rfl) ?_ | ((first | refine brB_dec ?_ ?_ | refine brB_ndec ?_ ?_) <;> intro hb <;> (first | contradiction | ((try simp only [lnS] at hb); try (exfalso; omega)))) | (refine brB_split ?_ ?_ <;> intro hb <;> (first | contradiction | exact bT hb (by assumption) | exact bF hb (by assumption) | skip))) <;> (conv => whnf)))
        refine ⟨j + 1, by omega, by dsimp only; omega, ⟨?_, trivial⟩⟩
        dsimp only
        rw [hm]
        exact by repeat' (first | exact trivial | exact rfl | refine And.intro ?_ ?_)
      · rw [if_neg h3] at hm
        ((conv => whnf); repeat' ((first | (intro hq; (try simp only [lnS] at hq); (try rewrite [List.length_map])) | refine sJ ?_ | refine .intro _ (.intro rfl ?_) | (refine .intro (show (_ : Nat) < List.length _ from by first | omega | (simp only [lnS]; omega) | simp) ?_) | fail | refine draw_rule hty (by kernel_rfl) (by kernel_rfl) ?_ | ((first | refine brB_dec ?_ ?_ | refine brB_ndec ?_ ?_) <;> intro hb <;> (first | contradiction | ((try simp only [lnS] at hb); try (exfalso; omega)))) | (refine brB_split ?_ ?_ <;> intro hb <;> (first | contradiction | exact bT hb (by assumption) | exact bF hb (by assumption) | skip))) <;> (conv => whnf)))
        refine ⟨j + 1, by omega, by dsimp only; omega, ⟨?_, trivial⟩⟩
        dsimp only
        rw [hm]
        exact by repeat' (first | exact trivial | exact rfl | refine And.intro ?_ ?_)
    · have hjl : j = x.roles.length := by omega
      subst hjl
      rw [List.take_length]
      have hm : x.roles.countP (fun r => decide (r = x.role)) = manyR x := rfl
      rw [hm]
      have hcl := List.countP_le_length (p := fun r => decide (r = x.role)) (l := x.roles)
      rw [hm] at hcl
      have hv : exemptB x i = ((decide (manyR x = 1) && (decide (i = 0) || decide (i + 1 = x.roles.length))) || (decide (manyR x = 2) && decide (x.roles.length = 2))) := by
        unfold exemptB; rw [hr, h1]; simp
      rw [hv]
      generalize manyR x = c at *
      clear hx hv
      ((conv => whnf); repeat' ((first | (intro hq; (try simp only [lnS] at hq); (try rewrite [List.length_map])) | refine sJ ?_ | refine .intro _ (.intro rfl ?_) | (refine .intro (show (_ : Nat) < List.length _ from by first | omega | (simp only [lnS]; omega) | simp) ?_) | fail | refine draw_rule hty (by kernel_rfl) (by kernel_rfl) ?_ | ((first | refine brB_dec ?_ ?_ | refine brB_ndec ?_ ?_) <;> intro hb <;> (first | contradiction | ((try simp only [lnS] at hb); try (exfalso; omega)))) | (refine brB_split ?_ ?_ <;> intro hb <;> (first | contradiction | exact bT hb (by assumption) | exact bF hb (by assumption) | skip))) <;> (conv => whnf)))
      all_goals (refine bool_eq ?_; rw [Bool.eq_iff_iff]; simp only [Bool.or_eq_true, Bool.and_eq_true, decide_eq_true_eq, Bool.false_eq_true, true_iff, false_iff]; omega)
end Go.Proofs.YtnemengadjimcaaGreatDoor
namespace Go.Proofs.YtnemengadjimcaaGreatDoor
open Go.Proofs
set_option maxRecDepth 10000
attribute [local irreducible] SemVC CallVC Tri Stuck YVC GenP GenVC
def stH (M : List (Str × Inn)) (g : List Nat × Nat) (hp0 : Hp) : Hp := (23, .cells 117 [.xv 33 mapV]) :: (33, .ext (mapX strD (entO 0 M) g.1 g.2)) :: (hpO 0 M ++ hp0)
structure FarH (hp0 : Hp) : Prop where
  lo : ∀ k ∈ idsH hp0, 80 ≤ k ∧ k < 100
  s : subH hp0 hp0
theorem stH_sub {M : List (Str × Inn)} {g : List Nat × Nat} {hp0 : Hp} (F : FarH hp0) : subH (stH M g hp0) (stH M g hp0) := by
  refine subH_iff fun p hp => ?_
  unfold stH at hp ⊢
  rcases List.mem_cons.1 hp with rfl | hp
  · exact getH_eq
  · rcases List.mem_cons.1 hp with rfl | hp
    · exact getH_ne getH_eq (show 23 ≠ 33 by decide)
    · rcases List.mem_append.1 hp with hp | hp
      · obtain ⟨i, q, h1, rfl⟩ := hpO_mem 0 M p hp
        exact getH_ne (getH_ne (hpO_get 0 M i q hp0 h1) (by omega)) (by omega)
      · have h1 := F.lo p.1 (key_ids hp)
        refine getH_ne (getH_ne ?_ (by omega)) (by omega)
        rw [hpO_out 0 M p.1 hp0 (.inl (by omega))]
        exact subH_mem F.s p hp
theorem stH_ids (M : List (Str × Inn)) (g : List Nat × Nat) (hp0 : Hp) (F : FarH hp0) (k : Nat) (hk : k ∈ idsH (stH M g hp0)) : k = 23 ∨ k = 33 ∨ (80 ≤ k ∧ k < 100) ∨ (1000 ≤ k ∧ k < 1000 + M.length) := by
  unfold stH at hk
  rw [idsH_cons, idsH_cons, idsH_app] at hk
  simp only [List.mem_append, List.mem_cons] at hk
  rcases hk with (h | h) | (h | h) | h | h
  · exact .inl h
  · have : k ∈ ([33] : List Nat) := h
    simp at this; exact .inr (.inl this)
  · exact .inr (.inl h)
  · have h : k ∈ idsE (entO 0 M) := h
    have := entO_lt 0 M k h
    omega
  · have := hpO_ids 0 M k h; omega
  · have := F.lo k h; omega
theorem posO_snoc {k : Str} {x : Inn} : ∀ {M : List (Str × Inn)}, posO k M = none → posO k (M ++ [(k, x)]) = some M.length
  | [], _ => by simp [posO]
  | (k', y) :: r, h => by
    rw [posO] at h
    split at h
    · cases h
    · rename_i e
      rw [Option.map_eq_none_iff] at h
      rw [List.cons_append, posO, if_neg e, posO_snoc h]; rfl
theorem entO_inn {k : Str} {x y : Inn} : ∀ (n : Nat) (M : List (Str × Inn)), entO n (M ++ [(k, x)]) = entO n (M ++ [(k, y)])
  | _, [] => rfl
  | n, (k', z) :: r => by rw [List.cons_append, List.cons_append, entO, entO, entO_inn (n + 1) r]
theorem mget_entB (s : Str) : ∀ l : List (Str × Bool), mget (entB l) s = (mget l s).map fun b => SV.d (.bool b)
  | [] => rfl
  | (k, b) :: r => by
    show mget ((k, SV.d (.bool b)) :: entB r) s = _
    rw [mget, mget, mget_entB s r]
    split <;> rfl
theorem mset_entB (s : Str) (v : Bool) : ∀ l : List (Str × Bool), mset (entB l) s (.d (.bool v)) = entB (mset l s v)
  | [] => rfl
  | (k, b) :: r => by
    show mset ((k, SV.d (.bool b)) :: entB r) s _ = _
    rw [mset, mset, mset_entB s v r]
    split <;> rfl
theorem look_entB (o : Option Bool) : lookRes false (o.map fun b => SV.d (.bool b)) (.d (.bool false)) = .d (.bool (o.getD false)) := by cases o <;> rfl
theorem stH_new {M : List (Str × Inn)} {r : Str} {x : Inn} {g : List Nat × Nat} {hp0 : Hp} (F : FarH hp0) : subH (stH (M ++ [(r, x)]) g hp0) ((1000 + (0 + M.length), inO x) :: (23, .cells 117 [.xv 33 mapV]) :: (33, .ext (mapX strD (entO 0 (M ++ [(r, x)])) g.1 g.2)) :: (hpO 0 M ++ hp0)) := by
  refine subH_iff fun p hp => ?_
  unfold stH at hp
  rcases List.mem_cons.1 hp with rfl | hp
  · exact getH_ne getH_eq (show 1000 + (0 + M.length) ≠ 23 by omega)
  · rcases List.mem_cons.1 hp with rfl | hp
    · exact getH_ne (getH_ne getH_eq (show 23 ≠ 33 by decide)) (show 1000 + (0 + M.length) ≠ 33 by omega)
    · rcases List.mem_append.1 hp with hp | hp
      · rw [hpO_snoc] at hp
        rcases List.mem_append.1 hp with hp | hp
        · obtain ⟨i, q, h1, rfl⟩ := hpO_mem 0 M p hp
          have hi := (List.getElem?_eq_some_iff.1 h1).1
          exact getH_ne (getH_ne (getH_ne (hpO_get 0 M i q hp0 h1) (show 33 ≠ 1000 + (0 + i) by omega)) (show 23 ≠ 1000 + (0 + i) by omega)) (show 1000 + (0 + M.length) ≠ 1000 + (0 + i) by omega)
        · simp only [List.mem_singleton] at hp
          subst hp
          exact getH_eq
      · have h1 := F.lo p.1 (key_ids hp)
        refine getH_ne (getH_ne (getH_ne ?_ (by omega)) (by omega)) (by omega)
        rw [hpO_out 0 M p.1 hp0 (.inl (by omega))]
        exact subH_mem F.s p hp
set_option maxHeartbeats 8000000 in
theorem add_call (M : List (Str × Inn)) (g : List Nat × Nat) (r s : Str) (t : Bool) (hp0 : Hp) (F : FarH hp0) {pin : List Nat} {fr : Fr} {K : SV → Hp → Prop} (hp1 : ∀ k, 1000 ≤ k → k ∉ pin) (hf : ∀ k, 1000 ≤ k → k ∉ idsF fr)
    (hk : ∀ M' g', (∀ T, MInv T M → MInv (T ++ [(r, s, t)]) M') → K (oneOf []) (stH M' g' hp0)) :
    CallVC Tryz.prog pin fr (stH M g hp0) 133 [.d (.str r), .d (.str s), .d (.bool t), .ptr 23 0] K := by
  refine CallVC.weak ?_
  refine call_inlineF false [] hty Tryz.func133 rfl (kp [0, 1, 2, 3, 10]) 40 (by simp [Tryz.f133]) ?_
  cases hpos : posO r M with
  | none =>
    have hm := mget_entO r 0 M
    rw [hpos] at hm
    have hm2 : mget (entO 0 (M ++ [(r, (([], ([], 0)) : Inn))])) r = some (.xv (1000 + (0 + M.length)) mapV) := by
      rw [mget_entO, posO_snoc hpos]; rfl
    unfold stH
    ((conv => whnf); repeat ((first | (intro hq; try simp only [lnS] at hq) | refine sI ?_ | refine .intro _ (.intro rfl ?_)); (conv => whnf)))
    refine lookup_map (id := 33) (ents := entO 0 M) (k := r) (bs := g.1) (clock := g.2) rfl rfl (keyT_str rfl) rfl rfl rfl rfl ?_
    rw [hm]
    ((conv => whnf); repeat ((first | (intro hq; try simp only [lnS] at hq) | refine sI ?_ | refine .intro _ (.intro rfl ?_)); (conv => whnf)))
    refine bin_nilmap rfl rfl true rfl (.inr ⟨rfl, rfl⟩) rfl ?_
    ((conv => whnf); repeat ((first | (intro hq; try simp only [lnS] at hq) | refine sI ?_ | refine .intro _ (.intro rfl ?_)); (conv => whnf)))
    refine make_map rfl rfl strD (1000 + (0 + M.length)) ⟨?_, ?_, ?_⟩ ?_
    · rw [List.mem_append]; exact fun h => h.elim (hp1 _ (by omega)) (hf _ (by omega))
    · simp [idsF_nil, idsF_cons, SV.ids]; omega
    · intro h
      have := stH_ids M g hp0 F _ h
      omega
    ((conv => whnf); repeat ((first | (intro hq; try simp only [lnS] at hq) | refine sI ?_ | refine .intro _ (.intro rfl ?_)); (conv => whnf)))
    refine update_map (id := 33) (ents := entO 0 M) (k := r) (.inl rfl) rfl (keyT_str rfl) rfl (getH_ne (getH_ne getH_eq (by decide)) (by omega)) rfl rfl (fun bs ck => ?_)
    rw [setH_ne (by omega), setH_ne (by decide), setH_eq, mset_entO 0 M ([], ([], 0)) hpos]
    generalize hE : entO 0 (M ++ [(r, (([], ([], 0)) : Inn))]) = EE at *
    ((conv => whnf); repeat ((first | (intro hq; try simp only [lnS] at hq) | refine sI ?_ | refine .intro _ (.intro rfl ?_)); (conv => whnf)))
    rw [getH_ne getH_eq (by omega)]
    ((conv => whnf); repeat ((first | (intro hq; try simp only [lnS] at hq) | refine sI ?_ | refine .intro _ (.intro rfl ?_)); (conv => whnf)))
    refine lookup_map (id := 33) (ents := EE) (k := r) (bs := bs) (clock := ck) rfl rfl (keyT_str rfl) rfl rfl (getH_ne (getH_ne getH_eq (by decide)) (by omega)) rfl ?_
    rw [hm2]
    ((conv => whnf); repeat ((first | (intro hq; try simp only [lnS] at hq) | refine sI ?_ | refine .intro _ (.intro rfl ?_)); (conv => whnf)))
    rw [getH_ne getH_eq (by omega)]
    ((conv => whnf); repeat ((first | (intro hq; try simp only [lnS] at hq) | refine sI ?_ | refine .intro _ (.intro rfl ?_)); (conv => whnf)))
    refine lookup_map (id := 33) (ents := EE) (k := r) (bs := bs) (clock := ck) rfl rfl (keyT_str rfl) rfl rfl (getH_ne (getH_ne getH_eq (by decide)) (by omega)) rfl ?_
    rw [hm2]
    ((conv => whnf); repeat ((first | (intro hq; try simp only [lnS] at hq) | refine sI ?_ | refine .intro _ (.intro rfl ?_)); (conv => whnf)))
    refine lookup_map (id := 1000 + (0 + M.length)) (ents := []) (k := s) (bs := []) (clock := 0) rfl rfl (keyT_str rfl) rfl rfl getH_eq rfl ?_
    ((conv => whnf); repeat ((first | (intro hq; try simp only [lnS] at hq) | refine sI ?_ | refine .intro _ (.intro rfl ?_)); (conv => whnf)))
    refine update_map (id := 1000 + (0 + M.length)) (ents := []) (k := s) (.inl rfl) rfl (keyT_str rfl) rfl getH_eq rfl rfl (fun bs2 ck2 => ?_)
    rw [setH_eq]
    ((conv => whnf); repeat ((first | (intro hq; try simp only [lnS] at hq) | refine sI ?_ | refine .intro _ (.intro rfl ?_)); (conv => whnf)))
    have hE2 : EE = entO 0 (M ++ [(r, (([(s, t)], (bs2, ck2)) : Inn))]) := by rw [← hE]; exact entO_inn 0 M
    subst hE2
    exact ⟨_, stH_new F, hk _ (bs, ck) (fun T h => h.new t (bs2, ck2) hpos)⟩
  | some i =>
    obtain ⟨x, hi⟩ := posO_some hpos
    have hil := (List.getElem?_eq_some_iff.1 hi).1
    have hm := mget_entO r 0 M
    rw [hpos] at hm
    have hgi := hpO_get 0 M i _ hp0 hi
    have hse := fun y => hpO_set 0 M i r y hp0 hil
    have hes := fun y => entO_set 0 M i r x y hi
    have hl := look_entB (mget x.1 s)
    rw [← mget_entB] at hl
    have hadd : ∀ v bs ck, v = ((mget x.1 s).getD false || t) → HObj.ext (mapX strD (mset (entB x.1) s (.d (.bool v))) bs ck) = inO (addN2 x s t (bs, ck)) := fun v bs ck h => by
      rw [mset_entB, h]; rfl
    generalize (mget x.1 s).getD false = old at *
    unfold stH
    ((conv => whnf); repeat ((first | (intro hq; try simp only [lnS] at hq) | refine sI ?_ | refine .intro _ (.intro rfl ?_)); (conv => whnf)))
    refine lookup_map (id := 33) (ents := entO 0 M) (k := r) (bs := g.1) (clock := g.2) rfl rfl (keyT_str rfl) rfl rfl rfl rfl ?_
    rw [hm]
    ((conv => whnf); repeat ((first | (intro hq; try simp only [lnS] at hq) | refine sI ?_ | refine .intro _ (.intro rfl ?_)); (conv => whnf)))
    refine bin_nilmap rfl rfl false rfl (.inl ⟨_, rfl, rfl⟩) rfl ?_
    ((conv => whnf); repeat ((first | (intro hq; try simp only [lnS] at hq) | refine sI ?_ | refine .intro _ (.intro rfl ?_)); (conv => whnf)))
    refine lookup_map (id := 33) (ents := entO 0 M) (k := r) (bs := g.1) (clock := g.2) rfl rfl (keyT_str rfl) rfl rfl rfl rfl ?_
    rw [hm]
    ((conv => whnf); repeat ((first | (intro hq; try simp only [lnS] at hq) | refine sI ?_ | refine .intro _ (.intro rfl ?_)); (conv => whnf)))
    refine lookup_map (id := 33) (ents := entO 0 M) (k := r) (bs := g.1) (clock := g.2) rfl rfl (keyT_str rfl) rfl rfl rfl rfl ?_
    rw [hm]
    ((conv => whnf); repeat ((first | (intro hq; try simp only [lnS] at hq) | refine sI ?_ | refine .intro _ (.intro rfl ?_)); (conv => whnf)))
    refine lookup_map (id := 1000 + (0 + i)) (ents := entB x.1) (k := s) (bs := x.2.1) (clock := x.2.2) rfl rfl (keyT_str rfl) rfl rfl (getH_ne (getH_ne hgi (by omega)) (by omega)) rfl ?_
    rw [show ofV (Value.bool false) = SV.d (.bool false) from rfl, hl]
    have fin : ∀ v, v = (old || t) → ∀ bs ck, ∃ hp'', subH hp'' (setH ((23, .cells 117 [.xv 33 mapV]) :: (33, .ext (mapX strD (entO 0 M) g.1 g.2)) :: (hpO 0 M ++ hp0)) (1000 + (0 + i)) (.ext (mapX strD (mset (entB x.1) s (.d (.bool v))) bs ck))) ∧ K (oneOf []) hp'' := by
      intro v hv bs ck
      rw [hadd v bs ck hv, setH_ne (by omega), setH_ne (by omega), hse, ← hes (addN2 x s t (bs, ck))]
      exact ⟨_, stH_sub F, hk _ g (fun T h => h.upd t (bs, ck) hi)⟩
    cases old
    · ((conv => whnf); repeat ((first | (intro hq; try simp only [lnS] at hq) | refine sI ?_ | refine .intro _ (.intro rfl ?_)); (conv => whnf)))
      refine update_map (id := 1000 + (0 + i)) (ents := entB x.1) (k := s) (.inl rfl) rfl (keyT_str rfl) rfl (getH_ne (getH_ne hgi (by omega)) (by omega)) rfl rfl (fun bs2 ck2 => ?_)
      ((conv => whnf); repeat ((first | (intro hq; try simp only [lnS] at hq) | refine sI ?_ | refine .intro _ (.intro rfl ?_)); (conv => whnf)))
      exact fin t (by simp) bs2 ck2
    · ((conv => whnf); repeat ((first | (intro hq; try simp only [lnS] at hq) | refine sI ?_ | refine .intro _ (.intro rfl ?_)); (conv => whnf)))
      refine update_map (id := 1000 + (0 + i)) (ents := entB x.1) (k := s) (.inl rfl) rfl (keyT_str rfl) rfl (getH_ne (getH_ne hgi (by omega)) (by omega)) rfl rfl (fun bs2 ck2 => ?_)
      ((conv => whnf); repeat ((first | (intro hq; try simp only [lnS] at hq) | refine sI ?_ | refine .intro _ (.intro rfl ?_)); (conv => whnf)))
      exact fin true (by simp) bs2 ck2
end Go.Proofs.YtnemengadjimcaaGreatDoor
namespace Go.Proofs.YtnemengadjimcaaGreatDoor
open Go.Proofs
def hasK (k : Int) (c : Cn) (s : List UInt8) : Prop := ∃ n ∈ nodes c, n.kind = k ∧ n.name = s
def axA (x : Ax) (s : List UInt8) : Prop := hasK 3 x.left s ∨ hasK 3 x.right s
def axB (x : Ax) (s : List UInt8) : Prop := hasK 6 x.left s ∨ hasK 6 x.right s ∨ s ∈ x.roles ∨ x.role = s
def axC (x : Ax) (s : List UInt8) : Prop := hasK 7 x.left s ∨ hasK 7 x.right s
def axD (x : Ax) (s : List UInt8) : Prop := hasK 4 x.left s ∨ hasK 4 x.right s ∨ x.a = s ∨ x.b = s
end Go.Proofs.YtnemengadjimcaaGreatDoor
