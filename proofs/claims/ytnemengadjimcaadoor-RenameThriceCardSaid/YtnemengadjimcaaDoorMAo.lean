/-
  Terms: Tidy and TidyAxiom.
  Conditions: none.
-/
import Derived.Test.YtnemengadjimcaaDoorMAn
set_option linter.unnecessarySimpa false
set_option linter.unusedSectionVars false
set_option linter.unusedSimpArgs false
set_option linter.unusedVariables false
namespace Go.Proofs.YtnemengadjimcaaDoor
open Go.Proofs
set_option maxRecDepth 10000
attribute [local irreducible] SemVC CallVC Tri Stuck YVC GenP GenVC
theorem firstE_zero : ∀ {l : List Cn}, firstE l = 0 → ∀ x ∈ l, fieldsE x = 0
  | [], _, x, hx => by simp at hx
  | a :: l, h, x, hx => by
    rw [firstE] at h
    split at h
    · rename_i h1; exact absurd h h1
    · rename_i h1
      rcases List.mem_cons.1 hx with rfl | hx
      · simpa using h1
      · exact firstE_zero h x hx
mutual
theorem fitsF_size : ∀ (c : Cn) (d n : Int), (fitsF c d n).1 = true → (fitsF c d n).2 = n + (sizeF c : Nat)
  | .mk k s lo hi ps, d, n => by
    have h := fitsL_size ps d (n + 1)
    have e : sizeF (.mk k s lo hi ps) = sumN ps + 1 := sizeF_sum _
    rw [fitsF]
    split
    · simp
    · intro h1
      rw [h h1, e]; omega
theorem fitsL_size : ∀ (l : List Cn) (d n : Int), (fitsL l d n).1 = true → (fitsL l d n).2 = n + (sumN l : Nat)
  | [], d, n => by rw [fitsL]; intro _; simp [sumN, nodesL]
  | c :: r, d, n => by
    have h1 := fitsF_size c (d + 1) n
    rw [fitsL]
    split
    · rename_i hb
      have h2 := fitsL_size r d (fitsF c (d + 1) n).2
      intro h3
      rw [h2 h3, h1 hb, sumN_cons]; omega
    · simp
end
theorem conceptE_ok {c : Cn} (h : conceptE c = 0) : sizeF c ≤ 64 ∧ okC c ∧ ∀ x ∈ nodes c, fieldsE x = 0 := by
  unfold conceptE at h
  split at h
  · simp at h
  · rename_i hf
    have hf : (fitsF c 0 0).1 = true := by simpa using hf
    have h0 := firstE_zero h
    refine ⟨?_, fun x hx hk => ?_, h0⟩
    · have h1 := fitsF_size c 0 0 hf
      have h2 : (fitsF c 0 0).2 ≤ 64 := by
        have e := fitsF_eq c 0 0
        by_cases h3 : (8 : Int) < 0 ∨ (64 : Int) < 0 + 1
        · omega
        · rw [if_neg h3] at e
          rw [e] at hf ⊢
          exact (fitsL_bnd c.parts 0 (0 + 1) (by omega) (by omega)).2.2 hf
      omega
    · have := h0 x hx
      unfold fieldsE at this
      rw [if_neg (by omega), hk] at this
      unfold fieldsN at this
      rw [show needAt 6 = ⟨1, 1, 1, false⟩ from rfl] at this
      split at this
      · simp at this
      · rename_i h1
        intro he
        apply h1
        left
        rw [he]; simp
def a0 : Ax := ⟨0, false, c0, c0, [], [], [], []⟩
def sideF (b : Bool) (c : Cn) : Cn × Int := if b = true then tidyC c else (c, 0)
def tidyU (u : Use) (x : Ax) : Ax × Int :=
  if (sideF u.left x.left).2 ≠ 0 then (a0, (sideF u.left x.left).2)
  else if (sideF u.right x.right).2 ≠ 0 then (a0, (sideF u.right x.right).2)
  else if (x.kind = 2 ∨ x.kind = 3) ∧ 0 < cmpC (sideF u.left x.left).1 (sideF u.right x.right).1 then ({ x with left := (sideF u.right x.right).1, right := (sideF u.left x.left).1 }, 0)
  else ({ x with left := (sideF u.left x.left).1, right := (sideF u.right x.right).1 }, 0)
def tidyA (x : Ax) : Ax × Int := if axiomE x ≠ 0 then (a0, axiomE x) else tidyU (useAt x.kind) x
structure PairA (x : Ax) (e : Int) (s : SV) : Prop where
  ex : ∃ a, s = .tup [.d a, .d (.int .i64 e)] ∧ (a = .agg (axR x) ∨ WkD a (.agg (axR x)))
theorem Tri.pairA {P : Program} {f : FuncId} {qs : List SV} {hp : Hp} {x : Ax} {e : Int} (h : Tri P f qs hp (PairA x e)) : Tri P f qs hp (fun r => r = .tup [.d (.agg (axR x)), .d (.int .i64 e)]) := by
  refine Tri.resT h ?_
  rintro s ⟨a, rfl, rfl | hw⟩
  · exact .inl rfl
  · exact .inr ⟨_, [.d (.agg (axR x)), .d (.int .i64 e)], rfl, ⟨hw, by exact rfl, trivial⟩, rfl⟩
theorem zeroA (e : Int) : PairA a0 e (.tup [.d (.agg [.int .i64 0, .bool false, .int .i64 0, .str [], .int .i64 0, .int .i64 0, .nil, .int .i64 0, .str [], .int .i64 0, .int .i64 0, .nil, .nil, .str [], .str [], .str []]), .d (.int .i64 e)]) := by
  refine ⟨_, rfl, .inr ?_⟩
  exact ⟨rfl, rfl, rfl, rfl, rfl, rfl, rfl, rfl, rfl, rfl, rfl, rfl, rfl, rfl, rfl, rfl, trivial⟩
theorem sameA (x : Ax) (e : Int) : PairA x e (.tup [.d (.agg (axR x)), .d (.int .i64 e)]) := ⟨_, rfl, .inl rfl⟩
theorem axiomE_ok {x : Ax} (h : axiomE x = 0) : (1 ≤ x.kind ∧ x.kind ≤ 9) ∧ ((useAt x.kind).left = true → conceptE x.left = 0) ∧ ((useAt x.kind).right = true → conceptE x.right = 0) := by
  unfold axiomE at h
  split at h
  · simp at h
  · rename_i hs
    refine ⟨?_, ?_⟩
    · have hs : shapedF x = true := by simpa using hs
      unfold shapedF at hs
      split at hs
      · cases hs
      · omega
    · unfold axiomU at h
      split at h
      · simp at h
      · split at h
        · rename_i h1; exact absurd h h1.2
        · split at h
          · rename_i h1; exact absurd h h1.2
          · rename_i h1 h2
            exact ⟨fun hu => Decidable.byContradiction fun hn => h1 ⟨hu, hn⟩, fun hu => Decidable.byContradiction fun hn => h2 ⟨hu, hn⟩⟩
set_option maxHeartbeats 32000000 in
theorem TidyAxiom_spec (x : Ax) : Tri Tryd.prog 16 [.d (.agg (axR x))] NG (fun r => r = .tup [.d (.agg (axR (tidyA x).1)), .d (.int .i64 (tidyA x).2)]) := by
  refine Tri.pairA ?_
  have hc := checkAxiom_spec x
  refine tri_of_bodyF false [1, 5] hty Tryd.func16 rfl (kp [0, 1, 2, 3, 4, 5, 9, 18, 27, 31, 40, 58]) [] _ _ _ (by simp [Tryd.f16]) (by decide) ?_
  unfold tidyA
  ((conv => whnf); repeat ((first | (intro hq; try simp only [lnS] at hq) | refine sI ?_ | refine .intro _ (.intro rfl ?_)); (conv => whnf)))
  refine call_tri NG hc ⟨rfl, rfl, trivial⟩ (fun r hs => ?_)
  subst hs
  ((conv => whnf); repeat ((first | (intro hq; try simp only [lnS] at hq) | refine sI ?_ | refine .intro _ (.intro rfl ?_)); (conv => whnf)))
  refine brB_ndec (fun h1 => ?_) (fun h1 => ?_)
  · rw [if_pos h1]
    ((conv => whnf); repeat' ((first | (intro hq; (try simp only [lnS] at hq); (try rewrite [List.length_map])) | refine sJ ?_ | refine .intro _ (.intro rfl ?_) | (refine .intro (show (_ : Nat) < List.length _ from by first | omega | (simp only [lnS]; omega) | simp) ?_) | fail | refine draw_rule hty (by kernel_rfl) (by kernel_rfl) ?_ | ((first | refine brB_dec ?_ ?_ | refine brB_ndec ?_ ?_) <;> intro hb <;> (first | contradiction | ((try simp only [lnS] at hb); try (exfalso; omega)))) | (refine brB_split ?_ ?_ <;> intro hb <;> (first | contradiction | exact bT hb (by assumption) | exact bF hb (by assumption) | skip))) <;> (conv => whnf)))
    exact zeroA _
  · rw [if_neg (by simpa using h1)]
    obtain ⟨hk, hl, hr⟩ := axiomE_ok h1
    have hrow := use_row (k := x.kind) hk
    have hcmp : (x.kind = 2 ∨ x.kind = 3) → (useAt x.kind).left = true ∧ (useAt x.kind).right = true := by
      rintro (h | h) <;> rw [h] <;> exact ⟨rfl, rfl⟩
    generalize useAt x.kind = u at *
    have tl : u.left = true → _ := fun h => tidy_spec x.left (by have := (conceptE_ok (hl h)).1; omega) (conceptE_ok (hl h)).2.1
    have tr : u.right = true → _ := fun h => tidy_spec x.right (by have := (conceptE_ok (hr h)).1; omega) (conceptE_ok (hr h)).2.1
    rw [cnR_eq, cnR_eq (tidyC x.left).1] at tl
    rw [cnR_eq, cnR_eq (tidyC x.right).1] at tr
    ((conv => whnf); repeat ((first | (refine index_glob (id := 91) hty rfl rfl rfl rfl rfl rfl rfl (by omega) (by omega) ?_) | (refine ⟨_, hrow, ?_⟩) | (intro hq; try simp only [lnS] at hq) | refine sI ?_ | refine .intro _ (.intro rfl ?_)); (conv => whnf)))
    have hU : ∀ (L R : Cn) (e f : Int), sideF u.left x.left = (L, e) → sideF u.right x.right = (R, f) → tidyU u x = if e ≠ 0 then (a0, e) else if f ≠ 0 then (a0, f) else if (x.kind = 2 ∨ x.kind = 3) ∧ 0 < cmpC L R then ({ x with left := R, right := L }, 0) else ({ x with left := L, right := R }, 0) := by
      intro L R e f h1 h2
      unfold tidyU
      rw [h1, h2]
    cases hul : u.left
    · have hn : ¬ x.kind = 2 ∧ ¬ x.kind = 3 := ⟨fun h => by simp [hul] at hcmp; exact hcmp.1 h, fun h => by simp [hul] at hcmp; exact hcmp.2 h⟩
      have e1 : sideF u.left x.left = (x.left, 0) := by rw [hul]; rfl
      obtain ⟨hn2, hn3⟩ := hn
      ((conv => whnf); repeat ((first | (intro hq; try simp only [lnS] at hq) | refine sI ?_ | refine .intro _ (.intro rfl ?_)); (conv => whnf)))
      cases hur : u.right
      · have e2 : sideF u.right x.right = (x.right, 0) := by rw [hur]; rfl
        rw [hU _ _ _ _ e1 e2, if_neg (by simp), if_neg (by simp), if_neg (by omega)]
        ((conv => whnf); repeat' ((first | (intro hq; (try simp only [lnS] at hq); (try rewrite [List.length_map])) | refine sJ ?_ | refine .intro _ (.intro rfl ?_) | (refine .intro (show (_ : Nat) < List.length _ from by first | omega | (simp only [lnS]; omega) | simp) ?_) | fail | refine draw_rule hty (by kernel_rfl) (by kernel_rfl) ?_ | ((first | refine brB_dec ?_ ?_ | refine brB_ndec ?_ ?_) <;> intro hb <;> (first | contradiction | ((try simp only [lnS] at hb); try (exfalso; omega)))) | (refine brB_split ?_ ?_ <;> intro hb <;> (first | contradiction | exact bT hb (by assumption) | exact bF hb (by assumption) | skip))) <;> (conv => whnf)))
        exact sameA _ _
      · have e2 : sideF u.right x.right = ((tidyC x.right).1, (tidyC x.right).2) := by rw [hur]; rfl
        rw [hU _ _ _ _ e1 e2, if_neg (by simp)]
        have hi := tr hur
        generalize (tidyC x.right).1 = R at *
        generalize (tidyC x.right).2 = f at *
        ((conv => whnf); repeat ((first | (refine call_tri [] hi trivial (fun r hs => ?_); subst hs) | (intro hq; try simp only [lnS] at hq) | refine sI ?_ | refine .intro _ (.intro rfl ?_)); (conv => whnf)))
        refine brB_ndec (fun h2 => ?_) (fun h2 => ?_)
        · ((conv => whnf); repeat' ((first | (intro hq; (try simp only [lnS] at hq); (try rewrite [List.length_map])) | refine sJ ?_ | refine .intro _ (.intro rfl ?_) | (refine .intro (show (_ : Nat) < List.length _ from by first | omega | (simp only [lnS]; omega) | simp) ?_) | fail | refine draw_rule hty (by kernel_rfl) (by kernel_rfl) ?_ | ((first | refine brB_dec ?_ ?_ | refine brB_ndec ?_ ?_) <;> intro hb <;> (first | contradiction | ((try simp only [lnS] at hb); try (exfalso; omega)))) | (refine brB_split ?_ ?_ <;> intro hb <;> (first | contradiction | exact bT hb (by assumption) | exact bF hb (by assumption) | skip))) <;> (conv => whnf)))
          rw [if_pos h2]
          exact zeroA _
        · rw [if_neg (by simpa using h2), if_neg (by omega)]
          ((conv => whnf); repeat' ((first | (intro hq; (try simp only [lnS] at hq); (try rewrite [List.length_map])) | refine sJ ?_ | refine .intro _ (.intro rfl ?_) | (refine .intro (show (_ : Nat) < List.length _ from by first | omega | (simp only [lnS]; omega) | simp) ?_) | fail | refine draw_rule hty (by kernel_rfl) (by kernel_rfl) ?_ | ((first | refine brB_dec ?_ ?_ | refine brB_ndec ?_ ?_) <;> intro hb <;> (first | contradiction | ((try simp only [lnS] at hb); try (exfalso; omega)))) | (refine brB_split ?_ ?_ <;> intro hb <;> (first | contradiction | exact bT hb (by assumption) | exact bF hb (by assumption) | skip))) <;> (conv => whnf)))
          exact sameA { x with right := R } 0
    · have e1 : sideF u.left x.left = ((tidyC x.left).1, (tidyC x.left).2) := by rw [hul]; rfl
      have hi := tl hul
      have hs1 : sizeF (tidyC x.left).1 ≤ 1000000 := by
        have h3 := tidyC_size x.left
        have h4 := (conceptE_ok (hl hul)).1
        omega
      ((conv => whnf); repeat ((first | (refine call_tri [] hi trivial (fun r hs => ?_); subst hs) | (intro hq; try simp only [lnS] at hq) | refine sI ?_ | refine .intro _ (.intro rfl ?_)); (conv => whnf)))
      generalize (tidyC x.left).1 = L at *
      generalize (tidyC x.left).2 = e at *
      refine brB_ndec (fun h2 => ?_) (fun h2 => ?_)
      · have hUe : tidyU u x = (a0, e) := by
          unfold tidyU
          rw [e1, if_pos h2]
        rw [hUe]
        ((conv => whnf); repeat' ((first | (intro hq; (try simp only [lnS] at hq); (try rewrite [List.length_map])) | refine sJ ?_ | refine .intro _ (.intro rfl ?_) | (refine .intro (show (_ : Nat) < List.length _ from by first | omega | (simp only [lnS]; omega) | simp) ?_) | fail | refine draw_rule hty (by kernel_rfl) (by kernel_rfl) ?_ | ((first | refine brB_dec ?_ ?_ | refine brB_ndec ?_ ?_) <;> intro hb <;> (first | contradiction | ((try simp only [lnS] at hb); try (exfalso; omega)))) | (refine brB_split ?_ ?_ <;> intro hb <;> (first | contradiction | exact bT hb (by assumption) | exact bF hb (by assumption) | skip))) <;> (conv => whnf)))
        exact zeroA _
      · ((conv => whnf); repeat ((first | (intro hq; try simp only [lnS] at hq) | refine sI ?_ | refine .intro _ (.intro rfl ?_)); (conv => whnf)))
        cases hur : u.right
        · have hn : ¬ x.kind = 2 ∧ ¬ x.kind = 3 := ⟨fun h => by simp [hur] at hcmp; exact hcmp.1 h, fun h => by simp [hur] at hcmp; exact hcmp.2 h⟩
          obtain ⟨hn2, hn3⟩ := hn
          have e2 : sideF u.right x.right = (x.right, 0) := by rw [hur]; rfl
          rw [hU _ _ _ _ e1 e2, if_neg (by simpa using h2), if_neg (by simp), if_neg (by omega)]
          ((conv => whnf); repeat' ((first | (intro hq; (try simp only [lnS] at hq); (try rewrite [List.length_map])) | refine sJ ?_ | refine .intro _ (.intro rfl ?_) | (refine .intro (show (_ : Nat) < List.length _ from by first | omega | (simp only [lnS]; omega) | simp) ?_) | fail | refine draw_rule hty (by kernel_rfl) (by kernel_rfl) ?_ | ((first | refine brB_dec ?_ ?_ | refine brB_ndec ?_ ?_) <;> intro hb <;> (first | contradiction | ((try simp only [lnS] at hb); try (exfalso; omega)))) | (refine brB_split ?_ ?_ <;> intro hb <;> (first | contradiction | exact bT hb (by assumption) | exact bF hb (by assumption) | skip))) <;> (conv => whnf)))
          exact sameA { x with left := L } 0
        · have e2 : sideF u.right x.right = ((tidyC x.right).1, (tidyC x.right).2) := by rw [hur]; rfl
          rw [hU _ _ _ _ e1 e2, if_neg (by simpa using h2)]
          have hj := tr hur
          have hs2 : sizeF (tidyC x.right).1 ≤ 1000000 := by
            have h3 := tidyC_size x.right
            have h4 := (conceptE_ok (hr hur)).1
            omega
          generalize (tidyC x.right).1 = R at *
          generalize (tidyC x.right).2 = f at *
          ((conv => whnf); repeat ((first | (refine call_tri [] hj trivial (fun r hs => ?_); subst hs) | (intro hq; try simp only [lnS] at hq) | refine sI ?_ | refine .intro _ (.intro rfl ?_)); (conv => whnf)))
          refine brB_ndec (fun h3 => ?_) (fun h3 => ?_)
          · ((conv => whnf); repeat' ((first | (intro hq; (try simp only [lnS] at hq); (try rewrite [List.length_map])) | refine sJ ?_ | refine .intro _ (.intro rfl ?_) | (refine .intro (show (_ : Nat) < List.length _ from by first | omega | (simp only [lnS]; omega) | simp) ?_) | fail | refine draw_rule hty (by kernel_rfl) (by kernel_rfl) ?_ | ((first | refine brB_dec ?_ ?_ | refine brB_ndec ?_ ?_) <;> intro hb <;> (first | contradiction | ((try simp only [lnS] at hb); try (exfalso; omega)))) | (refine brB_split ?_ ?_ <;> intro hb <;> (first | contradiction | exact bT hb (by assumption) | exact bF hb (by assumption) | skip))) <;> (conv => whnf)))
            rw [if_pos h3]
            exact zeroA _
          · rw [if_neg (by simpa using h3)]
            have hcs := Compare_spec L R hs1 hs2
            rw [cnR_eq, cnR_eq] at hcs
            ((conv => whnf); repeat' ((first | (intro hq; (try simp only [lnS] at hq); (try rewrite [List.length_map])) | refine sJ ?_ | refine .intro _ (.intro rfl ?_) | (refine .intro (show (_ : Nat) < List.length _ from by first | omega | (simp only [lnS]; omega) | simp) ?_) | (refine call_tri [] hcs trivial (fun r hs => ?_); subst hs) | refine draw_rule hty (by kernel_rfl) (by kernel_rfl) ?_ | ((first | refine brB_dec ?_ ?_ | refine brB_ndec ?_ ?_) <;> intro hb <;> (first | contradiction | ((try simp only [lnS] at hb); try (exfalso; omega)))) | (refine brB_split ?_ ?_ <;> intro hb <;> (first | contradiction | exact bT hb (by assumption) | exact bF hb (by assumption) | skip))) <;> (conv => whnf)))
            all_goals first
              | (rw [if_pos ⟨by omega, by assumption⟩]; exact sameA { x with left := R, right := L } 0)
              | (rw [if_neg (by omega)]; exact sameA { x with left := L, right := R } 0)
end Go.Proofs.YtnemengadjimcaaDoor
