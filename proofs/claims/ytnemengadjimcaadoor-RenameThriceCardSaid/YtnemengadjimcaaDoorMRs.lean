/-
  The library's stable sort at rows that may be written: insertion, swaps, rotation.
  Conditions: none.
-/
import Derived.Test.YtnemengadjimcaaDoorMTcr
import Derived.Test.YtnemengadjimcaaDoorMAm
import Derived.Test.YtnemengadjimcaaDoorMSna
set_option linter.unnecessarySimpa false
set_option linter.unusedSectionVars false
set_option linter.unusedSimpArgs false
set_option linter.unusedVariables false
namespace Go.Proofs.YtnemengadjimcaaDoor
open Go.Proofs
set_option maxRecDepth 10000
attribute [local irreducible] SemVC CallVC Tri Stuck YVC GenP GenVC
structure CmpG (g : FuncId) (cf : Rn → Rn → Int) : Prop where
  call : callable Tryd.prog g = true
  ord : OrdC cf
  tri : ∀ x y, Tri Tryd.prog g [.d (.agg (rnR x)), .d (.agg (rnR y))] [] (fun r => r = .d (.int .i64 (cf x y)))
theorem rows_mid {l : List Rn} {U : List Rn} {x : Rn} {W : List Rn} (h : l = U ++ x :: W) {i : Nat} (hi : i = U.length) : (l.map rnR)[i]? = some (rnR x) := by
  subst h; subst hi
  rw [List.getElem?_map, get_at]; rfl
theorem map_swap {l U V W : List Rn} {x y : Rn} {i j : Nat} (h : l = U ++ x :: (V ++ y :: W)) (hi : i = U.length) (hj : j = U.length + 1 + V.length) :
    (((l.map rnR).set i (rnR y)).set j (rnR x)) = (U ++ y :: (V ++ x :: W)).map rnR := by
  subst h; subst hi; subst hj
  rw [← List.map_set, ← List.map_set, swap_at]
theorem map_swapB {l U V W : List Rn} {x y : Rn} {i j : Nat} (h : l = U ++ x :: (V ++ y :: W)) (hi : i = U.length) (hj : j = U.length + 1 + V.length) :
    (((l.map rnR).set j (rnR x)).set i (rnR y)) = (U ++ y :: (V ++ x :: W)).map rnR := by
  subst h; subst hi; subst hj
  rw [← List.map_set, ← List.map_set, swap_back]
theorem wkInt {a b : Int} (h : a = b) : Wk (.d (.int .i64 a)) (.d (.int .i64 b)) := by subst h; exact rfl
theorem nil_or_last (l : List Rn) : l = [] ∨ ∃ S v, l = S ++ [v] := by
  rcases List.eq_nil_or_concat l with h | ⟨S, v, h⟩
  · exact .inl h
  · exact .inr ⟨S, v, by rw [h, List.concat_eq_append]⟩
theorem perm_insert {S1 S2 : List Rn} {x : Rn} {T : List Rn} (h : (S1 ++ S2).Perm T) : (S1 ++ x :: S2).Perm (T ++ [x]) :=
  (List.perm_middle.trans (h.cons x)).trans (List.perm_append_singleton x T).symm
theorem srt_insert {cf : Rn → Rn → Int} (hO : OrdC cf) {S1 S2 : List Rn} {x : Rn} (h : Srt cf (S1 ++ S2)) (h2 : ∀ y ∈ S2, cf x y < 0) (h1 : ∀ u S, S1 = S ++ [u] → ¬ cf x u < 0) : Srt cf (S1 ++ x :: S2) := by
  obtain ⟨a1, a2, a3⟩ := Srt.app.1 h
  refine Srt.app.2 ⟨a1, List.pairwise_cons.2 ⟨fun y hy => hO.asym _ _ (h2 y hy), a2⟩, fun u hu y hy => ?_⟩
  have hux : ¬ cf x u < 0 := by
    obtain ⟨S, v, rfl⟩ : ∃ S v, S1 = S ++ [v] := by
      rcases nil_or_last S1 with rfl | ⟨S, v, rfl⟩
      · simp at hu
      · exact ⟨S, v, rfl⟩
    have hv := h1 v S rfl
    rcases List.mem_append.1 hu with hu | hu
    · exact hO.tr _ _ _ ((Srt.app.1 a1).2.2 u hu v (by simp)) hv
    · simp at hu; subst hu; exact hv
  rcases List.mem_cons.1 hy with rfl | hy
  · exact hux
  · exact a3 u hu y hy
set_option maxHeartbeats 8000000 in
theorem insSort_call {g : FuncId} {cf : Rn → Rn → Int} (G : CmpG g cf) (Pr A Q : List Rn) {L : List Rn} (hL : L = Pr ++ (A ++ Q)) (hl : L.length ≤ 1000000) {n : Nat} {a b : Int} (hn : n = L.length) (ha : a = (Pr.length : Nat)) (hb : b = (Pr.length + A.length : Nat)) (cap : Nat) (rest : Hp) {pin : List Nat} {fr : Fr} {K : SV → Hp → Prop}
    (fin : ∀ S, S.Perm A → Srt cf S → K (oneOf []) ((70, .mrow 45 3 cap ((Pr ++ (S ++ Q)).map rnR)) :: rest)) :
    CallVC Tryd.prog pin fr ((70, .mrow 45 3 cap (L.map rnR)) :: rest) 50 [.mw 70 3 n, .d (.int .i64 a), .d (.int .i64 b), .fn g [] []] K := by
  subst hL; subst hn; subst ha; subst hb
  have hlen : (Pr ++ (A ++ Q)).length = Pr.length + (A.length + Q.length) := by rw [List.length_append, List.length_append]
  generalize hN : (Pr ++ (A ++ Q)).length = N at *
  refine call_inline hty Tryd.func50 rfl (kp [0, 1, 2, 3, 8, 9, 14, 34]) 500 (by simp [Tryd.f50]) ?_
  ((conv => whnf); repeat ((first | (intro hq; try simp only [lnS] at hq) | refine sI ?_ | refine .intro _ (.intro rfl ?_)); (conv => whnf)))
  refine loop_eq hty (fun y : Nat × List Rn => ([(0, .mw 70 3 N), (1, .d (.int .i64 (Pr.length : Nat))), (2, .d (.int .i64 (Pr.length + A.length : Nat))), (3, .fn g [] []), (8, .d (.int .i64 (Pr.length + y.1 : Nat)))], (70, .mrow 45 3 cap ((Pr ++ (y.2 ++ (A.drop y.1 ++ Q))).map rnR)) :: rest)) (fun y => (1 ≤ y.1 ∧ y.1 ≤ A.length + 1) ∧ y.2.Perm (A.take y.1) ∧ Srt cf y.2) (fun y => A.length + 1 - y.1) (1, A.take 1) ⟨by dsimp only; omega, .refl _, ?_⟩ (by repeat' (first | exact trivial | exact rfl | exact wkInt (by dsimp only; omega) | refine And.intro ?_ ?_)) ?_ ?_
  · dsimp only
    cases A with
    | nil => exact .nil
    | cons x r => exact List.pairwise_cons.2 ⟨by simp, .nil⟩
  · dsimp only
    rw [← List.append_assoc (A.take 1), List.take_append_drop]
  rintro ⟨k, S⟩ ⟨⟨hk1, hk2⟩, hp, hs⟩
  dsimp only at hk1 hk2 hp hs
  have hSl : S.length = min k A.length := by rw [hp.length_eq, List.length_take]
  ((conv => whnf); repeat ((first | (intro hq; try simp only [lnS] at hq) | refine sI ?_ | refine .intro _ (.intro rfl ?_)); (conv => whnf)))
  refine brB_dec (fun h1 => ?_) (fun h1 => ?_)
  · have hkl : k < A.length := by omega
    obtain ⟨x, hx⟩ : ∃ x, x = A[k] := ⟨_, rfl⟩
    have hdr : A.drop k = x :: A.drop (k + 1) := by rw [hx]; exact List.drop_eq_getElem_cons hkl
    have htk : A.take (k + 1) = A.take k ++ [x] := by rw [hx]; exact List.take_succ_eq_append_getElem hkl
    have hSk : S.length = k := by omega
    rw [hdr]
    ((conv => whnf); repeat ((first | (intro hq; try simp only [lnS] at hq) | refine sI ?_ | refine .intro _ (.intro rfl ?_)); (conv => whnf)))
    refine loop_eq hty (fun z : List Rn × List Rn => ([(0, .mw 70 3 N), (1, .d (.int .i64 (Pr.length : Nat))), (2, .d (.int .i64 (Pr.length + A.length : Nat))), (3, .fn g [] []), (8, .d (.int .i64 (Pr.length + k : Nat))), (9, .d (.int .i64 (Pr.length + z.1.length : Nat)))], (70, .mrow 45 3 cap (((Pr ++ z.1) ++ x :: (z.2 ++ (A.drop (k + 1) ++ Q))).map rnR)) :: rest)) (fun z => (z.1 ++ z.2).Perm (A.take k) ∧ Srt cf (z.1 ++ z.2) ∧ ∀ y ∈ z.2, cf x y < 0) (fun z => z.1.length) (S, []) ⟨by simpa using hp, by simpa using hs, by simp⟩ (by repeat' (first | exact trivial | exact rfl | exact wkInt (by dsimp only; omega) | refine And.intro ?_ ?_)) ?_ ?_
    · dsimp only
      rw [List.append_assoc Pr S]
      rfl
    rintro ⟨S1, S2⟩ ⟨zp, zs, zx⟩
    dsimp only at zp zs zx
    have hzl : S1.length + S2.length = k := by
      have := zp.length_eq
      rw [List.length_append, List.length_take] at this
      omega
    have done : (∀ u S, S1 = S ++ [u] → ¬ cf x u < 0) → (S1 ++ x :: S2).Perm (A.take (k + 1)) ∧ Srt cf (S1 ++ x :: S2) := fun h => ⟨by rw [htk]; exact perm_insert zp, srt_insert G.ord zs zx h⟩
    rcases nil_or_last S1 with rfl | ⟨S1', u, rfl⟩
    · obtain ⟨d1, d2⟩ := done (by intro u S e; simp at e)
      ((conv => whnf); repeat' ((first | (intro hq; (try simp only [lnS] at hq); (try rewrite [List.length_map])) | refine sJ ?_ | refine .intro _ (.intro rfl ?_) | (refine .intro (show (_ : Nat) < List.length _ from by first | omega | (simp only [lnS]; omega) | simp) ?_) | fail | refine draw_rule hty (by kernel_rfl) (by kernel_rfl) ?_ | ((first | refine brB_dec ?_ ?_ | refine brB_ndec ?_ ?_) <;> intro hb <;> (first | contradiction | ((try simp only [lnS] at hb); try (exfalso; omega)))) | (refine brB_split ?_ ?_ <;> intro hb <;> (first | contradiction | exact bT hb (by assumption) | exact bF hb (by assumption) | skip))) <;> (conv => whnf)))
      refine ⟨(k + 1, x :: S2), ⟨by dsimp only; omega, d1, d2⟩, by dsimp only; omega, (by repeat' (first | exact trivial | exact rfl | exact wkInt (by dsimp only; omega) | refine And.intro ?_ ?_)), ?_⟩
      dsimp only
      rw [List.append_nil]
      rfl
    · have hux := G.tri x u
      obtain ⟨J, hJ⟩ : ∃ J, J = Pr.length + (S1' ++ [u]).length := ⟨_, rfl⟩
      have hJ2 : (S1' ++ [u]).length = S1'.length + 1 := by simp
      have hl1 : (Pr ++ (S1' ++ [u])) ++ x :: (S2 ++ (A.drop (k + 1) ++ Q)) = (Pr ++ S1') ++ u :: ([] ++ x :: (S2 ++ (A.drop (k + 1) ++ Q))) := by simp
      have hl2 : (Pr ++ S1').length = J - 1 := by rw [List.length_append]; omega
      have hrx : (((Pr ++ (S1' ++ [u])) ++ x :: (S2 ++ (A.drop (k + 1) ++ Q))).map rnR)[((J : Nat) : Int).toNat]? = some (rnR x) := rows_mid rfl (by rw [Int.toNat_natCast, hJ]; simp)
      have hru : (((Pr ++ (S1' ++ [u])) ++ x :: (S2 ++ (A.drop (k + 1) ++ Q))).map rnR)[(((J : Nat) : Int) - 1).toNat]? = some (rnR u) := rows_mid hl1 (by rw [hl2]; omega)
      have hsw : ∀ a b, a = ((J : Nat) : Int).toNat → b = (((J : Nat) : Int) - 1).toNat → ((((Pr ++ (S1' ++ [u])) ++ x :: (S2 ++ (A.drop (k + 1) ++ Q))).map rnR).set a (rnR u)).set b (rnR x) = ((Pr ++ S1') ++ x :: ((u :: S2) ++ (A.drop (k + 1) ++ Q))).map rnR := fun a b ha hb => by
        have := map_swapB (x := u) (y := x) (i := b) (j := a) hl1 (by rw [hl2]; omega) (by rw [hl2]; simp; omega)
        rw [this]; rfl
      have hML : (((Pr ++ (S1' ++ [u])) ++ x :: (S2 ++ (A.drop (k + 1) ++ Q))).map rnR).length = N := by
        have : (A.drop (k + 1)).length = A.length - (k + 1) := List.length_drop
        rw [hJ2] at hzl
        simp only [List.length_map, List.length_append, List.length_cons, List.length_nil]
        omega
      dsimp only
      rw [← hJ]
      generalize hM : List.map rnR ((Pr ++ (S1' ++ [u])) ++ x :: (S2 ++ (A.drop (k + 1) ++ Q))) = M at hrx hru hsw hML ⊢
      generalize hc : cf x u = c at hux
      ((conv => whnf); repeat ((first | (intro hq; try simp only [lnS] at hq) | refine sI ?_ | refine .intro _ (.intro rfl ?_)); (conv => whnf)))
      refine draw_rule hty (by kernel_rfl) (by kernel_rfl) ?_
      ((conv => whnf); repeat ((first | (intro hq; try simp only [lnS] at hq) | refine sI ?_ | refine .intro _ (.intro rfl ?_)); (conv => whnf)))
      refine brB_dec (fun h2 => ?_) (fun h2 => ?_)
      · ((conv => whnf); repeat ((first | (refine And.intro hML.symm ?_) | (refine ⟨_, hrx, ?_⟩) | (refine ⟨_, hru, ?_⟩) | (refine ⟨G.call, .d (.int .i64 _), _, [], rfl, trivial, hux, ?_⟩) | (intro hq; try simp only [lnS] at hq) | refine sI ?_ | refine .intro _ (.intro rfl ?_)); (conv => whnf)))
        refine brB_dec (fun h3 => ?_) (fun h3 => ?_)
        · (conv => whnf)
          refine ord_rule hty [0, 1, 2, 3, 4, 5, 6, 7, 8, 9, 10, 11, 12, 13, 14, 15, 16, 17] (by kernel_rfl) (by kernel_rfl) ?_
          have hru2 : (M.set ((J : Nat) : Int).toNat (rnR u))[(((J : Nat) : Int) - 1).toNat]? = some (rnR u) := by
            rw [List.getElem?_set_ne (by omega)]; exact hru
          ((conv => whnf); repeat' ((first | (intro hq; (try simp only [lnS] at hq); (try rewrite [List.length_map])) | refine sJ ?_ | refine .intro _ (.intro rfl ?_) | (refine .intro (show (_ : Nat) < List.length _ from by first | omega | (simp only [lnS]; omega) | simp) ?_) | (refine And.intro hML.symm ?_) | (refine And.intro ((List.length_set ..).trans hML).symm ?_) | (refine ⟨_, hrx, ?_⟩) | (refine ⟨_, hru, ?_⟩) | (refine ⟨_, hru2, ?_⟩) | (refine And.intro (leafD_of rfl) ?_) | refine draw_rule hty (by kernel_rfl) (by kernel_rfl) ?_ | ((first | refine brB_dec ?_ ?_ | refine brB_ndec ?_ ?_) <;> intro hb <;> (first | contradiction | ((try simp only [lnS] at hb); try (exfalso; omega)))) | (refine brB_split ?_ ?_ <;> intro hb <;> (first | contradiction | exact bT hb (by assumption) | exact bF hb (by assumption) | skip))) <;> (conv => whnf)))
          refine ⟨(S1', u :: S2), ⟨?_, ?_, ?_⟩, by dsimp only; omega, (by repeat' (first | exact trivial | exact rfl | exact wkInt (by dsimp only; omega) | refine And.intro ?_ ?_)), ?_⟩
          · have e : S1' ++ u :: S2 = S1' ++ [u] ++ S2 := by simp
            dsimp only; rw [e]; exact zp
          · have e : S1' ++ u :: S2 = S1' ++ [u] ++ S2 := by simp
            dsimp only; rw [e]; exact zs
          · intro y hy
            rcases List.mem_cons.1 hy with rfl | hy
            · rw [hc]; exact h3
            · exact zx y hy
          · have := hsw _ _ rfl rfl
            show (70, HObj.mrow _ 3 cap ((M.set ((J : Nat) : Int).toNat (rnR u)).set (((J : Nat) : Int) - 1).toNat (rnR x))) :: rest = _
            rw [this]
        · obtain ⟨d1, d2⟩ := done (by
            intro v S e
            have := List.append_inj' e rfl
            have h4 : u = v := by simpa using this.2
            subst h4
            rw [hc]; exact h3)
          ((conv => whnf); repeat' ((first | (intro hq; (try simp only [lnS] at hq); (try rewrite [List.length_map])) | refine sJ ?_ | refine .intro _ (.intro rfl ?_) | (refine .intro (show (_ : Nat) < List.length _ from by first | omega | (simp only [lnS]; omega) | simp) ?_) | fail | refine draw_rule hty (by kernel_rfl) (by kernel_rfl) ?_ | ((first | refine brB_dec ?_ ?_ | refine brB_ndec ?_ ?_) <;> intro hb <;> (first | contradiction | ((try simp only [lnS] at hb); try (exfalso; omega)))) | (refine brB_split ?_ ?_ <;> intro hb <;> (first | contradiction | exact bT hb (by assumption) | exact bF hb (by assumption) | skip))) <;> (conv => whnf)))
          refine ⟨(k + 1, S1' ++ [u] ++ x :: S2), ⟨by dsimp only; omega, d1, d2⟩, by dsimp only; omega, (by repeat' (first | exact trivial | exact rfl | exact wkInt (by dsimp only; omega) | refine And.intro ?_ ?_)), ?_⟩
          dsimp only
          rw [← hM]
          congr 4
          simp
      · exfalso; omega
  · have hkl : A.length ≤ k := by omega
    have hd : A.drop k = [] := List.drop_eq_nil_of_le hkl
    rw [List.take_of_length_le hkl] at hp
    rw [hd]
    ((conv => whnf); repeat' ((first | (intro hq; (try simp only [lnS] at hq); (try rewrite [List.length_map])) | refine sJ ?_ | refine .intro _ (.intro rfl ?_) | (refine .intro (show (_ : Nat) < List.length _ from by first | omega | (simp only [lnS]; omega) | simp) ?_) | fail | refine draw_rule hty (by kernel_rfl) (by kernel_rfl) ?_ | ((first | refine brB_dec ?_ ?_ | refine brB_ndec ?_ ?_) <;> intro hb <;> (first | contradiction | ((try simp only [lnS] at hb); try (exfalso; omega)))) | (refine brB_split ?_ ?_ <;> intro hb <;> (first | contradiction | exact bT hb (by assumption) | exact bF hb (by assumption) | skip))) <;> (conv => whnf)))
    exact fin S hp hs
set_option maxHeartbeats 8000000 in
theorem swap_call {g : FuncId} (Pr X M Y Q : List Rn) (hXY : Y.length = X.length) {L : List Rn} (hL : L = Pr ++ (X ++ (M ++ (Y ++ Q)))) (hl : L.length ≤ 1000000) {n : Nat} {a b k : Int} (hn : n = L.length) (ha : a = (Pr.length : Nat)) (hb : b = (Pr.length + X.length + M.length : Nat)) (hk : k = (X.length : Nat)) (cap : Nat) (rest : Hp) {pin : List Nat} {fr : Fr} {K : SV → Hp → Prop}
    (fin : K (oneOf []) ((70, .mrow 45 3 cap ((Pr ++ (Y ++ (M ++ (X ++ Q)))).map rnR)) :: rest)) :
    CallVC Tryd.prog pin fr ((70, .mrow 45 3 cap (L.map rnR)) :: rest) 71 [.mw 70 3 n, .d (.int .i64 a), .d (.int .i64 b), .d (.int .i64 k), .fn g [] []] K := by
  subst hL; subst hn; subst ha; subst hb; subst hk
  have hlen : (Pr ++ (X ++ (M ++ (Y ++ Q)))).length = Pr.length + (X.length + (M.length + (X.length + Q.length))) := by simp only [List.length_append, hXY]
  generalize hN : (Pr ++ (X ++ (M ++ (Y ++ Q)))).length = N at *
  refine call_inline hty Tryd.func71 rfl (kp [0, 1, 2, 3, 10, 13]) 500 (by simp [Tryd.f71]) ?_
  ((conv => whnf); repeat ((first | (intro hq; try simp only [lnS] at hq) | refine sI ?_ | refine .intro _ (.intro rfl ?_)); (conv => whnf)))
  refine loop_eq hty (fun i : Nat => ([(0, .mw 70 3 N), (1, .d (.int .i64 (Pr.length : Nat))), (2, .d (.int .i64 (Pr.length + X.length + M.length : Nat))), (3, .d (.int .i64 (X.length : Nat))), (10, .d (.int .i64 (i : Nat)))], (70, .mrow 45 3 cap (((Pr ++ Y.take i) ++ (X.drop i ++ ((M ++ X.take i) ++ (Y.drop i ++ Q)))).map rnR)) :: rest)) (fun i => i ≤ X.length) (fun i => X.length - i) 0 (Nat.zero_le _) (by repeat' (first | exact trivial | exact rfl | exact wkInt (by dsimp only; omega) | refine And.intro ?_ ?_)) (by simp) ?_
  intro i hi
  ((conv => whnf); repeat ((first | (intro hq; try simp only [lnS] at hq) | refine sI ?_ | refine .intro _ (.intro rfl ?_)); (conv => whnf)))
  refine brB_dec (fun h1 => ?_) (fun h1 => ?_)
  · have hiX : i < X.length := by omega
    have hiY : i < Y.length := by omega
    obtain ⟨x, hx⟩ : ∃ x, x = X[i] := ⟨_, rfl⟩
    obtain ⟨y, hy⟩ : ∃ y, y = Y[i] := ⟨_, rfl⟩
    have hdX : X.drop i = x :: X.drop (i + 1) := by rw [hx]; exact List.drop_eq_getElem_cons hiX
    have hdY : Y.drop i = y :: Y.drop (i + 1) := by rw [hy]; exact List.drop_eq_getElem_cons hiY
    have htX : X.take (i + 1) = X.take i ++ [x] := by rw [hx]; exact List.take_succ_eq_append_getElem hiX
    have htY : Y.take (i + 1) = Y.take i ++ [y] := by rw [hy]; exact List.take_succ_eq_append_getElem hiY
    have hl1 : (Pr ++ Y.take i) ++ (X.drop i ++ ((M ++ X.take i) ++ (Y.drop i ++ Q))) = (Pr ++ Y.take i) ++ x :: ((X.drop (i + 1) ++ (M ++ X.take i)) ++ y :: (Y.drop (i + 1) ++ Q)) := by rw [hdX, hdY]; simp
    have hUl : (Pr ++ Y.take i).length = Pr.length + i := by rw [List.length_append, List.length_take]; omega
    have hVl : (X.drop (i + 1) ++ (M ++ X.take i)).length = X.length + M.length - 1 := by simp only [List.length_append, List.length_take, List.length_drop]; omega
    have hrx : (((Pr ++ Y.take i) ++ (X.drop i ++ ((M ++ X.take i) ++ (Y.drop i ++ Q)))).map rnR)[(((Pr.length : Nat) : Int) + (i : Nat)).toNat]? = some (rnR x) := rows_mid hl1 (by rw [hUl]; omega)
    have hry : (((Pr ++ Y.take i) ++ (X.drop i ++ ((M ++ X.take i) ++ (Y.drop i ++ Q)))).map rnR)[(((Pr.length + X.length + M.length : Nat) : Int) + (i : Nat)).toNat]? = some (rnR y) := rows_mid (U := (Pr ++ Y.take i) ++ x :: (X.drop (i + 1) ++ (M ++ X.take i))) (W := Y.drop (i + 1) ++ Q) (by rw [hl1]; simp) (by rw [List.length_append, List.length_cons, hUl, hVl]; omega)
    have hsw : ∀ p q, p = (((Pr.length : Nat) : Int) + (i : Nat)).toNat → q = (((Pr.length + X.length + M.length : Nat) : Int) + (i : Nat)).toNat → ((((Pr ++ Y.take i) ++ (X.drop i ++ ((M ++ X.take i) ++ (Y.drop i ++ Q)))).map rnR).set p (rnR y)).set q (rnR x) = ((Pr ++ Y.take (i + 1)) ++ (X.drop (i + 1) ++ ((M ++ X.take (i + 1)) ++ (Y.drop (i + 1) ++ Q)))).map rnR := fun p q hp hq => by
      rw [map_swap (x := x) (y := y) (i := p) (j := q) hl1 (by rw [hUl]; omega) (by rw [hUl, hVl]; omega), htX, htY]
      simp
    have hML : (((Pr ++ Y.take i) ++ (X.drop i ++ ((M ++ X.take i) ++ (Y.drop i ++ Q)))).map rnR).length = N := by
      rw [hl1]
      simp only [List.length_map, List.length_append, List.length_cons, List.length_take, List.length_drop]
      omega
    generalize List.map rnR ((Pr ++ Y.take i) ++ (X.drop i ++ ((M ++ X.take i) ++ (Y.drop i ++ Q)))) = M0 at hrx hry hsw hML ⊢
    have hry2 : (M0.set (((Pr.length : Nat) : Int) + (i : Nat)).toNat (rnR y))[(((Pr.length + X.length + M.length : Nat) : Int) + (i : Nat)).toNat]? = some (rnR y) := by
      rw [List.getElem?_set_ne (by omega)]; exact hry
    (conv => whnf)
    refine ord_rule hty [0, 1, 2, 3, 4, 5, 6, 7, 8, 9, 10, 11, 12, 13, 14, 15, 16, 17, 18, 19, 20, 21, 22, 23] (by kernel_rfl) (by kernel_rfl) ?_
    ((conv => whnf); repeat' ((first | (intro hq; (try simp only [lnS] at hq); (try rewrite [List.length_map])) | refine sJ ?_ | refine .intro _ (.intro rfl ?_) | (refine .intro (show (_ : Nat) < List.length _ from by first | omega | (simp only [lnS]; omega) | simp) ?_) | (refine And.intro hML.symm ?_) | (refine And.intro ((List.length_set ..).trans hML).symm ?_) | (refine ⟨_, hrx, ?_⟩) | (refine ⟨_, hry, ?_⟩) | (refine ⟨_, hry2, ?_⟩) | (refine And.intro (leafD_of rfl) ?_) | refine draw_rule hty (by kernel_rfl) (by kernel_rfl) ?_ | ((first | refine brB_dec ?_ ?_ | refine brB_ndec ?_ ?_) <;> intro hb <;> (first | contradiction | ((try simp only [lnS] at hb); try (exfalso; omega)))) | (refine brB_split ?_ ?_ <;> intro hb <;> (first | contradiction | exact bT hb (by assumption) | exact bF hb (by assumption) | skip))) <;> (conv => whnf)))
    refine ⟨i + 1, by dsimp only; omega, by dsimp only; omega, (by repeat' (first | exact trivial | exact rfl | exact wkInt (by dsimp only; omega) | refine And.intro ?_ ?_)), ?_⟩
    have := hsw _ _ rfl rfl
    show (70, HObj.mrow _ 3 cap ((M0.set (((Pr.length : Nat) : Int) + (i : Nat)).toNat (rnR y)).set (((Pr.length + X.length + M.length : Nat) : Int) + (i : Nat)).toNat (rnR x))) :: rest = _
    rw [this]
  · have hie : i = X.length := by omega
    subst hie
    rw [List.drop_length, List.take_length, ← hXY, List.drop_length, List.take_length]
    ((conv => whnf); repeat' ((first | (intro hq; (try simp only [lnS] at hq); (try rewrite [List.length_map])) | refine sJ ?_ | refine .intro _ (.intro rfl ?_) | (refine .intro (show (_ : Nat) < List.length _ from by first | omega | (simp only [lnS]; omega) | simp) ?_) | fail | refine draw_rule hty (by kernel_rfl) (by kernel_rfl) ?_ | ((first | refine brB_dec ?_ ?_ | refine brB_ndec ?_ ?_) <;> intro hb <;> (first | contradiction | ((try simp only [lnS] at hb); try (exfalso; omega)))) | (refine brB_split ?_ ?_ <;> intro hb <;> (first | contradiction | exact bT hb (by assumption) | exact bF hb (by assumption) | skip))) <;> (conv => whnf)))
    have e : (Pr ++ Y) ++ ([] ++ ((M ++ X) ++ ([] ++ Q))) = Pr ++ (Y ++ (M ++ (X ++ Q))) := by simp
    rw [e]
    exact fin
set_option maxHeartbeats 8000000 in
theorem rotate_call {g : FuncId} (Pr A B Q : List Rn) (hA : A ≠ []) (hB : B ≠ []) {L : List Rn} (hL : L = Pr ++ (A ++ (B ++ Q))) (hl : L.length ≤ 1000000) {n : Nat} {a m b : Int} (hn : n = L.length) (ha : a = (Pr.length : Nat)) (hm : m = (Pr.length + A.length : Nat)) (hb : b = (Pr.length + A.length + B.length : Nat)) (cap : Nat) (rest : Hp) {pin : List Nat} {fr : Fr} {K : SV → Hp → Prop}
    (fin : K (oneOf []) ((70, .mrow 45 3 cap ((Pr ++ (B ++ (A ++ Q))).map rnR)) :: rest)) :
    CallVC Tryd.prog pin fr ((70, .mrow 45 3 cap (L.map rnR)) :: rest) 64 [.mw 70 3 n, .d (.int .i64 a), .d (.int .i64 m), .d (.int .i64 b), .fn g [] []] K := by
  subst hL; subst hn; subst ha; subst hb; subst hm
  have hlen : (Pr ++ (A ++ (B ++ Q))).length = Pr.length + (A.length + (B.length + Q.length)) := by simp only [List.length_append]
  generalize hN : (Pr ++ (A ++ (B ++ Q))).length = N at *
  have hA0 := List.length_pos_iff.2 hA
  have hB0 := List.length_pos_iff.2 hB
  refine call_inline hty Tryd.func64 rfl (kp [0, 1, 2, 3, 4, 10, 11, 20, 23]) 500 (by simp [Tryd.f64]) ?_
  ((conv => whnf); repeat ((first | (intro hq; try simp only [lnS] at hq) | refine sI ?_ | refine .intro _ (.intro rfl ?_)); (conv => whnf)))
  refine loop_eq hty (fun y : List Rn × List Rn × List Rn × List Rn => ([(0, .mw 70 3 N), (2, .d (.int .i64 (Pr.length + A.length : Nat))), (4, .fn g [] []), (10, .d (.int .i64 (y.2.1.length : Nat))), (11, .d (.int .i64 (y.2.2.1.length : Nat)))], (70, .mrow 45 3 cap ((y.1 ++ (y.2.1 ++ (y.2.2.1 ++ y.2.2.2))).map rnR)) :: rest))
    (fun y => (0 < y.2.1.length ∧ 0 < y.2.2.1.length) ∧ y.1.length + y.2.1.length = Pr.length + A.length ∧ y.1 ++ (y.2.2.1 ++ (y.2.1 ++ y.2.2.2)) = Pr ++ (B ++ (A ++ Q))) (fun y => y.2.1.length + y.2.2.1.length) (Pr, A, B, Q) ⟨⟨hA0, hB0⟩, rfl, rfl⟩ (by repeat' (first | exact trivial | exact rfl | exact wkInt (by dsimp only; omega) | refine And.intro ?_ ?_)) rfl ?_
  rintro ⟨P', U, V, Q'⟩ ⟨⟨hU0, hV0⟩, hm, ht⟩
  dsimp only at hU0 hV0 hm ht
  have hlen2 : (P' ++ (U ++ (V ++ Q'))).length = N := by
    have e1 := congrArg List.length ht
    simp only [List.length_append] at e1 ⊢
    omega
  ((conv => whnf); repeat ((first | (intro hq; try simp only [lnS] at hq) | refine sI ?_ | refine .intro _ (.intro rfl ?_)); (conv => whnf)))
  refine brB_ndec (fun h1 => ?_) (fun h1 => ?_)
  · dsimp only at h1
    ((conv => whnf); repeat ((first | (intro hq; try simp only [lnS] at hq) | refine sI ?_ | refine .intro _ (.intro rfl ?_)); (conv => whnf)))
    refine brB_dec (fun h2 => ?_) (fun h2 => ?_) <;> dsimp only at h2
    · have hUV : V.length < U.length := by omega
      have eU : U = U.take V.length ++ U.drop V.length := (List.take_append_drop _ _).symm
      have l1 : (U.take V.length).length = V.length := by rw [List.length_take]; omega
      have l2 : (U.drop V.length).length = U.length - V.length := List.length_drop
      generalize U.take V.length = U1 at eU l1
      generalize U.drop V.length = U2 at eU l2
      subst eU
      rw [List.length_append] at l2 hm hUV
      ((conv => whnf); repeat ((first | (intro hq; try simp only [lnS] at hq) | refine sI ?_ | refine .intro _ (.intro rfl ?_)); (conv => whnf)))
      refine swap_call P' U1 U2 V Q' l1.symm (by simp) (by rw [hlen2]; omega) hlen2.symm (by (try dsimp only); rw [List.length_append]; omega) (by (try dsimp only); omega) (by first | rfl | ((try dsimp only); omega)) cap rest ?_
      ((conv => whnf); repeat ((first | (intro hq; try simp only [lnS] at hq) | refine sI ?_ | refine .intro _ (.intro rfl ?_)); (conv => whnf)))
      refine ⟨(P' ++ V, U2, U1, Q'), ⟨⟨by dsimp only; omega, by dsimp only; omega⟩, by dsimp only; rw [List.length_append]; omega, ?_⟩, by dsimp only; rw [List.length_append]; omega, (by repeat' (first | exact trivial | exact rfl | exact wkInt (by dsimp only; (try rw [List.length_append]); omega) | refine And.intro ?_ ?_)), ?_⟩
      · dsimp only
        rw [← ht]; simp
      · dsimp only
        simp
    · have hUV : U.length < V.length := by omega
      have eV : V = V.take (V.length - U.length) ++ V.drop (V.length - U.length) := (List.take_append_drop _ _).symm
      have l1 : (V.take (V.length - U.length)).length = V.length - U.length := by rw [List.length_take]; omega
      have l2 : (V.drop (V.length - U.length)).length = U.length := by rw [List.length_drop]; omega
      generalize hk : V.length - U.length = k at eV l1 l2
      generalize V.take k = V1 at eV l1
      generalize V.drop k = V2 at eV l2
      subst eV
      rw [List.length_append] at hUV hk
      ((conv => whnf); repeat ((first | (intro hq; try simp only [lnS] at hq) | refine sI ?_ | refine .intro _ (.intro rfl ?_)); (conv => whnf)))
      refine swap_call P' U V1 V2 Q' l2 (by simp) (by rw [hlen2]; omega) hlen2.symm (by first | rfl | ((try dsimp only); omega)) (by (try dsimp only); rw [List.length_append]; omega) (by first | rfl | ((try dsimp only); omega)) cap rest ?_
      ((conv => whnf); repeat ((first | (intro hq; try simp only [lnS] at hq) | refine sI ?_ | refine .intro _ (.intro rfl ?_)); (conv => whnf)))
      refine ⟨(P', V2, V1, U ++ Q'), ⟨⟨by dsimp only; omega, by dsimp only; omega⟩, by dsimp only; omega, ?_⟩, by dsimp only; rw [List.length_append]; omega, (by repeat' (first | exact trivial | exact rfl | exact wkInt (by dsimp only; (try rw [List.length_append]); omega) | refine And.intro ?_ ?_)), ?_⟩
      · dsimp only
        rw [← ht]; simp
      · dsimp only
  · dsimp only at h1
    have hUV : U.length = V.length := by omega
    ((conv => whnf); repeat ((first | (intro hq; try simp only [lnS] at hq) | refine sI ?_ | refine .intro _ (.intro rfl ?_)); (conv => whnf)))
    refine swap_call P' U [] V Q' hUV.symm (by simp) (by rw [hlen2]; omega) hlen2.symm (by first | rfl | ((try dsimp only); omega)) (by (try dsimp only); rw [List.length_nil]; omega) (by first | rfl | ((try dsimp only); omega)) cap rest ?_
    ((conv => whnf); repeat ((first | (intro hq; try simp only [lnS] at hq) | refine sI ?_ | refine .intro _ (.intro rfl ?_)); (conv => whnf)))
    have e : P' ++ (V ++ ([] ++ (U ++ Q'))) = Pr ++ (B ++ (A ++ Q)) := by rw [← ht]; simp
    rw [e]
    exact fin
end Go.Proofs.YtnemengadjimcaaDoor
