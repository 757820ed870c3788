/-
  Rename: slices.CompactFunc over renamings; the sorted list without doubles. slices.Grow of nil: rows of the call's own with room. Rename: slices.Concat of renamings.
  Conditions: none.
-/
import Derived.Test.YtnemengadjimcaaDoorMRsc
import Derived.Test.YtnemengadjimcaaDoorMRf
import Derived.Test.YtnemengadjimcaaDoorMAm
import Derived.Test.YtnemengadjimcaaDoorMRe
import Derived.Test.YtnemengadjimcaaDoorMSna
import Derived.Shelf.Spec.SlicesGrow
import Derived.Test.YtnemengadjimcaaDoorMLzp
set_option linter.unnecessarySimpa false
set_option linter.unusedSectionVars false
set_option linter.unusedSimpArgs false
set_option linter.unusedVariables false
namespace Go.Proofs.YtnemengadjimcaaDoor
open Go.Proofs
set_option maxRecDepth 10000
attribute [local irreducible] SemVC CallVC Tri Stuck YVC GenP GenVC
def eqR (a b : Rn) : Bool := decide (cmpR a b = 0)
set_option maxHeartbeats 16000000 in
theorem rnCompact_call (g : FuncId) (O : HObj) (hcall : callable Tryd.prog g = true) (l : List Rn) (hlen : l.length ≤ 1000000) (hg : ∀ a ∈ l, ∀ b ∈ l, Tri Tryd.prog g [.d (.agg (rnR a)), .d (.agg (rnR b)), .ptr 3 0] [(3, O)] (fun r => r = .d (.bool (eqR a b))))
    (cap n : Nat) (hn : n = l.length) (hp1 : Hp) {pin : List Nat} {fr : Fr} {K : SV → Hp → Prop} (hpp : ∀ k, 100 ≤ k → k ∉ pin) (hf : ∀ k, 100 ≤ k → k ∉ idsF fr) (hh : ∀ k, 100 ≤ k → k ∉ idsH ((3, O) :: hp1)) (hno : getH ((3, O) :: hp1) 70 = none) (hsub : ∀ o, subH ((3, O) :: hp1) ((70, o) :: (3, O) :: hp1))
    (hk : ∀ cap', K (.mw 170 3 (dedF eqR l).length) ((170, .mrow 45 3 cap' ((dedF eqR l).map rnR)) :: (3, O) :: hp1)) :
    CallVC Tryd.prog pin fr ((70, .mrow 45 3 cap (l.map rnR)) :: (3, O) :: hp1) 22 [.mw 70 3 n, .fn g [] [.ptr 3 0]] K := by
  subst hn
  have fin : ∀ (rows : List (List D)) (s : SV) (k : Nat), (s = .ms 70 3 0 k l.length ∨ (s = .mw 70 3 l.length ∧ k = l.length)) → l.length = rows.length → k = (dedF eqR l).length → rows.take k = (dedF eqR l).map rnR → PartP pin fr K 170 s ((70, .mrow 45 3 cap rows) :: (3, O) :: hp1) := by
    intro rows s k h1 h2 h3 h4
    refine ⟨70, _, 3, cap, k, l.length, rows, (3, O) :: hp1, h1, rfl, h2, by rw [h3]; exact dedF_len _ _, ⟨hpp _ (by decide), hf _ (by decide), bigH (by decide) rfl hh _ (by decide)⟩, hsub _, hno, fun cap' => ?_⟩
    rw [h3] at h4 ⊢
    rw [h4]
    exact hk cap'
  refine CallVC.closeP 170 ?_
  refine call_inlineF false [] hty Tryd.func22 rfl (kp [0, 1, 4, 5, 6, 7, 10, 15, 28, 35, 49]) 200 (by simp [Tryd.f22]) ?_
  ((conv => whnf); repeat' ((first | (intro hq; (try simp only [lnS] at hq); (try rewrite [List.length_map])) | refine sJ ?_ | refine .intro _ (.intro rfl ?_) | (refine .intro (show (_ : Nat) < List.length _ from by first | omega | (simp only [lnS]; omega) | simp) ?_) | fail | refine draw_rule hty (by kernel_rfl) (by kernel_rfl) ?_ | ((first | refine brB_dec ?_ ?_ | refine brB_ndec ?_ ?_) <;> intro hb <;> (first | contradiction | ((try simp only [lnS] at hb); try (exfalso; omega)))) | (refine brB_split ?_ ?_ <;> intro hb <;> (first | contradiction | exact bT hb (by assumption) | exact bF hb (by assumption) | skip))) <;> (conv => whnf)))
  · have hd : dedF eqR l = l := dedF_short _ _ (by omega)
    exact fin _ _ l.length (.inr ⟨rfl, rfl⟩) (List.length_map ..).symm (by rw [hd]) (by rw [hd, List.take_of_length_le (by rw [List.length_map]; exact Nat.le_refl _)])
  · refine loop_eq hty (fun k : Nat => ([(0, .mw 70 3 l.length), (1, .fn g [] [.ptr 3 0]), (5, .d (.int .i64 k))], (70, .mrow 45 3 cap (l.map rnR)) :: (3, O) :: hp1)) (fun k => (1 ≤ k ∧ k ≤ l.length) ∧ dedF eqR (l.take k) = l.take k) (fun k => l.length - k) 1 ⟨by omega, dedF_short _ _ (by rw [List.length_take]; omega)⟩ (by repeat' (first | exact trivial | exact rfl | refine And.intro ?_ ?_)) rfl ?_
    rintro k ⟨⟨hk1, hkl⟩, hd⟩
    ((conv => whnf); repeat ((first | (intro hq; try simp only [lnS] at hq) | refine sI ?_ | refine .intro _ (.intro rfl ?_)); (conv => whnf)))
    refine brB_dec (fun h1 => ?_) (fun h1 => ?_)
    · have hkl' : k < l.length := by omega
      have hkp : k - 1 < l.length := by omega
      have hrow1 : (l.map rnR)[(k : Int).toNat]? = some (rnR l[k]) := rowC_at hkl'
      have hrow2 : (l.map rnR)[((k : Int) - 1).toNat]? = some (rnR l[k - 1]) := by
        rw [show ((k : Int) - 1).toNat = k - 1 by omega, List.getElem?_map, List.getElem?_eq_getElem hkp]; rfl
      have hgg := hg l[k] (List.getElem_mem hkl') l[k - 1] (List.getElem_mem hkp)
      have hdt := dedF_take eqR l (k - 1) (by omega)
      simp only [show k - 1 + 1 = k by omega, show k - 1 + 2 = k + 1 by omega] at hdt
      ((conv => whnf); repeat ((first | (intro hq; try simp only [lnS] at hq) | refine sI ?_ | refine .intro _ (.intro rfl ?_)); (conv => whnf)))
      refine draw_rule hty (by kernel_rfl) (by kernel_rfl) ?_
      ((conv => whnf); repeat ((first | (refine And.intro (List.length_map ..).symm ?_) | (refine ⟨_, hrow1, ?_⟩) | (refine ⟨_, hrow2, ?_⟩) | (refine ⟨hcall, .d (.bool _), _, [(3, O)], rfl, ⟨rfl, trivial⟩, hgg, ?_⟩) | (intro hq; try simp only [lnS] at hq) | refine sI ?_ | refine .intro _ (.intro rfl ?_)); (conv => whnf)))
      cases hb : eqR l[k] l[k - 1]
      · ((conv => whnf); repeat' ((first | (intro hq; (try simp only [lnS] at hq); (try rewrite [List.length_map])) | refine sJ ?_ | refine .intro _ (.intro rfl ?_) | (refine .intro (show (_ : Nat) < List.length _ from by first | omega | (simp only [lnS]; omega) | simp) ?_) | fail | refine draw_rule hty (by kernel_rfl) (by kernel_rfl) ?_ | ((first | refine brB_dec ?_ ?_ | refine brB_ndec ?_ ?_) <;> intro hb <;> (first | contradiction | ((try simp only [lnS] at hb); try (exfalso; omega)))) | (refine brB_split ?_ ?_ <;> intro hb <;> (first | contradiction | exact bT hb (by assumption) | exact bF hb (by assumption) | skip))) <;> (conv => whnf)))
        rw [hb, if_neg (by decide), hd] at hdt
        exact ⟨k + 1, ⟨⟨by omega, by omega⟩, by rw [hdt]; exact (List.take_succ_eq_append_getElem hkl').symm⟩, by dsimp only; omega, by repeat' (first | exact trivial | exact rfl | refine And.intro ?_ ?_), rfl⟩
      · rw [hb, if_pos rfl, hd] at hdt
        ((conv => whnf); repeat ((first | (refine slice_part hty rfl rfl rfl rfl rfl rfl ?_) | (intro hq; try simp only [lnS] at hq) | refine sI ?_ | refine .intro _ (.intro rfl ?_)); (conv => whnf)))
        rw [show ((k : Int)).toNat = k from rfl]
        refine loop_eq hty (fun y : Nat × Nat × List Rn => ([(0, .mw 70 3 l.length), (1, .fn g [] [.ptr 3 0]), (5, .d (.int .i64 y.2.1)), (6, .ms 70 3 k (l.length - k) l.length), (7, .d (.int .i64 y.1))], (70, .mrow 45 3 cap (y.2.2.map rnR)) :: (3, O) :: hp1))
          (fun y => (1 ≤ y.1 ∧ y.1 ≤ l.length - k) ∧ y.2.2.length = l.length ∧ (y.2.1 + 1 ≤ k + y.1 ∧ 1 ≤ y.2.1) ∧ y.2.2.take y.2.1 = dedF eqR (l.take (k + y.1)) ∧ y.2.2.drop (k + y.1 - 1) = l.drop (k + y.1 - 1)) (fun y => l.length - k - y.1) (1, k, l) ⟨by dsimp only; omega, rfl, by dsimp only; omega, hdt.symm, rfl⟩ (by repeat' (first | exact trivial | exact rfl | refine And.intro ?_ ?_)) rfl ?_
        rintro ⟨k2, m, q⟩ ⟨⟨hk21, hk2l⟩, hql, ⟨hm1, hm0⟩, ht, hdr⟩
        dsimp only at hk21 hk2l hql hm1 hm0 ht hdr
        ((conv => whnf); repeat ((first | (refine len_part hty rfl rfl rfl ?_) | (intro hq; try simp only [lnS] at hq) | refine sI ?_ | refine .intro _ (.intro rfl ?_)); (conv => whnf)))
        refine brB_dec (fun h2 => ?_) (fun h2 => ?_)
        · have hA : k + k2 < l.length := by dsimp only at h2; omega
          have hB : k + k2 - 1 < l.length := by omega
          have hml : m < q.length := by omega
          have eA : q[k + k2]'(hql ▸ hA) = l[k + k2] := getElem_take_drop hdr hql (by omega) hA
          have eB : q[k + k2 - 1]'(hql ▸ hB) = l[k + k2 - 1] := getElem_take_drop hdr hql (by omega) hB
          have hrowA : (q.map rnR)[k + (k2 : Int).toNat]? = some (rnR l[k + k2]) := by
            rw [Int.toNat_natCast, List.getElem?_map, List.getElem?_eq_getElem (hql ▸ hA), eA]; rfl
          have hrowB : (q.map rnR)[k + ((k2 : Int) - 1).toNat]? = some (rnR l[k + k2 - 1]) := by
            rw [show k + ((k2 : Int) - 1).toNat = k + k2 - 1 by omega, List.getElem?_map, List.getElem?_eq_getElem (hql ▸ hB), eB]; rfl
          have hrowM : (q.map rnR)[(m : Int).toNat]? = some (rnR q[m]) := rowC_at hml
          have hgg2 := hg l[k + k2] (List.getElem_mem hA) l[k + k2 - 1] (List.getElem_mem hB)
          have hdt2 := dedF_take eqR l (k + k2 - 1) (by omega)
          simp only [show k + k2 - 1 + 1 = k + k2 by omega, show k + k2 - 1 + 2 = k + (k2 + 1) by omega] at hdt2
          have hlq : l.length = (q.map rnR).length := by rw [List.length_map, hql]
          have hdr2 : q.drop (k + k2) = l.drop (k + k2) := by
            have := congrArg (List.drop 1) hdr
            rw [List.drop_drop, List.drop_drop, show k + k2 - 1 + 1 = k + k2 by omega] at this
            exact this
          ((conv => whnf); repeat ((first | (intro hq; try simp only [lnS] at hq) | refine sI ?_ | refine .intro _ (.intro rfl ?_)); (conv => whnf)))
          refine draw_rule hty (by kernel_rfl) (by kernel_rfl) ?_
          ((conv => whnf); repeat ((first | (refine And.intro hlq ?_) | (refine ⟨_, hrowA, ?_⟩) | (refine ⟨_, hrowB, ?_⟩) | (refine ⟨hcall, .d (.bool _), _, [(3, O)], rfl, ⟨rfl, trivial⟩, hgg2, ?_⟩) | (intro hq; try simp only [lnS] at hq) | refine sI ?_ | refine .intro _ (.intro rfl ?_)); (conv => whnf)))
          cases hb2 : eqR l[k + k2] l[k + k2 - 1]
          · ((conv => whnf); repeat' ((first | (intro hq; (try simp only [lnS] at hq); (try rewrite [List.length_map])) | refine sJ ?_ | refine .intro _ (.intro rfl ?_) | (refine .intro (show (_ : Nat) < List.length _ from by first | omega | (simp only [lnS]; omega) | simp) ?_) | (refine And.intro hlq ?_) | (refine ⟨_, hrowA, ?_⟩) | (refine ⟨_, hrowM, ?_⟩) | (refine And.intro (leafD_of rfl) ?_) | refine draw_rule hty (by kernel_rfl) (by kernel_rfl) ?_ | ((first | refine brB_dec ?_ ?_ | refine brB_ndec ?_ ?_) <;> intro hb <;> (first | contradiction | ((try simp only [lnS] at hb); try (exfalso; omega)))) | (refine brB_split ?_ ?_ <;> intro hb <;> (first | contradiction | exact bT hb (by assumption) | exact bF hb (by assumption) | skip))) <;> (conv => whnf)))
            rw [hb2, if_neg (by decide), ← ht] at hdt2
            refine ⟨(k2 + 1, m + 1, q.set m l[k + k2]), ⟨by dsimp only; omega, by dsimp only; rw [List.length_set]; exact hql, by dsimp only; omega, ?_, ?_⟩, by dsimp only; omega, by repeat' (first | exact trivial | exact rfl | refine And.intro ?_ ?_), ?_⟩
            · dsimp only
              rw [hdt2]
              exact take_set_succ _ hml
            · dsimp only
              rw [show k + (k2 + 1) - 1 = k + k2 by omega, List.drop_set_of_lt (by omega)]
              exact hdr2
            · dsimp only
              rw [List.map_set]
              rfl
          · ((conv => whnf); repeat' ((first | (intro hq; (try simp only [lnS] at hq); (try rewrite [List.length_map])) | refine sJ ?_ | refine .intro _ (.intro rfl ?_) | (refine .intro (show (_ : Nat) < List.length _ from by first | omega | (simp only [lnS]; omega) | simp) ?_) | fail | refine draw_rule hty (by kernel_rfl) (by kernel_rfl) ?_ | ((first | refine brB_dec ?_ ?_ | refine brB_ndec ?_ ?_) <;> intro hb <;> (first | contradiction | ((try simp only [lnS] at hb); try (exfalso; omega)))) | (refine brB_split ?_ ?_ <;> intro hb <;> (first | contradiction | exact bT hb (by assumption) | exact bF hb (by assumption) | skip))) <;> (conv => whnf)))
            rw [hb2, if_pos rfl] at hdt2
            exact ⟨(k2 + 1, m, q), ⟨by dsimp only; omega, hql, by dsimp only; omega, by dsimp only; rw [hdt2]; exact ht, by dsimp only; rw [show k + (k2 + 1) - 1 = k + k2 by omega]; exact hdr2⟩, by dsimp only; omega, by repeat' (first | exact trivial | exact rfl | refine And.intro ?_ ?_), rfl⟩
        · have hke : k + k2 = l.length := by dsimp only at h2; omega
          rw [hke, List.take_length] at ht
          have hlq : l.length = (q.map rnR).length := by rw [List.length_map, hql]
          have hmq : m + (l.length - m) = (q.map rnR).length := by rw [List.length_map, hql]; omega
          have hml := congrArg List.length ht
          rw [List.length_take, Nat.min_eq_left (by omega)] at hml
          ((conv => whnf); repeat' ((first | (intro hq; (try simp only [lnS] at hq); (try rewrite [List.length_map])) | refine sJ ?_ | refine .intro _ (.intro rfl ?_) | (refine .intro (show (_ : Nat) < List.length _ from by first | omega | (simp only [lnS]; omega) | simp) ?_) | (refine slice_part hty rfl rfl rfl rfl rfl rfl ?_) | (refine clear_part hty rfl rfl (by decide) rfl rfl rfl hlq hmq ?_) | refine draw_rule hty (by kernel_rfl) (by kernel_rfl) ?_ | ((first | refine brB_dec ?_ ?_ | refine brB_ndec ?_ ?_) <;> intro hb <;> (first | contradiction | ((try simp only [lnS] at hb); try (exfalso; omega)))) | (refine brB_split ?_ ?_ <;> intro hb <;> (first | contradiction | exact bT hb (by assumption) | exact bF hb (by assumption) | skip))) <;> (conv => whnf)))
          refine fin _ _ m (.inl rfl) ?_ hml ?_
          · simp only [List.length_append, List.length_take, List.length_replicate, List.length_map]
            show l.length = min m q.length + (l.length - m)
            omega
          · show ((q.map rnR).take m ++ _).take m = _
            rw [List.take_append_of_le_length (by rw [List.length_take, List.length_map]; omega), List.take_take, Nat.min_self, ← List.map_take, ht]
    · have hkl' : k = l.length := by omega
      subst hkl'
      rw [List.take_length] at hd
      ((conv => whnf); repeat' ((first | (intro hq; (try simp only [lnS] at hq); (try rewrite [List.length_map])) | refine sJ ?_ | refine .intro _ (.intro rfl ?_) | (refine .intro (show (_ : Nat) < List.length _ from by first | omega | (simp only [lnS]; omega) | simp) ?_) | fail | refine draw_rule hty (by kernel_rfl) (by kernel_rfl) ?_ | ((first | refine brB_dec ?_ ?_ | refine brB_ndec ?_ ?_) <;> intro hb <;> (first | contradiction | ((try simp only [lnS] at hb); try (exfalso; omega)))) | (refine brB_split ?_ ?_ <;> intro hb <;> (first | contradiction | exact bT hb (by assumption) | exact bF hb (by assumption) | skip))) <;> (conv => whnf)))
      exact fin _ _ l.length (.inr ⟨rfl, rfl⟩) (List.length_map ..).symm (by rw [hd]) (by rw [hd, List.take_of_length_le (by rw [List.length_map]; exact Nat.le_refl _)])
theorem CallVC.nilM {P : Program} {pin : List Nat} {fr : Fr} {hp : Hp} {f : FuncId} {args : List SV} {K : SV → Hp → Prop} (id e z : Nat)
    (h : CallVC P pin fr hp f args fun s hp' => (s = .d .nil ∧ fresh id pin fr hp' ∧ K (.mw id z 0) ((id, .mrow e z 0 []) :: hp')) ∨ K s hp') : CallVC P pin fr hp f args K := by
  unfold CallVC at *
  intro E ρ0 w0 tm hpin h30 h40 vs hargs
  refine (h E ρ0 w0 tm hpin h30 h40 vs hargs).mono ?_
  rintro e0 w ⟨v, ρ, s, hp1, rfl, ⟨rfl, ⟨f1, f2, f3⟩, hk⟩ | hk, h3, h4, hr⟩
  · obtain ⟨m1, m2, m3⟩ := h3.newMrow (id := id) (e := e) (z := z) (cap := 0) (rows := []) (v := .slice none 0 0) f3 (by rw [hpin]; exact f1) (Grew.refl w) (.inl ⟨rfl, rfl, none, rfl⟩) (fun g hg => by simp [mblk] at hg)
    have ev := hr.nil_inv
    subst ev
    exact ⟨_, _, _, _, rfl, hk, m1, h4.mono m2 (fun _ _ x => x) fun i hi => m3 i fun e => f2 (e ▸ hi), .mw id z 0 0 none (by simp) (by simp) (fun h => absurd rfl h) (by simp [Env.retop]) (by simp [Env.retop])⟩
  · exact ⟨v, ρ, s, hp1, rfl, hk, h3, h4, hr⟩
theorem cmpR_key {a b x : Rn} (h : keyO a = keyO b) : cmpR a x = cmpR b x := by
  unfold keyO at h
  rw [Prod.mk.injEq] at h
  unfold cmpR
  rw [h.1, h.2]
structure Sd (l x : List Rn) : Prop where
  str : x.Pairwise fun a b => cmpR a b < 0
  sub : ∀ r ∈ x, r ∈ l
  key : ∀ r ∈ l, ∃ q ∈ x, keyO q = keyO r
  len : x.length ≤ l.length
theorem dedT_rn : ∀ (p : Rn) (l : List Rn), (p :: l).Pairwise (fun a b => ¬ cmpR b a < 0) → (∀ x ∈ dedT eqR p l, cmpR p x < 0) ∧ (dedT eqR p l).Pairwise (fun a b => cmpR a b < 0) ∧ (∀ x ∈ dedT eqR p l, x ∈ l) ∧ ∀ x ∈ p :: l, ∃ q ∈ p :: dedT eqR p l, keyO q = keyO x
  | p, [], _ => ⟨by simp [dedT], by simp [dedT], by simp [dedT], fun x hx => ⟨p, by simp, by simp at hx; rw [hx]⟩⟩
  | p, b :: r, h => by
    have h1 := List.pairwise_cons.1 h
    obtain ⟨i1, i2, i3, i4⟩ := dedT_rn b r h1.2
    rw [dedT]
    by_cases he : cmpR b p = 0
    · have hk := cmpR_zero.1 he
      rw [if_pos (by simp [eqR, he])]
      refine ⟨fun x hx => by rw [← cmpR_key hk]; exact i1 x hx, i2, fun x hx => List.mem_cons_of_mem _ (i3 x hx), fun x hx => ?_⟩
      rcases List.mem_cons.1 hx with rfl | hx
      · exact ⟨x, by simp, rfl⟩
      · obtain ⟨q, hq, e⟩ := i4 x hx
        rcases List.mem_cons.1 hq with rfl | hq
        · exact ⟨p, by simp, hk.symm.trans e⟩
        · exact ⟨q, List.mem_cons_of_mem _ hq, e⟩
    · rw [if_neg (by simp [eqR, he])]
      have hlt : cmpR p b < 0 := by
        have := h1.1 b (by simp)
        have := cmpR_lc.anti p b
        omega
      refine ⟨fun x hx => ?_, List.pairwise_cons.2 ⟨i1, i2⟩, fun x hx => ?_, fun x hx => ?_⟩
      · rcases List.mem_cons.1 hx with rfl | hx
        · exact hlt
        · exact cmpR_tr hlt (i1 x hx)
      · rcases List.mem_cons.1 hx with rfl | hx
        · simp
        · exact List.mem_cons_of_mem _ (i3 x hx)
      · rcases List.mem_cons.1 hx with rfl | hx
        · exact ⟨x, by simp, rfl⟩
        · obtain ⟨q, hq, e⟩ := i4 x hx
          exact ⟨q, List.mem_cons_of_mem _ hq, e⟩
theorem sd_of {l S : List Rn} (hp : S.Perm l) (hs : Srt cmpR S) : Sd l (dedF eqR S) := by
  have hl := dedF_len eqR S
  rw [hp.length_eq] at hl
  cases S with
  | nil =>
    have := hp.symm.eq_nil
    subst this
    exact ⟨.nil, by simp [dedF], by simp, hl⟩
  | cons a r =>
    obtain ⟨i1, i2, i3, i4⟩ := dedT_rn a r hs
    refine ⟨List.pairwise_cons.2 ⟨i1, i2⟩, fun x hx => hp.mem_iff.1 ?_, fun x hx => i4 x (hp.mem_iff.2 hx), hl⟩
    rcases List.mem_cons.1 hx with rfl | hx
    · simp
    · exact List.mem_cons_of_mem _ (i3 x hx)
theorem rnClone_call (l : List Rn) (hl : l.length ≤ 1000000) {pin : List Nat} {fr : Fr} {hp : Hp} {K : SV → Hp → Prop} (hfr : fresh 70 pin fr hp)
    (hk : ∀ cap, K (.mw 70 3 l.length) ((70, .mrow 45 3 cap (l.map rnR)) :: hp)) :
    CallVC Tryd.prog pin fr hp 20 [.d (rnL l)] K := by
  refine CallVC.nilM 70 45 3 ?_
  refine call_inlineZ true hty Tryd.func20 rfl (kp [0, 2, 4]) 63 (by simp [Tryd.f20]) ?_
  obtain ⟨f1, f2, f3⟩ := hfr
  ((conv => whnf); repeat' ((first | (intro hq; (try simp only [lnS] at hq); (try rewrite [List.length_map])) | refine sJ ?_ | refine .intro _ (.intro rfl ?_) | (refine .intro (show (_ : Nat) < List.length _ from by first | omega | (simp only [lnS]; omega) | simp) ?_) | fail | refine draw_rule hty (by kernel_rfl) (by kernel_rfl) ?_ | ((first | refine brB_dec ?_ ?_ | refine brB_ndec ?_ ?_) <;> intro hb <;> (first | contradiction | ((try simp only [lnS] at hb); try (exfalso; omega)))) | (refine brB_split ?_ ?_ <;> intro hb <;> (first | contradiction | exact bT hb (by assumption) | exact bF hb (by assumption) | skip))) <;> (conv => whnf)))
  · rename_i b
    have e := hq hb
    have e : l = [] := List.map_eq_nil_iff.1 e
    subst e
    exact .inl ⟨rfl, ⟨f1, f2, f3⟩, hk 0⟩
  · refine ⟨⟨by rw [List.mem_append]; exact fun h => h.elim f1 f2, ?_, f3⟩, ?_, ?_, fun cap hc => ?_⟩
    · simp [idsF_nil, idsF_cons, SV.ids, ids_ofV]
    · rw [List.length_map]; omega
    · show (l.map rnR).length * 40 ≤ 140737488355328
      rw [List.length_map]; omega
    · ((conv => whnf); repeat ((first | (intro hq; try simp only [lnS] at hq) | refine sI ?_ | refine .intro _ (.intro rfl ?_)); (conv => whnf)))
      rw [List.length_map]
      exact .inr (hk cap)
theorem sorted1_spec (x y : Rn) : Tri Tryd.prog 23 [.d (.agg (rnR x)), .d (.agg (rnR y)), .ptr 3 0] [(3, .cells 47 [.fn 14 [] []])] (fun r => r = .d (.bool (eqR x y))) := by
  have c := rnCompare_spec x y
  refine tri_of_bodyO 10 false [3, 4] hty Tryd.func23 rfl (kp [0, 1, 2, 3, 4, 5]) [] _ _ _ (by simp [Tryd.f23]) (by simp) ?_
  ((conv => whnf); repeat' ((first | (intro hq; (try simp only [lnS] at hq); (try rewrite [List.length_map])) | refine sJ ?_ | refine .intro _ (.intro rfl ?_) | (refine .intro (show (_ : Nat) < List.length _ from by first | omega | (simp only [lnS]; omega) | simp) ?_) | (refine call_tri [] c trivial (fun r hs => ?_); subst hs) | refine draw_rule hty (by kernel_rfl) (by kernel_rfl) ?_ | ((first | refine brB_dec ?_ ?_ | refine brB_ndec ?_ ?_) <;> intro hb <;> (first | contradiction | ((try simp only [lnS] at hb); try (exfalso; omega)))) | (refine brB_split ?_ ?_ <;> intro hb <;> (first | contradiction | exact bT hb (by assumption) | exact bF hb (by assumption) | skip))) <;> (conv => whnf)))
  rfl
theorem rnSorted_spec (l : List Rn) (hl : l.length ≤ 100000) : Tri Tryd.prog 12 [.d (rnL l), .fn 14 [] []] [] (fun r => ∃ x, Sd l x ∧ r = .d (rnL x)) := by
  refine tri_of_bodyF false [] hty Tryd.func12 rfl (kp [0, 1, 3, 4]) [] _ _ _ (by simp [Tryd.f12]) (by simp) ?_
  ((conv => whnf); repeat ((first | (intro hq; try simp only [lnS] at hq) | refine sI ?_ | refine .intro _ (.intro rfl ?_)); (conv => whnf)))
  refine rnClone_call l (by omega) (fresh_of (by with_unfolding_all exact rfl)) (fun cap => ?_)
  ((conv => whnf); repeat ((first | (intro hq; try simp only [lnS] at hq) | refine sI ?_ | refine .intro _ (.intro rfl ?_)); (conv => whnf)))
  refine sortStable_call ⟨rfl, cmpR_lc.ord, rnCompare_spec⟩ l hl rfl cap _ (fun S hS hs => ?_)
  ((conv => whnf); repeat ((first | (intro hq; try simp only [lnS] at hq) | refine sI ?_ | refine .intro _ (.intro rfl ?_)); (conv => whnf)))
  have hll := hS.length_eq
  refine rnCompact_call 23 (.cells 47 [.fn 14 [] []]) (by kernel_rfl) S (by omega) (fun a _ b _ => sorted1_spec a b) cap _ hll.symm [] (by simp) (bigF (by with_unfolding_all exact rfl)) (by simp [idsH, HObj.ids, SV.idsL, SV.ids]; omega) rfl (fun o => ⟨rfl, trivial⟩) (fun cap' => ?_)
  have hdl := dedF_len eqR S
  ((conv => whnf); repeat' ((first | (intro hq; (try simp only [lnS] at hq); (try rewrite [List.length_map])) | refine sJ ?_ | refine .intro _ (.intro rfl ?_) | (refine .intro (show (_ : Nat) < List.length _ from by first | omega | (simp only [lnS]; omega) | simp) ?_) | fail | refine draw_rule hty (by kernel_rfl) (by kernel_rfl) ?_ | ((first | refine brB_dec ?_ ?_ | refine brB_ndec ?_ ?_) <;> intro hb <;> (first | contradiction | ((try simp only [lnS] at hb); try (exfalso; omega)))) | (refine brB_split ?_ ?_ <;> intro hb <;> (first | contradiction | exact bT hb (by assumption) | exact bF hb (by assumption) | skip))) <;> (conv => whnf)))
  exact ⟨(List.length_map ..).symm, rfl, _, sd_of hS hs, rfl⟩
end Go.Proofs.YtnemengadjimcaaDoor
namespace Go.Proofs.YtnemengadjimcaaDoor
open Go.RowKit Go.Shelf Go.Proofs
section
variable {P : Program}
theorem CallVC.growNil {r : Ren} (L : Lays8.n4 P r) {T : TI} {dd : TypeDesc} {i : TypeInfo} {zv : Value} (hT : TIok P (r.t 25) T dd i zv) (hpos : 0 < T.size) {pin : List Nat} {fr : Fr} {hp : Hp} {K : SV → Hp → Prop} (id n : Nat) (hn : n * T.bytes ≤ 140737488355328) (h63 : n ≤ 4611686018427387904) (hfr : fresh id pin fr hp)
    (hk : ∀ cap, K (.mw id T.size 0) ((id, .mrow (r.t 25) T.size cap []) :: hp)) : CallVC P pin fr hp (r.f 4) [.d .nil, .d (.int .i64 n)] K := by
  intro E ρ w tm hpin hm hf vs hargs
  obtain ⟨ha1, ha2⟩ := hargs
  obtain ⟨f1, f2, f3⟩ := hfr
  have hv : ∃ v0 v1, vs = #[v0, v1] := by
    rcases vs with ⟨l⟩
    match l, ha1 with
    | [a, b], _ => exact ⟨a, b, rfl⟩
  obtain ⟨v0, v1, rfl⟩ := hv
  have e0 := (ha2 0 _ v0 rfl rfl).nil_inv
  have e1 := (ha2 1 _ v1 rfl rfl).int_inv
  subst e0 e1
  rcases Nat.eq_zero_or_pos n with h0 | h0
  · subst h0
    refine (Any8.slices_Grow_room L none 0 0 0 w (by omega) (by omega) (by omega) (by omega)).mono ?_
    rintro e w' ⟨rfl, rfl⟩
    obtain ⟨m1, m2, m3⟩ := hm.newMrow (id := id) (e := r.t 25) (z := T.size) (cap := 0) (rows := []) (v := .slice none 0 0) f3 (by rw [hpin]; exact f1) (Grew.refl w') (.inl ⟨rfl, rfl, none, rfl⟩) (fun g hg => by simp [mblk] at hg)
    exact ⟨_, _, _, _, rfl, hk 0, m1, hf.mono m2 (fun _ _ x => x) fun j hi => m3 j fun e => f2 (e ▸ hi), .mw id _ 0 0 none (by simp) (by simp) (fun h => absurd rfl h) (by simp [Env.retop]) (by simp [Env.retop])⟩
  · refine (Any8.slices_Grow_grow L i zv hT.info hT.zero (by rw [hT.size]; exact hpos) none 0 0 n [] w (by omega) (by omega) (by rw [hT.bytes, Nat.zero_add]; exact hn) (by omega) (by simp) (fun _ => rfl) (fun a h => by cases h)).mono ?_
    rintro e w' ⟨rfl, hw⟩
    simp only [Nat.zero_add, Nat.sub_zero] at hw ⊢
    have hge := grownCap_ge w n 0 (r.t 25)
    have hle : grownCap w n 0 (r.t 25) ≤ maxLen := grownCap_le_maxLen w n 0 (r.t 25) (by simp only [maxLen]; omega)
    obtain ⟨G, hG⟩ : ∃ G, G = grownCap w n 0 (r.t 25) := ⟨_, rfl⟩
    rw [← hG] at hge hle hw ⊢
    have h1 : zv.cells.size = T.size := by rw [hT.cells, hT.size]
    obtain ⟨cur, hc⟩ : ∃ cur, cur = (([] : List Value).toArray ++ Builtin.zeroCells zv.cells n ++ Builtin.zeroCells zv.cells (G - n)) := ⟨_, rfl⟩
    rw [← hc] at hw
    subst hw
    have hsz : cur.size = G * T.size := by
      rw [hc, Array.size_append, Array.size_append, size_zeroCells, size_zeroCells, h1, List.size_toArray, List.length_nil, Nat.zero_add, ← Nat.add_mul]
      congr 1; omega
    have hmut : MutAt (w.drew.alloc (.cells cur (r.t 25))) ρ.S (r.t 25) T.size G [] (.slice (some ⟨w.heap.size, 0, none⟩) 0 G) :=
      .inr ⟨by omega, w.heap.size, cur, rfl, heap_alloc_new w.drew _, by simp, hle, hsz, ⟨by simp, by simp, by simp, by simp⟩, fun j hj => by have := hm.slt _ j hj; omega⟩
    obtain ⟨m1, m2, m3⟩ := hm.newMrow (id := id) f3 (by rw [hpin]; exact f1) ((Grew.drew w).trans (Grew.alloc w.drew _)) hmut (fun g hg => by
        simp [mblk] at hg
        omega)
    exact ⟨_, _, _, _, rfl, hk G, m1, hf.mono m2 (fun _ _ x => x) fun j hi => m3 j fun e => f2 (e ▸ hi), .mw id _ 0 G _ (by simp) hle (fun _ => ⟨_, rfl⟩) (by simp [Env.retop]) (by simp [Env.retop])⟩
end
end Go.Proofs.YtnemengadjimcaaDoor
namespace Go.Proofs.YtnemengadjimcaaDoor
open Go.Proofs
set_option maxRecDepth 10000
attribute [local irreducible] SemVC CallVC Tri Stuck YVC GenP GenVC
theorem growRn_n : Tryd.growRn_ren.f 4 = 24 := rfl
theorem growRn_t : Tryd.growRn_ren.t 25 = 45 := rfl
theorem rnGrow_call (n : Nat) (hn : n ≤ 1000000) {pin : List Nat} {fr : Fr} {hp : Hp} {K : SV → Hp → Prop} (hfr : fresh 70 pin fr hp) (hk : ∀ cap, K (.mw 70 3 0) ((70, .mrow 45 3 cap []) :: hp)) :
    CallVC Tryd.prog pin fr hp 24 [.d .nil, .d (.int .i64 n)] K := by
  have h0 : ty 45 = some ⟨.struct [(3, 0), (9, 1), (9, 2)], 3, 40, [.int .i64 0, .str [], .str []]⟩ := rfl
  obtain ⟨dd, i, zv, hT⟩ := tiOf_ok (hty _ _ h0)
  have L := Tryd.growRn
  rw [← growRn_n]
  rw [← growRn_t] at hT hk
  exact CallVC.growNil L hT (by decide) 70 n (by show n * 40 ≤ 140737488355328; omega) (by omega) hfr hk
def catR (l : List Rn) : List D := [rnL l]
def catL (ls : List (List Rn)) : D := .sl 1 (ls.map catR)
theorem flat_take {ls : List (List Rn)} {j : Nat} (h : j < ls.length) : (ls.take (j + 1)).flatten = (ls.take j).flatten ++ ls[j] := by
  rw [List.take_succ_eq_append_getElem h, List.flatten_append]; simp
theorem flat_le (ls : List (List Rn)) (j : Nat) : (ls.take j).flatten.length ≤ ls.flatten.length := by
  conv => rhs; rw [← List.take_append_drop j ls, List.flatten_append, List.length_append]
  omega
set_option maxHeartbeats 8000000 in
theorem rnConcat_spec (ls : List (List Rn)) (h : ls.flatten.length ≤ 1000000) (hl : ls.length ≤ 1000000) : Tri Tryd.prog 13 [.d (catL ls)] [] (fun r => r = .d (rnL ls.flatten)) := by
  refine tri_of_bodyF false [] hty Tryd.func13 rfl (kp [0, 2, 3, 5, 6, 8, 9, 10, 11, 12, 20, 25, 26, 27, 28]) [] _ _ _ (by simp [Tryd.f13]) (by simp) ?_
  ((conv => whnf); repeat ((first | (intro hq; try simp only [lnS] at hq) | refine sI ?_ | refine .intro _ (.intro rfl ?_)); (conv => whnf)))
  refine loop_rule hty (fun j : Nat => ([(0, .d (catL ls)), (3, .d (.int .i64 (ls.take j).flatten.length)), (9, .d (catL ls)), (10, .d (.int .i64 ls.length)), (11, .d (.int .i64 j))], [])) (fun j => j ≤ ls.length) (fun j => ls.length - j) 0 (by omega) ⟨by repeat' (first | exact trivial | exact rfl | (rw [List.length_map]; exact rfl) | refine And.intro ?_ ?_), trivial⟩ ?_
  rintro j hj
  ((conv => whnf); repeat ((first | (intro hq; try simp only [lnS] at hq) | refine sI ?_ | refine .intro _ (.intro rfl ?_)); (conv => whnf)))
  refine brB_dec (fun h1 => ?_) (fun h1 => ?_)
  · have hjl : j < ls.length := by omega
    have hrow : (ls.map catR)[(j : Int).toNat]? = some (catR ls[j]) := rowC_at hjl
    have hft := flat_take hjl
    have hfl := flat_le ls (j + 1)
    generalize ls[j] = x at hrow hft
    have hcast : (((ls.take (j + 1)).flatten.length : Nat) : Int) = ((ls.take j).flatten.length : Nat) + (x.length : Nat) := by
      rw [hft, List.length_append]; omega
    ((conv => whnf); repeat' ((first | (intro hq; (try simp only [lnS] at hq); (try rewrite [List.length_map])) | refine sJ ?_ | refine .intro _ (.intro rfl ?_) | (refine .intro (show (_ : Nat) < List.length _ from by first | omega | (simp only [lnS]; omega) | simp) ?_) | (refine ⟨_, hrow, ?_⟩) | refine draw_rule hty (by kernel_rfl) (by kernel_rfl) ?_ | ((first | refine brB_dec ?_ ?_ | refine brB_ndec ?_ ?_) <;> intro hb <;> (first | contradiction | ((try simp only [lnS] at hb); try (exfalso; omega)))) | (refine brB_split ?_ ?_ <;> intro hb <;> (first | contradiction | exact bT hb (by assumption) | exact bF hb (by assumption) | skip))) <;> (conv => whnf)))
    refine ⟨j + 1, by dsimp only; omega, by dsimp only; omega, ⟨?_, trivial⟩⟩
    dsimp only
    rw [hcast]
    repeat' (first | exact trivial | exact rfl | refine And.intro ?_ ?_)
  have hjl : j = ls.length := by omega
  subst hjl
  rw [List.take_length]
  ((conv => whnf); repeat ((first | (intro hq; try simp only [lnS] at hq) | refine sI ?_ | refine .intro _ (.intro rfl ?_)); (conv => whnf)))
  refine rnGrow_call _ h (fresh_of (by with_unfolding_all exact rfl)) (fun cap => ?_)
  ((conv => whnf); repeat ((first | (intro hq; try simp only [lnS] at hq) | refine sI ?_ | refine .intro _ (.intro rfl ?_)); (conv => whnf)))
  refine loop_rule hty (fun y : Nat × Nat => ([(6, .mw 70 3 (ls.take y.1).flatten.length), (25, .d (catL ls)), (26, .d (.int .i64 ls.length)), (27, .d (.int .i64 y.1))], [(70, .mrow 45 3 y.2 ((ls.take y.1).flatten.map rnR))])) (fun y => y.1 ≤ ls.length) (fun y => ls.length - y.1) (0, cap) (by dsimp only; omega) ⟨by repeat' (first | exact trivial | exact rfl | (rw [List.length_map]; exact rfl) | refine And.intro ?_ ?_), ⟨rfl, trivial⟩⟩ ?_
  rintro ⟨j, cap⟩ hj
  dsimp only at hj
  ((conv => whnf); repeat ((first | (intro hq; try simp only [lnS] at hq) | refine sI ?_ | refine .intro _ (.intro rfl ?_)); (conv => whnf)))
  refine brB_dec (fun h1 => ?_) (fun h1 => ?_)
  · have hjl : j < ls.length := by dsimp only at h1; omega
    have hrow : (ls.map catR)[(j : Int).toNat]? = some (catR ls[j]) := rowC_at hjl
    have hft := flat_take hjl
    have hfl := flat_le ls (j + 1)
    generalize ls[j] = x at hrow hft
    rw [hft, List.length_append] at hfl
    ((conv => whnf); repeat' ((first | (intro hq; (try simp only [lnS] at hq); (try rewrite [List.length_map])) | refine sJ ?_ | refine .intro _ (.intro rfl ?_) | (refine .intro (show (_ : Nat) < List.length _ from by first | omega | (simp only [lnS]; omega) | simp) ?_) | (refine ⟨_, hrow, ?_⟩) | refine draw_rule hty (by kernel_rfl) (by kernel_rfl) ?_ | ((first | refine brB_dec ?_ ?_ | refine brB_ndec ?_ ?_) <;> intro hb <;> (first | contradiction | ((try simp only [lnS] at hb); try (exfalso; omega)))) | (refine brB_split ?_ ?_ <;> intro hb <;> (first | contradiction | exact bT hb (by assumption) | exact bF hb (by assumption) | skip))) <;> (conv => whnf)))
    refine ⟨(List.length_map ..).symm, by simp only [List.length_map]; omega, ?_, fun cap' hc => ?_⟩
    · show (((ls.take j).flatten.map rnR).length + (x.map rnR).length) * 40 ≤ 140737488355328
      simp only [List.length_map]; omega
    · ((conv => whnf); repeat ((first | (intro hq; try simp only [lnS] at hq) | refine sI ?_ | refine .intro _ (.intro rfl ?_)); (conv => whnf)))
      refine ⟨(j + 1, cap'), by dsimp only; omega, by dsimp only; omega, ?_, ?_⟩
      · repeat' (first | exact trivial | exact rfl | exact wkMw (by (try dsimp only); rw [hft]; simp only [List.length_append, List.length_map]) | refine And.intro ?_ ?_)
      · dsimp only
        rw [hft, List.map_append]
        repeat' (first | exact trivial | exact rfl | refine And.intro ?_ ?_)
  · have hjl : j = ls.length := by dsimp only at h1; omega
    subst hjl
    rw [List.take_length]
    ((conv => whnf); repeat' ((first | (intro hq; (try simp only [lnS] at hq); (try rewrite [List.length_map])) | refine sJ ?_ | refine .intro _ (.intro rfl ?_) | (refine .intro (show (_ : Nat) < List.length _ from by first | omega | (simp only [lnS]; omega) | simp) ?_) | fail | refine draw_rule hty (by kernel_rfl) (by kernel_rfl) ?_ | ((first | refine brB_dec ?_ ?_ | refine brB_ndec ?_ ?_) <;> intro hb <;> (first | contradiction | ((try simp only [lnS] at hb); try (exfalso; omega)))) | (refine brB_split ?_ ?_ <;> intro hb <;> (first | contradiction | exact bT hb (by assumption) | exact bF hb (by assumption) | skip))) <;> (conv => whnf)))
    refine ⟨(List.length_map ..).symm, ?_⟩
    ((conv => whnf); repeat ((first | (intro hq; try simp only [lnS] at hq) | refine sI ?_ | refine .intro _ (.intro rfl ?_)); (conv => whnf)))
    rfl
end Go.Proofs.YtnemengadjimcaaDoor
