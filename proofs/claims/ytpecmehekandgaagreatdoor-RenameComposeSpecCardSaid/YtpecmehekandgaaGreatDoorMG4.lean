/-
  Names: the walks through the reference's functions that tell which strings are names.
  Conditions: none.
-/
import Derived.Test.YtpecmehekandgaaGreatDoorMG2
import Derived.Test.YtpecmehekandgaaGreatDoorMGr
set_option linter.unnecessarySimpa false
set_option linter.unusedSectionVars false
set_option linter.unusedSimpArgs false
set_option linter.unusedVariables false
namespace Go.Proofs.YtpecmehekandgaaGreatDoor
open Go.Proofs
set_option maxRecDepth 10000
attribute [local irreducible] SemVC CallVC Tri Stuck
theorem rletter_spec (c : UInt8) : Tri Tryz.prog 116 [byteV c] [] (fun r => r = .d (.bool (letC c))) := by
  refine tri_of_body hty Tryz.func116 rfl (kp [0, 2]) [] _ _ _ (by simp [Tryz.f116]) (by simp) ?_
  ((conv => whnf); repeat' ((first | (intro hq; (try simp only [lnS] at hq); (try rewrite [List.length_map])) | refine sJ ?_ | refine .intro _ (.intro rfl ?_) | (refine .intro (show (_ : Nat) < List.length _ from by first | omega | (simp only [lnS]; omega) | simp) ?_) | fail | refine draw_rule hty (by kernel_rfl) (by kernel_rfl) ?_ | ((first | refine brB_dec ?_ ?_ | refine brB_ndec ?_ ?_) <;> intro hb <;> (first | contradiction | ((try simp only [lnS] at hb); try (exfalso; omega)))) | (refine brB_split ?_ ?_ <;> intro hb <;> (first | contradiction | exact bT hb (by assumption) | exact bF hb (by assumption) | skip))) <;> (conv => whnf)))
  all_goals (refine bool_eq (Bool.eq_iff_iff.2 ?_); simp only [letC, Bool.or_eq_true, decide_eq_true_eq, true_iff, false_iff, Bool.false_eq_true]; omega)
theorem rinner_spec (c : UInt8) : Tri Tryz.prog 118 [byteV c] [] (fun r => r = .d (.bool (tailC c))) := by
  refine tri_of_body hty Tryz.func118 rfl (kp [0, 2]) [] _ _ _ (by simp [Tryz.f118]) (by simp) ?_
  ((conv => whnf); repeat' ((first | (intro hq; (try simp only [lnS] at hq); (try rewrite [List.length_map])) | refine sJ ?_ | refine .intro _ (.intro rfl ?_) | (refine .intro (show (_ : Nat) < List.length _ from by first | omega | (simp only [lnS]; omega) | simp) ?_) | (refine call_tri [] (rletter_spec c) trivial (fun s hs => ?_); subst hs) | refine draw_rule hty (by kernel_rfl) (by kernel_rfl) ?_ | ((first | refine brB_dec ?_ ?_ | refine brB_ndec ?_ ?_) <;> intro hb <;> (first | contradiction | ((try simp only [lnS] at hb); try (exfalso; omega)))) | (refine brB_split ?_ ?_ <;> intro hb <;> (first | contradiction | exact bT hb (by assumption) | exact bF hb (by assumption) | skip))) <;> (conv => whnf)))
  all_goals (refine bool_eq (Bool.eq_iff_iff.2 ?_); simp only [tailC, *, Bool.or_eq_true, decide_eq_true_eq, true_iff, false_iff, Bool.false_eq_true, true_or, or_true, false_or]; try omega)
theorem rWord_spec (s : List UInt8) : Tri Tryz.prog 95 [.d (.str s)] [] (fun r => r = .d (.bool (wordF s))) := by
  cases s with
  | nil =>
    refine tri_of_body hty Tryz.func95 rfl (kp [0, 2, 3, 16, 20, 27]) [] _ _ _ (by simp [Tryz.f95]) (by simp) ?_
    ((conv => whnf); repeat' ((first | (intro hq; (try simp only [lnS] at hq); (try rewrite [List.length_map])) | refine sJ ?_ | refine .intro _ (.intro rfl ?_) | (refine .intro (show (_ : Nat) < List.length _ from by first | omega | (simp only [lnS]; omega) | simp) ?_) | fail | refine draw_rule hty (by kernel_rfl) (by kernel_rfl) ?_ | ((first | refine brB_dec ?_ ?_ | refine brB_ndec ?_ ?_) <;> intro hb <;> (first | contradiction | ((try simp only [lnS] at hb); try (exfalso; omega)))) | (refine brB_split ?_ ?_ <;> intro hb <;> (first | contradiction | exact bT hb (by assumption) | exact bF hb (by assumption) | skip))) <;> (conv => whnf)))
    rfl
  | cons c r =>
    have hw : wordF (c :: r) = (letC c && ((c :: r).all tailC && !kwF (c :: r))) := rfl
    rw [hw]
    cases h1 : letC c with
    | false =>
      refine tri_of_body hty Tryz.func95 rfl (kp [0, 2, 3, 16, 20, 27]) [] _ _ _ (by simp [Tryz.f95]) (by simp) ?_
      ((conv => whnf); repeat' ((first | (intro hq; (try simp only [lnS] at hq); (try rewrite [List.length_map])) | refine sJ ?_ | refine .intro _ (.intro rfl ?_) | (refine .intro (show (_ : Nat) < List.length _ from by first | omega | (simp only [lnS]; omega) | simp) ?_) | fail | refine draw_rule hty (by kernel_rfl) (by kernel_rfl) ?_ | ((first | refine brB_dec ?_ ?_ | refine brB_ndec ?_ ?_) <;> intro hb <;> (first | contradiction | ((try simp only [lnS] at hb); try (exfalso; omega)))) | (refine brB_split ?_ ?_ <;> intro hb <;> (first | contradiction | exact bT hb (by assumption) | exact bF hb (by assumption) | skip))) <;> (conv => whnf)))
      refine call_tri [] (rletter_spec c) trivial (fun s hs => ?_)
      rw [h1] at hs
      subst hs
      ((conv => whnf); repeat' ((first | (intro hq; (try simp only [lnS] at hq); (try rewrite [List.length_map])) | refine sJ ?_ | refine .intro _ (.intro rfl ?_) | (refine .intro (show (_ : Nat) < List.length _ from by first | omega | (simp only [lnS]; omega) | simp) ?_) | fail | refine draw_rule hty (by kernel_rfl) (by kernel_rfl) ?_ | ((first | refine brB_dec ?_ ?_ | refine brB_ndec ?_ ?_) <;> intro hb <;> (first | contradiction | ((try simp only [lnS] at hb); try (exfalso; omega)))) | (refine brB_split ?_ ?_ <;> intro hb <;> (first | contradiction | exact bT hb (by assumption) | exact bF hb (by assumption) | skip))) <;> (conv => whnf)))
      rfl
    | true =>
      refine tri_of_body hty Tryz.func95 rfl (kp [0, 2, 3, 16, 20, 27]) [] _ _ _ (by simp [Tryz.f95]) (by simp) ?_
      ((conv => whnf); repeat' ((first | (intro hq; (try simp only [lnS] at hq); (try rewrite [List.length_map])) | refine sJ ?_ | refine .intro _ (.intro rfl ?_) | (refine .intro (show (_ : Nat) < List.length _ from by first | omega | (simp only [lnS]; omega) | simp) ?_) | fail | refine draw_rule hty (by kernel_rfl) (by kernel_rfl) ?_ | ((first | refine brB_dec ?_ ?_ | refine brB_ndec ?_ ?_) <;> intro hb <;> (first | contradiction | ((try simp only [lnS] at hb); try (exfalso; omega)))) | (refine brB_split ?_ ?_ <;> intro hb <;> (first | contradiction | exact bT hb (by assumption) | exact bF hb (by assumption) | skip))) <;> (conv => whnf)))
      refine call_tri [] (rletter_spec c) trivial (fun s hs => ?_)
      rw [h1] at hs
      subst hs
      ((conv => whnf); repeat ((first | (intro hq; try simp only [lnS] at hq) | refine sI ?_ | refine .intro _ (.intro rfl ?_)); (conv => whnf)))
      refine call_tri [] (rkeyword_spec (c :: r)) trivial (fun s hs => ?_)
      cases h2 : kwF (c :: r) with
      | true =>
        rw [h2] at hs
        subst hs
        ((conv => whnf); repeat' ((first | (intro hq; (try simp only [lnS] at hq); (try rewrite [List.length_map])) | refine sJ ?_ | refine .intro _ (.intro rfl ?_) | (refine .intro (show (_ : Nat) < List.length _ from by first | omega | (simp only [lnS]; omega) | simp) ?_) | fail | refine draw_rule hty (by kernel_rfl) (by kernel_rfl) ?_ | ((first | refine brB_dec ?_ ?_ | refine brB_ndec ?_ ?_) <;> intro hb <;> (first | contradiction | ((try simp only [lnS] at hb); try (exfalso; omega)))) | (refine brB_split ?_ ?_ <;> intro hb <;> (first | contradiction | exact bT hb (by assumption) | exact bF hb (by assumption) | skip))) <;> (conv => whnf)))
        exact bool_eq (by simp)
      | false =>
        rw [h2] at hs
        subst hs
        ((conv => whnf); repeat' ((first | (intro hq; (try simp only [lnS] at hq); (try rewrite [List.length_map])) | refine sJ ?_ | refine .intro _ (.intro rfl ?_) | (refine .intro (show (_ : Nat) < List.length _ from by first | omega | (simp only [lnS]; omega) | simp) ?_) | fail | refine draw_rule hty (by kernel_rfl) (by kernel_rfl) ?_ | ((first | refine brB_dec ?_ ?_ | refine brB_ndec ?_ ?_) <;> intro hb <;> (first | contradiction | ((try simp only [lnS] at hb); try (exfalso; omega)))) | (refine brB_split ?_ ?_ <;> intro hb <;> (first | contradiction | exact bT hb (by assumption) | exact bF hb (by assumption) | skip))) <;> (conv => whnf)))
        generalize hS : c :: r = s
        refine loop_rule hty (fun k : Nat => ([(0, .d (.str s)), (3, .d (.int .i64 k))], [])) (fun k => k ≤ s.length ∧ (s.take k).all tailC = true) (fun k => s.length - k) 0 (by simp) ⟨by repeat' (first | exact trivial | exact rfl | refine And.intro ?_ ?_), by repeat' (first | exact trivial | exact rfl | refine And.intro ?_ ?_)⟩ ?_
        rintro k ⟨hk, hk2⟩
        ((conv => whnf); repeat ((first | (intro hq; try simp only [lnS] at hq) | refine sI ?_ | refine .intro _ (.intro rfl ?_)); (conv => whnf)))
        refine brB_dec (fun h1 => ?_) (fun h1 => ?_)
        · have hkl : k < s.length := by omega
          ((conv => whnf); repeat' ((first | (intro hq; (try simp only [lnS] at hq); (try rewrite [List.length_map])) | refine sJ ?_ | refine .intro _ (.intro rfl ?_) | (refine .intro (show (_ : Nat) < List.length _ from by first | omega | (simp only [lnS]; omega) | simp) ?_) | fail | refine draw_rule hty (by kernel_rfl) (by kernel_rfl) ?_ | ((first | refine brB_dec ?_ ?_ | refine brB_ndec ?_ ?_) <;> intro hb <;> (first | contradiction | ((try simp only [lnS] at hb); try (exfalso; omega)))) | (refine brB_split ?_ ?_ <;> intro hb <;> (first | contradiction | exact bT hb (by assumption) | exact bF hb (by assumption) | skip))) <;> (conv => whnf)))
          refine call_tri [] (rinner_spec _) trivial (fun x hs => ?_)
          cases ht : tailC s[(k : Int).toNat] with
          | false =>
            rw [ht] at hs
            subst hs
            ((conv => whnf); repeat' ((first | (intro hq; (try simp only [lnS] at hq); (try rewrite [List.length_map])) | refine sJ ?_ | refine .intro _ (.intro rfl ?_) | (refine .intro (show (_ : Nat) < List.length _ from by first | omega | (simp only [lnS]; omega) | simp) ?_) | fail | refine draw_rule hty (by kernel_rfl) (by kernel_rfl) ?_ | ((first | refine brB_dec ?_ ?_ | refine brB_ndec ?_ ?_) <;> intro hb <;> (first | contradiction | ((try simp only [lnS] at hb); try (exfalso; omega)))) | (refine brB_split ?_ ?_ <;> intro hb <;> (first | contradiction | exact bT hb (by assumption) | exact bF hb (by assumption) | skip))) <;> (conv => whnf)))
            rw [all_stop (k := k) hkl ht]; rfl
          | true =>
            rw [ht] at hs
            subst hs
            ((conv => whnf); repeat' ((first | (intro hq; (try simp only [lnS] at hq); (try rewrite [List.length_map])) | refine sJ ?_ | refine .intro _ (.intro rfl ?_) | (refine .intro (show (_ : Nat) < List.length _ from by first | omega | (simp only [lnS]; omega) | simp) ?_) | fail | refine draw_rule hty (by kernel_rfl) (by kernel_rfl) ?_ | ((first | refine brB_dec ?_ ?_ | refine brB_ndec ?_ ?_) <;> intro hb <;> (first | contradiction | ((try simp only [lnS] at hb); try (exfalso; omega)))) | (refine brB_split ?_ ?_ <;> intro hb <;> (first | contradiction | exact bT hb (by assumption) | exact bF hb (by assumption) | skip))) <;> (conv => whnf)))
            exact ⟨k + 1, ⟨by omega, all_step hkl hk2 ht⟩, by dsimp only; omega, ⟨by repeat' (first | exact trivial | exact rfl | refine And.intro ?_ ?_), by repeat' (first | exact trivial | exact rfl | refine And.intro ?_ ?_)⟩⟩
        · rw [List.take_of_length_le (by omega)] at hk2
          ((conv => whnf); repeat' ((first | (intro hq; (try simp only [lnS] at hq); (try rewrite [List.length_map])) | refine sJ ?_ | refine .intro _ (.intro rfl ?_) | (refine .intro (show (_ : Nat) < List.length _ from by first | omega | (simp only [lnS]; omega) | simp) ?_) | fail | refine draw_rule hty (by kernel_rfl) (by kernel_rfl) ?_ | ((first | refine brB_dec ?_ ?_ | refine brB_ndec ?_ ?_) <;> intro hb <;> (first | contradiction | ((try simp only [lnS] at hb); try (exfalso; omega)))) | (refine brB_split ?_ ?_ <;> intro hb <;> (first | contradiction | exact bT hb (by assumption) | exact bF hb (by assumption) | skip))) <;> (conv => whnf)))
          rw [hk2]; rfl
theorem first95 {s : List UInt8} (h1 : 2 ≤ s.length) (h3 : s[Int.toNat 0]'(by simp; omega) = 95) : (s.take 1).all tailC = true := by
  match s, h1, h3 with
  | c :: r, _, h3 => simp at h3; subst h3; rfl
theorem rReserved_spec (s : List UInt8) : Tri Tryz.prog 96 [.d (.str s)] [] (fun r => r = .d (.bool (resF s))) := by
  by_cases h1 : 2 ≤ s.length
  · by_cases h2 : s.length ≤ 24
    · by_cases h3 : s[Int.toNat 0]'(by simp; omega) = 95
      · have hr : resF s = s.all tailC := by
          rw [resF, head95 (by omega), h3]
          simp [h1, h2]
        have h3' : ((s[Int.toNat 0]'(by simp; omega)).toNat : Int) = 95 := by rw [h3]; rfl
        rw [hr]
        refine tri_of_body hty Tryz.func96 rfl (kp [0, 2, 3, 16, 20, 27]) [] _ _ _ (by simp [Tryz.f96]) (by simp) ?_
        ((conv => whnf); repeat' ((first | (intro hq; (try simp only [lnS] at hq); (try rewrite [List.length_map])) | refine sJ ?_ | refine .intro _ (.intro rfl ?_) | (refine .intro (show (_ : Nat) < List.length _ from by first | omega | (simp only [lnS]; omega) | simp) ?_) | fail | refine draw_rule hty (by kernel_rfl) (by kernel_rfl) ?_ | ((first | refine brB_dec ?_ ?_ | refine brB_ndec ?_ ?_) <;> intro hb <;> (first | contradiction | ((try simp only [lnS] at hb); try (exfalso; omega)))) | (refine brB_split ?_ ?_ <;> intro hb <;> (first | contradiction | exact bT hb (by assumption) | exact bF hb (by assumption) | skip))) <;> (conv => whnf)))
        refine loop_rule hty (fun k : Nat => ([(0, .d (.str s)), (3, .d (.int .i64 k))], [])) (fun k => k ≤ s.length ∧ (s.take k).all tailC = true) (fun k => s.length - k) 1 ⟨by omega, ?_⟩ ⟨by repeat' (first | exact trivial | exact rfl | refine And.intro ?_ ?_), by repeat' (first | exact trivial | exact rfl | refine And.intro ?_ ?_)⟩ ?_
        · exact first95 h1 h3
        rintro k ⟨hk, hk2⟩
        ((conv => whnf); repeat' ((first | (intro hq; (try simp only [lnS] at hq); (try rewrite [List.length_map])) | refine sJ ?_ | refine .intro _ (.intro rfl ?_) | (refine .intro (show (_ : Nat) < List.length _ from by first | omega | (simp only [lnS]; omega) | simp) ?_) | (refine call_tri [] (rinner_spec _) trivial (fun s hs => ?_); subst hs) | refine draw_rule hty (by kernel_rfl) (by kernel_rfl) ?_ | ((first | refine brB_dec ?_ ?_ | refine brB_ndec ?_ ?_) <;> intro hb <;> (first | contradiction | ((try simp only [lnS] at hb); try (exfalso; omega)))) | (refine brB_split ?_ ?_ <;> intro hb <;> (first | contradiction | exact bT hb (by assumption) | exact bF hb (by assumption) | skip))) <;> (conv => whnf)))
        · have ht : tailC s[(k : Int).toNat] = false := by simpa using hb
          rw [all_stop (k := k) (by omega) ht]; rfl
        · have ht : tailC s[(k : Int).toNat] = true := by simpa using hb
          exact ⟨k + 1, ⟨by omega, all_step (by omega) hk2 ht⟩, by dsimp only; omega, ⟨by repeat' (first | exact trivial | exact rfl | refine And.intro ?_ ?_), by repeat' (first | exact trivial | exact rfl | refine And.intro ?_ ?_)⟩⟩
        · rw [List.take_of_length_le (by omega)] at hk2
          rw [hk2]; rfl
      · have hr : resF s = false := by
          rw [resF, head95 (by omega)]
          simp only [h3, decide_false, Bool.false_and, Bool.and_false]
        have h3' : ¬ ((s[Int.toNat 0]'(by simp; omega)).toNat : Int) = 95 := fun e => h3 (u95 e)
        rw [hr]
        refine tri_of_body hty Tryz.func96 rfl (kp [0, 2, 3, 16, 20, 27]) [] _ _ _ (by simp [Tryz.f96]) (by simp) ?_
        ((conv => whnf); repeat' ((first | (intro hq; (try simp only [lnS] at hq); (try rewrite [List.length_map])) | refine sJ ?_ | refine .intro _ (.intro rfl ?_) | (refine .intro (show (_ : Nat) < List.length _ from by first | omega | (simp only [lnS]; omega) | simp) ?_) | fail | refine draw_rule hty (by kernel_rfl) (by kernel_rfl) ?_ | ((first | refine brB_dec ?_ ?_ | refine brB_ndec ?_ ?_) <;> intro hb <;> (first | contradiction | ((try simp only [lnS] at hb); try (exfalso; omega)))) | (refine brB_split ?_ ?_ <;> intro hb <;> (first | contradiction | exact bT hb (by assumption) | exact bF hb (by assumption) | skip))) <;> (conv => whnf)))
        rfl
    · have hr : resF s = false := by rw [resF]; simp only [h2, decide_false, Bool.false_and, Bool.and_false]
      rw [hr]
      refine tri_of_body hty Tryz.func96 rfl (kp [0, 2, 3, 16, 20, 27]) [] _ _ _ (by simp [Tryz.f96]) (by simp) ?_
      ((conv => whnf); repeat' ((first | (intro hq; (try simp only [lnS] at hq); (try rewrite [List.length_map])) | refine sJ ?_ | refine .intro _ (.intro rfl ?_) | (refine .intro (show (_ : Nat) < List.length _ from by first | omega | (simp only [lnS]; omega) | simp) ?_) | fail | refine draw_rule hty (by kernel_rfl) (by kernel_rfl) ?_ | ((first | refine brB_dec ?_ ?_ | refine brB_ndec ?_ ?_) <;> intro hb <;> (first | contradiction | ((try simp only [lnS] at hb); try (exfalso; omega)))) | (refine brB_split ?_ ?_ <;> intro hb <;> (first | contradiction | exact bT hb (by assumption) | exact bF hb (by assumption) | skip))) <;> (conv => whnf)))
      rfl
  · have hr : resF s = false := by rw [resF]; simp only [h1, decide_false, Bool.false_and, Bool.and_false]
    rw [hr]
    refine tri_of_body hty Tryz.func96 rfl (kp [0, 2, 3, 16, 20, 27]) [] _ _ _ (by simp [Tryz.f96]) (by simp) ?_
    ((conv => whnf); repeat' ((first | (intro hq; (try simp only [lnS] at hq); (try rewrite [List.length_map])) | refine sJ ?_ | refine .intro _ (.intro rfl ?_) | (refine .intro (show (_ : Nat) < List.length _ from by first | omega | (simp only [lnS]; omega) | simp) ?_) | fail | refine draw_rule hty (by kernel_rfl) (by kernel_rfl) ?_ | ((first | refine brB_dec ?_ ?_ | refine brB_ndec ?_ ?_) <;> intro hb <;> (first | contradiction | ((try simp only [lnS] at hb); try (exfalso; omega)))) | (refine brB_split ?_ ?_ <;> intro hb <;> (first | contradiction | exact bT hb (by assumption) | exact bF hb (by assumption) | skip))) <;> (conv => whnf)))
    rfl
theorem ib_none {c : UInt8} : ∀ {s : List UInt8}, (∀ x ∈ s, x ≠ c) → Lib.indexByte s c < 0
  | [], _ => by simp [Lib.indexByte]
  | x :: s, h => by
    have ih := ib_none (c := c) (s := s) fun y hy => h y (List.mem_cons_of_mem _ hy)
    have hx := h x (List.mem_cons_self ..)
    simp only [Lib.indexByte, hx, if_false]
    split <;> (try split) <;> simp_all <;> omega
theorem ib_at {c : UInt8} : ∀ {s : List UInt8} {k : Nat} (h : k < s.length), (∀ x ∈ s.take k, x ≠ c) → s[k] = c → Lib.indexByte s c = k
  | x :: s, 0, _, _, e => by
    simp at e; subst e; simp [Lib.indexByte]
  | x :: s, k + 1, h, hn, e => by
    have ih := ib_at (c := c) (s := s) (k := k) (by simpa using h) (fun y hy => hn y (by simp [hy])) (by simpa using e)
    have hx := hn x (by simp)
    simp only [Lib.indexByte, hx, if_false, ih]
    split <;> (try split) <;> simp_all <;> omega
theorem u58 {c : UInt8} (h : (c.toNat : Int) = 58) : c = 58 := by
  have h9 : (58 : UInt8).toNat = 58 := by decide
  exact UInt8.toNat_inj.1 (by omega)
theorem no58 {s : List UInt8} {k : Nat} (hk : k < s.length) (h : ∀ x ∈ s.take k, x ≠ 58) (hx : ¬ ((s[(k : Int).toNat]'(by simpa using hk)).toNat : Int) = 58) : ∀ x ∈ s.take (k + 1), x ≠ 58 := by
  rw [List.take_succ_eq_append_getElem hk]
  intro x hm
  rcases List.mem_append.1 hm with hm | hm
  · exact h x hm
  · simp at hm
    subst hm
    intro e
    exact hx (by simp [e])
theorem rPlain_spec (s : List UInt8) : Tri Tryz.prog 67 [.d (.str s)] [] (fun r => r = .d (.bool (plainF s))) := by
  by_cases h2 : s.length ≤ 24
  · refine tri_of_body hty Tryz.func67 rfl (kp [0, 2, 3, 6, 10, 16]) [] _ _ _ (by simp [Tryz.f67]) (by simp) ?_
    ((conv => whnf); repeat' ((first | (intro hq; (try simp only [lnS] at hq); (try rewrite [List.length_map])) | refine sJ ?_ | refine .intro _ (.intro rfl ?_) | (refine .intro (show (_ : Nat) < List.length _ from by first | omega | (simp only [lnS]; omega) | simp) ?_) | fail | refine draw_rule hty (by kernel_rfl) (by kernel_rfl) ?_ | ((first | refine brB_dec ?_ ?_ | refine brB_ndec ?_ ?_) <;> intro hb <;> (first | contradiction | ((try simp only [lnS] at hb); try (exfalso; omega)))) | (refine brB_split ?_ ?_ <;> intro hb <;> (first | contradiction | exact bT hb (by assumption) | exact bF hb (by assumption) | skip))) <;> (conv => whnf)))
    refine loop_rule hty (fun k : Nat => ([(0, .d (.str s)), (3, .d (.int .i64 k))], [])) (fun k => k ≤ s.length ∧ ∀ x ∈ s.take k, x ≠ 58) (fun k => s.length - k) 0 (by simp) ⟨by repeat' (first | exact trivial | exact rfl | refine And.intro ?_ ?_), by repeat' (first | exact trivial | exact rfl | refine And.intro ?_ ?_)⟩ ?_
    rintro k ⟨hk, hk2⟩
    ((conv => whnf); repeat ((first | (intro hq; try simp only [lnS] at hq) | refine sI ?_ | refine .intro _ (.intro rfl ?_)); (conv => whnf)))
    refine brB_dec (fun h1 => ?_) (fun h1 => ?_)
    · have hkl : k < s.length := by omega
      ((conv => whnf); repeat ((first | (refine Exists.intro (show (_ : Nat) < List.length _ from by omega) ?_) | (intro hq; try simp only [lnS] at hq) | refine sI ?_ | refine .intro _ (.intro rfl ?_)); (conv => whnf)))
      refine brB_dec (fun h3 => ?_) (fun h3 => ?_)
      · have e : Lib.indexByte s 58 = k := ib_at hkl hk2 (u58 h3)
        have hp : plainF s = (wordF (s.take k) && wordF (s.drop (k + 1))) := by
          rw [plainF, cutF, e]
          simp [h2]
        have hd : List.drop ((k : Int) + 1).toNat (List.take s.length s) = s.drop (k + 1) := by
          rw [List.take_length, show ((k : Int) + 1).toNat = k + 1 from by omega]
        rw [hp]
        cases h5 : wordF (s.take k) with
        | false =>
          ((conv => whnf); repeat' ((first | (intro hq; (try simp only [lnS] at hq); (try rewrite [List.length_map])) | refine sJ ?_ | refine .intro _ (.intro rfl ?_) | (refine .intro (show (_ : Nat) < List.length _ from by first | omega | (simp only [lnS]; omega) | simp) ?_) | (refine call_tri [] (rWord_spec (s.take k)) trivial (fun s hs => ?_); subst hs; rw [h5]) | refine draw_rule hty (by kernel_rfl) (by kernel_rfl) ?_ | ((first | refine brB_dec ?_ ?_ | refine brB_ndec ?_ ?_) <;> intro hb <;> (first | contradiction | ((try simp only [lnS] at hb); try (exfalso; omega)))) | (refine brB_split ?_ ?_ <;> intro hb <;> (first | contradiction | exact bT hb (by assumption) | exact bF hb (by assumption) | skip))) <;> (conv => whnf)))
          rfl
        | true =>
          ((conv => whnf); repeat' ((first | (intro hq; (try simp only [lnS] at hq); (try rewrite [List.length_map])) | refine sJ ?_ | refine .intro _ (.intro rfl ?_) | (refine .intro (show (_ : Nat) < List.length _ from by first | omega | (simp only [lnS]; omega) | simp) ?_) | (refine call_tri [] (rWord_spec (s.take k)) trivial (fun s hs => ?_); subst hs; rw [h5]) | refine draw_rule hty (by kernel_rfl) (by kernel_rfl) ?_ | ((first | refine brB_dec ?_ ?_ | refine brB_ndec ?_ ?_) <;> intro hb <;> (first | contradiction | ((try simp only [lnS] at hb); try (exfalso; omega)))) | (refine brB_split ?_ ?_ <;> intro hb <;> (first | contradiction | exact bT hb (by assumption) | exact bF hb (by assumption) | skip))) <;> (conv => whnf)))
          refine call_tri [] (rWord_spec _) trivial (fun s hs => ?_)
          subst hs
          ((conv => whnf); repeat ((first | (intro hq; try simp only [lnS] at hq) | refine sI ?_ | refine .intro _ (.intro rfl ?_)); (conv => whnf)))
          refine bool_eq ?_
          rw [hd]; rfl
      · ((conv => whnf); repeat ((first | (intro hq; try simp only [lnS] at hq) | refine sI ?_ | refine .intro _ (.intro rfl ?_)); (conv => whnf)))
        exact ⟨k + 1, ⟨by omega, no58 hkl hk2 h3⟩, by dsimp only; omega, ⟨by repeat' (first | exact trivial | exact rfl | refine And.intro ?_ ?_), by repeat' (first | exact trivial | exact rfl | refine And.intro ?_ ?_)⟩⟩
    · rw [List.take_of_length_le (by omega)] at hk2
      have e := ib_none hk2
      have hp : plainF s = wordF s := by
        rw [plainF, cutF, if_neg (by omega)]
        simp [h2]
      rw [hp]
      ((conv => whnf); repeat' ((first | (intro hq; (try simp only [lnS] at hq); (try rewrite [List.length_map])) | refine sJ ?_ | refine .intro _ (.intro rfl ?_) | (refine .intro (show (_ : Nat) < List.length _ from by first | omega | (simp only [lnS]; omega) | simp) ?_) | (refine call_tri [] (rWord_spec s) trivial (fun s hs => ?_); subst hs) | refine draw_rule hty (by kernel_rfl) (by kernel_rfl) ?_ | ((first | refine brB_dec ?_ ?_ | refine brB_ndec ?_ ?_) <;> intro hb <;> (first | contradiction | ((try simp only [lnS] at hb); try (exfalso; omega)))) | (refine brB_split ?_ ?_ <;> intro hb <;> (first | contradiction | exact bT hb (by assumption) | exact bF hb (by assumption) | skip))) <;> (conv => whnf)))
      rfl
  · have hr : plainF s = false := by rw [plainF]; simp only [h2, decide_false, Bool.false_and, Bool.and_false]
    rw [hr]
    refine tri_of_body hty Tryz.func67 rfl (kp [0, 2, 3, 6, 10, 16]) [] _ _ _ (by simp [Tryz.f67]) (by simp) ?_
    ((conv => whnf); repeat' ((first | (intro hq; (try simp only [lnS] at hq); (try rewrite [List.length_map])) | refine sJ ?_ | refine .intro _ (.intro rfl ?_) | (refine .intro (show (_ : Nat) < List.length _ from by first | omega | (simp only [lnS]; omega) | simp) ?_) | fail | refine draw_rule hty (by kernel_rfl) (by kernel_rfl) ?_ | ((first | refine brB_dec ?_ ?_ | refine brB_ndec ?_ ?_) <;> intro hb <;> (first | contradiction | ((try simp only [lnS] at hb); try (exfalso; omega)))) | (refine brB_split ?_ ?_ <;> intro hb <;> (first | contradiction | exact bT hb (by assumption) | exact bF hb (by assumption) | skip))) <;> (conv => whnf)))
    rfl
theorem rPerson_spec (s : List UInt8) : Tri Tryz.prog 68 [.d (.str s)] [] (fun r => r = .d (.bool (nameF s))) := by
  cases h1 : plainF s with
  | true =>
    refine tri_of_body hty Tryz.func68 rfl (kp [0, 2]) [] _ _ _ (by simp [Tryz.f68]) (by simp) ?_
    ((conv => whnf); repeat' ((first | (intro hq; (try simp only [lnS] at hq); (try rewrite [List.length_map])) | refine sJ ?_ | refine .intro _ (.intro rfl ?_) | (refine .intro (show (_ : Nat) < List.length _ from by first | omega | (simp only [lnS]; omega) | simp) ?_) | (refine call_tri [] (rPlain_spec s) trivial (fun s hs => ?_); subst hs; rw [h1]) | refine draw_rule hty (by kernel_rfl) (by kernel_rfl) ?_ | ((first | refine brB_dec ?_ ?_ | refine brB_ndec ?_ ?_) <;> intro hb <;> (first | contradiction | ((try simp only [lnS] at hb); try (exfalso; omega)))) | (refine brB_split ?_ ?_ <;> intro hb <;> (first | contradiction | exact bT hb (by assumption) | exact bF hb (by assumption) | skip))) <;> (conv => whnf)))
    rw [nameF, h1]; rfl
  | false =>
    refine tri_of_body hty Tryz.func68 rfl (kp [0, 2]) [] _ _ _ (by simp [Tryz.f68]) (by simp) ?_
    ((conv => whnf); repeat' ((first | (intro hq; (try simp only [lnS] at hq); (try rewrite [List.length_map])) | refine sJ ?_ | refine .intro _ (.intro rfl ?_) | (refine .intro (show (_ : Nat) < List.length _ from by first | omega | (simp only [lnS]; omega) | simp) ?_) | (refine call_tri [] (rPlain_spec s) trivial (fun s hs => ?_); subst hs; rw [h1]) | (refine call_tri [] (rReserved_spec s) trivial (fun s hs => ?_); subst hs) | refine draw_rule hty (by kernel_rfl) (by kernel_rfl) ?_ | ((first | refine brB_dec ?_ ?_ | refine brB_ndec ?_ ?_) <;> intro hb <;> (first | contradiction | ((try simp only [lnS] at hb); try (exfalso; omega)))) | (refine brB_split ?_ ?_ <;> intro hb <;> (first | contradiction | exact bT hb (by assumption) | exact bF hb (by assumption) | skip))) <;> (conv => whnf)))
    rw [nameF, h1]; rfl
theorem rCheckName_spec (s : List UInt8) : Tri Tryz.prog 74 [.d (.str s)] [] (fun r => r = .d (.int .i64 (if nameF s then 0 else 20))) := by
  cases h1 : nameF s with
  | true =>
    refine tri_of_body hty Tryz.func74 rfl (kp [0, 2, 5]) [] _ _ _ (by simp [Tryz.f74]) (by simp) ?_
    ((conv => whnf); repeat' ((first | (intro hq; (try simp only [lnS] at hq); (try rewrite [List.length_map])) | refine sJ ?_ | refine .intro _ (.intro rfl ?_) | (refine .intro (show (_ : Nat) < List.length _ from by first | omega | (simp only [lnS]; omega) | simp) ?_) | (refine call_tri [] (rPerson_spec s) trivial (fun s hs => ?_); subst hs; rw [h1]) | refine draw_rule hty (by kernel_rfl) (by kernel_rfl) ?_ | ((first | refine brB_dec ?_ ?_ | refine brB_ndec ?_ ?_) <;> intro hb <;> (first | contradiction | ((try simp only [lnS] at hb); try (exfalso; omega)))) | (refine brB_split ?_ ?_ <;> intro hb <;> (first | contradiction | exact bT hb (by assumption) | exact bF hb (by assumption) | skip))) <;> (conv => whnf)))
    rfl
  | false =>
    refine tri_of_body hty Tryz.func74 rfl (kp [0, 2, 5]) [] _ _ _ (by simp [Tryz.f74]) (by simp) ?_
    ((conv => whnf); repeat' ((first | (intro hq; (try simp only [lnS] at hq); (try rewrite [List.length_map])) | refine sJ ?_ | refine .intro _ (.intro rfl ?_) | (refine .intro (show (_ : Nat) < List.length _ from by first | omega | (simp only [lnS]; omega) | simp) ?_) | (refine call_tri [] (rPerson_spec s) trivial (fun s hs => ?_); subst hs; rw [h1]) | refine draw_rule hty (by kernel_rfl) (by kernel_rfl) ?_ | ((first | refine brB_dec ?_ ?_ | refine brB_ndec ?_ ?_) <;> intro hb <;> (first | contradiction | ((try simp only [lnS] at hb); try (exfalso; omega)))) | (refine brB_split ?_ ?_ <;> intro hb <;> (first | contradiction | exact bT hb (by assumption) | exact bF hb (by assumption) | skip))) <;> (conv => whnf)))
    rfl
end Go.Proofs.YtpecmehekandgaaGreatDoor
