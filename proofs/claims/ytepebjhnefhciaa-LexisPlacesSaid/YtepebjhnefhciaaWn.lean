/-
  The walk through the law LexisPlaces.
  Conditions: none.
-/
import Derived.Test.YtepebjhnefhciaaWl
namespace Go.Proofs.Ytepebjhnefhciaa
open Go.Proofs
set_option linter.unusedSimpArgs false
set_option maxRecDepth 10000
attribute [local irreducible] SemVC CallVC Tri Stuck

structure PF (src : List UInt8) (T : List Tok) (B : List Nat) : Prop where
  last : ∀ h : 0 < T.length, T[T.length - 1] = ⟨4, [], src.length⟩
  pos : 0 < T.length
  ord : ∀ i (h : i + 1 < T.length), (T[i]'(by omega)).at_ + (T[i]'(by omega)).text.length ≤ T[i + 1].at_
  bnd : ∀ i (h : i < T.length), T[i].at_ + T[i].text.length ≤ src.length
  txt : ∀ i (h : i < T.length), T[i].text = (src.take (T[i].at_ + T[i].text.length)).drop T[i].at_
  ne : ∀ i (h : i < T.length), T[i].kind ≠ 4 → T[i].text ≠ []
  inc : ∀ i (h : i + 1 < B.length), B[i]'(by omega) < B[i + 1]
  mono : ∀ i j (hi : i < j) (h : j < B.length), B[i]'(by omega) < B[j]
  bb : ∀ j (h : j < B.length), B[j] < src.length
  out : ∀ i j (hi : i < T.length) (hj : j < B.length), B[j] < T[i].at_ ∨ T[i].at_ + T[i].text.length ≤ B[j]
  few : B.length ≤ 64

theorem places_facts (src : List UInt8) : PF src (tokensOf src) (badsOf src) := by
  have hP := LX_places src 0 (-1)
  rw [LT_last] at hP
  have hT := tokensOf_eq src
  have hbn : ∀ t ∈ tokensOf src, t.at_ + t.text.length ≤ src.length ∧ t.text = (src.take (t.at_ + t.text.length)).drop t.at_ ∧ (t.kind ≠ 4 → t.text ≠ []) ∧ ∀ b ∈ badsOf src, b < t.at_ ∨ t.at_ + t.text.length ≤ b := by
    intro t ht
    rw [hT, List.mem_append] at ht
    rcases ht with ht | ht
    · obtain ⟨h1, h2, h3⟩ := LT_bounds _ _ 0 t ht
      have h4 := hP.txt t ht
      refine ⟨by omega, ?_, fun _ => h3, fun b hb => hP.out b (List.mem_of_mem_take hb) t ht⟩
      rw [take_drop']
      simpa using h4
    · simp at ht
      subst ht
      refine ⟨by simp, by simp, fun h => absurd rfl h, fun b hb => ?_⟩
      have := hP.bd b (List.mem_of_mem_take hb)
      left; simp only; omega
  have hinc : (badsOf src).Pairwise (· < ·) := List.Pairwise.sublist (List.take_sublist ..) hP.inc
  have hmono := List.pairwise_iff_getElem.1 hinc
  refine ⟨fun h => ?_, ?_, fun i h => ?_, fun i h => (hbn _ (List.getElem_mem h)).1, fun i h => (hbn _ (List.getElem_mem h)).2.1, fun i h => (hbn _ (List.getElem_mem h)).2.2.1, fun i h => hmono i (i + 1) (by omega) h (by omega), fun i j hi h => hmono i j (by omega) h hi, fun j h => ?_, fun i j hi hj => (hbn _ (List.getElem_mem hi)).2.2.2 _ (List.getElem_mem hj), ?_⟩
  · exact tokensOf_last src _ _ (by omega)
  · rw [hT]; simp
  · have hp : (tokensOf src).Pairwise fun a b => a.at_ + a.text.length ≤ b.at_ := by
      rw [hT]
      refine List.pairwise_append.2 ⟨hP.ord, List.pairwise_singleton .., fun a ha b hb => ?_⟩
      have := LT_bounds _ _ 0 a ha
      simp at hb
      subst hb
      simp only
      omega
    exact List.pairwise_iff_getElem.1 hp i (i + 1) (by omega) h (by omega)
  · have := hP.bd _ (List.mem_of_mem_take (List.getElem_mem h))
    omega
  · rw [badsOf, List.length_take]; omega

def endAt (T : List Tok) (i : Nat) : Nat := match i with | 0 => 0 | i + 1 => match T[i]? with | some t => t.at_ + t.text.length | none => 0
theorem endAt_succ (T : List Tok) (i : Nat) (h : i < T.length) : endAt T (i + 1) = T[i].at_ + T[i].text.length := by
  simp only [endAt, List.getElem?_eq_getElem h]
theorem PF.endLe {src : List UInt8} {T : List Tok} {B : List Nat} (f : PF src T B) (i : Nat) (h : i < T.length) : endAt T i ≤ T[i].at_ := by
  cases i with
  | zero => exact Nat.zero_le _
  | succ i => rw [endAt_succ T i (by omega)]; exact f.ord i h
theorem PF.endN {src : List UInt8} {T : List Tok} {B : List Nat} (f : PF src T B) : endAt T T.length = src.length := by
  have := f.last f.pos
  have hp := f.pos
  obtain ⟨n, hn⟩ : ∃ n, T.length = n + 1 := ⟨T.length - 1, by omega⟩
  rw [hn, endAt_succ T n (by omega)]
  simp only [hn, Nat.add_sub_cancel] at this
  rw [this]; simp

set_option maxHeartbeats 4000000 in
theorem lexisPlaces_spec (src : List UInt8) : Tri Try.prog 7 [.d (bsv src)] [] (fun r => r = .d (.bool true)) := by
  refine tri_of_body hty Try.func7 rfl (kp [0, 2, 3, 4, 5, 6, 7, 8, 9, 11, 14, 44, 48, 102, 116, 149]) [] _ _ _ (by simp [Try.f7]) (by simp) ?_
  ((conv => whnf); repeat ((first | (intro hq; try simp only [List.length_set, List.length_replicate, List.length_map, List.length_append, List.length_drop, List.length_take, List.length_cons, List.length_nil] at hq) | (refine And.intro (by first | exact rfl | exact trivial | exact fresh_of (by with_unfolding_all exact rfl) | exact List.cons_ne_nil _ _ | exact leaf_of rfl | exact unb_sub _ _ _ | exact Nat.le_of_ble_eq_true rfl | exact notMem_of (by with_unfolding_all exact rfl) | omega | (rw [unb_map]) | exact byte_lt _ | (simp only [List.length_set, List.length_replicate, List.length_map, List.length_append, List.length_drop, List.length_take, List.length_cons, List.length_nil, Int.toNat_natCast]; omega) | (simp only [List.length_set, List.length_replicate, List.length_map, List.length_append, List.length_drop, List.length_take, List.length_cons, List.length_nil, Int.toNat_natCast] at *; omega)) ?_) | (refine Exists.intro _ (And.intro rfl ?_))); (conv => whnf)))
  refine call_tri [] sane_spec trivial (fun s hs => ?_)
  subst hs
  ((conv => whnf); repeat' ((first | (intro hq; (try simp only [List.length_set, List.length_replicate, List.length_map, List.length_append, List.length_drop, List.length_take, List.length_cons, List.length_nil] at hq); (try rewrite [List.length_map])) | (refine And.intro (by first | exact rfl | exact trivial | exact fresh_of (by with_unfolding_all exact rfl) | exact List.cons_ne_nil _ _ | exact leaf_of rfl | exact unb_sub _ _ _ | exact Nat.le_of_ble_eq_true rfl | exact notMem_of (by with_unfolding_all exact rfl) | omega | (rw [unb_map]) | exact byte_lt _ | (simp only [List.length_set, List.length_replicate, List.length_map, List.length_append, List.length_drop, List.length_take, List.length_cons, List.length_nil, Int.toNat_natCast]; omega) | (simp only [List.length_set, List.length_replicate, List.length_map, List.length_append, List.length_drop, List.length_take, List.length_cons, List.length_nil, Int.toNat_natCast] at *; omega) | (show eqOK _ _ = true; kernel_rfl) | (rw [List.length_append]; exact rfl) | (simp only [List.length_map, List.length_append]; exact rfl)) ?_) | (refine Exists.intro _ (And.intro rfl ?_)) | (refine Exists.intro (show (_ : Nat) < List.length _ from by first | omega | (simp only [List.length_cons, List.length_nil]; omega) | simp) ?_) | fail | (refine draw_rule hty (by kernel_rfl) (by kernel_rfl) ?_) | (refine brB_dec (fun hb => ?_) (fun hb => ?_) <;> (first | contradiction | ((try simp only [List.length_set, List.length_replicate, List.length_map, List.length_append, List.length_drop, List.length_take, List.length_cons, List.length_nil] at hb); (first | (exfalso; omega) | skip)))) | (refine brB_ndec (fun hb => ?_) (fun hb => ?_) <;> (first | contradiction | ((try simp only [List.length_set, List.length_replicate, List.length_map, List.length_append, List.length_drop, List.length_take, List.length_cons, List.length_nil] at hb); (first | (exfalso; omega) | skip)))) | (refine brB_split (fun hb => ?_) (fun hb => ?_) <;> (first | contradiction | exact absurd (hb.symm.trans (by assumption) : false = true) (by decide) | exact absurd (hb.symm.trans (by assumption) : true = false) (by decide) | skip))) <;> (conv => whnf)))
  · rfl
  have hlen : src.length ≤ 4000 := by omega
  clear hb
  refine call_tri [] (tokens_spec src) trivial (fun s hs => ?_)
  rcases hs with ⟨hh, _⟩ | ⟨_, hh⟩
  · omega
  subst hh
  have f := places_facts src
  generalize tokensOf src = T at f ⊢
  generalize badsOf src = B at f ⊢
  have hpos := f.pos
  have hfew := f.few
  have hlast : ∀ i (h : i < T.length), i + 1 = T.length → T[i] = ⟨4, [], src.length⟩ := fun i h e => by
    have := f.last hpos
    have e2 : i = T.length - 1 := by omega
    subst e2; exact this
  ((conv => whnf); repeat' ((first | (intro hq; (try simp only [List.length_set, List.length_replicate, List.length_map, List.length_append, List.length_drop, List.length_take, List.length_cons, List.length_nil] at hq); (try rewrite [List.length_map])) | (refine And.intro (by first | exact rfl | exact trivial | exact fresh_of (by with_unfolding_all exact rfl) | exact List.cons_ne_nil _ _ | exact leaf_of rfl | exact unb_sub _ _ _ | exact Nat.le_of_ble_eq_true rfl | exact notMem_of (by with_unfolding_all exact rfl) | omega | (rw [unb_map]) | exact byte_lt _ | (simp only [List.length_set, List.length_replicate, List.length_map, List.length_append, List.length_drop, List.length_take, List.length_cons, List.length_nil, Int.toNat_natCast]; omega) | (simp only [List.length_set, List.length_replicate, List.length_map, List.length_append, List.length_drop, List.length_take, List.length_cons, List.length_nil, Int.toNat_natCast] at *; omega) | (show eqOK _ _ = true; kernel_rfl) | (rw [List.length_append]; exact rfl) | (simp only [List.length_map, List.length_append]; exact rfl)) ?_) | (refine Exists.intro _ (And.intro rfl ?_)) | (refine Exists.intro (show (_ : Nat) < List.length _ from by first | omega | (simp only [List.length_cons, List.length_nil]; omega) | simp) ?_) | (refine ⟨_, row_at (by first | omega | (simp only [List.length_map]; omega)), ?_⟩) | (refine draw_rule hty (by kernel_rfl) (by kernel_rfl) ?_) | (refine brB_dec (fun hb => ?_) (fun hb => ?_) <;> (first | contradiction | ((try simp only [List.length_set, List.length_replicate, List.length_map, List.length_append, List.length_drop, List.length_take, List.length_cons, List.length_nil] at hb); (first | (exfalso; omega) | skip)))) | (refine brB_ndec (fun hb => ?_) (fun hb => ?_) <;> (first | contradiction | ((try simp only [List.length_set, List.length_replicate, List.length_map, List.length_append, List.length_drop, List.length_take, List.length_cons, List.length_nil] at hb); (first | (exfalso; omega) | skip)))) | (refine brB_split (fun hb => ?_) (fun hb => ?_) <;> (first | contradiction | exact absurd (hb.symm.trans (by assumption) : false = true) (by decide) | exact absurd (hb.symm.trans (by assumption) : true = false) (by decide) | skip))) <;> (conv => whnf)))
  · have e := hlast (T.length - 1 : Int).toNat (by omega) (by omega)
    rw [e] at hb
    simp at hb
  clear hb
  refine loop_rule hty (fun y : Nat × Nat => ([(0, .d (bsv src)), (3, .d (.sl 3 (T.map tokR))), (4, .d (.sl 2 (B.map badR))), (6, .d (.int .i64 (endAt T y.1))), (7, .d (.int .i64 y.2)), (8, .d (.int .i64 y.1))], []))
    (fun y => y.1 ≤ T.length ∧ y.2 ≤ B.length ∧ ∀ j (h : j < B.length), y.2 ≤ j → endAt T y.1 ≤ B[j]) (fun y => T.length - y.1) (0, 0) ⟨by simp, by simp, fun j h _ => Nat.zero_le _⟩ ⟨by repeat' (first | exact trivial | exact rfl | refine And.intro ?_ ?_), by repeat' (first | exact trivial | exact rfl | refine And.intro ?_ ?_)⟩ ?_
  rintro ⟨i, p⟩ ⟨hi, hp, hj⟩
  dsimp only at hi hp hj ⊢
  ((conv => whnf); repeat ((first | (intro hq; try simp only [List.length_set, List.length_replicate, List.length_map, List.length_append, List.length_drop, List.length_take, List.length_cons, List.length_nil] at hq) | (refine And.intro (by first | exact rfl | exact trivial | exact fresh_of (by with_unfolding_all exact rfl) | exact List.cons_ne_nil _ _ | exact leaf_of rfl | exact unb_sub _ _ _ | exact Nat.le_of_ble_eq_true rfl | exact notMem_of (by with_unfolding_all exact rfl) | omega | (rw [unb_map]) | exact byte_lt _ | (simp only [List.length_set, List.length_replicate, List.length_map, List.length_append, List.length_drop, List.length_take, List.length_cons, List.length_nil, Int.toNat_natCast]; omega) | (simp only [List.length_set, List.length_replicate, List.length_map, List.length_append, List.length_drop, List.length_take, List.length_cons, List.length_nil, Int.toNat_natCast] at *; omega)) ?_) | (refine Exists.intro _ (And.intro rfl ?_))); (conv => whnf)))
  refine brB_dec (fun h1 => ?_) (fun h1 => ?_)
  · simp only [List.length_map] at h1
    have hit : (i : Int).toNat < T.length := by omega
    have f1 : endAt T i ≤ T[(i : Int).toNat].at_ := f.endLe i hit
    have f2 : T[(i : Int).toNat].at_ + T[(i : Int).toNat].text.length ≤ src.length := f.bnd i hit
    have f3 : unb (List.drop (T[(i : Int).toNat].at_ : Int).toNat (List.take ((T[(i : Int).toNat].at_ : Int) + (T[(i : Int).toNat].text.length : Int)).toNat (List.map brow src))) = T[(i : Int).toNat].text := by
      rw [unb_sub_eq]; exact (f.txt i hit).symm
    have f4 : T[(i : Int).toNat].kind ≠ 4 → T[(i : Int).toNat].text ≠ [] := f.ne i hit
    ((conv => whnf); repeat' ((first | (intro hq; (try simp only [List.length_set, List.length_replicate, List.length_map, List.length_append, List.length_drop, List.length_take, List.length_cons, List.length_nil] at hq); (try rewrite [List.length_map])) | (refine And.intro (by first | exact rfl | exact trivial | exact fresh_of (by with_unfolding_all exact rfl) | exact List.cons_ne_nil _ _ | exact leaf_of rfl | exact unb_sub _ _ _ | exact Nat.le_of_ble_eq_true rfl | exact notMem_of (by with_unfolding_all exact rfl) | omega | (rw [unb_map]) | exact byte_lt _ | (simp only [List.length_set, List.length_replicate, List.length_map, List.length_append, List.length_drop, List.length_take, List.length_cons, List.length_nil, Int.toNat_natCast]; omega) | (simp only [List.length_set, List.length_replicate, List.length_map, List.length_append, List.length_drop, List.length_take, List.length_cons, List.length_nil, Int.toNat_natCast] at *; omega) | (show eqOK _ _ = true; kernel_rfl) | (rw [List.length_append]; exact rfl) | (simp only [List.length_map, List.length_append]; exact rfl)) ?_) | (refine Exists.intro _ (And.intro rfl ?_)) | (refine Exists.intro (show (_ : Nat) < List.length _ from by first | omega | (simp only [List.length_cons, List.length_nil]; omega) | simp) ?_) | (refine ⟨_, row_at (by first | omega | (simp only [List.length_map]; omega)), ?_⟩) | (refine draw_rule hty (by kernel_rfl) (by kernel_rfl) ?_) | (refine brB_dec (fun hb => ?_) (fun hb => ?_) <;> (first | contradiction | ((try simp only [List.length_set, List.length_replicate, List.length_map, List.length_append, List.length_drop, List.length_take, List.length_cons, List.length_nil] at hb); (first | (exfalso; omega) | skip)))) | (refine brB_ndec (fun hb => ?_) (fun hb => ?_) <;> (first | contradiction | ((try simp only [List.length_set, List.length_replicate, List.length_map, List.length_append, List.length_drop, List.length_take, List.length_cons, List.length_nil] at hb); (first | (exfalso; omega) | skip)))) | (refine brB_split (fun hb => ?_) (fun hb => ?_) <;> (first | contradiction | exact absurd (hb.symm.trans (by assumption) : false = true) (by decide) | exact absurd (hb.symm.trans (by assumption) : true = false) (by decide) | skip))) <;> (conv => whnf)))
    · rename_i hk
      exact absurd hb (f4 (by intro e; exact hk (by rw [e]; rfl)))
    all_goals
      clear hb
      refine loop_rule hty (fun q : Nat => ([(0, .d (bsv src)), (3, .d (.sl 3 (T.map tokR))), (4, .d (.sl 2 (B.map badR))), (6, .d (.int .i64 (endAt T i))), (7, .d (.int .i64 q)), (8, .d (.int .i64 i)), (9, .ptr 9 0)], [(9, .cells 35 [.d (.int .i64 T[(i : Int).toNat].kind), .d (.str T[(i : Int).toNat].text), .d (.int .i64 T[(i : Int).toNat].at_)])]))
        (fun q => q ≤ B.length ∧ ∀ j (h : j < B.length), q ≤ j → endAt T i ≤ B[j]) (fun q => B.length - q) p ⟨hp, hj⟩ ⟨by repeat' (first | exact trivial | exact rfl | refine And.intro ?_ ?_), by repeat' (first | exact trivial | exact rfl | refine And.intro ?_ ?_)⟩ ?_
      rintro q ⟨hq1, hq2⟩
      have ee : endAt T (i + 1) = T[(i : Int).toNat].at_ + T[(i : Int).toNat].text.length := endAt_succ T i hit
      ((conv => whnf); repeat' ((first | (intro hq; (try simp only [List.length_set, List.length_replicate, List.length_map, List.length_append, List.length_drop, List.length_take, List.length_cons, List.length_nil] at hq); (try rewrite [List.length_map])) | (refine And.intro (by first | exact rfl | exact trivial | exact fresh_of (by with_unfolding_all exact rfl) | exact List.cons_ne_nil _ _ | exact leaf_of rfl | exact unb_sub _ _ _ | exact Nat.le_of_ble_eq_true rfl | exact notMem_of (by with_unfolding_all exact rfl) | omega | (rw [unb_map]) | exact byte_lt _ | (simp only [List.length_set, List.length_replicate, List.length_map, List.length_append, List.length_drop, List.length_take, List.length_cons, List.length_nil, Int.toNat_natCast]; omega) | (simp only [List.length_set, List.length_replicate, List.length_map, List.length_append, List.length_drop, List.length_take, List.length_cons, List.length_nil, Int.toNat_natCast] at *; omega) | (show eqOK _ _ = true; kernel_rfl) | (rw [List.length_append]; exact rfl) | (simp only [List.length_map, List.length_append]; exact rfl)) ?_) | (refine Exists.intro _ (And.intro rfl ?_)) | (refine Exists.intro (show (_ : Nat) < List.length _ from by first | omega | (simp only [List.length_cons, List.length_nil]; omega) | simp) ?_) | (refine ⟨_, row_at (by first | omega | (simp only [List.length_map]; omega)), ?_⟩) | (refine draw_rule hty (by kernel_rfl) (by kernel_rfl) ?_) | (refine brB_dec (fun hb => ?_) (fun hb => ?_) <;> (first | contradiction | ((try simp only [List.length_set, List.length_replicate, List.length_map, List.length_append, List.length_drop, List.length_take, List.length_cons, List.length_nil] at hb); (first | (exfalso; omega) | skip)))) | (refine brB_ndec (fun hb => ?_) (fun hb => ?_) <;> (first | contradiction | ((try simp only [List.length_set, List.length_replicate, List.length_map, List.length_append, List.length_drop, List.length_take, List.length_cons, List.length_nil] at hb); (first | (exfalso; omega) | skip)))) | (refine brB_split (fun hb => ?_) (fun hb => ?_) <;> (first | contradiction | exact absurd (hb.symm.trans (by assumption) : false = true) (by decide) | exact absurd (hb.symm.trans (by assumption) : true = false) (by decide) | skip))) <;> (conv => whnf)))
      · exfalso
        have h9 : endAt T i ≤ B[(q : Int).toNat] := hq2 q (by omega) (Nat.le_refl _)
        omega
      · exfalso
        have h9 : B[((q : Int) - 1).toNat] < B[(q : Int).toNat] := f.mono _ _ (by omega) (by omega)
        omega
      · exact ⟨q + 1, ⟨by omega, fun j h hj => hq2 j h (by omega)⟩, by dsimp only; omega, ⟨by repeat' (first | exact trivial | exact rfl | refine And.intro ?_ ?_), by repeat' (first | exact trivial | exact rfl | refine And.intro ?_ ?_)⟩⟩
      · exact ⟨q + 1, ⟨by omega, fun j h hj => hq2 j h (by omega)⟩, by dsimp only; omega, ⟨by repeat' (first | exact trivial | exact rfl | refine And.intro ?_ ?_), by repeat' (first | exact trivial | exact rfl | refine And.intro ?_ ?_)⟩⟩
      · refine ⟨(i + 1, q), ⟨by dsimp only; omega, hq1, fun j h hj => ?_⟩, by dsimp only; omega, ?_⟩
        · dsimp only
          rw [ee]
          have h9 := f.out (i : Int).toNat j hit h
          have h10 : B[(q : Int).toNat]'(by omega) ≤ B[j] := by
            rcases Nat.lt_or_ge q j with h11 | h11
            · exact Nat.le_of_lt (f.mono q j h11 h)
            · have : q = j := by dsimp only at hj; omega
              subst this; exact Nat.le_refl _
          omega
        · dsimp only
          rw [ee]
          exact ⟨by repeat' (first | exact trivial | exact rfl | refine And.intro ?_ ?_), by repeat' (first | exact trivial | exact rfl | refine And.intro ?_ ?_)⟩
      · refine ⟨(i + 1, q), ⟨by dsimp only; omega, hq1, fun j h hj => ?_⟩, by dsimp only; omega, ?_⟩
        · dsimp only at hj; omega
        · dsimp only
          rw [ee]
          exact ⟨by repeat' (first | exact trivial | exact rfl | refine And.intro ?_ ?_), by repeat' (first | exact trivial | exact rfl | refine And.intro ?_ ?_)⟩
  · simp only [List.length_map] at h1
    obtain rfl : i = T.length := by omega
    have hN := f.endN
    have hpB : p = B.length := by
      rcases Nat.lt_or_ge p B.length with h | h
      · have h3 := hj p h (Nat.le_refl _)
        have h4 := f.bb p h
        omega
      · omega
    ((conv => whnf); repeat' ((first | (intro hq; (try simp only [List.length_set, List.length_replicate, List.length_map, List.length_append, List.length_drop, List.length_take, List.length_cons, List.length_nil] at hq); (try rewrite [List.length_map])) | (refine And.intro (by first | exact rfl | exact trivial | exact fresh_of (by with_unfolding_all exact rfl) | exact List.cons_ne_nil _ _ | exact leaf_of rfl | exact unb_sub _ _ _ | exact Nat.le_of_ble_eq_true rfl | exact notMem_of (by with_unfolding_all exact rfl) | omega | (rw [unb_map]) | exact byte_lt _ | (simp only [List.length_set, List.length_replicate, List.length_map, List.length_append, List.length_drop, List.length_take, List.length_cons, List.length_nil, Int.toNat_natCast]; omega) | (simp only [List.length_set, List.length_replicate, List.length_map, List.length_append, List.length_drop, List.length_take, List.length_cons, List.length_nil, Int.toNat_natCast] at *; omega) | (show eqOK _ _ = true; kernel_rfl) | (rw [List.length_append]; exact rfl) | (simp only [List.length_map, List.length_append]; exact rfl)) ?_) | (refine Exists.intro _ (And.intro rfl ?_)) | (refine Exists.intro (show (_ : Nat) < List.length _ from by first | omega | (simp only [List.length_cons, List.length_nil]; omega) | simp) ?_) | fail | (refine draw_rule hty (by kernel_rfl) (by kernel_rfl) ?_) | (refine brB_dec (fun hb => ?_) (fun hb => ?_) <;> (first | contradiction | ((try simp only [List.length_set, List.length_replicate, List.length_map, List.length_append, List.length_drop, List.length_take, List.length_cons, List.length_nil] at hb); (first | (exfalso; omega) | skip)))) | (refine brB_ndec (fun hb => ?_) (fun hb => ?_) <;> (first | contradiction | ((try simp only [List.length_set, List.length_replicate, List.length_map, List.length_append, List.length_drop, List.length_take, List.length_cons, List.length_nil] at hb); (first | (exfalso; omega) | skip)))) | (refine brB_split (fun hb => ?_) (fun hb => ?_) <;> (first | contradiction | exact absurd (hb.symm.trans (by assumption) : false = true) (by decide) | exact absurd (hb.symm.trans (by assumption) : true = false) (by decide) | skip))) <;> (conv => whnf)))
    exact bool_eq (decide_eq_true (by rw [hpB]))
end Go.Proofs.Ytepebjhnefhciaa
