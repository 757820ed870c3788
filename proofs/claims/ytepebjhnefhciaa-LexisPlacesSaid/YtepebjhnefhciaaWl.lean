/-
  The walk through the law LexisBack.
  Conditions: none.
-/
import Derived.Test.YtepebjhnefhciaaWi
import Derived.Test.YtepebjhnefhciaaL7
namespace Go.Proofs.Ytepebjhnefhciaa
open Go.Proofs
set_option linter.unusedSimpArgs false
set_option maxRecDepth 10000
attribute [local irreducible] SemVC CallVC Tri Stuck

theorem tokensOf_eq (src : List UInt8) : tokensOf src = LT src 0 ++ [⟨4, [], src.length⟩] := by rw [tokensOf, LT_last]

def kt (t : GT) : Int × List UInt8 := (t.kind, t.text)

theorem sameF_kt : ∀ (A B : List GT), A.map kt = B.map kt → sameF false A B = true
  | [], [], _ => rfl
  | x :: A, y :: B, h => by
    simp only [List.map_cons, List.cons.injEq, kt, Prod.mk.injEq] at h
    have := sameF_kt A B h.2
    unfold sameF at this ⊢
    simp only [all2, this, Bool.and_true]
    simp [tokEq, h.1.1, h.1.2]

/-- The pairs that are joined. -/
def prs (l : List GT) : List (Nat × List UInt8) := l.map fun t => (t.kind.toNat, t.text)

theorem joinB_prs (l : List GT) : joinB l = joinX (prs l) := by
  rw [joinB, joinX, prs, List.flatMap_map]

theorem prs_ok {l : List GT} (h : l.all tokOK = true) : ∀ t ∈ prs l, t.2 ≠ [] ∧ t.1 ≠ 0 ∧ scanF t.2 = (t.1, t.2.length) := by
  intro t ht
  obtain ⟨g, hg, rfl⟩ := List.mem_map.1 ht
  obtain ⟨h1, h2, k, h3, h4⟩ := (tokOK_iff g).1 (List.all_eq_true.1 h g hg)
  have e : g.kind.toNat = k := by omega
  refine ⟨h1, ?_, ?_⟩
  · simp only [e]; omega
  · simp only [e]; exact h4

structure BackF (l : List GT) (b : List UInt8) : Prop where
  bad : badsOf b = []
  same : sameF false l ((tokensOf b).map toG) = true

theorem back_of {A : List GT} {e : GT} (ha : A.all tokOK = true) (he : e.kind = 4 ∧ e.text = []) : BackF (A ++ [e]) (joinB A) := by
  have hok := prs_ok ha
  have hx := LX_join (prs A) hok 0 (-1)
  rw [← joinB_prs] at hx
  refine ⟨by rw [badsOf, hx]; rfl, sameF_kt _ _ ?_⟩
  rw [tokensOf, hx]
  simp only [List.map_append, List.map_map, List.map_cons, List.map_nil]
  congr 1
  · have h1 := joinToks_map (prs A) 0
    have h2 : (joinToks (prs A) 0).map (kt ∘ toG) = ((joinToks (prs A) 0).map fun t => (t.kind, t.text)).map fun p => ((p.1 : Int), p.2) := by
      rw [List.map_map]; rfl
    rw [h2, h1, prs, List.map_map]
    refine List.map_congr_left fun g hg => ?_
    obtain ⟨_, _, k, h3, _⟩ := (tokOK_iff g).1 (List.all_eq_true.1 ha g hg)
    simp only [kt, Function.comp]
    rw [show ((g.kind.toNat : Nat) : Int) = g.kind from by omega]
  · simp only [kt, toG, he.1, he.2]; rfl

theorem joinF_inv {l : List GT} {b : List UInt8} (h : joinF l = (b, 0)) : BackF l b := by
  unfold joinF at h
  split at h
  · simp at h
  · rename_i e he
    obtain ⟨hlt, hget⟩ := List.getElem?_eq_some_iff.1 he
    split at h
    · rename_i hk
      split at h
      · rename_i ha
        split at h
        · simp at h
        · injection h with h1 h2
          subst h1
          have hl : l = l.take (l.length - 1) ++ [e] := by
            conv => lhs; rw [← List.take_append_drop (l.length - 1) l]
            congr 1
            rw [List.drop_eq_getElem_cons hlt, hget, List.drop_eq_nil_of_le (by omega)]
          have := back_of ha hk
          rw [← hl] at this
          exact this
      · simp at h
    · simp at h

theorem tokensOf_step (src : List UInt8) (i : Nat) (h : i + 1 < (tokensOf src).length) : ((tokensOf src)[i]'(by omega)).at_ < ((tokensOf src)[i + 1]).at_ := by
  have hp : (tokensOf src).Pairwise fun a b => a.at_ + a.text.length ≤ b.at_ := by
    rw [tokensOf]
    have := LX_places src 0 (-1)
    refine List.pairwise_append.2 ⟨this.ord, List.pairwise_singleton .., fun a ha b hb => ?_⟩
    rw [LT_last] at ha
    have := LT_bounds _ _ 0 a ha
    simp at hb
    subst hb
    simp only
    omega
  have h1 := List.pairwise_iff_getElem.1 hp i (i + 1) (by omega) h (by omega)
  have h2 : ((tokensOf src)[i]'(by omega)).text ≠ [] := by
    have hlt : i < (LT src 0).length := by rw [tokensOf_eq] at h; simp at h; omega
    have e : ((tokensOf src)[i]'(by omega)) = (LT src 0)[i] := by
      simp only [tokensOf_eq]; rw [List.getElem_append_left hlt]
    rw [e]
    exact (LT_bounds _ _ 0 _ (List.getElem_mem hlt)).2.2
  have h3 := List.length_pos_iff.2 h2
  omega

theorem lexisBack_spec (l : List GT) : Tri Try.prog 5 [.d (gsv l)] [] (fun r => r = .d (.bool true)) := by
  refine tri_of_body hty Try.func5 rfl (kp [0, 2, 3, 4, 5, 6, 7, 8, 10, 13, 20, 42, 46, 82]) [] _ _ _ (by simp [Try.f5]) (by simp) ?_
  ((conv => whnf); repeat ((first | (intro hq; try simp only [List.length_set, List.length_replicate, List.length_map, List.length_append, List.length_drop, List.length_take, List.length_cons, List.length_nil] at hq) | (refine And.intro (by first | exact rfl | exact trivial | exact fresh_of (by with_unfolding_all exact rfl) | exact List.cons_ne_nil _ _ | exact leaf_of rfl | exact unb_sub _ _ _ | exact Nat.le_of_ble_eq_true rfl | exact notMem_of (by with_unfolding_all exact rfl) | omega | (rw [unb_map]) | exact byte_lt _ | (simp only [List.length_set, List.length_replicate, List.length_map, List.length_append, List.length_drop, List.length_take, List.length_cons, List.length_nil, Int.toNat_natCast]; omega) | (simp only [List.length_set, List.length_replicate, List.length_map, List.length_append, List.length_drop, List.length_take, List.length_cons, List.length_nil, Int.toNat_natCast] at *; omega)) ?_) | (refine Exists.intro _ (And.intro rfl ?_))); (conv => whnf)))
  refine call_tri [] sane_spec trivial (fun s hs => ?_)
  subst hs
  ((conv => whnf); repeat' ((first | (intro hq; (try simp only [List.length_set, List.length_replicate, List.length_map, List.length_append, List.length_drop, List.length_take, List.length_cons, List.length_nil] at hq); (try rewrite [List.length_map])) | (refine And.intro (by first | exact rfl | exact trivial | exact fresh_of (by with_unfolding_all exact rfl) | exact List.cons_ne_nil _ _ | exact leaf_of rfl | exact unb_sub _ _ _ | exact Nat.le_of_ble_eq_true rfl | exact notMem_of (by with_unfolding_all exact rfl) | omega | (rw [unb_map]) | exact byte_lt _ | (simp only [List.length_set, List.length_replicate, List.length_map, List.length_append, List.length_drop, List.length_take, List.length_cons, List.length_nil, Int.toNat_natCast]; omega) | (simp only [List.length_set, List.length_replicate, List.length_map, List.length_append, List.length_drop, List.length_take, List.length_cons, List.length_nil, Int.toNat_natCast] at *; omega) | (show eqOK _ _ = true; kernel_rfl) | (rw [List.length_append]; exact rfl) | (simp only [List.length_map, List.length_append]; exact rfl)) ?_) | (refine Exists.intro _ (And.intro rfl ?_)) | (refine Exists.intro (show (_ : Nat) < List.length _ from by first | omega | (simp only [List.length_cons, List.length_nil]; omega) | simp) ?_) | (refine call_tri [] (few_spec l) trivial (fun s hs => ?_); subst hs) | (refine draw_rule hty (by kernel_rfl) (by kernel_rfl) ?_) | (refine brB_dec (fun hb => ?_) (fun hb => ?_) <;> (first | contradiction | ((try simp only [List.length_set, List.length_replicate, List.length_map, List.length_append, List.length_drop, List.length_take, List.length_cons, List.length_nil] at hb); (first | (exfalso; omega) | skip)))) | (refine brB_ndec (fun hb => ?_) (fun hb => ?_) <;> (first | contradiction | ((try simp only [List.length_set, List.length_replicate, List.length_map, List.length_append, List.length_drop, List.length_take, List.length_cons, List.length_nil] at hb); (first | (exfalso; omega) | skip)))) | (refine brB_split (fun hb => ?_) (fun hb => ?_) <;> (first | contradiction | exact absurd (hb.symm.trans (by assumption) : false = true) (by decide) | exact absurd (hb.symm.trans (by assumption) : true = false) (by decide) | skip))) <;> (conv => whnf)))
  · rfl
  have hsm : Small l := small_of (by simpa using hb)
  refine call_tri [] (join_spec l hsm) trivial (fun s hs => ?_)
  cases hs with
  | no e h he =>
    ((conv => whnf); repeat' ((first | (intro hq; (try simp only [List.length_set, List.length_replicate, List.length_map, List.length_append, List.length_drop, List.length_take, List.length_cons, List.length_nil] at hq); (try rewrite [List.length_map])) | (refine And.intro (by first | exact rfl | exact trivial | exact fresh_of (by with_unfolding_all exact rfl) | exact List.cons_ne_nil _ _ | exact leaf_of rfl | exact unb_sub _ _ _ | exact Nat.le_of_ble_eq_true rfl | exact notMem_of (by with_unfolding_all exact rfl) | omega | (rw [unb_map]) | exact byte_lt _ | (simp only [List.length_set, List.length_replicate, List.length_map, List.length_append, List.length_drop, List.length_take, List.length_cons, List.length_nil, Int.toNat_natCast]; omega) | (simp only [List.length_set, List.length_replicate, List.length_map, List.length_append, List.length_drop, List.length_take, List.length_cons, List.length_nil, Int.toNat_natCast] at *; omega) | (show eqOK _ _ = true; kernel_rfl) | (rw [List.length_append]; exact rfl) | (simp only [List.length_map, List.length_append]; exact rfl)) ?_) | (refine Exists.intro _ (And.intro rfl ?_)) | (refine Exists.intro (show (_ : Nat) < List.length _ from by first | omega | (simp only [List.length_cons, List.length_nil]; omega) | simp) ?_) | fail | (refine draw_rule hty (by kernel_rfl) (by kernel_rfl) ?_) | (refine brB_dec (fun hb => ?_) (fun hb => ?_) <;> (first | contradiction | ((try simp only [List.length_set, List.length_replicate, List.length_map, List.length_append, List.length_drop, List.length_take, List.length_cons, List.length_nil] at hb); (first | (exfalso; omega) | skip)))) | (refine brB_ndec (fun hb => ?_) (fun hb => ?_) <;> (first | contradiction | ((try simp only [List.length_set, List.length_replicate, List.length_map, List.length_append, List.length_drop, List.length_take, List.length_cons, List.length_nil] at hb); (first | (exfalso; omega) | skip)))) | (refine brB_split (fun hb => ?_) (fun hb => ?_) <;> (first | contradiction | exact absurd (hb.symm.trans (by assumption) : false = true) (by decide) | exact absurd (hb.symm.trans (by assumption) : true = false) (by decide) | skip))) <;> (conv => whnf)))
    all_goals rfl
  | yes b h hb1 =>
    obtain ⟨hbad, hsame⟩ := joinF_inv h
    ((conv => whnf); repeat' ((first | (intro hq; (try simp only [List.length_set, List.length_replicate, List.length_map, List.length_append, List.length_drop, List.length_take, List.length_cons, List.length_nil] at hq); (try rewrite [List.length_map])) | (refine And.intro (by first | exact rfl | exact trivial | exact fresh_of (by with_unfolding_all exact rfl) | exact List.cons_ne_nil _ _ | exact leaf_of rfl | exact unb_sub _ _ _ | exact Nat.le_of_ble_eq_true rfl | exact notMem_of (by with_unfolding_all exact rfl) | omega | (rw [unb_map]) | exact byte_lt _ | (simp only [List.length_set, List.length_replicate, List.length_map, List.length_append, List.length_drop, List.length_take, List.length_cons, List.length_nil, Int.toNat_natCast]; omega) | (simp only [List.length_set, List.length_replicate, List.length_map, List.length_append, List.length_drop, List.length_take, List.length_cons, List.length_nil, Int.toNat_natCast] at *; omega) | (show eqOK _ _ = true; kernel_rfl) | (rw [List.length_append]; exact rfl) | (simp only [List.length_map, List.length_append]; exact rfl)) ?_) | (refine Exists.intro _ (And.intro rfl ?_)) | (refine Exists.intro (show (_ : Nat) < List.length _ from by first | omega | (simp only [List.length_cons, List.length_nil]; omega) | simp) ?_) | fail | (refine draw_rule hty (by kernel_rfl) (by kernel_rfl) ?_) | (refine brB_dec (fun hb => ?_) (fun hb => ?_) <;> (first | contradiction | ((try simp only [List.length_set, List.length_replicate, List.length_map, List.length_append, List.length_drop, List.length_take, List.length_cons, List.length_nil] at hb); (first | (exfalso; omega) | skip)))) | (refine brB_ndec (fun hb => ?_) (fun hb => ?_) <;> (first | contradiction | ((try simp only [List.length_set, List.length_replicate, List.length_map, List.length_append, List.length_drop, List.length_take, List.length_cons, List.length_nil] at hb); (first | (exfalso; omega) | skip)))) | (refine brB_split (fun hb => ?_) (fun hb => ?_) <;> (first | contradiction | exact absurd (hb.symm.trans (by assumption) : false = true) (by decide) | exact absurd (hb.symm.trans (by assumption) : true = false) (by decide) | skip))) <;> (conv => whnf)))
    refine call_tri [] (tokens_spec b) trivial (fun s hs => ?_)
    rcases hs with ⟨hh, _⟩ | ⟨_, hh⟩
    · omega
    rw [hbad] at hh
    subst hh
    ((conv => whnf); repeat' ((first | (intro hq; (try simp only [List.length_set, List.length_replicate, List.length_map, List.length_append, List.length_drop, List.length_take, List.length_cons, List.length_nil] at hq); (try rewrite [List.length_map])) | (refine And.intro (by first | exact rfl | exact trivial | exact fresh_of (by with_unfolding_all exact rfl) | exact List.cons_ne_nil _ _ | exact leaf_of rfl | exact unb_sub _ _ _ | exact Nat.le_of_ble_eq_true rfl | exact notMem_of (by with_unfolding_all exact rfl) | omega | (rw [unb_map]) | exact byte_lt _ | (simp only [List.length_set, List.length_replicate, List.length_map, List.length_append, List.length_drop, List.length_take, List.length_cons, List.length_nil, Int.toNat_natCast]; omega) | (simp only [List.length_set, List.length_replicate, List.length_map, List.length_append, List.length_drop, List.length_take, List.length_cons, List.length_nil, Int.toNat_natCast] at *; omega) | (show eqOK _ _ = true; kernel_rfl) | (rw [List.length_append]; exact rfl) | (simp only [List.length_map, List.length_append]; exact rfl)) ?_) | (refine Exists.intro _ (And.intro rfl ?_)) | (refine Exists.intro (show (_ : Nat) < List.length _ from by first | omega | (simp only [List.length_cons, List.length_nil]; omega) | simp) ?_) | fail | (refine draw_rule hty (by kernel_rfl) (by kernel_rfl) ?_) | (refine brB_dec (fun hb => ?_) (fun hb => ?_) <;> (first | contradiction | ((try simp only [List.length_set, List.length_replicate, List.length_map, List.length_append, List.length_drop, List.length_take, List.length_cons, List.length_nil] at hb); (first | (exfalso; omega) | skip)))) | (refine brB_ndec (fun hb => ?_) (fun hb => ?_) <;> (first | contradiction | ((try simp only [List.length_set, List.length_replicate, List.length_map, List.length_append, List.length_drop, List.length_take, List.length_cons, List.length_nil] at hb); (first | (exfalso; omega) | skip)))) | (refine brB_split (fun hb => ?_) (fun hb => ?_) <;> (first | contradiction | exact absurd (hb.symm.trans (by assumption) : false = true) (by decide) | exact absurd (hb.symm.trans (by assumption) : true = false) (by decide) | skip))) <;> (conv => whnf)))
    rw [map_tokR]
    refine call_tri [] (same_spec _ _ _) trivial (fun s hs => ?_)
    subst hs
    rw [hsame, ← map_tokR]
    ((conv => whnf); repeat ((first | (intro hq; try simp only [List.length_set, List.length_replicate, List.length_map, List.length_append, List.length_drop, List.length_take, List.length_cons, List.length_nil] at hq) | (refine And.intro (by first | exact rfl | exact trivial | exact fresh_of (by with_unfolding_all exact rfl) | exact List.cons_ne_nil _ _ | exact leaf_of rfl | exact unb_sub _ _ _ | exact Nat.le_of_ble_eq_true rfl | exact notMem_of (by with_unfolding_all exact rfl) | omega | (rw [unb_map]) | exact byte_lt _ | (simp only [List.length_set, List.length_replicate, List.length_map, List.length_append, List.length_drop, List.length_take, List.length_cons, List.length_nil, Int.toNat_natCast]; omega) | (simp only [List.length_set, List.length_replicate, List.length_map, List.length_append, List.length_drop, List.length_take, List.length_cons, List.length_nil, Int.toNat_natCast] at *; omega)) ?_) | (refine Exists.intro _ (And.intro rfl ?_))); (conv => whnf)))
    have hpos : 0 < (tokensOf b).length := by rw [tokensOf_eq]; simp
    refine loop_rule hty (fun k : Nat => ([(5, .d (.sl 3 ((tokensOf b).map tokR))), (8, .d (.int .i64 (k + 1 : Nat)))], [])) (fun k => k + 1 ≤ (tokensOf b).length) (fun k => (tokensOf b).length - k) 0 (by omega) ⟨by repeat' (first | exact trivial | exact rfl | refine And.intro ?_ ?_), by repeat' (first | exact trivial | exact rfl | refine And.intro ?_ ?_)⟩ ?_
    intro k hk
    have hst : ∀ i j (hi : i < (tokensOf b).length) (hj : j < (tokensOf b).length), i = j + 1 → ((tokensOf b)[j]).at_ < ((tokensOf b)[i]).at_ := by
      rintro i j hi hj rfl; exact tokensOf_step b j hi
    ((conv => whnf); repeat' ((first | (intro hq; (try simp only [List.length_set, List.length_replicate, List.length_map, List.length_append, List.length_drop, List.length_take, List.length_cons, List.length_nil] at hq); (try rewrite [List.length_map])) | (refine And.intro (by first | exact rfl | exact trivial | exact fresh_of (by with_unfolding_all exact rfl) | exact List.cons_ne_nil _ _ | exact leaf_of rfl | exact unb_sub _ _ _ | exact Nat.le_of_ble_eq_true rfl | exact notMem_of (by with_unfolding_all exact rfl) | omega | (rw [unb_map]) | exact byte_lt _ | (simp only [List.length_set, List.length_replicate, List.length_map, List.length_append, List.length_drop, List.length_take, List.length_cons, List.length_nil, Int.toNat_natCast]; omega) | (simp only [List.length_set, List.length_replicate, List.length_map, List.length_append, List.length_drop, List.length_take, List.length_cons, List.length_nil, Int.toNat_natCast] at *; omega) | (show eqOK _ _ = true; kernel_rfl) | (rw [List.length_append]; exact rfl) | (simp only [List.length_map, List.length_append]; exact rfl)) ?_) | (refine Exists.intro _ (And.intro rfl ?_)) | (refine Exists.intro (show (_ : Nat) < List.length _ from by first | omega | (simp only [List.length_cons, List.length_nil]; omega) | simp) ?_) | (refine ⟨_, row_at (by first | omega | (simp only [List.length_map]; omega)), ?_⟩) | (refine draw_rule hty (by kernel_rfl) (by kernel_rfl) ?_) | (refine brB_dec (fun hb => ?_) (fun hb => ?_) <;> (first | contradiction | ((try simp only [List.length_set, List.length_replicate, List.length_map, List.length_append, List.length_drop, List.length_take, List.length_cons, List.length_nil] at hb); (first | (exfalso; omega) | skip)))) | (refine brB_ndec (fun hb => ?_) (fun hb => ?_) <;> (first | contradiction | ((try simp only [List.length_set, List.length_replicate, List.length_map, List.length_append, List.length_drop, List.length_take, List.length_cons, List.length_nil] at hb); (first | (exfalso; omega) | skip)))) | (refine brB_split (fun hb => ?_) (fun hb => ?_) <;> (first | contradiction | exact absurd (hb.symm.trans (by assumption) : false = true) (by decide) | exact absurd (hb.symm.trans (by assumption) : true = false) (by decide) | skip))) <;> (conv => whnf)))
    · have := hst ((k + 1 : Nat) : Int).toNat (((k + 1 : Nat) : Int) - 1).toNat (by omega) (by omega) (by omega)
      exfalso; omega
    · have := hst ((k + 1 : Nat) : Int).toNat (((k + 1 : Nat) : Int) - 1).toNat (by omega) (by omega) (by omega)
      exfalso; omega
    · have := hst ((k + 1 : Nat) : Int).toNat (((k + 1 : Nat) : Int) - 1).toNat (by omega) (by omega) (by omega)
      exfalso; omega
    · exact ⟨k + 1, by omega, by dsimp only; omega, ⟨by repeat' (first | exact trivial | exact rfl | refine And.intro ?_ ?_), by repeat' (first | exact trivial | exact rfl | refine And.intro ?_ ?_)⟩⟩
    · rfl
end Go.Proofs.Ytepebjhnefhciaa
