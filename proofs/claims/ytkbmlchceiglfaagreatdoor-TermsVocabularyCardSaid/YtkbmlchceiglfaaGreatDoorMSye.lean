/-
  Rows that the call may write are stable from here on: data.
  Conditions: none.
-/
import Derived.Test.YtkbmlchceiglfaaGreatDoorMSyd
namespace Go.Proofs.YtkbmlchceiglfaaGreatDoor
set_option linter.unnecessarySimpa false
set_option linter.unusedSectionVars false
set_option linter.unusedSimpArgs false
set_option linter.unusedVariables false
open Go.Proofs

theorem Mem.froze {E : Entry} {ρ : Env} {hp hp' : Hp} {w : World} (h : Mem E ρ hp w) {id e z cap : Nat} {rows : List (List D)} (ho : getH hp id = some (.mrow e z cap rows)) (hsub : subH hp' hp) (hno : getH hp' id = none) :
    ∃ S' : Nat → Nat → Prop, (∀ b i, ρ.S b i → S' b i) ∧ Mem E (ρ.withS S') hp' w ∧ RepD w S' (.sl z rows) (ρ.tv id) := by
  have hat : ∀ b, mblk (ρ.tv id) = some b → ρ.at id (.mrow e z cap rows) = some b := fun b hb => hb
  have hs0 : ∀ i o, getH hp' i = some o → getH hp i = some o := subH_ok _ _ hsub
  have hne : ∀ i o, getH hp' i = some o → i ≠ id := fun i o hi e => by rw [e, hno] at hi; cases hi
  refine ⟨fun b i => ρ.S b i ∨ (mblk (ρ.tv id) = some b ∧ i < rows.length * z), fun b i hs => .inl hs, ?_, ?_⟩
  · refine ⟨h.os, h.tape, h.output, h.size, h.old, fun b i hs => .inl (h.sold b i hs), ?_, ?_, h.kp, ?_, fun i o i' o' g hi hi' => h.inj i o i' o' g (hs0 i o hi) (hs0 i' o' hi'), fun i o g hi => h.hb i o g (hs0 i o hi), fun i hi => Env.moved_trans (h.mv i hi) (ρ.moved_withS _ i), ?_, h.md⟩
    · rintro b i (hs | ⟨hb, _⟩) hlt hB
      · exact h.snew b i hs hlt hB
      · rcases h.hb id _ b ho (hat b hb) with h1 | h1
        · omega
        · exact absurd h1 hB
    · rintro b i (hs | ⟨hb, _⟩)
      · exact h.slt b i hs
      · exact h.blk_lt ho (hat b hb)
    · intro i o hi
      refine (h.sat i o (hs0 i o hi)).keep (fun _ _ _ => rfl) (fun b i hs => .inl hs) (fun i _ => ρ.moved_withS _ i) ⟨rfl, rfl⟩ (fun g _ => rfl) ?_
      rintro g hg j (hs | ⟨hb, _⟩)
      · exact hs
      · exact absurd (h.inj i o id _ g (hs0 i o hi) ho hg (hat g hb)) (hne i o hi)
    · intro i t cs g hi hg i' o' hi'
      exact h.ro i t cs g (hs0 _ _ hi) hg i' o' (hs0 _ _ hi')
  · obtain ⟨_, h2⟩ := h.sat id _ ho
    rcases h2 with ⟨rfl, _, A, e1⟩ | ⟨hc, g, cur, e1, q1, q2, q3, q4, q6, q7⟩
    · rw [e1]
      exact RepD.mk_sl (b := 0) (off := 0) (by simp) (by simp) (fun hne => absurd rfl hne) ⟨by simp, by simp⟩ (by simp)
    · have hb : mblk (ρ.tv id) = some g := by
        rw [e1]; have : cap ≠ 0 := by omega
        simp [mblk, this]
      have key : RepD w (fun b i => ρ.S b i ∨ (mblk (ρ.tv id) = some b ∧ i < rows.length * z)) (.sl z rows) (.slice (some ⟨g, 0, none⟩) rows.length cap) := by
        refine RepD.mk_sl (b := g) (off := 0) q2 q3 (fun _ => rfl) ?_ rfl
        refine q6.view (fun k v hv => ?_) (fun k hk => ?_) (fun x v hx => hx.mono (fun _ _ _ => rfl) fun b i hs => .inl hs)
        · rw [Nat.zero_add, cell_of_row w g k cur e (0, 0) q1]
          rw [List.getElem?_take] at hv
          split at hv
          · simpa using hv
          · cases hv
        · rw [Nat.zero_add]
          right
          refine ⟨hb, ?_⟩
          rw [q6.len] at hk; exact hk
      rw [e1] at key ⊢
      exact key

/-- An argument that is rows of the call's own is data for the callee, and from there on. -/
theorem CallVC.froz {P : Program} {pin : List Nat} {fr : Fr} {hp hp' : Hp} {f : FuncId} {asv : List SV} {K : SV → Hp → Prop} (j id : Nat) {e z cap n : Nat} {rows : List (List D)} (ho : getH hp id = some (.mrow e z cap rows)) (hn : n = rows.length) (hj : asv[j]? = some (.mw id z n))
    (hsub : subH hp' hp) (hno : getH hp' id = none) (h : CallVC P pin fr hp' f (asv.set j (.d (.sl z rows))) K) : CallVC P pin fr hp f asv K := by
  intro E ρ w tm hpin h3 h4 vs hargs
  obtain ⟨S', s1, s2, s3⟩ := h3.froze ho hsub hno
  obtain ⟨q1, _⟩ := h3.sat id _ ho
  refine h E _ w tm hpin s2 (h4.mono (fun _ _ _ => rfl) s1 fun i _ => ρ.moved_withS S' i) vs ⟨by simpa using hargs.1, ?_⟩
  intro k s v hs hv
  by_cases e : j = k
  · subst e
    have hjl := (List.getElem?_eq_some_iff.1 hj).1
    rw [List.getElem?_set_self hjl] at hs
    injection hs with hs
    subst hs
    obtain ⟨A, c, _, _, _, _, _, e2⟩ := (hargs.2 j _ v hj hv).mw_inv
    have := e2 (hn.trans q1.symm)
    subst this
    exact .d _ _ s3
  · rw [List.getElem?_set_ne e] at hs
    exact (hargs.2 k s v hs hv).mono (fun _ _ _ => rfl) s1 fun i _ => ρ.moved_withS S' i

/-- A slot that holds rows of the call's own holds data from here on. -/
theorem SemVC.froz {C : Cfg} {c : Code} {fr : Fr} {hp hp' : Hp} {K : Ex → Fr → Hp → Prop} (t id : Nat) {e z cap n : Nat} {rows : List (List D)} (ht : getF fr t = some (.mw id z n)) (ho : getH hp id = some (.mrow e z cap rows)) (hn : n = rows.length)
    (hsub : subH hp' hp) (hno : getH hp' id = none) (h : SemVC C c ((t, .d (.sl z rows)) :: fr) hp' K) : SemVC C c fr hp K := by
  intro E a w hpin hrd hsat
  obtain ⟨h1, h2, ρ, h3, h4⟩ := hsat
  obtain ⟨S', s1, s2, s3⟩ := h3.froze ho hsub hno
  obtain ⟨q1, _⟩ := h3.sat id _ ho
  refine h E a w hpin hrd ⟨h1, h2, _, s2, ?_⟩
  intro k s hs
  simp only [getF] at hs
  by_cases e : t = k
  · rw [if_pos e] at hs
    injection hs with hs
    subst hs; subst e
    obtain ⟨v, hv, hr⟩ := h4 t _ ht
    obtain ⟨A, c, _, _, _, _, _, e2⟩ := hr.mw_inv
    have := e2 (hn.trans q1.symm)
    subst this
    exact ⟨_, hv, .d _ _ s3⟩
  · rw [if_neg e] at hs
    obtain ⟨v, hv, hr⟩ := h4 k _ hs
    exact ⟨v, hv, hr.mono (fun _ _ _ => rfl) s1 fun i _ => ρ.moved_withS S' i⟩
end Go.Proofs.YtkbmlchceiglfaaGreatDoor
