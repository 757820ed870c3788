/-
  Statements whose order is open, and that make memory, append, call or store.
  Conditions: none.
-/
import Derived.Test.YtljlhoekpjkgoaaSp
namespace Go.Proofs.Ytljlhoekpjkgoaa
open Go.RowKit

section
variable {P : Program}

/-- 0: it moves a value. 1: it reads. 2: it makes memory and keeps what is known. 3: it stores. -/
def kd : Op → Nat
  | .move _ => 0
  | .assign _ => 0
  | .store _ _ _ => 3
  | .alloc _ => 2
  | .box _ _ => 2
  | .buildSlice _ _ _ => 2
  | .makeSlice _ _ _ => 2
  | .call { callee := .builtin .append, args := _, argTypes := _ } => 2
  | .call { callee := .builtin .copy, args := _, argTypes := _ } => 3
  | .call { callee := .value _, args := _, argTypes := _ } => 2
  | _ => 1

def noX : Exit → Act → World → Prop := fun _ _ _ => False

def wpE (P : Program) (ops : Array Oper) (Q : Act → World → Prop) : Nat → (World → Prop) → Array Bool → Act → World → Prop
  | 0, _, listed, a, w => Region.ready .any ops listed = [] ∧ Q a w
  | fuel + 1, Cl, listed, a, w =>
    (Region.ready .any ops listed = [] → Q a w) ∧
    ∀ i ∈ Region.ready .any ops listed,
      match ops[i]? with
      | none => wpE P ops Q fuel Cl (listed.setIfInBounds i true) a w
      | some o =>
        if Region.wanted o (yielded ops a.tmps) then
          o.wp P a w (fun a' w' => if kd o.op = 3 then wpE P ops Q fuel (fun _ => True) (listed.setIfInBounds i true) a' w' else Cl w' ∧ wpE P ops Q fuel Cl (listed.setIfInBounds i true) a' w') noX
        else wpE P ops Q fuel Cl (listed.setIfInBounds i true) (a.put o.dst undef) w

theorem wp_noX {o : Oper} {a : Act} {w : World} {K K' : Act → World → Prop} {Q : Exit → Act → World → Prop} (h : ∀ a w, K a w → K' a w) (hh : o.wp P a w K noX) : o.wp P a w K' Q := by
  unfold Oper.wp at *
  generalize (execOp a.eval o).run P w = r at *
  cases r with
  | ok n w' =>
    cases n <;> simp only [Oper.upon] at hh ⊢ <;>
      first
        | exact h _ _ hh
        | exact Calls.mono hh (fun e w'' he => by cases e <;> first | exact h _ _ he | exact he.elim | (obtain ⟨_, _, he⟩ := he; exact he.elim))
        | exact Rows.mono hh (fun _ _ he => h _ _ he)
  | halt x w' => cases x <;> simp only [Oper.upon] at hh ⊢ <;> first | exact hh.elim | exact hh

theorem wpE_mono {ops : Array Oper} {Q : Act → World → Prop} : ∀ (fuel : Nat) (Cl Cl' : World → Prop) (listed : Array Bool) (a : Act) (w : World), (∀ w, Cl' w → Cl w) → wpE P ops Q fuel Cl' listed a w → wpE P ops Q fuel Cl listed a w := by
  intro fuel
  induction fuel with
  | zero => intro Cl Cl' listed a w _ h; exact h
  | succ fuel ih =>
    intro Cl Cl' listed a w hc h
    refine ⟨h.1, fun i hi => ?_⟩
    have := h.2 i hi
    split
    · rename_i ho; simp only [ho] at this; exact ih _ _ _ _ _ hc this
    · rename_i o ho
      simp only [ho] at this
      split
      · rename_i hw
        simp only [hw, if_true] at this
        refine wp_noX (fun a' w' hk => ?_) this
        split
        · rename_i h3; simp only [h3, if_true] at hk; exact hk
        · rename_i h3; simp only [h3, if_false] at hk; exact ⟨hc _ hk.1, ih _ _ _ _ _ hc hk.2⟩
      · rename_i hw; simp only [hw] at this; exact ih _ _ _ _ _ hc this

theorem wpAny_of_E {ops : Array Oper} {Q : Exit → Act → World → Prop} : ∀ (fuel : Nat) (Cl : World → Prop) (listed : Array Bool) (a : Act) (w : World), wpE P ops (Q .normal) fuel Cl listed a w → wpAny P .any ops Q fuel listed a w := by
  intro fuel
  induction fuel with
  | zero => intro Cl listed a w h; exact h
  | succ fuel ih =>
    intro Cl listed a w h
    refine ⟨h.1, fun i hi => ?_⟩
    have := h.2 i hi
    unfold wpOp
    split
    · rename_i ho; simp only [ho] at this; exact ih _ _ _ _ this
    · rename_i o ho
      simp only [ho] at this
      split
      · rename_i hw
        simp only [hw, if_true] at this
        left
        refine wp_noX (fun a' w' hk => ?_) this
        split at hk
        · exact ih _ _ _ _ hk
        · exact ih _ _ _ _ hk.2
      · rename_i hw; simp only [hw] at this; exact ih _ _ _ _ this

/-- In every world of the class it yields v. -/
def YE (P : Program) (ops : Array Oper) (Cl : World → Prop) (o : Oper) (v : Value) (a : Act) : Prop :=
  (Region.wanted o (yielded ops a.tmps) = true ∧ ∀ w, (Cl w ∨ kd o.op = 0) → (execOp a.eval o).run P w = .ok (.value v) w) ∨ (Region.wanted o (yielded ops a.tmps) = false ∧ v = undef)

theorem YE.of_same {ops : Array Oper} {Cl : World → Prop} {o : Oper} {v : Value} {a a' : Act} (hy : YE P ops Cl o v a) (he : execOp a'.eval o = execOp a.eval o)
    (hw : Region.wanted o (yielded ops a'.tmps) = Region.wanted o (yielded ops a.tmps)) : YE P ops Cl o v a' := by
  unfold YE at *
  rw [he, hw]
  exact hy

theorem upon_put {o : Oper} {a : Act} {d : Option Tmp} {v : Value} {K : Act → World → Prop} {r : Result Next} (h2 : ∀ x, d = some x → o.dst ≠ some x)
    (hh : o.upon P (a.put d v) K noX r) : o.upon P a (fun a' w' => K (a'.put d v) w') noX r := by
  cases r with
  | ok n w' =>
    cases n <;> simp only [Oper.upon] at hh ⊢
    all_goals first
      | (rw [← Act.put_comm a v _ h2]; exact hh)
      | exact hh.elim
      | exact Calls.mono hh (fun e w'' he => by cases e with | returned u => (have he' : K ((a.put d v).put o.dst u) w'' := he; rw [Act.put_comm a v u h2] at he'; exact he') | panicked ch => exact he | outgrown => exact he)
      | exact Rows.mono hh (fun _ _ he => by rw [← Act.put_comm a v _ h2]; exact he)
      | (rw [← Act.put_comm _ v _ h2, ← Act.put_defers]; exact hh)
      | exact hh
  | halt x w' => cases x <;> simp only [Oper.upon] at hh ⊢ <;> exact hh

theorem wpE_first {ops : Array Oper} {Q : Act → World → Prop} {i : Nat} {oi : Oper} {v : Value} (hi : ops[i]? = some oi) (hsel : Region.noSelect ops = true) (hk3 : kd oi.op ≠ 3) :
    ∀ (fuel : Nat) (Cl : World → Prop) (listed : Array Bool) (a : Act) (w : World), Cl w →
      (∀ j oj, ops[j]? = some oj → j ≠ i → listed.getD j true = false → (∀ e ∈ oj.after, Region.binds .any e = true → e.on ≠ i) → oi.apart ops oj = true) →
      (kd oi.op ≠ 0 → ∀ j oj, ops[j]? = some oj → listed.getD j true = false → kd oj.op = 3 → ∃ e ∈ oj.after, Region.binds .any e = true ∧ e.on = i) →
      i ∈ Region.ready .any ops listed → YE P ops Cl oi v a →
      wpE P ops Q fuel Cl (listed.setIfInBounds i true) (a.put oi.dst v) w → wpE P ops Q (fuel + 1) Cl listed a w := by
  have own : ∀ (fuel : Nat) (Cl : World → Prop) (listed : Array Bool) (a : Act) (w : World), Cl w → YE P ops Cl oi v a → wpE P ops Q fuel Cl (listed.setIfInBounds i true) (a.put oi.dst v) w →
      (match ops[i]? with
      | none => wpE P ops Q fuel Cl (listed.setIfInBounds i true) a w
      | some o => if Region.wanted o (yielded ops a.tmps) then o.wp P a w (fun a' w' => if kd o.op = 3 then wpE P ops Q fuel (fun _ => True) (listed.setIfInBounds i true) a' w' else Cl w' ∧ wpE P ops Q fuel Cl (listed.setIfInBounds i true) a' w') noX
        else wpE P ops Q fuel Cl (listed.setIfInBounds i true) (a.put o.dst undef) w) := by
    intro fuel Cl listed a w hc hy H
    simp only [hi]
    rcases hy with ⟨hw, hrun⟩ | ⟨hw, rfl⟩
    · simp only [hw, if_true]
      refine wp_value (hrun w (.inl hc)) ?_
      simp only [hk3, if_false]
      exact ⟨hc, H⟩
    · simp only [hw, Bool.false_eq_true, if_false]; exact H
  intro fuel
  induction fuel with
  | zero =>
    intro Cl listed a w hc _ _ hr hy H
    refine ⟨fun h => (by rw [h] at hr; cases hr), fun j hj => ?_⟩
    by_cases hji : j = i
    · subst hji; exact own 0 Cl listed a w hc hy H
    · have := ready_mono hj hji
      rw [H.1] at this
      cases this
  | succ fuel ih =>
    intro Cl listed a w hc hfree hT hr hy H
    refine ⟨fun h => (by rw [h] at hr; cases hr), fun j hj => ?_⟩
    by_cases hji : j = i
    · subst hji; exact own _ Cl listed a w hc hy H
    · have h1 := H.2 j (ready_mono hj hji)
      obtain ⟨hjun, oj, hoj, hall⟩ := mem_ready.1 hj
      have hnot : ∀ e ∈ oj.after, Region.binds .any e = true → e.on ≠ i := fun e he hb heq => by
        have h1 := hall e he hb
        have h0 := (mem_ready.1 hr).1
        rw [heq] at h1
        rcases Nat.lt_or_ge i listed.size with h' | h'
        · simp [h'] at h0 h1; rw [h0] at h1; cases h1
        · simp [Array.getElem?_eq_none h'] at h1
      obtain ⟨p1, p2, p3⟩ := Oper.apart_spec (hfree j oj hoj hji hjun hnot)
      have si := fun cs b => Region.noSelect_spec hsel i oi cs b hi
      have sj := fun cs b => Region.noSelect_spec hsel j oj cs b hoj
      have keepY : ∀ (Cl' : World → Prop), YE P ops Cl' oi v a → ∀ u, YE P ops Cl' oi v (a.put oj.dst u) := fun Cl' hy u => hy.of_same (execOp_put oi si a oj.dst u p3) (wanted_put oi a oj.dst u p3)
      have hfree' : ∀ k ok, ops[k]? = some ok → k ≠ i → (listed.setIfInBounds j true).getD k true = false →
          (∀ e ∈ ok.after, Region.binds .any e = true → e.on ≠ i) → oi.apart ops ok = true := fun k ok hk hki hun hno => by
        refine hfree k ok hk hki ?_ hno
        by_cases hjk : j = k
        · subst hjk; exact hjun
        · rw [getD_set_ne true hjk] at hun; exact hun
      have hT' : kd oi.op ≠ 0 → ∀ k ok, ops[k]? = some ok → (listed.setIfInBounds j true).getD k true = false → kd ok.op = 3 → ∃ e ∈ ok.after, Region.binds .any e = true ∧ e.on = i := fun h0 k ok hk hun h3 => by
        refine hT h0 k ok hk ?_ h3
        by_cases hjk : j = k
        · subst hjk; exact hjun
        · rw [getD_set_ne true hjk] at hun; exact hun
      have hrj := ready_mono hr (Ne.symm hji)
      simp only [hoj] at h1 ⊢
      rw [wanted_put oj a oi.dst v p1] at h1
      split
      · rename_i hw
        simp only [hw, if_true] at h1
        -- the operation, before the other one's value is in its slot
        have h2 : oj.wp P a w (fun a' w' => (if kd oj.op = 3 then wpE P ops Q fuel (fun _ => True) ((listed.setIfInBounds i true).setIfInBounds j true) (a'.put oi.dst v) w' else Cl w' ∧ wpE P ops Q fuel Cl ((listed.setIfInBounds i true).setIfInBounds j true) (a'.put oi.dst v) w')) noX := by
          unfold Oper.wp at h1 ⊢
          rw [execOp_put oj sj a oi.dst v p1] at h1
          exact upon_put p2 h1
        -- and that it leaves the other one's slots alone
        have h3 : oj.wp P a w (fun a' w' => (∀ Cl', YE P ops Cl' oi v a → YE P ops Cl' oi v a') ∧ (if kd oj.op = 3 then wpE P ops Q fuel (fun _ => True) ((listed.setIfInBounds i true).setIfInBounds j true) (a'.put oi.dst v) w' else Cl w' ∧ wpE P ops Q fuel Cl ((listed.setIfInBounds i true).setIfInBounds j true) (a'.put oi.dst v) w')) noX := by
          have hput : ∀ u, (∀ Cl', YE P ops Cl' oi v a → YE P ops Cl' oi v (a.put oj.dst u)) := fun u Cl' hy => keepY Cl' hy u
          unfold Oper.wp at h2 ⊢
          generalize (execOp a.eval oj).run P w = r at h2
          cases r with
          | ok n w' =>
            cases n <;> simp only [Oper.upon] at h2 ⊢
            all_goals first
              | exact ⟨hput _, h2⟩
              | exact h2.elim
              | exact Calls.mono h2 (fun e w'' he => by cases e <;> first | exact ⟨hput _, he⟩ | exact he)
              | exact Rows.mono h2 (fun _ _ he => ⟨hput _, he⟩)
              | exact ⟨fun Cl' hy => (keepY Cl' hy undef).of_same (by cases oj.dst <;> rfl) (by cases oj.dst <;> rfl), h2⟩
              | exact h2
          | halt x w' => cases x <;> simp only [Oper.upon] at h2 ⊢ <;> exact h2
        refine wp_noX (fun a' w' ⟨hyk, hk⟩ => ?_) h3
        split
        · rename_i h3'
          simp only [h3', if_true] at hk
          by_cases hk0 : kd oi.op = 0
          · refine ih (fun _ => True) (listed.setIfInBounds j true) a' w' trivial hfree' hT' hrj (hyk _ ?_) ?_
            · rcases hy with ⟨hw', hrun⟩ | h
              · exact .inl ⟨hw', fun w _ => hrun w (.inr hk0)⟩
              · exact .inr h
            · rw [Array.setIfInBounds_comm _ _ hji]; exact hk
          · obtain ⟨e, he, hb, heq⟩ := hT hk0 j oj hoj hjun h3'
            exact absurd heq (hnot e he hb)
        · rename_i h3'
          simp only [h3', if_false] at hk
          refine ⟨hk.1, ih Cl (listed.setIfInBounds j true) a' w' hk.1 hfree' hT' hrj (hyk _ hy) ?_⟩
          rw [Array.setIfInBounds_comm _ _ hji]; exact hk.2
      · rename_i hw
        simp only [hw] at h1
        refine ih Cl (listed.setIfInBounds j true) _ w hc hfree' hT' hrj (keepY Cl hy undef) ?_
        rw [Array.setIfInBounds_comm _ _ hji, ← Act.put_comm a v undef p2]
        exact h1

end
end Go.Proofs.Ytljlhoekpjkgoaa
