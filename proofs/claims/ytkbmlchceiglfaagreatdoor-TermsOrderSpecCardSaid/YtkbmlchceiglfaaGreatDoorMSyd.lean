/-
  A statement whose ends are many: what they have in common is told once, and the rest follows from there. Regions that draw their order: reads of data and pure operations are taken first; the rest as a tree.
  Conditions: none.
-/
import Derived.Test.YtkbmlchceiglfaaGreatDoorMSna
namespace Go.Proofs.YtkbmlchceiglfaaGreatDoor
set_option linter.unusedSectionVars false
set_option linter.unusedSimpArgs false
set_option linter.unusedVariables false
open Go.Proofs

theorem SemVC.mid {C : Cfg} {c : Code} {fr : Fr} {hp : Hp} {K : Ex → Fr → Hp → Prop} (FR : Fr) (HP : Hp) (h : SemVC C c fr hp (fun e fr' hp' => e = .normal ∧ Sub fr' hp' FR HP)) (hk : K .normal FR HP) : SemVC C c fr hp K :=
  fun E a w hpin hrd hsat => wpIn_mono (h E a w hpin hrd hsat) fun _ _ _ ⟨_, _, _, E', h0, h1, h2, h3⟩ => by
    obtain ⟨rfl, hs⟩ := h2
    exact ⟨_, FR, HP, E', h0, h1, hk, h3.sub hs⟩

/-- Rows of the call's own that an object holds are data from here on. -/
theorem SemVC.soft {C : Cfg} {c : Code} {fr : Fr} {hp : Hp} {K : Ex → Fr → Hp → Prop} (i : Nat) {t : TypeId} {cs : List SV} {xs : List D} (ho : getH hp i = some (.cells t cs)) (hx : asDL cs = some xs)
    (h : SemVC C c fr (setH hp i (.cells t (xs.map .d))) K) : SemVC C c fr hp K := by
  intro E a w hpin hrd hsat
  obtain ⟨h1, h2, ρ, h3, h4⟩ := hsat
  obtain ⟨l1, l2⟩ := asDL_ok hx
  have m := h3.recell ho (cs' := xs.map .d) (by simp [l1]) (fun j s' v hs' hv => by
    rw [List.getElem?_map, Option.map_eq_some_iff] at hs'
    obtain ⟨x, hx', rfl⟩ := hs'
    obtain ⟨s, hs, hd⟩ := l2 j x hx'
    exact .d _ _ (asD_ok hd (hv s hs)))
  exact h E a w hpin hrd ⟨h1, h2, ρ, m, h4⟩
end Go.Proofs.YtkbmlchceiglfaaGreatDoor

namespace Go.Proofs.YtkbmlchceiglfaaGreatDoor
set_option linter.unusedSectionVars false
set_option linter.unusedSimpArgs false
set_option linter.unusedVariables false
open Go.Proofs

section
variable {P : Program}

def wpS (P : Program) (ops : Array Oper) (Q : Act → World → Prop) : Nat → (World → Prop) → Array Bool → Act → World → Prop
  | 0, _, listed, a, w => Region.ready .any ops listed = [] ∧ Q a w
  | fuel + 1, Cl, listed, a, w =>
    (Region.ready .any ops listed = [] → Q a w) ∧
    ∀ i ∈ Region.ready .any ops listed,
      match ops[i]? with
      | none => wpS P ops Q fuel Cl (listed.setIfInBounds i true) a w
      | some o =>
        if Region.wanted o (yielded ops a.tmps) then
          o.wp P a w (fun a' w' => Cl w' ∧ wpS P ops Q fuel Cl (listed.setIfInBounds i true) a' w') noX
        else wpS P ops Q fuel Cl (listed.setIfInBounds i true) (a.put o.dst undef) w

theorem wpS_mono {ops : Array Oper} {Q Q' : Act → World → Prop} (hQ : ∀ a w, Q a w → Q' a w) : ∀ (fuel : Nat) (Cl Cl' : World → Prop) (listed : Array Bool) (a : Act) (w : World), (∀ w, Cl' w → Cl w) → wpS P ops Q fuel Cl' listed a w → wpS P ops Q' fuel Cl listed a w := by
  intro fuel
  induction fuel with
  | zero => intro Cl Cl' listed a w _ h; exact ⟨h.1, hQ _ _ h.2⟩
  | succ fuel ih =>
    intro Cl Cl' listed a w hc h
    refine ⟨fun h0 => hQ _ _ (h.1 h0), fun i hi => ?_⟩
    have := h.2 i hi
    split
    · rename_i ho; simp only [ho] at this; exact ih _ _ _ _ _ hc this
    · rename_i o ho
      simp only [ho] at this
      split
      · rename_i hw
        simp only [hw, if_true] at this
        exact wp_noX (fun a' w' hk => ⟨hc _ hk.1, ih _ _ _ _ _ hc hk.2⟩) this
      · rename_i hw; simp only [hw] at this; exact ih _ _ _ _ _ hc this

theorem wpAny_of_S {ops : Array Oper} {Q : Exit → Act → World → Prop} : ∀ (fuel : Nat) (Cl : World → Prop) (listed : Array Bool) (a : Act) (w : World), wpS P ops (Q .normal) fuel Cl listed a w → wpAny P .any ops Q fuel listed a w := by
  intro fuel
  induction fuel with
  | zero => intro Cl listed a w h; exact h
  | succ fuel ih =>
    intro Cl listed a w h
    refine ⟨h.1, fun i hi => ?_⟩
    have := h.2 i hi
    unfold wpOp
    split
    · rename_i ho; simp only [ho] at this; exact ih _ _ _ _ this
    · rename_i o ho
      simp only [ho] at this
      split
      · rename_i hw
        simp only [hw, if_true] at this
        left
        exact wp_noX (fun a' w' hk => ih _ _ _ _ hk.2) this
      · rename_i hw; simp only [hw] at this; exact ih _ _ _ _ this

/-- In every world of the class it yields v. -/
def YS (P : Program) (ops : Array Oper) (Cl : World → Prop) (o : Oper) (v : Value) (a : Act) : Prop :=
  (Region.wanted o (yielded ops a.tmps) = true ∧ ∀ w, Cl w → (execOp a.eval o).run P w = .ok (.value v) w) ∨ (Region.wanted o (yielded ops a.tmps) = false ∧ v = undef)

theorem YS.of_same {ops : Array Oper} {Cl : World → Prop} {o : Oper} {v : Value} {a a' : Act} (hy : YS P ops Cl o v a) (he : execOp a'.eval o = execOp a.eval o)
    (hw : Region.wanted o (yielded ops a'.tmps) = Region.wanted o (yielded ops a.tmps)) : YS P ops Cl o v a' := by
  unfold YS at *
  rw [he, hw]
  exact hy

theorem wpS_first {ops : Array Oper} {Q : Act → World → Prop} {i : Nat} {oi : Oper} {v : Value} (hi : ops[i]? = some oi) (hsel : Region.noSelect ops = true) :
    ∀ (fuel : Nat) (Cl : World → Prop) (listed : Array Bool) (a : Act) (w : World), Cl w →
      (∀ j oj, ops[j]? = some oj → j ≠ i → listed.getD j true = false → (∀ e ∈ oj.after, Region.binds .any e = true → e.on ≠ i) → oi.apart ops oj = true) →
      i ∈ Region.ready .any ops listed → YS P ops Cl oi v a →
      wpS P ops Q fuel Cl (listed.setIfInBounds i true) (a.put oi.dst v) w → wpS P ops Q (fuel + 1) Cl listed a w := by
  have own : ∀ (fuel : Nat) (Cl : World → Prop) (listed : Array Bool) (a : Act) (w : World), Cl w → YS P ops Cl oi v a → wpS P ops Q fuel Cl (listed.setIfInBounds i true) (a.put oi.dst v) w →
      (match ops[i]? with
      | none => wpS P ops Q fuel Cl (listed.setIfInBounds i true) a w
      | some o => if Region.wanted o (yielded ops a.tmps) then o.wp P a w (fun a' w' => Cl w' ∧ wpS P ops Q fuel Cl (listed.setIfInBounds i true) a' w') noX
        else wpS P ops Q fuel Cl (listed.setIfInBounds i true) (a.put o.dst undef) w) := by
    intro fuel Cl listed a w hc hy H
    simp only [hi]
    rcases hy with ⟨hw, hrun⟩ | ⟨hw, rfl⟩
    · simp only [hw, if_true]
      exact wp_value (hrun w hc) ⟨hc, H⟩
    · simp only [hw, Bool.false_eq_true, if_false]; exact H
  intro fuel
  induction fuel with
  | zero =>
    intro Cl listed a w hc _ hr hy H
    refine ⟨fun h => (by rw [h] at hr; cases hr), fun j hj => ?_⟩
    by_cases hji : j = i
    · subst hji; exact own 0 Cl listed a w hc hy H
    · have := ready_mono hj hji
      rw [H.1] at this
      cases this
  | succ fuel ih =>
    intro Cl listed a w hc hfree hr hy H
    refine ⟨fun h => (by rw [h] at hr; cases hr), fun j hj => ?_⟩
    by_cases hji : j = i
    · subst hji; exact own _ Cl listed a w hc hy H
    · have h1 := H.2 j (ready_mono hj hji)
      obtain ⟨hjun, oj, hoj, hall⟩ := mem_ready.1 hj
      have hnot : ∀ e ∈ oj.after, Region.binds .any e = true → e.on ≠ i := fun e he hb heq => by
        have h1 := hall e he hb
        have h0 := (mem_ready.1 hr).1
        rw [heq] at h1
        rcases Nat.lt_or_ge i listed.size with h' | h'
        · simp [h'] at h0 h1; rw [h0] at h1; cases h1
        · simp [Array.getElem?_eq_none h'] at h1
      obtain ⟨p1, p2, p3⟩ := Oper.apart_spec (hfree j oj hoj hji hjun hnot)
      have si := fun cs b => Region.noSelect_spec hsel i oi cs b hi
      have sj := fun cs b => Region.noSelect_spec hsel j oj cs b hoj
      have keepY : YS P ops Cl oi v a → ∀ u, YS P ops Cl oi v (a.put oj.dst u) := fun hy u => hy.of_same (execOp_put oi si a oj.dst u p3) (wanted_put oi a oj.dst u p3)
      have hfree' : ∀ k ok, ops[k]? = some ok → k ≠ i → (listed.setIfInBounds j true).getD k true = false →
          (∀ e ∈ ok.after, Region.binds .any e = true → e.on ≠ i) → oi.apart ops ok = true := fun k ok hk hki hun hno => by
        refine hfree k ok hk hki ?_ hno
        by_cases hjk : j = k
        · subst hjk; exact hjun
        · rw [getD_set_ne true hjk] at hun; exact hun
      have hrj := ready_mono hr (Ne.symm hji)
      simp only [hoj] at h1 ⊢
      rw [wanted_put oj a oi.dst v p1] at h1
      split
      · rename_i hw
        simp only [hw, if_true] at h1
        have h2 : oj.wp P a w (fun a' w' => (Cl w' ∧ wpS P ops Q fuel Cl ((listed.setIfInBounds i true).setIfInBounds j true) (a'.put oi.dst v) w')) noX := by
          unfold Oper.wp at h1 ⊢
          rw [execOp_put oj sj a oi.dst v p1] at h1
          exact upon_put (K := fun a' w' => Cl w' ∧ wpS P ops Q fuel Cl ((listed.setIfInBounds i true).setIfInBounds j true) a' w') p2 h1
        have h3 : oj.wp P a w (fun a' w' => YS P ops Cl oi v a' ∧ (Cl w' ∧ wpS P ops Q fuel Cl ((listed.setIfInBounds i true).setIfInBounds j true) (a'.put oi.dst v) w')) noX := by
          have hput : ∀ u, YS P ops Cl oi v (a.put oj.dst u) := fun u => keepY hy u
          unfold Oper.wp at h2 ⊢
          generalize (execOp a.eval oj).run P w = r at h2
          cases r with
          | ok n w' =>
            cases n <;> simp only [Oper.upon] at h2 ⊢
            all_goals first
              | exact ⟨hput _, h2⟩
              | exact h2.elim
              | exact Calls.mono h2 (fun e w'' he => by cases e <;> first | exact ⟨hput _, he⟩ | exact he)
              | exact Rows.mono h2 (fun _ _ he => ⟨hput _, he⟩)
              | exact ⟨(keepY hy undef).of_same (by cases oj.dst <;> rfl) (by cases oj.dst <;> rfl), h2⟩
              | exact h2
          | halt x w' => cases x <;> simp only [Oper.upon] at h2 ⊢ <;> exact h2
        refine wp_noX (fun a' w' ⟨hyk, hk⟩ => ?_) h3
        refine ⟨hk.1, ih Cl (listed.setIfInBounds j true) a' w' hk.1 hfree' hrj hyk ?_⟩
        rw [Array.setIfInBounds_comm _ _ hji]; exact hk.2
      · rename_i hw
        simp only [hw] at h1
        refine ih Cl (listed.setIfInBounds j true) (a.put oj.dst undef) w hc hfree' hrj (keepY hy undef) ?_
        rw [Array.setIfInBounds_comm _ _ hji, ← Act.put_comm a v _ p2]
        simpa using h1

def okT2 (ops : Array Oper) : OT → Array Bool → Bool → Bool
  | .done, listed, inn => !inn && (Region.ready .any ops listed).isEmpty
  | .stop, _, inn => inn
  | .first i t, listed, inn => !inn && (match ops[i]? with
      | some o => decide (kd o.op ≤ 1) && (Region.ready .any ops listed).contains i && Region.free .any ops listed i && okT2 ops t (listed.setIfInBounds i true) false
      | none => false)
  | .alt i t r, listed, inn => (inn || (!(Region.ready .any ops listed).isEmpty && (Region.ready .any ops listed).all fun j => (i :: r.heads).contains j)) && (ops[i]?).isSome && okT2 ops t (listed.setIfInBounds i true) false && okT2 ops r listed true

/-- What is taken first reads data alone: no object of the call's own. -/
def treeVC2 (C : Cfg) (all : List Oper) (K : Fr → Hp → Prop) : OT → Fr → Hp → Prop
  | .done, fr, hp => pruneK C.keep fr fun fr' => K fr' hp
  | .stop, _, _ => True
  | .first i t, fr, hp => dstep C all i fr [] fun fr' _ => treeVC2 C all K t fr' hp
  | .alt i t r, fr, hp => astep C all i fr hp (fun fr' hp' => treeVC2 C all K t fr' hp') ∧ treeVC2 C all K r fr hp

def altS (C : Cfg) (all : List Oper) (R : Act → World → Prop) (fuel : Nat) (Cl : World → Prop) (listed : Array Bool) (a : Act) (w : World) (i : Nat) : Prop :=
  match all.toArray[i]? with
  | none => wpS C.P all.toArray R fuel Cl (listed.setIfInBounds i true) a w
  | some o =>
    if Region.wanted o (yielded all.toArray a.tmps) then
      o.wp C.P a w (fun a' w' => Cl w' ∧ wpS C.P all.toArray R fuel Cl (listed.setIfInBounds i true) a' w') noX
    else wpS C.P all.toArray R fuel Cl (listed.setIfInBounds i true) (a.put o.dst undef) w

theorem tree2_sound {C : Cfg} (hti : TyOK C.P C.ti) {all : List Oper} {K : Fr → Hp → Prop} (hsel : Region.noSelect all.toArray = true) :
    ∀ (T : OT) (fuel : Nat) (listed : Array Bool) (fr : Fr) (hp : Hp) (ρ : Env) (a : Act) (w : World) (E : Entry), E.pin = C.pin → E.w = w → E.S = ρ.S → treeVC2 C all K T fr hp → Mem E ρ hp w → a.tmps.size = C.nt → a.defers = (E.D.take E.k).map markOf → FSat ρ w fr a.tmps →
    (okT2 all.toArray T listed false = true → T.depth ≤ fuel → wpS C.P all.toArray (fun a w => ∃ fr hp, K fr hp ∧ Sat E C.nt ⟨fr, hp⟩ a w) fuel (Keeps ρ.S w) listed a w) ∧
    (∀ inn, okT2 all.toArray T listed inn = true → T.depth ≤ fuel + 1 → ∀ i ∈ T.heads, altS C all (fun a w => ∃ fr hp, K fr hp ∧ Sat E C.nt ⟨fr, hp⟩ a w) fuel (Keeps ρ.S w) listed a w i) := by
  intro T
  induction T with
  | done =>
    intro fuel listed fr hp ρ a w E hpin hEw hES h hm h1 h2 h3
    refine ⟨fun hB _ => ?_, fun _ _ _ i hi => by simp [OT.heads] at hi⟩
    simp only [okT2, Bool.not_false, Bool.true_and, List.isEmpty_iff] at hB
    simp only [treeVC2, pruneK_eq] at h
    have hq : ∃ fr hp, K fr hp ∧ Sat E C.nt ⟨fr, hp⟩ a w := ⟨_, hp, h, h1, h2, ρ, hm, fun t s hts => h3 t s (getF_prune _ _ t s hts)⟩
    cases fuel with
    | zero => exact ⟨hB, hq⟩
    | succ n => exact ⟨fun _ => hq, fun i hi => by rw [hB] at hi; cases hi⟩
  | stop =>
    intro fuel listed fr hp ρ a w E hpin hEw hES h hm h1 h2 h3
    exact ⟨fun hB => by simp [okT2] at hB, fun _ _ _ i hi => by simp [OT.heads] at hi⟩
  | first i t ih =>
    intro fuel listed fr hp ρ a w E hpin hEw hES h hm h1 h2 h3
    refine ⟨fun hB hd => ?_, fun _ _ _ i hi => by simp [OT.heads] at hi⟩
    simp only [treeVC2, dstep] at h
    split at h
    · rename_i o ho
      have ho' : all.toArray[i]? = some o := by simpa using ho
      simp only [okT2, ho', Bool.not_false, Bool.true_and, Bool.and_eq_true, decide_eq_true_eq, List.contains_iff_mem] at hB
      obtain ⟨⟨⟨hk, hr⟩, hf⟩, hB⟩ := hB
      simp only [OT.depth] at hd
      obtain ⟨fuel, rfl⟩ : ∃ n, fuel = n + 1 := ⟨fuel - 1, by omega⟩
      have hm0 : Mem E ρ [] w := hm.sub (fun id o ho => by simp [getH] at ho)
      obtain ⟨fr0, h3, hh⟩ := guarded_ok h h3
      rcases hh with ⟨hw, h⟩ | ⟨hw, h⟩
      · rcases d_ok hti h with ⟨_, hd'⟩ | ⟨hk', _⟩ | ⟨hk', _⟩
        · obtain ⟨v, s, q1, q2, q3⟩ := hd' E ρ a w hm0 h3
          obtain ⟨fr', p1, p2⟩ := put_ok q3 h1 h3 q2
          exact wpS_first ho' hsel fuel _ listed a w (fun _ _ _ => rfl) (Region.free_spec ho' hf) hr (v := v) (.inl ⟨hw, fun w' hw' => q1 w' ⟨hw', fun id x g hx => by simp [getH] at hx⟩⟩)
            ((ih fuel _ fr' hp ρ _ w E hpin hEw hES p1 hm (by rw [put_size]; exact h1) (by rw [put_defers]; exact h2) p2).1 hB (by omega))
        · omega
        · omega
      · obtain ⟨fr', p1, p2⟩ := put_ok h h1 h3 (Rep.d _ undef (.lit undef))
        exact wpS_first ho' hsel fuel _ listed a w (fun _ _ _ => rfl) (Region.free_spec ho' hf) hr (v := undef) (.inr ⟨hw, rfl⟩) ((ih fuel _ fr' hp ρ _ w E hpin hEw hES p1 hm (by rw [put_size]; exact h1) (by rw [put_defers]; exact h2) p2).1 hB (by omega))
    · exact h.elim
  | alt i t r iht ihr =>
    intro fuel listed fr hp ρ a w E hpin hEw hES h hm h1 h2 h3
    have key : ∀ inn, okT2 all.toArray (.alt i t r) listed inn = true → ∀ n, (OT.alt i t r).depth ≤ n + 1 → ∀ j ∈ (OT.alt i t r).heads, altS C all (fun a w => ∃ fr hp, K fr hp ∧ Sat E C.nt ⟨fr, hp⟩ a w) n (Keeps ρ.S w) listed a w j := by
      intro inn hB n hd j hj
      simp only [okT2, Bool.and_eq_true] at hB
      obtain ⟨⟨⟨_, hsome⟩, hBt⟩, hBr⟩ := hB
      simp only [OT.depth] at hd
      simp only [treeVC2] at h
      simp only [OT.heads, List.mem_cons] at hj
      rcases hj with rfl | hj
      · have h := h.1
        unfold astep at h
        split at h
        · rename_i o ho
          have ho' : all.toArray[j]? = some o := by simpa using ho
          unfold altS
          simp only [ho']
          obtain ⟨fr0, h3, hh⟩ := guarded_ok h h3
          rcases hh with ⟨hw, h⟩ | ⟨hw, h⟩
          · rw [if_pos hw]
            refine a_ok hti h E ρ a w hpin hm h3 _ noX fun v w' ρ' s hp' k1 k2 k3 k4 => ?_
            obtain ⟨fr', p1, p2⟩ := put_ok k1 h1 k3 k4
            have hkp : Keeps ρ.S w w' := by have := k2.kp; rwa [hEw, hES] at this
            have hso : ∀ b i, ρ.S b i → ρ'.S b i := by have := k2.sold; rwa [hES] at this
            refine ⟨hkp, ?_⟩
            have hm2 : Mem { entryAt w' ρ' hp' E.pin E.rd E.D with k := E.k } ρ' hp' w' := by
              have := k2.enter E.pin E.rd
              exact ⟨this.os, this.tape, this.output, this.size, this.old, this.sold, this.snew, this.slt, this.kp, this.sat, this.inj, this.hb, this.mv, this.ro, this.md⟩
            have := (iht n _ fr' hp' ρ' _ w' { entryAt w' ρ' hp' E.pin E.rd E.D with k := E.k } hpin rfl rfl p1 hm2 (by rw [put_size]; exact h1) (by rw [put_defers]; exact h2) p2).1 hBt (by omega)
            refine wpS_mono ?_ _ _ _ _ _ _ (fun w2 hw2 => hkp.trans hso hw2) this
            rintro a3 w3 ⟨fr3, hp3, q1, q2, q3, ρ3, q4, q5⟩
            exact ⟨fr3, hp3, q1, q2, q3, ρ3, k2.leave (pin := E.pin) (rd := E.rd) q4 ⟨rfl, rfl, rfl, rfl, rfl, fun b hb => hb⟩ (fun id hid => hid), q5⟩
          · rw [if_neg (by rw [hw]; decide)]
            obtain ⟨fr', p1, p2⟩ := put_ok h h1 h3 (Rep.d _ undef (.lit undef))
            exact (iht n _ fr' hp ρ _ w E hpin hEw hES p1 hm (by rw [put_size]; exact h1) (by rw [put_defers]; exact h2) p2).1 hBt (by omega)
        · exact h.elim
      · exact (ihr n listed fr hp ρ a w E hpin hEw hES h.2 hm h1 h2 h3).2 true hBr (by omega) j hj
    refine ⟨fun hB hd => ?_, fun inn hB hd => key inn hB fuel hd⟩
    have hd' := hd
    simp only [OT.depth] at hd'
    obtain ⟨fuel, rfl⟩ : ∃ n, fuel = n + 1 := ⟨fuel - 1, by omega⟩
    have hc := hB
    simp only [okT2, Bool.false_or, Bool.and_eq_true, Bool.not_eq_true', List.all_eq_true, List.contains_iff_mem] at hc
    obtain ⟨⟨⟨⟨hne, hcov⟩, _⟩, _⟩, _⟩ := hc
    refine ⟨fun h0 => ?_, fun j hj => ?_⟩
    · rw [h0] at hne; cases hne
    · exact key false hB fuel hd j (hcov j hj)

theorem tree2_rule {C : Cfg} (hti : TyOK C.P C.ti) {id : Nat} {l : List Oper} {fr : Fr} {hp : Hp} {K : Ex → Fr → Hp → Prop} (T : OT) (hm : C.P.follows .mixedOrders = true)
    (hB : (decide (T.depth ≤ l.length) && Region.noSelect l.toArray && okT2 l.toArray T (Array.replicate l.length false) false && noDefer l) = true) (h : treeVC2 C l (K .normal) T fr hp) : SemVC C (.region id l.toArray true) fr hp K := by
  intro E a w hpin hrd ⟨h1, h2, ρ, h3, h4⟩
  simp only [Bool.and_eq_true, decide_eq_true_eq] at hB
  obtain ⟨⟨⟨b1, b2⟩, b3⟩, hnd⟩ := hB
  refine region_any_in hm hnd PostX.noOut ?_
  obtain ⟨m1, m2⟩ := h3.grow_same (Grew.drew w)
  generalize hw1 : w.drew = w1 at *
  have hm2 : Mem { entryAt w1 ρ hp E.pin E.rd E.D with k := E.k } ρ hp w1 := by
    have := m1.enter E.pin E.rd
    exact ⟨this.os, this.tape, this.output, this.size, this.old, this.sold, this.snew, this.slt, this.kp, this.sat, this.inj, this.hb, this.mv, this.ro, this.md⟩
  have := (tree2_sound (C := C) hti b2 T l.length (Array.replicate l.length false) fr hp ρ a w1 { entryAt w1 ρ hp E.pin E.rd E.D with k := E.k } hpin rfl rfl h hm2 h1 h2 (m2 fr _ h4)).1 b3 b1
  have h5 := wpAny_of_S (Q := PostX C E K) _ _ _ _ _ (wpS_mono (Q' := PostX C E K .normal) (fun a w ⟨fr', hp', k1, q2, q3, ρ3, q4, q5⟩ => ⟨.normal, fr', hp', E, .refl E, trivial, k1, q2, q3, ρ3, m1.leave (pin := E.pin) (rd := E.rd) q4 ⟨rfl, rfl, rfl, rfl, rfl, fun b hb => hb⟩ (fun id hid => hid), q5⟩) _ _ _ _ _ _ (fun _ h => h) this)
  have e : l.toArray.size = l.length := by simp
  rw [e]
  subst hw1
  exact h5
end
end Go.Proofs.YtkbmlchceiglfaaGreatDoor
