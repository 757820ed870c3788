/-
  A statement whose ends are many: what they have in common is told once, and the rest follows from there. Regions that draw their order: reads of data and pure operations are taken first; the rest as a tree. Rows that the call may write are stable from here on: data. More of maps: a map held against nil; memory by what lies at its numbers; a result that is data from there on. Terms: the order of concepts is total; sorted sets of concepts. Terms: the canonical form of a concept, as a plain function; it is not greater.
  Conditions: none.
-/
import Derived.Test.YtnemengadjimcaaGreatDoorMSna
import Derived.Test.YtnemengadjimcaaGreatDoorMSne
import Derived.Test.YtnemengadjimcaaGreatDoorMTcq
set_option linter.unusedSectionVars false
set_option linter.unusedSimpArgs false
set_option linter.unusedVariables false
namespace Go.Proofs.YtnemengadjimcaaGreatDoor
open Go.Proofs
theorem SemVC.mid {C : Cfg} {c : Code} {fr : Fr} {hp : Hp} {K : Ex → Fr → Hp → Prop} (FR : Fr) (HP : Hp) (h : SemVC C c fr hp (fun e fr' hp' => e = .normal ∧ Sub fr' hp' FR HP)) (hk : K .normal FR HP) : SemVC C c fr hp K :=
 fun E a w hpin hrd hsat => wpIn_mono (h E a w hpin hrd hsat) fun _ _ _ ⟨_, _, _, E', h0, h1, h2, h3⟩ => by
  obtain ⟨rfl, hs⟩ := h2
  exact ⟨_, FR, HP, E', h0, h1, hk, h3.sub hs⟩
theorem SemVC.soft {C : Cfg} {c : Code} {fr : Fr} {hp : Hp} {K : Ex → Fr → Hp → Prop} (i : Nat) {t : TypeId} {cs : List SV} {xs : List D} (ho : getH hp i = some (.cells t cs)) (hx : asDL cs = some xs)
  (h : SemVC C c fr (setH hp i (.cells t (xs.map .d))) K) : SemVC C c fr hp K := by
 intro E a w hpin hrd hsat
 obtain ⟨h1, h2, ρ, h3, h4⟩ := hsat
 obtain ⟨l1, l2⟩ := asDL_ok hx
 have m := h3.recell ho (cs' := xs.map .d) (by simp [l1]) (fun j s' v hs' hv => by
  rw [List.getElem?_map, Option.map_eq_some_iff] at hs'
  obtain ⟨x, hx', rfl⟩ := hs'
  obtain ⟨s, hs, hd⟩ := l2 j x hx'
  exact .d _ _ (asD_ok hd (hv s hs)))
 exact h E a w hpin hrd ⟨h1, h2, ρ, m, h4⟩
end Go.Proofs.YtnemengadjimcaaGreatDoor
namespace Go.Proofs.YtnemengadjimcaaGreatDoor
open Go.Proofs
section
variable {P : Program}
def wpS (P : Program) (ops : Array Oper) (Q : Act → World → Prop) : Nat → (World → Prop) → Array Bool → Act → World → Prop
 | 0, _, listed, a, w => Region.ready .any ops listed = [] ∧ Q a w
 | fuel + 1, Cl, listed, a, w =>
  (Region.ready .any ops listed = [] → Q a w) ∧
  ∀ i ∈ Region.ready .any ops listed,
   match ops[i]? with
   | none => wpS P ops Q fuel Cl (listed.setIfInBounds i true) a w
   | some o =>
    if Region.wanted o (yielded ops a.tmps) then
     o.wp P a w (fun a' w' => Cl w' ∧ wpS P ops Q fuel Cl (listed.setIfInBounds i true) a' w') noX
    else wpS P ops Q fuel Cl (listed.setIfInBounds i true) (a.put o.dst undef) w
theorem wpS_mono {ops : Array Oper} {Q Q' : Act → World → Prop} (hQ : ∀ a w, Q a w → Q' a w) : ∀ (fuel : Nat) (Cl Cl' : World → Prop) (listed : Array Bool) (a : Act) (w : World), (∀ w, Cl' w → Cl w) → wpS P ops Q fuel Cl' listed a w → wpS P ops Q' fuel Cl listed a w := by
 intro fuel
 induction fuel with
 | zero => intro Cl Cl' listed a w _ h; exact ⟨h.1, hQ _ _ h.2⟩
 | succ fuel ih =>
  intro Cl Cl' listed a w hc h
  refine ⟨fun h0 => hQ _ _ (h.1 h0), fun i hi => ?_⟩
  have := h.2 i hi
  split
  ·rename_i ho; simp only [ho] at this; exact ih _ _ _ _ _ hc this
  ·rename_i o ho
   simp only [ho] at this
   split
   ·rename_i hw
    simp only [hw, if_true] at this
    exact wp_noX (fun a' w' hk => ⟨hc _ hk.1, ih _ _ _ _ _ hc hk.2⟩) this
   ·rename_i hw; simp only [hw] at this; exact ih _ _ _ _ _ hc this
theorem wpAny_of_S {ops : Array Oper} {Q : Exit → Act → World → Prop} : ∀ (fuel : Nat) (Cl : World → Prop) (listed : Array Bool) (a : Act) (w : World), wpS P ops (Q .normal) fuel Cl listed a w → wpAny P .any ops Q fuel listed a w := by
 intro fuel
 induction fuel with
 | zero => intro Cl listed a w h; exact h
 | succ fuel ih =>
  intro Cl listed a w h
  refine ⟨h.1, fun i hi => ?_⟩
  have := h.2 i hi
  unfold wpOp
  split
  ·rename_i ho; simp only [ho] at this; exact ih _ _ _ _ this
  ·rename_i o ho
   simp only [ho] at this
   split
   ·rename_i hw
    simp only [hw, if_true] at this
    left
    exact wp_noX (fun a' w' hk => ih _ _ _ _ hk.2) this
   ·rename_i hw; simp only [hw] at this; exact ih _ _ _ _ this
def YS (P : Program) (ops : Array Oper) (Cl : World → Prop) (o : Oper) (v : Value) (a : Act) : Prop :=
 (Region.wanted o (yielded ops a.tmps) = true ∧ ∀ w, Cl w → (execOp a.eval o).run P w = .ok (.value v) w) ∨ (Region.wanted o (yielded ops a.tmps) = false ∧ v = undef)
theorem YS.of_same {ops : Array Oper} {Cl : World → Prop} {o : Oper} {v : Value} {a a' : Act} (hy : YS P ops Cl o v a) (he : execOp a'.eval o = execOp a.eval o)
  (hw : Region.wanted o (yielded ops a'.tmps) = Region.wanted o (yielded ops a.tmps)) : YS P ops Cl o v a' := by
 unfold YS at *
 rw [he, hw]
 exact hy
theorem wpS_first {ops : Array Oper} {Q : Act → World → Prop} {i : Nat} {oi : Oper} {v : Value} (hi : ops[i]? = some oi) (hsel : Region.noSelect ops = true) :
  ∀ (fuel : Nat) (Cl : World → Prop) (listed : Array Bool) (a : Act) (w : World), Cl w →
   (∀ j oj, ops[j]? = some oj → j ≠ i → listed.getD j true = false → (∀ e ∈ oj.after, Region.binds .any e = true → e.on ≠ i) → oi.apart ops oj = true) →
   i ∈ Region.ready .any ops listed → YS P ops Cl oi v a →
   wpS P ops Q fuel Cl (listed.setIfInBounds i true) (a.put oi.dst v) w → wpS P ops Q (fuel + 1) Cl listed a w := by
 have own : ∀ (fuel : Nat) (Cl : World → Prop) (listed : Array Bool) (a : Act) (w : World), Cl w → YS P ops Cl oi v a → wpS P ops Q fuel Cl (listed.setIfInBounds i true) (a.put oi.dst v) w →
   (match ops[i]? with
   | none => wpS P ops Q fuel Cl (listed.setIfInBounds i true) a w
   | some o => if Region.wanted o (yielded ops a.tmps) then o.wp P a w (fun a' w' => Cl w' ∧ wpS P ops Q fuel Cl (listed.setIfInBounds i true) a' w') noX
    else wpS P ops Q fuel Cl (listed.setIfInBounds i true) (a.put o.dst undef) w) := by
  intro fuel Cl listed a w hc hy H
  simp only [hi]
  rcases hy with ⟨hw, hrun⟩ | ⟨hw, rfl⟩
  ·simp only [hw, if_true]
   exact wp_value (hrun w hc) ⟨hc, H⟩
  ·simp only [hw, Bool.false_eq_true, if_false]; exact H
 intro fuel
 induction fuel with
 | zero =>
  intro Cl listed a w hc _ hr hy H
  refine ⟨fun h => (by rw [h] at hr; cases hr), fun j hj => ?_⟩
  by_cases hji : j = i
  ·subst hji; exact own 0 Cl listed a w hc hy H
  ·have := ready_mono hj hji
   rw [H.1] at this
   cases this
 | succ fuel ih =>
  intro Cl listed a w hc hfree hr hy H
  refine ⟨fun h => (by rw [h] at hr; cases hr), fun j hj => ?_⟩
  by_cases hji : j = i
  ·subst hji; exact own _ Cl listed a w hc hy H
  ·have h1 := H.2 j (ready_mono hj hji)
   obtain ⟨hjun, oj, hoj, hall⟩ := mem_ready.1 hj
   have hnot : ∀ e ∈ oj.after, Region.binds .any e = true → e.on ≠ i := fun e he hb heq => by
    have h1 := hall e he hb
    have h0 := (mem_ready.1 hr).1
    rw [heq] at h1
    rcases Nat.lt_or_ge i listed.size with h' | h'
    ·simp [h'] at h0 h1; rw [h0] at h1; cases h1
    ·simp [Array.getElem?_eq_none h'] at h1
   obtain ⟨p1, p2, p3⟩ := Oper.apart_spec (hfree j oj hoj hji hjun hnot)
   have si := fun cs b => Region.noSelect_spec hsel i oi cs b hi
   have sj := fun cs b => Region.noSelect_spec hsel j oj cs b hoj
   have keepY : YS P ops Cl oi v a → ∀ u, YS P ops Cl oi v (a.put oj.dst u) := fun hy u => hy.of_same (execOp_put oi si a oj.dst u p3) (wanted_put oi a oj.dst u p3)
   have hfree' : ∀ k ok, ops[k]? = some ok → k ≠ i → (listed.setIfInBounds j true).getD k true = false →
     (∀ e ∈ ok.after, Region.binds .any e = true → e.on ≠ i) → oi.apart ops ok = true := fun k ok hk hki hun hno => by
    refine hfree k ok hk hki ?_ hno
    by_cases hjk : j = k
    ·subst hjk; exact hjun
    ·rw [getD_set_ne true hjk] at hun; exact hun
   have hrj := ready_mono hr (Ne.symm hji)
   simp only [hoj] at h1 ⊢
   rw [wanted_put oj a oi.dst v p1] at h1
   split
   ·rename_i hw
    simp only [hw, if_true] at h1
    have h2 : oj.wp P a w (fun a' w' => (Cl w' ∧ wpS P ops Q fuel Cl ((listed.setIfInBounds i true).setIfInBounds j true) (a'.put oi.dst v) w')) noX := by
     unfold Oper.wp at h1 ⊢
     rw [execOp_put oj sj a oi.dst v p1] at h1
     exact upon_put (K := fun a' w' => Cl w' ∧ wpS P ops Q fuel Cl ((listed.setIfInBounds i true).setIfInBounds j true) a' w') p2 h1
    have h3 : oj.wp P a w (fun a' w' => YS P ops Cl oi v a' ∧ (Cl w' ∧ wpS P ops Q fuel Cl ((listed.setIfInBounds i true).setIfInBounds j true) (a'.put oi.dst v) w')) noX := by
     have hput : ∀ u, YS P ops Cl oi v (a.put oj.dst u) := fun u => keepY hy u
     unfold Oper.wp at h2 ⊢
     generalize (execOp a.eval oj).run P w = r at h2
     cases r with
     | ok n w' =>
      cases n <;> simp only [Oper.upon] at h2 ⊢
      all_goals first
       | exact ⟨hput _, h2⟩
       | exact h2.elim
       | exact Calls.mono h2 (fun e w'' he => by cases e <;> first | exact ⟨hput _, he⟩ | exact he)
       | exact Rows.mono h2 (fun _ _ he => ⟨hput _, he⟩)
       | exact ⟨(keepY hy undef).of_same (by cases oj.dst <;> rfl) (by cases oj.dst <;> rfl), h2⟩
       | exact h2
     | halt x w' => cases x <;> simp only [Oper.upon] at h2 ⊢ <;> exact h2
    refine wp_noX (fun a' w' ⟨hyk, hk⟩ => ?_) h3
    refine ⟨hk.1, ih Cl (listed.setIfInBounds j true) a' w' hk.1 hfree' hrj hyk ?_⟩
    rw [Array.setIfInBounds_comm _ _ hji]; exact hk.2
   ·rename_i hw
    simp only [hw] at h1
    refine ih Cl (listed.setIfInBounds j true) (a.put oj.dst undef) w hc hfree' hrj (keepY hy undef) ?_
    rw [Array.setIfInBounds_comm _ _ hji, ← Act.put_comm a v _ p2]
    simpa using h1
def okT2 (ops : Array Oper) : OT → Array Bool → Bool → Bool
 | .done, listed, inn => !inn && (Region.ready .any ops listed).isEmpty
 | .stop, _, inn => inn
 | .first i t, listed, inn => !inn && (match ops[i]? with
   | some o => decide (kd o.op ≤ 1) && (Region.ready .any ops listed).contains i && Region.free .any ops listed i && okT2 ops t (listed.setIfInBounds i true) false
   | none => false)
 | .alt i t r, listed, inn => (inn || (!(Region.ready .any ops listed).isEmpty && (Region.ready .any ops listed).all fun j => (i :: r.heads).contains j)) && (ops[i]?).isSome && okT2 ops t (listed.setIfInBounds i true) false && okT2 ops r listed true
def treeVC2 (C : Cfg) (all : List Oper) (K : Fr → Hp → Prop) : OT → Fr → Hp → Prop
 | .done, fr, hp => pruneK C.keep fr fun fr' => K fr' hp
 | .stop, _, _ => True
 | .first i t, fr, hp => dstep C all i fr [] fun fr' _ => treeVC2 C all K t fr' hp
 | .alt i t r, fr, hp => astep C all i fr hp (fun fr' hp' => treeVC2 C all K t fr' hp') ∧ treeVC2 C all K r fr hp
def altS (C : Cfg) (all : List Oper) (R : Act → World → Prop) (fuel : Nat) (Cl : World → Prop) (listed : Array Bool) (a : Act) (w : World) (i : Nat) : Prop :=
 match all.toArray[i]? with
 | none => wpS C.P all.toArray R fuel Cl (listed.setIfInBounds i true) a w
 | some o =>
  if Region.wanted o (yielded all.toArray a.tmps) then
   o.wp C.P a w (fun a' w' => Cl w' ∧ wpS C.P all.toArray R fuel Cl (listed.setIfInBounds i true) a' w') noX
  else wpS C.P all.toArray R fuel Cl (listed.setIfInBounds i true) (a.put o.dst undef) w
theorem tree2_sound {C : Cfg} (hti : TyOK C.P C.ti) {all : List Oper} {K : Fr → Hp → Prop} (hsel : Region.noSelect all.toArray = true) :
  ∀ (T : OT) (fuel : Nat) (listed : Array Bool) (fr : Fr) (hp : Hp) (ρ : Env) (a : Act) (w : World) (E : Entry), E.pin = C.pin → E.w = w → E.S = ρ.S → treeVC2 C all K T fr hp → Mem E ρ hp w → a.tmps.size = C.nt → a.defers = (E.D.take E.k).map markOf → FSat ρ w fr a.tmps →
  (okT2 all.toArray T listed false = true → T.depth ≤ fuel → wpS C.P all.toArray (fun a w => ∃ fr hp, K fr hp ∧ Sat E C.nt ⟨fr, hp⟩ a w) fuel (Keeps ρ.S w) listed a w) ∧
  (∀ inn, okT2 all.toArray T listed inn = true → T.depth ≤ fuel + 1 → ∀ i ∈ T.heads, altS C all (fun a w => ∃ fr hp, K fr hp ∧ Sat E C.nt ⟨fr, hp⟩ a w) fuel (Keeps ρ.S w) listed a w i) := by
 intro T
 induction T with
 | done =>
  intro fuel listed fr hp ρ a w E hpin hEw hES h hm h1 h2 h3
  refine ⟨fun hB _ => ?_, fun _ _ _ i hi => by simp [OT.heads] at hi⟩
  simp only [okT2, Bool.not_false, Bool.true_and, List.isEmpty_iff] at hB
  simp only [treeVC2, pruneK_eq] at h
  have hq : ∃ fr hp, K fr hp ∧ Sat E C.nt ⟨fr, hp⟩ a w := ⟨_, hp, h, h1, h2, ρ, hm, fun t s hts => h3 t s (getF_prune _ _ t s hts)⟩
  cases fuel with
  | zero => exact ⟨hB, hq⟩
  | succ n => exact ⟨fun _ => hq, fun i hi => by rw [hB] at hi; cases hi⟩
 | stop =>
  intro fuel listed fr hp ρ a w E hpin hEw hES h hm h1 h2 h3
  exact ⟨fun hB => by simp [okT2] at hB, fun _ _ _ i hi => by simp [OT.heads] at hi⟩
 | first i t ih =>
  intro fuel listed fr hp ρ a w E hpin hEw hES h hm h1 h2 h3
  refine ⟨fun hB hd => ?_, fun _ _ _ i hi => by simp [OT.heads] at hi⟩
  simp only [treeVC2, dstep] at h
  split at h
  ·rename_i o ho
   have ho' : all.toArray[i]? = some o := by simpa using ho
   simp only [okT2, ho', Bool.not_false, Bool.true_and, Bool.and_eq_true, decide_eq_true_eq, List.contains_iff_mem] at hB
   obtain ⟨⟨⟨hk, hr⟩, hf⟩, hB⟩ := hB
   simp only [OT.depth] at hd
   obtain ⟨fuel, rfl⟩ : ∃ n, fuel = n + 1 := ⟨fuel - 1, by omega⟩
   have hm0 : Mem E ρ [] w := hm.sub (fun id o ho => by simp [getH] at ho)
   obtain ⟨fr0, h3, hh⟩ := guarded_ok h h3
   rcases hh with ⟨hw, h⟩ | ⟨hw, h⟩
   ·rcases d_ok hti h with ⟨_, hd', _⟩ | ⟨hk', _⟩ | ⟨hk', _⟩
    ·obtain ⟨v, s, q1, q2, q3⟩ := hd' E ρ a w hm0 h3
     obtain ⟨fr', p1, p2⟩ := put_ok q3 h1 h3 q2
     exact wpS_first ho' hsel fuel _ listed a w (fun _ _ _ => rfl) (Region.free_spec ho' hf) hr (v := v) (.inl ⟨hw, fun w' hw' => q1 w' ⟨hw', fun id x g hx => by simp [getH] at hx⟩⟩)
      ((ih fuel _ fr' hp ρ _ w E hpin hEw hES p1 hm (by rw [put_size]; exact h1) (by rw [put_defers]; exact h2) p2).1 hB (by omega))
    ·omega
    ·omega
   ·obtain ⟨fr', p1, p2⟩ := put_ok h h1 h3 (Rep.d _ undef (.lit undef))
    exact wpS_first ho' hsel fuel _ listed a w (fun _ _ _ => rfl) (Region.free_spec ho' hf) hr (v := undef) (.inr ⟨hw, rfl⟩) ((ih fuel _ fr' hp ρ _ w E hpin hEw hES p1 hm (by rw [put_size]; exact h1) (by rw [put_defers]; exact h2) p2).1 hB (by omega))
  ·exact h.elim
 | alt i t r iht ihr =>
  intro fuel listed fr hp ρ a w E hpin hEw hES h hm h1 h2 h3
  have key : ∀ inn, okT2 all.toArray (.alt i t r) listed inn = true → ∀ n, (OT.alt i t r).depth ≤ n + 1 → ∀ j ∈ (OT.alt i t r).heads, altS C all (fun a w => ∃ fr hp, K fr hp ∧ Sat E C.nt ⟨fr, hp⟩ a w) n (Keeps ρ.S w) listed a w j := by
   intro inn hB n hd j hj
   simp only [okT2, Bool.and_eq_true] at hB
   obtain ⟨⟨⟨_, hsome⟩, hBt⟩, hBr⟩ := hB
   simp only [OT.depth] at hd
   simp only [treeVC2] at h
   simp only [OT.heads, List.mem_cons] at hj
   rcases hj with rfl | hj
   ·have h := h.1
    unfold astep at h
    split at h
    ·rename_i o ho
     have ho' : all.toArray[j]? = some o := by simpa using ho
     unfold altS
     simp only [ho']
     obtain ⟨fr0, h3, hh⟩ := guarded_ok h h3
     rcases hh with ⟨hw, h⟩ | ⟨hw, h⟩
     ·rw [if_pos hw]
      refine a_ok hti h E ρ a w hpin hm h3 _ noX fun v w' ρ' s hp' k1 k2 k3 k4 => ?_
      obtain ⟨fr', p1, p2⟩ := put_ok k1 h1 k3 k4
      have hkp : Keeps ρ.S w w' := by have := k2.kp; rwa [hEw, hES] at this
      have hso : ∀ b i, ρ.S b i → ρ'.S b i := by have := k2.sold; rwa [hES] at this
      refine ⟨hkp, ?_⟩
      have hm2 : Mem { entryAt w' ρ' hp' E.pin E.rd E.D with k := E.k } ρ' hp' w' := by
       have := k2.enter E.pin E.rd
       exact ⟨this.os, this.tape, this.output, this.size, this.old, this.sold, this.snew, this.slt, this.kp, this.sat, this.inj, this.hb, this.mv, this.ro, this.md⟩
      have := (iht n _ fr' hp' ρ' _ w' { entryAt w' ρ' hp' E.pin E.rd E.D with k := E.k } hpin rfl rfl p1 hm2 (by rw [put_size]; exact h1) (by rw [put_defers]; exact h2) p2).1 hBt (by omega)
      refine wpS_mono ?_ _ _ _ _ _ _ (fun w2 hw2 => hkp.trans hso hw2) this
      rintro a3 w3 ⟨fr3, hp3, q1, q2, q3, ρ3, q4, q5⟩
      exact ⟨fr3, hp3, q1, q2, q3, ρ3, k2.leave (pin := E.pin) (rd := E.rd) q4 ⟨rfl, rfl, rfl, rfl, rfl, fun b hb => hb⟩ (fun id hid => hid), q5⟩
     ·rw [if_neg (by rw [hw]; decide)]
      obtain ⟨fr', p1, p2⟩ := put_ok h h1 h3 (Rep.d _ undef (.lit undef))
      exact (iht n _ fr' hp ρ _ w E hpin hEw hES p1 hm (by rw [put_size]; exact h1) (by rw [put_defers]; exact h2) p2).1 hBt (by omega)
    ·exact h.elim
   ·exact (ihr n listed fr hp ρ a w E hpin hEw hES h.2 hm h1 h2 h3).2 true hBr (by omega) j hj
  refine ⟨fun hB hd => ?_, fun inn hB hd => key inn hB fuel hd⟩
  have hd' := hd
  simp only [OT.depth] at hd'
  obtain ⟨fuel, rfl⟩ : ∃ n, fuel = n + 1 := ⟨fuel - 1, by omega⟩
  have hc := hB
  simp only [okT2, Bool.false_or, Bool.and_eq_true, Bool.not_eq_true', List.all_eq_true, List.contains_iff_mem] at hc
  obtain ⟨⟨⟨⟨hne, hcov⟩, _⟩, _⟩, _⟩ := hc
  refine ⟨fun h0 => ?_, fun j hj => ?_⟩
  ·rw [h0] at hne; cases hne
  ·exact key false hB fuel hd j (hcov j hj)
theorem tree2_rule {C : Cfg} (hti : TyOK C.P C.ti) {id : Nat} {l : List Oper} {fr : Fr} {hp : Hp} {K : Ex → Fr → Hp → Prop} (T : OT) (hm : C.P.follows .mixedOrders = true)
  (hB : (decide (T.depth ≤ l.length) && Region.noSelect l.toArray && okT2 l.toArray T (Array.replicate l.length false) false && noDefer l) = true) (h : treeVC2 C l (K .normal) T fr hp) : SemVC C (.region id l.toArray true) fr hp K := by
 intro E a w hpin hrd ⟨h1, h2, ρ, h3, h4⟩
 simp only [Bool.and_eq_true, decide_eq_true_eq] at hB
 obtain ⟨⟨⟨b1, b2⟩, b3⟩, hnd⟩ := hB
 refine region_any_in hm hnd PostX.noOut ?_
 obtain ⟨m1, m2⟩ := h3.grow_same (Grew.drew w)
 generalize hw1 : w.drew = w1 at *
 have hm2 : Mem { entryAt w1 ρ hp E.pin E.rd E.D with k := E.k } ρ hp w1 := by
  have := m1.enter E.pin E.rd
  exact ⟨this.os, this.tape, this.output, this.size, this.old, this.sold, this.snew, this.slt, this.kp, this.sat, this.inj, this.hb, this.mv, this.ro, this.md⟩
 have := (tree2_sound (C := C) hti b2 T l.length (Array.replicate l.length false) fr hp ρ a w1 { entryAt w1 ρ hp E.pin E.rd E.D with k := E.k } hpin rfl rfl h hm2 h1 h2 (m2 fr _ h4)).1 b3 b1
 have h5 := wpAny_of_S (Q := PostX C E K) _ _ _ _ _ (wpS_mono (Q' := PostX C E K .normal) (fun a w ⟨fr', hp', k1, q2, q3, ρ3, q4, q5⟩ => ⟨.normal, fr', hp', E, .refl E, trivial, k1, q2, q3, ρ3, m1.leave (pin := E.pin) (rd := E.rd) q4 ⟨rfl, rfl, rfl, rfl, rfl, fun b hb => hb⟩ (fun id hid => hid), q5⟩) _ _ _ _ _ _ (fun _ h => h) this)
 have e : l.toArray.size = l.length := by simp
 rw [e]
 subst hw1
 exact h5
end
end Go.Proofs.YtnemengadjimcaaGreatDoor
namespace Go.Proofs.YtnemengadjimcaaGreatDoor
open Go.Proofs
theorem Mem.froze {E : Entry} {ρ : Env} {hp hp' : Hp} {w : World} (h : Mem E ρ hp w) {id e z cap : Nat} {rows : List (List D)} (ho : getH hp id = some (.mrow e z cap rows)) (hsub : subH hp' hp) (hno : getH hp' id = none) :
  ∃ S' : Nat → Nat → Prop, (∀ b i, ρ.S b i → S' b i) ∧ Mem E (ρ.withS S') hp' w ∧ RepD w S' (.sl z rows) (ρ.tv id) := by
 have hat : ∀ b, mblk (ρ.tv id) = some b → ρ.at id (.mrow e z cap rows) = some b := fun b hb => hb
 have hs0 : ∀ i o, getH hp' i = some o → getH hp i = some o := subH_ok _ _ hsub
 have hne : ∀ i o, getH hp' i = some o → i ≠ id := fun i o hi e => by rw [e, hno] at hi; cases hi
 refine ⟨fun b i => ρ.S b i ∨ (mblk (ρ.tv id) = some b ∧ i < rows.length * z), fun b i hs => .inl hs, ?_, ?_⟩
 ·refine ⟨h.os, h.tape, h.output, h.size, h.old, fun b i hs => .inl (h.sold b i hs), ?_, ?_, h.kp, ?_, fun i o i' o' g hi hi' => h.inj i o i' o' g (hs0 i o hi) (hs0 i' o' hi'), fun i o g hi => h.hb i o g (hs0 i o hi), fun i hi => Env.moved_trans (h.mv i hi) (ρ.moved_withS _ i), ?_, h.md⟩
  ·rintro b i (hs | ⟨hb, _⟩) hlt hB
   ·exact h.snew b i hs hlt hB
   ·rcases h.hb id _ b ho (hat b hb) with h1 | h1
    ·omega
    ·exact absurd h1 hB
  ·rintro b i (hs | ⟨hb, _⟩)
   ·exact h.slt b i hs
   ·exact h.blk_lt ho (hat b hb)
  ·intro i o hi
   refine (h.sat i o (hs0 i o hi)).keep (fun _ _ _ => rfl) (fun b i hs => .inl hs) (fun i _ => ρ.moved_withS _ i) ⟨rfl, rfl⟩ (fun g _ => rfl) ?_
   rintro g hg j (hs | ⟨hb, _⟩)
   ·exact hs
   ·exact absurd (h.inj i o id _ g (hs0 i o hi) ho hg (hat g hb)) (hne i o hi)
  ·intro i oR g hi hrd hg i' o' hi'
   exact h.ro i oR g (hs0 _ _ hi) hrd hg i' o' (hs0 _ _ hi')
 ·obtain ⟨_, h2⟩ := h.sat id _ ho
  rcases h2 with ⟨rfl, _, A, e1⟩ | ⟨hc, g, cur, e1, q1, q2, q3, q4, q6, q7⟩
  ·rw [e1]
   exact RepD.mk_sl (b := 0) (off := 0) (by simp) (by simp) (fun hne => absurd rfl hne) ⟨by simp, by simp⟩ (by simp)
  ·have hb : mblk (ρ.tv id) = some g := by
    rw [e1]; have : cap ≠ 0 := by omega
    simp [mblk, this]
   have key : RepD w (fun b i => ρ.S b i ∨ (mblk (ρ.tv id) = some b ∧ i < rows.length * z)) (.sl z rows) (.slice (some ⟨g, 0, none⟩) rows.length cap) := by
    refine RepD.mk_sl (b := g) (off := 0) q2 q3 (fun _ => rfl) ?_ rfl
    refine q6.view (fun k v hv => ?_) (fun k hk => ?_) (fun x v hx => hx.mono (fun _ _ _ => rfl) fun b i hs => .inl hs)
    ·rw [Nat.zero_add, cell_of_row w g k cur e (0, 0) q1]
     rw [List.getElem?_take] at hv
     split at hv
     ·simpa using hv
     ·cases hv
    ·rw [Nat.zero_add]
     right
     refine ⟨hb, ?_⟩
     rw [q6.len] at hk; exact hk
   rw [e1] at key ⊢
   exact key
theorem CallVC.froz {P : Program} {pin : List Nat} {fr : Fr} {hp hp' : Hp} {f : FuncId} {asv : List SV} {K : SV → Hp → Prop} (j id : Nat) {e z cap n : Nat} {rows : List (List D)} (ho : getH hp id = some (.mrow e z cap rows)) (hn : n = rows.length) (hj : asv[j]? = some (.mw id z n))
  (hsub : subH hp' hp) (hno : getH hp' id = none) (h : CallVC P pin fr hp' f (asv.set j (.d (.sl z rows))) K) : CallVC P pin fr hp f asv K := by
 intro E ρ w tm hpin h3 h4 vs hargs
 obtain ⟨S', s1, s2, s3⟩ := h3.froze ho hsub hno
 obtain ⟨q1, _⟩ := h3.sat id _ ho
 refine h E _ w tm hpin s2 (h4.mono (fun _ _ _ => rfl) s1 fun i _ => ρ.moved_withS S' i) vs ⟨by simpa using hargs.1, ?_⟩
 intro k s v hs hv
 by_cases e : j = k
 ·subst e
  have hjl := (List.getElem?_eq_some_iff.1 hj).1
  rw [List.getElem?_set_self hjl] at hs
  injection hs with hs
  subst hs
  obtain ⟨A, c, _, _, _, _, _, e2⟩ := (hargs.2 j _ v hj hv).mw_inv
  have := e2 (hn.trans q1.symm)
  subst this
  exact .d _ _ s3
 ·rw [List.getElem?_set_ne e] at hs
  exact (hargs.2 k s v hs hv).mono (fun _ _ _ => rfl) s1 fun i _ => ρ.moved_withS S' i
theorem SemVC.froz {C : Cfg} {c : Code} {fr : Fr} {hp hp' : Hp} {K : Ex → Fr → Hp → Prop} (t id : Nat) {e z cap n : Nat} {rows : List (List D)} (ht : getF fr t = some (.mw id z n)) (ho : getH hp id = some (.mrow e z cap rows)) (hn : n = rows.length)
  (hsub : subH hp' hp) (hno : getH hp' id = none) (h : SemVC C c ((t, .d (.sl z rows)) :: fr) hp' K) : SemVC C c fr hp K := by
 intro E a w hpin hrd hsat
 obtain ⟨h1, h2, ρ, h3, h4⟩ := hsat
 obtain ⟨S', s1, s2, s3⟩ := h3.froze ho hsub hno
 obtain ⟨q1, _⟩ := h3.sat id _ ho
 refine h E a w hpin hrd ⟨h1, h2, _, s2, ?_⟩
 intro k s hs
 simp only [getF] at hs
 by_cases e : t = k
 ·rw [if_pos e] at hs
  injection hs with hs
  subst hs; subst e
  obtain ⟨v, hv, hr⟩ := h4 t _ ht
  obtain ⟨A, c, _, _, _, _, _, e2⟩ := hr.mw_inv
  have := e2 (hn.trans q1.symm)
  subst this
  exact ⟨_, hv, .d _ _ s3⟩
 ·rw [if_neg e] at hs
  obtain ⟨v, hv, hr⟩ := h4 k _ hs
  exact ⟨v, hv, hr.mono (fun _ _ _ => rfl) s1 fun i _ => ρ.moved_withS S' i⟩
end Go.Proofs.YtnemengadjimcaaGreatDoor
namespace Go.Proofs.YtnemengadjimcaaGreatDoor
open Go.Proofs Go.RowKit
section
variable {P : Program}
theorem bin_nilmap {o : Oper} {t t' kt e : TypeId} {x y : Operand} (ho : o.op = .binOp .eql t x y t') (ht : mapT P t = some (kt, e)) {fr : Fr} {hp : Hp} {K : SV → Prop} {s : SV} (b : Bool) (hx : evO fr x = some s)
  (hs : (∃ id, s = .xv id mapV ∧ b = false) ∨ (s = .d (.lit (.map none)) ∧ b = true)) (hy : evO fr y = some (.d (.lit (.map none)))) (hk : K (.d (.bool b))) : GenP P o fr hp K := by
 intro E ρ a w hm hf
 have e2 := (evO_ok hf hy).lit_inv
 have e1 : (∃ g, a.eval x = .map (some g) ∧ b = false) ∨ (a.eval x = .map none ∧ b = true) := by
  rcases hs with ⟨id, rfl, hb⟩ | ⟨rfl, hb⟩
  ·obtain ⟨g, _, e1, _⟩ := (evO_ok hf hx).xv_inv
   exact .inl ⟨g, e1, hb⟩
  ·exact .inr ⟨(evO_ok hf hx).lit_inv, hb⟩
 have hq : ∀ (m : Option Nat) (w' : World), (binOp .eql t (.map m) (.map none)).run P w' = .ok (.bool m.isNone) w' := by
  intro m w'
  have hb : binOp .eql t (.map m) (.map none) = (Op.equal t (.map m) (.map none) >>= fun c => pure (.bool c)) := rfl
  have he : (Op.equal t (.map m) (.map none)).run P w' = .ok m.isNone w' := by
   show (Op.equalIn (9999 + 1) t (.map m) (.map none)).run P w' = _
   rw [Op.equalIn]
   simp only [Sem.run_bind, run_underlying (mapT_ok ht), Result.andThen_ok]
   cases m <;> rfl
  rw [hb, Sem.run_bind, he]
  rfl
 have hgd : ∀ (m : Option Nat) (w' : World), (eqGuard .eql t x y (.map m) (.map none)).run P w' = .ok () w' := fun m w' => rfl
 refine ⟨.bool b, _, fun w' _ => ?_, .d _ _ (.bool _), hk⟩
 rcases e1 with ⟨g, e1, rfl⟩ | ⟨e1, rfl⟩
 ·simp only [execOp, ho, e1, e2, Sem.run_bind, hgd, Result.andThen_ok, hq, Sem.run_pure, Option.isNone_some]
 ·simp only [execOp, ho, e1, e2, Sem.run_bind, hgd, Result.andThen_ok, hq, Sem.run_pure, Option.isNone_none]
theorem SemVC.ownC {C : Cfg} {c : Code} {fr : Fr} {hp : Hp} {K : Ex → Fr → Hp → Prop} (i id t e z k : Nat) {cs : List SV} (hnil : getH hp i = some (.cells t cs)) (hk : cs[k]? = some (.d .nil)) (hfr : fresh id C.pin fr hp)
  (h : SemVC C c fr ((id, .own e z 0) :: setH hp i (.cells t (cs.set k (.osl id z [])))) K) : SemVC C c fr hp K := by
 intro E a w hpin hrd hsat
 obtain ⟨h1, h2, ρ, h3, h4⟩ := hsat
 obtain ⟨f1, f2, f3⟩ := hfr
 obtain ⟨m1, m2, m3⟩ := h3.newNil (id := id) e z f3 (by rw [hpin]; exact f1)
 have hne : i ≠ id := fun e => f3 (by subst e; exact ids_of_getH hnil (.inl rfl))
 have hi' : getH ((id, HObj.own e z 0) :: hp) i = some (.cells t cs) := by
  simp only [getH]; rw [if_neg (Ne.symm hne)]; exact hnil
 have hkl : k < cs.length := (List.getElem?_eq_some_iff.1 hk).1
 have m4 := m1.recell hi' (cs' := cs.set k (.osl id z [])) (by simp) (fun j s' v hs' hv => by
  by_cases e : j = k
  ·subst e
   rw [List.getElem?_set_self hkl] at hs'
   injection hs' with hs'
   subst hs'
   have := (hv _ hk).nil_inv
   subst this
   exact m3
  ·rw [List.getElem?_set_ne (Ne.symm e)] at hs'
   exact hv _ hs')
 have e2 : setH ((id, HObj.own e z 0) :: hp) i (.cells t (cs.set k (.osl id z []))) = (id, .own e z 0) :: setH hp i (.cells t (cs.set k (.osl id z []))) := by
  simp only [setH]; rw [if_neg (Ne.symm hne)]
 rw [e2] at m4
 exact h E a w hpin hrd ⟨h1, h2, _, m4, m2 fr a.tmps f2 h4⟩
theorem CallVC.frozR {pin : List Nat} {fr : Fr} {hp : Hp} {f : FuncId} {asv : List SV} {K : SV → Hp → Prop}
  (h : CallVC P pin fr hp f asv fun s hp' => ∃ (id e z cap n : Nat) (rows : List (List D)) (hp'' : Hp), s = .mw id z n ∧ getH hp' id = some (.mrow e z cap rows) ∧ n = rows.length ∧ subH hp'' hp' ∧ getH hp'' id = none ∧ K (.d (.sl z rows)) hp'') : CallVC P pin fr hp f asv K := by
 intro E ρ w tm hpin h3 h4 vs hargs
 refine (h E ρ w tm hpin h3 h4 vs hargs).mono ?_
 rintro e w' ⟨v, ρ', s, hp', rfl, ⟨id, e, z, cap, n, rows, hp'', rfl, ho, hn, hsub, hno, hk⟩, k2, k3, k4⟩
 obtain ⟨S', s1, s2, s3⟩ := k2.froze ho hsub hno
 obtain ⟨q1, _⟩ := k2.sat id _ ho
 obtain ⟨A, c, _, _, _, _, _, e2⟩ := k4.mw_inv
 have := e2 (hn.trans q1.symm)
 subst this
 exact ⟨_, _, _, _, rfl, hk, s2, k3.mono (fun _ _ _ => rfl) s1 (fun i _ => ρ'.moved_withS S' i), .d _ _ s3⟩
end
abbrev Byt := List UInt8
def strD (l : Byt) : D := .str l
theorem getH_ne {hp : Hp} {k d : Nat} {o : HObj} {r : Option HObj} (h : getH hp d = r) (hne : k ≠ d) : getH ((k, o) :: hp) d = r := by
 rw [getH, if_neg hne, h]
theorem getH_eq {hp : Hp} {k : Nat} {o : HObj} : getH ((k, o) :: hp) k = some o := by
 rw [getH, if_pos rfl]
theorem setH_ne {hp : Hp} {k d : Nat} {o x : HObj} (hne : k ≠ d) : setH ((k, o) :: hp) d x = (k, o) :: setH hp d x := by
 rw [setH, if_neg hne]
theorem setH_eq {hp : Hp} {k : Nat} {o x : HObj} : setH ((k, o) :: hp) k x = (k, x) :: hp := by
 rw [setH, if_pos rfl]
theorem subH_iff : ∀ {hp' hp : Hp}, (∀ p ∈ hp', getH hp p.1 = some p.2) → subH hp' hp
 | [], _, _ => trivial
 | (k, x) :: r, hp, h => ⟨h (k, x) (by simp), subH_iff fun p hp => h p (List.mem_cons_of_mem _ hp)⟩
theorem subH_mem : ∀ {hp' hp : Hp}, subH hp' hp → ∀ p ∈ hp', getH hp p.1 = some p.2
 | [], _, _, p, hp => by cases hp
 | (k, x) :: r, hp, h, p, hm => by
  rcases List.mem_cons.1 hm with rfl | hm
  ·exact h.1
  ·exact subH_mem h.2 p hm
end Go.Proofs.YtnemengadjimcaaGreatDoor
namespace Go.Proofs.YtnemengadjimcaaGreatDoor
open Go.Proofs
def Cmp3 {α : Type} (c : α → α → Int) (a b d : α) : Prop :=
 (c a b < 0 → c b d < 0 → c a d < 0) ∧ (c a b = 0 → c a d = c b d) ∧ (c b d = 0 → c a b = c a d)
structure LCk {α : Type} (c : α → α → Int) : Prop where
 rng : ∀ a b, c a b = -1 ∨ c a b = 0 ∨ c a b = 1
 anti : ∀ a b, c b a = - c a b
 t3 : ∀ a b d, Cmp3 c a b d
def lex (x y : Int) : Int := if x ≠ 0 then x else y
theorem LCk.lex {α : Type} {c1 c2 : α → α → Int} (h1 : LCk c1) (h2 : LCk c2) : LCk (fun a b => lex (c1 a b) (c2 a b)) := by
 refine ⟨fun a b => ?_, fun a b => ?_, fun a b d => ?_⟩
 ·have := h1.rng a b
  have := h2.rng a b
  unfold Proofs.YtnemengadjimcaaGreatDoor.lex
  split <;> omega
 ·have := h1.anti a b
  have := h2.anti a b
  unfold Proofs.YtnemengadjimcaaGreatDoor.lex
  split <;> split <;> omega
 ·have a1 := h1.t3 a b d
  have a2 := h1.t3 b d a
  have a3 := h1.t3 d a b
  have b1 := h2.t3 a b d
  have r1 := h1.rng a b
  have r2 := h1.rng b d
  have r3 := h1.rng a d
  have n1 := h1.anti a b
  have n2 := h1.anti b d
  have n3 := h1.anti a d
  unfold Cmp3 at *
  unfold Proofs.YtnemengadjimcaaGreatDoor.lex
  dsimp only
  refine ⟨?_, ?_, ?_⟩ <;> (split <;> split <;> split <;> omega)
theorem LCk.of {α β : Type} {c : β → β → Int} (h : LCk c) (k : α → β) : LCk (fun a b => c (k a) (k b)) :=
 ⟨fun a b => h.rng _ _, fun a b => h.anti _ _, fun a b d => h.t3 _ _ _⟩
theorem LCk.int : LCk cmpI := by
 refine ⟨fun a b => ?_, fun a b => ?_, fun a b d => ?_⟩
 ·unfold cmpI; split <;> (try split) <;> simp
 ·unfold cmpI; split <;> split <;> (try split) <;> omega
 ·unfold Cmp3 cmpI
  refine ⟨?_, ?_, ?_⟩ <;> (split <;> (try split) <;> split <;> (try split) <;> (try split) <;> (try split) <;> omega)
theorem cmpI_zero {a b : Int} : cmpI a b = 0 ↔ a = b := by
 unfold cmpI; split <;> (try split) <;> omega
theorem LCk.str : LCk cmpB := by
 refine ⟨cmpB_range, cmpB_swap, fun a b d => ⟨cmpB_trans a b d, fun h => ?_, fun h => ?_⟩⟩
 ·rw [(cmpB_zero a b).1 h]
 ·rw [(cmpB_zero b d).1 h]
theorem orF_cons (x : Int) (l : List Int) : orF (x :: l) = lex x (orF l) := rfl
theorem LCk.zero {α : Type} : LCk (fun _ _ : α => (0 : Int)) := ⟨fun _ _ => by simp, fun _ _ => by simp, fun _ _ _ => by simp [Cmp3]⟩
theorem headC_lc : LCk headC := by
 have h := (LCk.int.of (fun c : Cn => (sizeF c : Int))).lex ((LCk.int.of Cn.kind).lex ((LCk.str.of Cn.name).lex ((LCk.int.of Cn.lo).lex ((LCk.int.of Cn.hi).lex LCk.zero))))
 exact h
theorem lex_zero {x y : Int} : lex x y = 0 ↔ x = 0 ∧ y = 0 := by unfold lex; split <;> omega
theorem headC_zero {a b : Cn} (h : headC a b = 0) : a.kind = b.kind ∧ a.name = b.name ∧ a.lo = b.lo ∧ a.hi = b.hi := by
 unfold headC at h
 simp only [orF_cons, lex_zero, cmpI_zero, cmpB_zero] at h
 exact ⟨h.2.1, h.2.2.1, h.2.2.2.1, h.2.2.2.2.1⟩
theorem cmpC_lex (a b : Cn) : cmpC a b = lex (headC a b) (cmpL a.parts b.parts) := by rw [cmpC_eq]; rfl
mutual
theorem cmpC_rng : ∀ (a b : Cn), cmpC a b = -1 ∨ cmpC a b = 0 ∨ cmpC a b = 1
 | .mk k n lo hi ps, b => by
  have h1 := headC_lc.rng (.mk k n lo hi ps) b
  have h2 := cmpL_rng ps b.parts
  rw [cmpC_lex, show (Cn.mk k n lo hi ps).parts = ps from rfl]
  unfold lex; split <;> omega
theorem cmpL_rng : ∀ (l m : List Cn), cmpL l m = -1 ∨ cmpL l m = 0 ∨ cmpL l m = 1
 | [], [] => by simp [cmpL]
 | [], _ :: _ => by simp [cmpL]
 | _ :: _, [] => by simp [cmpL]
 | a :: l, b :: m => by
  have h1 := cmpC_rng a b
  have h2 := cmpL_rng l m
  rw [cmpL]; split <;> omega
end
mutual
theorem cmpC_anti : ∀ (a b : Cn), cmpC b a = - cmpC a b
 | .mk k n lo hi ps, b => by
  have h1 := headC_lc.anti (.mk k n lo hi ps) b
  have h2 := cmpL_anti ps b.parts
  rw [cmpC_lex, cmpC_lex, h1]
  show lex _ (cmpL b.parts ps) = - lex _ (cmpL ps b.parts)
  rw [h2]
  unfold lex; split <;> split <;> omega
theorem cmpL_anti : ∀ (l m : List Cn), cmpL m l = - cmpL l m
 | [], [] => by simp [cmpL]
 | [], _ :: _ => by simp [cmpL]
 | _ :: _, [] => by simp [cmpL]
 | a :: l, b :: m => by
  have h1 := cmpC_anti a b
  have h2 := cmpL_anti l m
  rw [cmpL, cmpL, h1, h2]; split <;> split <;> omega
end
mutual
theorem cmpC_t3 : ∀ (a b d : Cn), Cmp3 cmpC a b d
 | .mk k n lo hi ps, b, d => by
  have a1 := headC_lc.t3 (.mk k n lo hi ps) b d
  have a2 := headC_lc.t3 b d (.mk k n lo hi ps)
  have a3 := headC_lc.t3 d (.mk k n lo hi ps) b
  have n1 := headC_lc.anti (.mk k n lo hi ps) b
  have n2 := headC_lc.anti b d
  have n3 := headC_lc.anti (.mk k n lo hi ps) d
  have r1 := headC_lc.rng (.mk k n lo hi ps) b
  have r2 := headC_lc.rng b d
  have r3 := headC_lc.rng (.mk k n lo hi ps) d
  have b1 := cmpL_t3 ps b.parts d.parts
  unfold Cmp3 at *
  rw [cmpC_lex, cmpC_lex, cmpC_lex]
  rw [show (Cn.mk k n lo hi ps).parts = ps from rfl]
  generalize headC (.mk k n lo hi ps) b = x1 at *
  generalize headC (.mk k n lo hi ps) d = x2 at *
  generalize headC b d = x3 at *
  generalize headC b (.mk k n lo hi ps) = x4 at *
  generalize headC d (.mk k n lo hi ps) = x5 at *
  generalize headC d b = x6 at *
  generalize cmpL ps b.parts = y1 at *
  generalize cmpL ps d.parts = y2 at *
  generalize cmpL b.parts d.parts = y3 at *
  unfold lex
  refine ⟨?_, ?_, ?_⟩ <;> (split <;> split <;> split <;> omega)
theorem cmpL_t3 : ∀ (l m n : List Cn), Cmp3 cmpL l m n
 | [], m, n => by
  cases m <;> cases n <;> simp [Cmp3, cmpL]
 | a :: l, [], n => by
  cases n <;> simp [Cmp3, cmpL]
 | a :: l, b :: m, [] => by
  simp only [Cmp3, cmpL]
  refine ⟨by omega, fun h => ?_, fun h => by omega⟩
  first | rfl | trivial | (simp_all)
 | a :: l, b :: m, d :: n => by
  have a1 := cmpC_t3 a b d
  have b1 := cmpL_t3 l m n
  have r1 := cmpC_rng a b
  have r2 := cmpC_rng b d
  have r3 := cmpC_rng a d
  have n2 := cmpC_anti b d
  unfold Cmp3 at *
  rw [cmpL, cmpL, cmpL]
  generalize cmpC a b = x1 at *
  generalize cmpC a d = x2 at *
  generalize cmpC b d = x3 at *
  generalize cmpL l m = y1 at *
  generalize cmpL l n = y2 at *
  generalize cmpL m n = y3 at *
  refine ⟨?_, ?_, ?_⟩ <;> (split <;> split <;> split <;> omega)
end
theorem cmpC_lc : LCk cmpC := ⟨cmpC_rng, cmpC_anti, cmpC_t3⟩
mutual
theorem cmpC_eq0 : ∀ (a b : Cn), cmpC a b = 0 → a = b
 | .mk k n lo hi ps, .mk k' n' lo' hi' ps', h => by
  rw [cmpC_lex, lex_zero] at h
  obtain ⟨h1, h2⟩ := h
  obtain ⟨e1, e2, e3, e4⟩ := headC_zero h1
  have e5 := cmpL_eq0 ps ps' h2
  simp only [Cn.kind, Cn.name, Cn.lo, Cn.hi] at e1 e2 e3 e4
  rw [e1, e2, e3, e4, e5]
theorem cmpL_eq0 : ∀ (l m : List Cn), cmpL l m = 0 → l = m
 | [], [], _ => rfl
 | [], _ :: _, h => by simp [cmpL] at h
 | _ :: _, [], h => by simp [cmpL] at h
 | a :: l, b :: m, h => by
  rw [cmpL] at h
  have h : lex (cmpC a b) (cmpL l m) = 0 := h
  rw [lex_zero] at h
  rw [cmpC_eq0 a b h.1, cmpL_eq0 l m h.2]
end
theorem cmpC_self (a : Cn) : cmpC a a = 0 := by have := cmpC_anti a a; omega
theorem cmpC_zero {a b : Cn} : cmpC a b = 0 ↔ a = b := ⟨cmpC_eq0 a b, fun h => h ▸ cmpC_self a⟩
def insC (c : Cn) : List Cn → List Cn
 | [] => [c]
 | d :: r => if cmpC c d < 0 then c :: d :: r else if cmpC c d = 0 then d :: r else d :: insC c r
def setC : List Cn → List Cn
 | [] => []
 | c :: r => insC c (setC r)
abbrev StrC (l : List Cn) : Prop := l.Pairwise (fun a b => cmpC a b < 0)
theorem mem_insC {c x : Cn} : ∀ {l : List Cn}, x ∈ insC c l ↔ x = c ∨ x ∈ l
 | [] => by simp [insC]
 | d :: r => by
  rw [insC]
  split
  ·simp
  ·split
   ·rename_i h
    have := cmpC_zero.1 h
    subst this
    simp
   ·simp only [List.mem_cons, mem_insC (l := r)]
    constructor
    ·rintro (h | h | h) <;> simp [h]
    ·rintro (h | h | h) <;> simp [h]
theorem mem_setC {x : Cn} : ∀ {l : List Cn}, x ∈ setC l ↔ x ∈ l
 | [] => by simp [setC]
 | c :: r => by rw [setC, mem_insC, mem_setC, List.mem_cons]
theorem str_insC {c : Cn} : ∀ {l : List Cn}, StrC l → StrC (insC c l)
 | [], _ => by simp [insC, StrC]
 | d :: r, h => by
  rw [insC]
  have h1 := List.pairwise_cons.1 h
  split
  ·rename_i hlt
   refine List.pairwise_cons.2 ⟨fun x hx => ?_, h⟩
   rcases List.mem_cons.1 hx with rfl | hx
   ·exact hlt
   ·exact (cmpC_t3 c d x).1 hlt (h1.1 x hx)
  ·split
   ·exact h
   ·rename_i h2 h3
    refine List.pairwise_cons.2 ⟨fun x hx => ?_, str_insC h1.2⟩
    rcases mem_insC.1 hx with rfl | hx
    ·have := cmpC_anti x d; omega
    ·exact h1.1 x hx
theorem str_setC : ∀ (l : List Cn), StrC (setC l)
 | [] => .nil
 | c :: r => str_insC (str_setC r)
theorem str_nodup {l : List Cn} (h : StrC l) : l.Nodup := h.imp fun {a b} h e => by rw [e, cmpC_self] at h; omega
theorem str_unique : ∀ {l m : List Cn}, StrC l → StrC m → (∀ x, x ∈ l ↔ x ∈ m) → l = m
 | [], [], _, _, _ => rfl
 | [], b :: m, _, _, h => by have := (h b).2 (by simp); simp at this
 | a :: l, [], _, _, h => by have := (h a).1 (by simp); simp at this
 | a :: l, b :: m, h1, h2, h => by
  have p1 := List.pairwise_cons.1 h1
  have p2 := List.pairwise_cons.1 h2
  have hab : a = b := by
   rcases List.mem_cons.1 ((h a).1 (by simp)) with e | e
   ·exact e
   ·rcases List.mem_cons.1 ((h b).2 (by simp)) with e' | e'
    ·exact e'.symm
    ·have q1 := p1.1 b e'
     have q2 := p2.1 a e
     have := cmpC_anti a b
     omega
  subst hab
  rw [str_unique p1.2 p2.2 fun x => ?_]
  have hx := h x
  simp only [List.mem_cons] at hx
  have d1 : ∀ x ∈ l, x ≠ a := fun x hx e => by have := p1.1 x hx; rw [e, cmpC_self] at this; omega
  have d2 : ∀ x ∈ m, x ≠ a := fun x hx e => by have := p2.1 x hx; rw [e, cmpC_self] at this; omega
  constructor
  ·intro hl
   rcases hx.1 (.inr hl) with e | e
   ·exact absurd e (d1 x hl)
   ·exact e
  ·intro hm
   rcases hx.2 (.inr hm) with e | e
   ·exact absurd e (d2 x hm)
   ·exact e
theorem setC_eq {l m : List Cn} (h1 : StrC m) (h : ∀ x, x ∈ m ↔ x ∈ l) : m = setC l := str_unique h1 (str_setC l) fun x => by rw [mem_setC, h]
theorem setC_congr {l m : List Cn} (h : ∀ x, x ∈ l ↔ x ∈ m) : setC l = setC m := str_unique (str_setC l) (str_setC m) fun x => by rw [mem_setC, mem_setC, h]
theorem setC_self {l : List Cn} (h : StrC l) : setC l = l := (setC_eq h fun _ => Iff.rfl).symm
def dedT {α : Type} (eq : α → α → Bool) : α → List α → List α
 | _, [] => []
 | p, b :: r => if eq b p then dedT eq b r else b :: dedT eq b r
def dedF {α : Type} (eq : α → α → Bool) : List α → List α
 | [] => []
 | a :: r => a :: dedT eq a r
def eqCb (a b : Cn) : Bool := decide (cmpC a b = 0)
theorem dedT_spec : ∀ (p : Cn) (l : List Cn), (p :: l).Pairwise (fun a b => ¬ cmpC b a < 0) → StrC (p :: dedT eqCb p l) ∧ ∀ x, x ∈ p :: dedT eqCb p l ↔ x ∈ p :: l
 | p, [], _ => ⟨by simp [dedT, StrC], fun x => by simp [dedT]⟩
 | p, b :: r, h => by
  have h1 := List.pairwise_cons.1 h
  obtain ⟨i1, i2⟩ := dedT_spec b r h1.2
  rw [dedT]
  by_cases he : cmpC b p = 0
  ·have hb : b = p := cmpC_zero.1 he
   subst hb
   rw [if_pos (by simp [eqCb, he])]
   exact ⟨i1, fun x => by rw [i2]; simp⟩
  ·rw [if_neg (by simp [eqCb, he])]
   have hlt : cmpC p b < 0 := by
    have := h1.1 b (by simp)
    have := cmpC_anti p b
    omega
   refine ⟨List.pairwise_cons.2 ⟨fun x hx => ?_, i1⟩, fun x => ?_⟩
   ·rcases List.mem_cons.1 hx with rfl | hx
    ·exact hlt
    ·exact (cmpC_t3 p b x).1 hlt ((List.pairwise_cons.1 i1).1 x hx)
   ·rw [List.mem_cons, i2, List.mem_cons (a := x) (b := p)]
theorem dedF_sorted {l l' : List Cn} (hp : l'.Perm l) (hs : l'.Pairwise (fun a b => ¬ cmpC b a < 0)) : dedF eqCb l' = setC l := by
 cases l' with
 | nil =>
  have := hp.symm.eq_nil
  subst this
  rfl
 | cons a r =>
  obtain ⟨h1, h2⟩ := dedT_spec a r hs
  exact setC_eq h1 fun x => (h2 x).trans hp.mem_iff
end Go.Proofs.YtnemengadjimcaaGreatDoor
namespace Go.Proofs.YtnemengadjimcaaGreatDoor
open Go.Proofs
def c0 : Cn := .mk 0 [] 0 0 []
def topC : Cn := .mk 1 [] 0 0 []
def partsF (c : Cn) : List Cn := if c.kind = 1 then [] else if c.kind = 5 then c.parts else [c]
def conjS (s : List Cn) : Cn × Int := match s.find? (fun t => decide (t.kind = 2)) with
 | some t => (t, 0)
 | none => if s.length = 0 then (topC, 0) else if s.length = 1 then (s.headD c0, 0) else if 8 < s.length then (c0, 2) else (.mk 5 [] 0 0 s, 0)
def conjF (l : List Cn) : Cn × Int := conjS (setC l)
def meetF (l : List (Cn × Int)) : Cn × Int := match l.find? (fun r => decide (r.2 ≠ 0)) with
 | some r => (c0, r.2)
 | none => conjF (l.flatMap fun r => partsF r.1)
def someF (n : List UInt8) (l : List (Cn × Int)) : Cn × Int := match l with
 | [] => (c0, 0)
 | r :: _ => if r.2 ≠ 0 ∨ r.1.kind = 2 then r else (.mk 6 n 0 0 [r.1], 0)
mutual
def tidyC : Cn → Cn × Int
 | .mk k n lo hi ps => if k = 6 then someF n (tidyL ps) else if k = 5 then meetF (tidyL ps) else (.mk k n lo hi ps, 0)
def tidyL : List Cn → List (Cn × Int)
 | [] => []
 | c :: r => tidyC c :: tidyL r
end
theorem tidyL_map : ∀ l, tidyL l = l.map tidyC
 | [] => rfl
 | c :: r => by rw [tidyL, tidyL_map r]; rfl
theorem tidyC_eq (c : Cn) : tidyC c = if c.kind = 6 then someF c.name (c.parts.map tidyC) else if c.kind = 5 then meetF (c.parts.map tidyC) else (c, 0) := by
 cases c; rw [tidyC, tidyL_map]; rfl
def sumN (l : List Cn) : Nat := (nodesL l).length
theorem sumN_nil : sumN [] = 0 := rfl
theorem sumN_cons (c : Cn) (l : List Cn) : sumN (c :: l) = sizeF c + sumN l := by simp [sumN, nodesL, sizeF]
theorem sumN_append (l m : List Cn) : sumN (l ++ m) = sumN l + sumN m := by simp [sumN, nodesL_append]
theorem sizeF_sum (c : Cn) : sizeF c = sumN c.parts + 1 := sizeF_eq c
theorem sumN_mem {c : Cn} {l : List Cn} (h : c ∈ l) : sizeF c ≤ sumN l := nodesL_mem h
theorem sumN_ins (c : Cn) : ∀ l, sumN (insC c l) ≤ sizeF c + sumN l
 | [] => by rw [insC, sumN_cons, sumN_nil]; omega
 | d :: r => by
  have := sumN_ins c r
  rw [insC]
  split
  ·rw [sumN_cons, sumN_cons]; omega
  ·split
   ·rw [sumN_cons]; omega
   ·rw [sumN_cons, sumN_cons]; omega
theorem sumN_set : ∀ l, sumN (setC l) ≤ sumN l
 | [] => by simp [setC]
 | c :: r => by
  have := sumN_set r
  have := sumN_ins c (setC r)
  rw [setC, sumN_cons]; omega
theorem size_c0 : sizeF c0 = 1 := rfl
theorem size_top : sizeF topC = 1 := rfl
theorem sumN_parts (c : Cn) : sumN (partsF c) ≤ sizeF c := by
 unfold partsF
 split
 ·rw [sumN_nil]; omega
 ·split
  ·have := sizeF_sum c; omega
  ·rw [sumN_cons, sumN_nil]; omega
theorem conjS_size (s : List Cn) : sizeF (conjS s).1 ≤ sumN s + 1 := by
 unfold conjS
 split
 ·rename_i t h
  have := sumN_mem (List.mem_of_find?_eq_some h)
  show sizeF t ≤ _
  omega
 ·split
  ·show sizeF topC ≤ _; rw [size_top]; omega
  ·split
   ·rename_i h0 h1
    match s, h1 with
    | [x], _ => show sizeF x ≤ _; rw [sumN_cons]; omega
   ·split
    ·show sizeF c0 ≤ _; rw [size_c0]; omega
    ·show sizeF (.mk 5 [] 0 0 s) ≤ _
     rw [sizeF_sum]; exact Nat.le_refl _
theorem sumN_flat : ∀ (l : List (Cn × Int)), sumN (l.flatMap fun r => partsF r.1) ≤ sumN (l.map (·.1))
 | [] => by simp
 | r :: l => by
  have := sumN_flat l
  have := sumN_parts r.1
  rw [List.flatMap_cons, List.map_cons, sumN_append, sumN_cons]; omega
theorem meetF_size (l : List (Cn × Int)) : sizeF (meetF l).1 ≤ sumN (l.map (·.1)) + 1 := by
 unfold meetF
 split
 ·show sizeF c0 ≤ _; rw [size_c0]; omega
 ·have h1 := conjS_size (setC (l.flatMap fun r => partsF r.1))
  have h2 := sumN_set (l.flatMap fun r => partsF r.1)
  have h3 := sumN_flat l
  show sizeF (conjS (setC (l.flatMap fun r => partsF r.1))).1 ≤ _
  omega
theorem someF_size (n : List UInt8) (l : List (Cn × Int)) : sizeF (someF n l).1 ≤ sumN (l.map (·.1)) + 1 := by
 unfold someF
 split
 ·show sizeF c0 ≤ _; rw [size_c0]; omega
 ·rename_i r l
  rw [List.map_cons, sumN_cons]
  split
  ·omega
  ·show sizeF (.mk 6 n 0 0 [r.1]) ≤ _
   rw [sizeF_sum]
   show sumN [r.1] + 1 ≤ _
   rw [sumN_cons, sumN_nil]; omega
mutual
theorem tidyC_size : ∀ c, sizeF (tidyC c).1 ≤ sizeF c
 | .mk k n lo hi ps => by
  have := tidyL_size ps
  have h1 : sizeF (.mk k n lo hi ps) = sumN ps + 1 := sizeF_sum _
  rw [tidyC]
  split
  ·have := someF_size n (tidyL ps); omega
  ·split
   ·have := meetF_size (tidyL ps); omega
   ·exact Nat.le_refl _
theorem tidyL_size : ∀ l, sumN ((tidyL l).map (·.1)) ≤ sumN l
 | [] => by simp [tidyL]
 | c :: r => by
  have := tidyC_size c
  have := tidyL_size r
  rw [tidyL, List.map_cons, sumN_cons, sumN_cons]; omega
end
end Go.Proofs.YtnemengadjimcaaGreatDoor
