/-
  Scopes through which no goto goes, in the round.
  Conditions: none.
-/
import Derived.Test.YtljlhoekpjkgoaaSz
import Derived.RangeFuncBound
namespace Go.Proofs.Ytljlhoekpjkgoaa
open Go.Proofs

section
variable {F : Fence} {n : Nat} {P : Program} {b : Frame} {a : Act} {k : List Item} {cs : List Frame} {w : World} {Q : Exit → Act → World → Prop}

theorem stepR_scope {c : Code} : step P (lone (b.atR a (.code (.scope c) :: k)) cs w) = .next (lone (b.atR a (.code c :: .inScope c :: k)) cs w) :=
  step_lone_go (by simp [stepG, stepG.exec, Frame.atR])
theorem stepR_inScope {c : Code} : step P (lone (b.atR a (.inScope c :: k)) cs w) = .next (lone (b.atR a k) cs w) :=
  step_lone_go (by simp [stepG, stepG.exec, Frame.atR])

theorem wpIn_scope {c : Code} (hn : ∀ l a w, ¬ Q (.goto l) a w) (h : c.wpIn F n P Q a w) : (Code.scope c).wpIn F n P Q a w := by
  intro b k cs hro hb hr
  have h0 : (lone (b.atR a (.code (.scope c) :: k)) cs w).fenced P F := fenced_calm hb hr rfl
  obtain ⟨e, a₁, w₁, hq, harr⟩ := h b (.inScope c :: k) cs hro hb hr
  cases e with
  | normal => exact ⟨.normal, a₁, w₁, hq, .head h0 stepR_scope (StepsIn.trans harr (.one (fenced_calm hb hr rfl) stepR_inScope))⟩
  | exit id =>
    have hx : exitTo id (.inScope c :: k) = exitTo id k := by simp [exitTo]
    exact ⟨.exit id, a₁, w₁, hq, fun k' hk => .head h0 stepR_scope (harr.1 k' (by rw [hx]; exact hk)),
      fun hr' hk => let ⟨k₁, h1, h2⟩ := harr.2 hr' (by rw [hx]; exact hk); ⟨k₁, h1, .head h0 stepR_scope h2⟩⟩
  | goto l => exact (hn l _ _ hq).elim
  | ret => exact ⟨_, a₁, w₁, hq, .of_steps (.one h0 stepR_scope) harr⟩
  | panic ch => exact ⟨_, a₁, w₁, hq, .of_steps (.one h0 stepR_scope) harr⟩
  | outgrown => exact ⟨_, a₁, w₁, hq, .of_steps (.one h0 stepR_scope) harr⟩
end

/-- A scope through which no goto goes. -/
theorem sem_scope {C : Cfg} (hti : TyOK C.P C.ti) {c : Code} {fr : Fr} {hp : Hp} {K : Ex → Fr → Hp → Prop}
    (h : X C c fr hp fun e fr hp => match e with | .goto _ => Stuck "goto" | e => K e fr hp) : SemVC C (.scope c) fr hp K := by
  intro E a w hpin hrd hs
  have := X_sound hti c fr hp _ h E a w hpin hrd hs
  refine wpIn_mono (wpIn_scope ?_ this) ?_
  · rintro l a w ⟨ex, fr', hp', E', hE, hrel, hk, hs'⟩
    cases ex <;> simp only [Ex.rel] at hrel
    exact hk
  · rintro e a' w' ⟨ex, fr', hp', E', hE, hrel, hk, hs'⟩
    cases ex
    case goto => exact False.elim hk
    all_goals exact ⟨_, fr', hp', E', hE, hrel, hk, hs'⟩

/-! ### a loop whose memory is given as it is (a part of it is a variable) -/

def againE {α : Type} (I : α → Fr × Hp) (Ok : α → Prop) (μ : α → Nat) (x : α) (K : Ex → Fr → Hp → Prop) (e : Ex) (fr : Fr) (hp : Hp) : Prop :=
  match e with
  | .normal => ∃ y, Ok y ∧ μ y < μ x ∧ subF (I y).1 fr ∧ hp = (I y).2
  | e => K e fr hp

theorem Sat.subE {E : Entry} {nt : Nat} {fr fr' : Fr} {hp : Hp} {a : Act} {w : World} (h : Sat E nt ⟨fr, hp⟩ a w) (hs : subF fr' fr) : Sat E nt ⟨fr', hp⟩ a w := by
  obtain ⟨h1, h2, ρ, h3, h4⟩ := h
  exact ⟨h1, h2, ρ, h3, subF_ok _ _ hs h4⟩

theorem loop_eq {C : Cfg} (hti : TyOK C.P C.ti) {c : Code} {fr : Fr} {hp : Hp} {K : Ex → Fr → Hp → Prop} {α : Type} (I : α → Fr × Hp) (Ok : α → Prop) (μ : α → Nat) (x : α) (h0 : Ok x) (hs : subF (I x).1 fr) (he : hp = (I x).2)
    (round : ∀ y, Ok y → X C c (I y).1 (I y).2 (againE I Ok μ y K)) : SemVC C (.loop c) fr hp K := by
  subst he
  intro E a w hpin hrd hsat
  refine wpIn_loop_ghost (fun n a w => ∃ y E', μ y = n ∧ Ok y ∧ Ext E E' ∧ Sat E' C.nt ⟨(I y).1, (I y).2⟩ a w) (μ x) ⟨x, E, rfl, h0, .refl E, hsat.subE hs⟩ ?_
  rintro n a' w' ⟨y, E', rfl, hy, hE, hsy⟩
  have := X_sound hti c _ _ _ (round y hy) E' a' w' (hE.pin.trans hpin) (hrd.ext hE) hsy
  rw [hE.rd] at this
  refine wpIn_mono this ?_
  rintro e a₁ w₁ ⟨ex, fr₁, hp₁, E'', hE', hrel, hk, hs₁⟩
  cases ex <;> cases e <;> simp only [Ex.rel] at hrel <;> simp only [againE] at hk
  · obtain ⟨y', k1, k2, k3, rfl⟩ := hk
    exact ⟨μ y', k2, y', E'', rfl, k1, hE.trans hE', hs₁.subE k3⟩
  · exact ⟨.exit _, fr₁, hp₁, E'', hE.trans hE', hrel, hk, hs₁⟩
  · exact ⟨.goto _, fr₁, hp₁, E'', hE.trans hE', hrel, hk, hs₁⟩
  · exact ⟨.ret, fr₁, hp₁, E'', hE.trans hE', hrel, hk, hs₁⟩

/-- A call that needs less of the memory. -/
theorem CallVC.sub {P : Program} {pin : List Nat} {fr : Fr} {hp hp' : Hp} {f : FuncId} {args : List SV} {K : SV → Hp → Prop} (hs : subH hp' hp) (h : CallVC P pin fr hp' f args K) : CallVC P pin fr hp f args K :=
  fun E ρ w tm hpin hm hf vs ha => h E ρ w tm hpin (hm.sub (subH_ok _ _ hs)) hf vs ha

theorem CallVC.mono {P : Program} {pin : List Nat} {fr : Fr} {hp : Hp} {f : FuncId} {args : List SV} {K K' : SV → Hp → Prop} (hk : ∀ s hp, K s hp → K' s hp) (h : CallVC P pin fr hp f args K) : CallVC P pin fr hp f args K' :=
  fun E ρ w tm hpin hm hf vs ha => (h E ρ w tm hpin hm hf vs ha).mono fun _ _ ⟨v, ρ', s, hp', h1, h2, h3⟩ => ⟨v, ρ', s, hp', h1, hk _ _ h2, h3⟩

theorem CallVC.weak {P : Program} {pin : List Nat} {fr : Fr} {hp : Hp} {f : FuncId} {args : List SV} {K : SV → Hp → Prop} (h : CallVC P pin fr hp f args fun s hp' => ∃ hp'', subH hp'' hp' ∧ K s hp'') : CallVC P pin fr hp f args K :=
  fun E ρ w tm hpin hm hf vs ha => (h E ρ w tm hpin hm hf vs ha).mono fun _ _ ⟨v, ρ', s, _, h1, ⟨hp'', h2, h3⟩, h4, h5⟩ => ⟨v, ρ', s, hp'', h1, h3, h4.sub (subH_ok _ _ h2), h5⟩

theorem YVC.weak {P : Program} {pin : List Nat} {fr : Fr} {hp : Hp} {lid : Nat} {args : List SV} {K : SV → Hp → Prop} (h : YVC P pin fr hp lid args fun s hp' => ∃ hp'', subH hp'' hp' ∧ K s hp'') : YVC P pin fr hp lid args K :=
  fun E ρ w tm hpin hm hf l vs hl ha => YieldAt.mono (h E ρ w tm hpin hm hf l vs hl ha) fun _ _ ⟨v, ρ', s, _, h1, ⟨hp'', h2, h3⟩, h4, h5⟩ => ⟨v, ρ', s, hp'', h1, h3, h4.sub (subH_ok _ _ h2), h5⟩
end Go.Proofs.Ytljlhoekpjkgoaa
