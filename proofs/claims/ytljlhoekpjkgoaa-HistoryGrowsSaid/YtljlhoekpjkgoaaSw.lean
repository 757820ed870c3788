/-
  Scopes through which no goto goes, in the round. Regions that draw their order: all orders, given as a tree.
  Conditions: none.
-/
import Derived.Test.YtljlhoekpjkgoaaSz
import Derived.RangeFuncBound
namespace Go.Proofs.Ytljlhoekpjkgoaa
open Go.Proofs

section
variable {F : Fence} {n : Nat} {P : Program} {b : Frame} {a : Act} {k : List Item} {cs : List Frame} {w : World} {Q : Exit → Act → World → Prop}

theorem stepR_scope {c : Code} : step P (lone (b.atR a (.code (.scope c) :: k)) cs w) = .next (lone (b.atR a (.code c :: .inScope c :: k)) cs w) :=
  step_lone_go (by simp [stepG, stepG.exec, Frame.atR])
theorem stepR_inScope {c : Code} : step P (lone (b.atR a (.inScope c :: k)) cs w) = .next (lone (b.atR a k) cs w) :=
  step_lone_go (by simp [stepG, stepG.exec, Frame.atR])

theorem wpIn_scope {c : Code} (hn : ∀ l a w, ¬ Q (.goto l) a w) (h : c.wpIn F n P Q a w) : (Code.scope c).wpIn F n P Q a w := by
  intro b k cs hro hb hr
  have h0 : (lone (b.atR a (.code (.scope c) :: k)) cs w).fenced P F := fenced_calm hb hr rfl
  obtain ⟨e, a₁, w₁, hq, harr⟩ := h b (.inScope c :: k) cs hro hb hr
  cases e with
  | normal => exact ⟨.normal, a₁, w₁, hq, .head h0 stepR_scope (StepsIn.trans harr (.one (fenced_calm hb hr rfl) stepR_inScope))⟩
  | exit id =>
    have hx : exitTo id (.inScope c :: k) = exitTo id k := by simp [exitTo]
    exact ⟨.exit id, a₁, w₁, hq, fun k' hk => .head h0 stepR_scope (harr.1 k' (by rw [hx]; exact hk)),
      fun hr' hk => let ⟨k₁, h1, h2⟩ := harr.2 hr' (by rw [hx]; exact hk); ⟨k₁, h1, .head h0 stepR_scope h2⟩⟩
  | goto l => exact (hn l _ _ hq).elim
  | ret => exact ⟨_, a₁, w₁, hq, .of_steps (.one h0 stepR_scope) harr⟩
  | panic ch => exact ⟨_, a₁, w₁, hq, .of_steps (.one h0 stepR_scope) harr⟩
  | outgrown => exact ⟨_, a₁, w₁, hq, .of_steps (.one h0 stepR_scope) harr⟩
end

/-- A scope through which no goto goes. -/
theorem sem_scope {C : Cfg} (hti : TyOK C.P C.ti) {c : Code} {fr : Fr} {hp : Hp} {K : Ex → Fr → Hp → Prop}
    (h : X C c fr hp fun e fr hp => match e with | .goto _ => Stuck "goto" | e => K e fr hp) : SemVC C (.scope c) fr hp K := by
  intro E a w hpin hrd hs
  have := X_sound hti c fr hp _ h E a w hpin hrd hs
  refine wpIn_mono (wpIn_scope ?_ this) ?_
  · rintro l a w ⟨ex, fr', hp', E', hE, hrel, hk, hs'⟩
    cases ex <;> simp only [Ex.rel] at hrel
    exact hk
  · rintro e a' w' ⟨ex, fr', hp', E', hE, hrel, hk, hs'⟩
    cases ex
    case goto => exact False.elim hk
    all_goals exact ⟨_, fr', hp', E', hE, hrel, hk, hs'⟩

/-! ### a loop whose memory is given as it is (a part of it is a variable) -/

def againE {α : Type} (I : α → Fr × Hp) (Ok : α → Prop) (μ : α → Nat) (x : α) (K : Ex → Fr → Hp → Prop) (e : Ex) (fr : Fr) (hp : Hp) : Prop :=
  match e with
  | .normal => ∃ y, Ok y ∧ μ y < μ x ∧ subF (I y).1 fr ∧ hp = (I y).2
  | e => K e fr hp

theorem Sat.subE {E : Entry} {nt : Nat} {fr fr' : Fr} {hp : Hp} {a : Act} {w : World} (h : Sat E nt ⟨fr, hp⟩ a w) (hs : subF fr' fr) : Sat E nt ⟨fr', hp⟩ a w := by
  obtain ⟨h1, h2, ρ, h3, h4⟩ := h
  exact ⟨h1, h2, ρ, h3, subF_ok _ _ hs h4⟩

theorem loop_eq {C : Cfg} (hti : TyOK C.P C.ti) {c : Code} {fr : Fr} {hp : Hp} {K : Ex → Fr → Hp → Prop} {α : Type} (I : α → Fr × Hp) (Ok : α → Prop) (μ : α → Nat) (x : α) (h0 : Ok x) (hs : subF (I x).1 fr) (he : hp = (I x).2)
    (round : ∀ y, Ok y → X C c (I y).1 (I y).2 (againE I Ok μ y K)) : SemVC C (.loop c) fr hp K := by
  subst he
  intro E a w hpin hrd hsat
  refine wpIn_loop_ghost (fun n a w => ∃ y E', μ y = n ∧ Ok y ∧ Ext E E' ∧ Sat E' C.nt ⟨(I y).1, (I y).2⟩ a w) (μ x) ⟨x, E, rfl, h0, .refl E, hsat.subE hs⟩ ?_
  rintro n a' w' ⟨y, E', rfl, hy, hE, hsy⟩
  have := X_sound hti c _ _ _ (round y hy) E' a' w' (hE.pin.trans hpin) (hrd.ext hE) hsy
  rw [hE.rd] at this
  refine wpIn_mono this ?_
  rintro e a₁ w₁ ⟨ex, fr₁, hp₁, E'', hE', hrel, hk, hs₁⟩
  cases ex <;> cases e <;> simp only [Ex.rel] at hrel <;> simp only [againE] at hk
  · obtain ⟨y', k1, k2, k3, rfl⟩ := hk
    exact ⟨μ y', k2, y', E'', rfl, k1, hE.trans hE', hs₁.subE k3⟩
  · exact ⟨.exit _, fr₁, hp₁, E'', hE.trans hE', hrel, hk, hs₁⟩
  · exact ⟨.goto _, fr₁, hp₁, E'', hE.trans hE', hrel, hk, hs₁⟩
  · exact ⟨.ret, fr₁, hp₁, E'', hE.trans hE', hrel, hk, hs₁⟩

/-- A call that needs less of the memory. -/
theorem CallVC.sub {P : Program} {pin : List Nat} {fr : Fr} {hp hp' : Hp} {f : FuncId} {args : List SV} {K : SV → Hp → Prop} (hs : subH hp' hp) (h : CallVC P pin fr hp' f args K) : CallVC P pin fr hp f args K :=
  fun E ρ w tm hpin hm hf vs ha => h E ρ w tm hpin (hm.sub (subH_ok _ _ hs)) hf vs ha

theorem CallVC.mono {P : Program} {pin : List Nat} {fr : Fr} {hp : Hp} {f : FuncId} {args : List SV} {K K' : SV → Hp → Prop} (hk : ∀ s hp, K s hp → K' s hp) (h : CallVC P pin fr hp f args K) : CallVC P pin fr hp f args K' :=
  fun E ρ w tm hpin hm hf vs ha => (h E ρ w tm hpin hm hf vs ha).mono fun _ _ ⟨v, ρ', s, hp', h1, h2, h3⟩ => ⟨v, ρ', s, hp', h1, hk _ _ h2, h3⟩

theorem CallVC.weak {P : Program} {pin : List Nat} {fr : Fr} {hp : Hp} {f : FuncId} {args : List SV} {K : SV → Hp → Prop} (h : CallVC P pin fr hp f args fun s hp' => ∃ hp'', subH hp'' hp' ∧ K s hp'') : CallVC P pin fr hp f args K :=
  fun E ρ w tm hpin hm hf vs ha => (h E ρ w tm hpin hm hf vs ha).mono fun _ _ ⟨v, ρ', s, _, h1, ⟨hp'', h2, h3⟩, h4, h5⟩ => ⟨v, ρ', s, hp'', h1, h3, h4.sub (subH_ok _ _ h2), h5⟩

theorem YVC.weak {P : Program} {pin : List Nat} {fr : Fr} {hp : Hp} {lid : Nat} {args : List SV} {K : SV → Hp → Prop} (h : YVC P pin fr hp lid args fun s hp' => ∃ hp'', subH hp'' hp' ∧ K s hp'') : YVC P pin fr hp lid args K :=
  fun E ρ w tm hpin hm hf l vs hl ha => YieldAt.mono (h E ρ w tm hpin hm hf l vs hl ha) fun _ _ ⟨v, ρ', s, _, h1, ⟨hp'', h2, h3⟩, h4, h5⟩ => ⟨v, ρ', s, hp'', h1, h3, h4.sub (subH_ok _ _ h2), h5⟩
end Go.Proofs.Ytljlhoekpjkgoaa

namespace Go.Proofs.Ytljlhoekpjkgoaa
open Go.Proofs

section
variable {P : Program}

inductive OT where
  | done
  | stop
  /-- a move, taken first -/
  | first (i : Nat) (t : OT)
  /-- one that may be next, or one of the others -/
  | alt (i : Nat) (t : OT) (r : OT)

def OT.heads : OT → List Nat
  | .alt i _ r => i :: r.heads
  | _ => []

def OT.depth : OT → Nat
  | .done => 0
  | .stop => 0
  | .first _ t => t.depth + 1
  | .alt _ t r => max (t.depth + 1) r.depth

def okT (ops : Array Oper) : OT → Array Bool → Bool → Bool
  | .done, listed, inn => !inn && (Region.ready .any ops listed).isEmpty
  | .stop, _, inn => inn
  | .first i t, listed, inn => !inn && (match ops[i]? with
      | some o => kd o.op == 0 && (Region.ready .any ops listed).contains i && Region.free .any ops listed i && okT ops t (listed.setIfInBounds i true) false
      | none => false)
  | .alt i t r, listed, inn => (inn || (!(Region.ready .any ops listed).isEmpty && (Region.ready .any ops listed).all fun j => (i :: r.heads).contains j)) && (ops[i]?).isSome && okT ops t (listed.setIfInBounds i true) false && okT ops r listed true

def acallVC (P : Program) (pin : List Nat) (fr : Fr) (hp : Hp) (f : Operand) (args : List Operand) (K : SV → Hp → Prop) : Prop :=
  ev fr f fun s => match fnOf s with
    | some (g, first, cap) => (match evL fr args with
      | some l => callable P g = true ∧ CallVC P pin fr hp g (first ++ l ++ cap) K
      | none => Stuck "call: an argument")
    | none => Stuck "call: no function"

def aVC (P : Program) (ti : TypeId → Option TI) (pin : List Nat) (fr : Fr) (hp : Hp) (dst : Nat) (o : Oper) (K : SV → Hp → Prop) : Prop :=
  match o.op with
  | .call { callee := .value f, args := args, argTypes := _ } => acallVC P pin fr hp f args.toList K
  | _ => dVC P ti pin fr hp dst o K

theorem ok_acall {o : Oper} {f : Operand} {args : Array Operand} {ts : Array TypeId} (ho : o.op = .call { callee := .value f, args := args, argTypes := ts }) {pin : List Nat} {fr : Fr} {hp : Hp} {K : SV → Hp → Prop}
    (h : acallVC P pin fr hp f args.toList K) : OpOK P o pin fr hp K := by
  intro E ρ a w hpin hm hf next Q hn
  obtain ⟨s, hs, hv⟩ := ev_ok h
  have hr := evO_ok hf hs
  split at hv
  · rename_i g first cap hfn
    obtain ⟨fv, cv, e, h1, h2⟩ := fnOf_ok hfn hr
    split at hv
    · rename_i l hl
      obtain ⟨hcall, hv⟩ := hv
      obtain ⟨l1, l2⟩ := evL_ok hf _ _ hl
      have hargs : ArgsRep w ρ (first ++ l ++ cap) (fv ++ args.map a.eval ++ cv) := by
        refine (h1.append ⟨?_, ?_⟩).append h2
        · simpa using l1
        · intro j s' v hs' hv'
          refine l2 j s' v hs' ?_
          rw [← Array.toList_map]; simpa using hv'
      unfold Oper.wp
      rw [run_call_enter ho e hcall]
      simp only [Oper.upon]
      refine (hv E ρ w a.tmps hpin hm hf _ hargs).mono ?_
      rintro e' w' ⟨v, ρ', s', hp', rfl, k1, k2, k3, k4⟩
      exact hn v w' ρ' s' hp' k1 k2 k3 k4
    · exact hv.elim
  · exact hv.elim

theorem a_ok {ti : TypeId → Option TI} (hti : TyOK P ti) {o : Oper} {pin : List Nat} {fr : Fr} {hp : Hp} {dst : Nat} {K : SV → Hp → Prop} (h : aVC P ti pin fr hp dst o K) : OpOK P o pin fr hp K := by
  unfold aVC at h
  split at h
  · rename_i ho; exact ok_acall ho h
  · rcases d_ok hti (o := o) h with ⟨_, hd⟩ | ⟨_, hd⟩ | ⟨_, hd⟩
    · exact .pure hd
    · exact hd.drop
    · exact hd

def astep (C : Cfg) (all : List Oper) (i : Nat) (fr : Fr) (hp : Hp) (k : Fr → Hp → Prop) : Prop :=
  match all[i]? with
  | some o =>
    guarded all fr o.guard
      (fun fr => aVC C.P C.ti C.pin fr hp (C.off + o.dst.getD 0) o fun s hp' => put C o.dst s fr fun fr' => k fr' hp')
      (fun fr => put C o.dst (.d (.lit undef)) fr fun fr' => k fr' hp)
  | none => Stuck "no such operation"

def treeVC (C : Cfg) (all : List Oper) (K : Fr → Hp → Prop) : OT → Fr → Hp → Prop
  | .done, fr, hp => pruneK C.keep fr fun fr' => K fr' hp
  | .stop, _, _ => True
  | .first i t, fr, hp => dstep C all i fr hp fun fr' hp' => treeVC C all K t fr' hp'
  | .alt i t r, fr, hp => astep C all i fr hp (fun fr' hp' => treeVC C all K t fr' hp') ∧ treeVC C all K r fr hp

/-- The heads of a tree are sound, each by itself. -/
def altOK (C : Cfg) (all : List Oper) (R : Act → World → Prop) (fuel : Nat) (listed : Array Bool) (a : Act) (w : World) (i : Nat) : Prop :=
  match all.toArray[i]? with
  | none => wpE C.P all.toArray R fuel (fun _ => True) (listed.setIfInBounds i true) a w
  | some o =>
    if Region.wanted o (yielded all.toArray a.tmps) then
      o.wp C.P a w (fun a' w' => if kd o.op = 3 then wpE C.P all.toArray R fuel (fun _ => True) (listed.setIfInBounds i true) a' w' else True ∧ wpE C.P all.toArray R fuel (fun _ => True) (listed.setIfInBounds i true) a' w') noX
    else wpE C.P all.toArray R fuel (fun _ => True) (listed.setIfInBounds i true) (a.put o.dst undef) w

theorem tree_sound {C : Cfg} (hti : TyOK C.P C.ti) {all : List Oper} {K : Fr → Hp → Prop} {E : Entry} (hpin : E.pin = C.pin) (hsel : Region.noSelect all.toArray = true) :
    ∀ (T : OT) (fuel : Nat) (listed : Array Bool) (fr : Fr) (hp : Hp) (ρ : Env) (a : Act) (w : World), treeVC C all K T fr hp → Mem E ρ hp w → a.tmps.size = C.nt → a.defers = (E.D.take E.k).map markOf → FSat ρ w fr a.tmps →
    (okT all.toArray T listed false = true → T.depth ≤ fuel → wpE C.P all.toArray (fun a w => ∃ fr hp, K fr hp ∧ Sat E C.nt ⟨fr, hp⟩ a w) fuel (fun _ => True) listed a w) ∧
    (∀ inn, okT all.toArray T listed inn = true → T.depth ≤ fuel + 1 → ∀ i ∈ T.heads, altOK C all (fun a w => ∃ fr hp, K fr hp ∧ Sat E C.nt ⟨fr, hp⟩ a w) fuel listed a w i) := by
  intro T
  induction T with
  | done =>
    intro fuel listed fr hp ρ a w h hm h1 h2 h3
    refine ⟨fun hB _ => ?_, fun _ _ _ i hi => by simp [OT.heads] at hi⟩
    simp only [okT, Bool.not_false, Bool.true_and, List.isEmpty_iff] at hB
    simp only [treeVC, pruneK_eq] at h
    have hq : ∃ fr hp, K fr hp ∧ Sat E C.nt ⟨fr, hp⟩ a w := ⟨_, hp, h, h1, h2, ρ, hm, fun t s hts => h3 t s (getF_prune _ _ t s hts)⟩
    cases fuel with
    | zero => exact ⟨hB, hq⟩
    | succ n => exact ⟨fun _ => hq, fun i hi => by rw [hB] at hi; cases hi⟩
  | stop =>
    intro fuel listed fr hp ρ a w h hm h1 h2 h3
    exact ⟨fun hB => by simp [okT] at hB, fun _ _ _ i hi => by simp [OT.heads] at hi⟩
  | first i t ih =>
    intro fuel listed fr hp ρ a w h hm h1 h2 h3
    refine ⟨fun hB hd => ?_, fun _ _ _ i hi => by simp [OT.heads] at hi⟩
    simp only [treeVC, dstep] at h
    split at h
    · rename_i o ho
      have ho' : all.toArray[i]? = some o := by simpa using ho
      simp only [okT, ho', Bool.not_false, Bool.true_and, Bool.and_eq_true, beq_iff_eq, List.contains_iff_mem] at hB
      obtain ⟨⟨⟨hk, hr⟩, hf⟩, hB⟩ := hB
      simp only [OT.depth] at hd
      obtain ⟨fuel, rfl⟩ : ∃ n, fuel = n + 1 := ⟨fuel - 1, by omega⟩
      obtain ⟨fr0, h3, hh⟩ := guarded_ok h h3
      rcases hh with ⟨hw, h⟩ | ⟨hw, h⟩
      · rcases d_ok hti h with ⟨_, hd'⟩ | ⟨hk', _⟩ | ⟨hk', _⟩
        · obtain ⟨v, s, q1, q2, q3⟩ := hd' E ρ a w hm h3
          obtain ⟨fr', p1, p2⟩ := put_ok q3 h1 h3 q2
          refine wpE_first ho' hsel (by omega) fuel _ listed a w trivial (Region.free_spec ho' hf) (fun h0 => absurd hk h0) hr (v := v) (.inl ⟨hw, fun w' _ => ?_⟩) ((ih fuel _ fr' hp ρ _ w p1 hm (by rw [put_size]; exact h1) (by rw [put_defers]; exact h2) p2).1 hB (by omega))
          have h0 := q1 w (Kept.refl ρ hp w)
          have hany : ∀ x, (o.op = .move x ∨ o.op = .assign x) → ∀ w' : World, (execOp a.eval o).run C.P w' = .ok (.value (a.eval x)) w' := by
            rintro x (e | e) w' <;> simp [execOp, e]
          have hx : ∃ x, o.op = .move x ∨ o.op = .assign x := by
            generalize o.op = p at hk
            unfold kd at hk
            split at hk <;> first | exact ⟨_, .inl rfl⟩ | exact ⟨_, .inr rfl⟩ | cases hk
          obtain ⟨x, hx⟩ := hx
          rw [hany x hx w] at h0
          injection h0 with h0
          injection h0 with h0
          rw [← h0]
          exact hany x hx w'
        · omega
        · omega
      · obtain ⟨fr', p1, p2⟩ := put_ok h h1 h3 (Rep.d _ undef (.lit undef))
        exact wpE_first ho' hsel (by omega) fuel _ listed a w trivial (Region.free_spec ho' hf) (fun h0 => absurd hk h0) hr (v := undef) (.inr ⟨hw, rfl⟩) ((ih fuel _ fr' hp ρ _ w p1 hm (by rw [put_size]; exact h1) (by rw [put_defers]; exact h2) p2).1 hB (by omega))
    · exact h.elim
  | alt i t r iht ihr =>
    intro fuel listed fr hp ρ a w h hm h1 h2 h3
    have key : ∀ inn, okT all.toArray (.alt i t r) listed inn = true → ∀ n, (OT.alt i t r).depth ≤ n + 1 → ∀ j ∈ (OT.alt i t r).heads, altOK C all (fun a w => ∃ fr hp, K fr hp ∧ Sat E C.nt ⟨fr, hp⟩ a w) n listed a w j := by
      intro inn hB n hd j hj
      simp only [okT, Bool.and_eq_true] at hB
      obtain ⟨⟨⟨_, hsome⟩, hBt⟩, hBr⟩ := hB
      simp only [OT.depth] at hd
      simp only [treeVC] at h
      simp only [OT.heads, List.mem_cons] at hj
      rcases hj with rfl | hj
      · have h := h.1
        unfold astep at h
        split at h
        · rename_i o ho
          have ho' : all.toArray[j]? = some o := by simpa using ho
          unfold altOK
          simp only [ho']
          obtain ⟨fr0, h3, hh⟩ := guarded_ok h h3
          rcases hh with ⟨hw, h⟩ | ⟨hw, h⟩
          · rw [if_pos hw]
            refine a_ok hti h E ρ a w hpin hm h3 _ noX fun v w' ρ' s hp' k1 k2 k3 k4 => ?_
            obtain ⟨fr', p1, p2⟩ := put_ok k1 h1 k3 k4
            have := (iht n _ fr' hp' ρ' _ w' p1 k2 (by rw [put_size]; exact h1) (by rw [put_defers]; exact h2) p2).1 hBt (by omega)
            split
            · exact this
            · exact ⟨trivial, this⟩
          · rw [if_neg (by rw [hw]; decide)]
            obtain ⟨fr', p1, p2⟩ := put_ok h h1 h3 (Rep.d _ undef (.lit undef))
            exact (iht n _ fr' hp ρ _ w p1 hm (by rw [put_size]; exact h1) (by rw [put_defers]; exact h2) p2).1 hBt (by omega)
        · exact h.elim
      · exact (ihr n listed fr hp ρ a w h.2 hm h1 h2 h3).2 true hBr (by omega) j hj
    refine ⟨fun hB hd => ?_, fun inn hB hd => key inn hB fuel hd⟩
    have hd' := hd
    simp only [OT.depth] at hd'
    obtain ⟨fuel, rfl⟩ : ∃ n, fuel = n + 1 := ⟨fuel - 1, by omega⟩
    have hc := hB
    simp only [okT, Bool.false_or, Bool.and_eq_true, Bool.not_eq_true', List.all_eq_true, List.contains_iff_mem] at hc
    obtain ⟨⟨⟨⟨hne, hcov⟩, _⟩, _⟩, _⟩ := hc
    refine ⟨fun h0 => ?_, fun j hj => ?_⟩
    · rw [h0] at hne; cases hne
    · exact key false hB fuel hd j (hcov j hj)

theorem tree_rule {C : Cfg} (hti : TyOK C.P C.ti) {id : Nat} {l : List Oper} {fr : Fr} {hp : Hp} {K : Ex → Fr → Hp → Prop} (T : OT) (hm : C.P.follows .mixedOrders = true)
    (hB : (decide (T.depth ≤ l.length) && Region.noSelect l.toArray && okT l.toArray T (Array.replicate l.length false) false && noDefer l) = true) (h : treeVC C l (K .normal) T fr hp) : SemVC C (.region id l.toArray true) fr hp K := by
  intro E a w hpin hrd ⟨h1, h2, ρ, h3, h4⟩
  simp only [Bool.and_eq_true, decide_eq_true_eq] at hB
  obtain ⟨⟨⟨b1, b2⟩, b3⟩, hnd⟩ := hB
  refine region_any_in hm hnd PostX.noOut ?_
  obtain ⟨m1, m2⟩ := h3.grow_same (Grew.drew w)
  have := (tree_sound (C := C) hti (E := E) hpin b2 T l.length (Array.replicate l.length false) fr hp ρ a _ h m1 h1 h2 (m2 fr _ h4)).1 b3 b1
  have h5 := wpAny_of_E (Q := PostX C E K) _ _ _ _ _ (wpE_Q (Q' := PostX C E K .normal) (fun a w ⟨fr', hp', k1, k2⟩ => ⟨.normal, fr', hp', E, .refl E, trivial, k1, k2⟩) _ _ _ _ _ this)
  have e : l.toArray.size = l.length := by simp
  rw [e]
  exact h5
end
end Go.Proofs.Ytljlhoekpjkgoaa
