/-
  Loops; statements whose order is open and that only read. How the symbolic walk is reckoned by rewriting: what is looked into, and what is left closed.
  Conditions: none.
-/
import Derived.Test.YtljlhoekpjkgoaaSm
import Derived.Deep.LoopGhost
import Derived.Sort.LoopGhostIn
import Derived.OrdersIn
namespace Go.Proofs.Ytljlhoekpjkgoaa
open Go.RowKit

section

/-! ### less knowledge -/

/-- A symbolic value that says less. -/
def Wk : SV → SV → Prop
  | .osl _ z rows, .d (.sl z' rows') => z = z' ∧ rows = rows'
  | .d .nil, .d (.sl _ rows) => rows = []
  | .zc, .d (.sl _ rows) => rows = []
  | a, b => a = b

theorem Wk_ok {w : World} {ρ : Env} {s s' : SV} {v : Value} (h : Wk s s') (hr : Rep w ρ s v) : Rep w ρ s' v := by
  unfold Wk at h
  split at h
  · obtain ⟨rfl, rfl⟩ := h
    exact .d _ _ hr.osl_inv.1
  · subst h
    have e := hr.nil_inv
    subst e
    exact .d _ _ (RepD.mk_sl (b := 0) (off := 0) (by simp) (by simp) (fun hne => absurd rfl hne) ⟨by simp, by simp⟩ (by simp))
  · subst h
    obtain ⟨A, e⟩ := hr.zc_inv
    subst e
    exact .d _ _ (RepD.mk_sl (b := 0) (off := 0) (by simp) (by simp) (fun hne => absurd rfl hne) ⟨by simp, by simp⟩ (by simp))
  · subst h; exact hr

theorem Wk_self (s : SV) : Wk s s = True := by
  unfold Wk; split <;> simp_all

def subF : Fr → Fr → Prop
  | [], _ => True
  | (t, s) :: r, fr => (match getF fr t with | some x => Wk x s | none => Stuck "a slot is not known") ∧ subF r fr

theorem subF_ok {w : World} {ρ : Env} {tm : Array Value} : ∀ (fr' fr : Fr), subF fr' fr → FSat ρ w fr tm → FSat ρ w fr' tm := by
  intro fr'
  induction fr' with
  | nil => intro fr _ _ t s h; simp [getF] at h
  | cons p r ih =>
    obtain ⟨k, x⟩ := p
    intro fr h hf t s hg
    simp only [subF] at h
    simp only [getF] at hg
    by_cases e : k = t
    · subst e
      simp at hg
      subst hg
      obtain ⟨h1, _⟩ := h
      split at h1
      · rename_i y hy
        obtain ⟨v, h2, h3⟩ := hf k y hy
        exact ⟨v, h2, Wk_ok h1 h3⟩
      · exact h1.elim
    · simp [e] at hg
      exact ih fr h.2 hf t s hg

structure Sub (fr : Fr) (hp : Hp) (fr' : Fr) (hp' : Hp) : Prop where
  f : subF fr' fr
  h : subH hp' hp

theorem Sat.sub {E : Entry} {nt : Nat} {fr fr' : Fr} {hp hp' : Hp} {a : Act} {w : World} (h : Sat E nt ⟨fr, hp⟩ a w) (hs : Sub fr hp fr' hp') : Sat E nt ⟨fr', hp'⟩ a w := by
  obtain ⟨h1, h2, ρ, h3, h4⟩ := h
  exact ⟨h1, h2, ρ, h3.sub (subH_ok _ _ hs.h), subF_ok _ _ hs.f h4⟩

theorem SemVC.sub {C : Cfg} {c : Code} {fr fr' : Fr} {hp hp' : Hp} {K : Ex → Fr → Hp → Prop} (hs : Sub fr hp fr' hp') (h : SemVC C c fr' hp' K) : SemVC C c fr hp K :=
  fun E a w hpin hrd hsat => h E a w hpin hrd (hsat.sub hs)

theorem SemVC.mono {C : Cfg} {c : Code} {fr : Fr} {hp : Hp} {K K' : Ex → Fr → Hp → Prop} (h : SemVC C c fr hp K) (hk : ∀ e fr hp, K e fr hp → K' e fr hp) : SemVC C c fr hp K' :=
  fun E a w hpin hrd hsat => wpIn_mono (h E a w hpin hrd hsat) fun _ _ _ ⟨x, f, p, E', h0, h1, h2, h3⟩ => ⟨x, f, p, E', h0, h1, hk _ _ _ h2, h3⟩

/-- A slot that holds nil takes up a row of the call's own. -/
theorem SemVC.own {C : Cfg} {c : Code} {fr : Fr} {hp : Hp} {K : Ex → Fr → Hp → Prop} (t id e z : Nat) (hnil : getF fr t = some (.d .nil)) (hfr : fresh id C.pin fr hp)
    (h : SemVC C c (setF fr t (.osl id z [])) ((id, .own e z 0) :: hp) K) : SemVC C c fr hp K := by
  intro E a w hpin hrd hsat
  obtain ⟨h1, h2, ρ, h3, h4⟩ := hsat
  obtain ⟨f1, f2, f3⟩ := hfr
  obtain ⟨m1, m2, m3⟩ := h3.newNil (id := id) e z f3 (by rw [hpin]; exact f1)
  refine h E a w hpin hrd ⟨h1, h2, _, m1, ?_⟩
  intro u s hu
  rw [getF_setF] at hu
  by_cases e1 : u = t
  · subst e1
    simp at hu
    subst hu
    obtain ⟨v, k1, k2⟩ := h4 u _ hnil
    have ev := k2.nil_inv
    subst ev
    exact ⟨_, k1, m3⟩
  · simp [e1] at hu
    exact m2 fr a.tmps f2 h4 u s hu

/-- A slot that holds nil takes up rows that may be written. -/
theorem SemVC.mown {C : Cfg} {c : Code} {fr : Fr} {hp : Hp} {K : Ex → Fr → Hp → Prop} (t id e z : Nat) (hnil : getF fr t = some (.d .nil)) (hfr : fresh id C.pin fr hp)
    (h : SemVC C c (setF fr t (.mw id z 0)) ((id, .mrow e z 0 []) :: hp) K) : SemVC C c fr hp K := by
  intro E a w hpin hrd hsat
  obtain ⟨h1, h2, ρ, h3, h4⟩ := hsat
  obtain ⟨f1, f2, f3⟩ := hfr
  obtain ⟨m1, m2, m3⟩ := h3.newMrow (id := id) (e := e) (z := z) (cap := 0) (rows := []) (v := .slice none 0 0) f3 (by rw [hpin]; exact f1) (Grew.refl w) (.inl ⟨rfl, rfl, none, rfl⟩) (fun g hg => by simp [mblk] at hg)
  refine h E a w hpin hrd ⟨h1, h2, _, m1, ?_⟩
  intro u s hu
  rw [getF_setF] at hu
  by_cases e1 : u = t
  · subst e1
    simp at hu
    subst hu
    obtain ⟨v, k1, k2⟩ := h4 u _ hnil
    have ev := k2.nil_inv
    subst ev
    exact ⟨_, k1, .mw id z 0 0 none (by simp) (by simp) (fun h => absurd rfl h) (by simp) (by simp [Env.retop])⟩
  · simp [e1] at hu
    exact (h4.mono (ρ' := ρ.retop id 0 (.slice none 0 0)) m2 (fun _ _ x => x) fun i hi => m3 i fun e => f2 (e ▸ hi)) u s hu

/-! ### loops -/

def againK {α : Type} (I : α → Fr × Hp) (Ok : α → Prop) (μ : α → Nat) (x : α) (K : Ex → Fr → Hp → Prop) (e : Ex) (fr : Fr) (hp : Hp) : Prop :=
  match e with
  | .normal => ∃ y, Ok y ∧ μ y < μ x ∧ Sub fr hp (I y).1 (I y).2
  | e => K e fr hp

theorem loop_rule {C : Cfg} (hti : TyOK C.P C.ti) {c : Code} {fr : Fr} {hp : Hp} {K : Ex → Fr → Hp → Prop} {α : Type} (I : α → Fr × Hp) (Ok : α → Prop) (μ : α → Nat) (x : α) (h0 : Ok x) (hs : Sub fr hp (I x).1 (I x).2)
    (round : ∀ y, Ok y → X C c (I y).1 (I y).2 (againK I Ok μ y K)) : SemVC C (.loop c) fr hp K := by
  intro E a w hpin hrd hsat
  refine wpIn_loop_ghost (fun n a w => ∃ y E', μ y = n ∧ Ok y ∧ Ext E E' ∧ Sat E' C.nt ⟨(I y).1, (I y).2⟩ a w) (μ x) ⟨x, E, rfl, h0, .refl E, hsat.sub hs⟩ ?_
  rintro n a' w' ⟨y, E', rfl, hy, hE, hsy⟩
  have := X_sound hti c _ _ _ (round y hy) E' a' w' (hE.pin.trans hpin) (hrd.ext hE) hsy
  rw [hE.rd] at this
  refine wpIn_mono this ?_
  rintro e a₁ w₁ ⟨ex, fr₁, hp₁, E'', hE', hrel, hk, hs₁⟩
  cases ex <;> cases e <;> simp only [Ex.rel] at hrel <;> simp only [againK] at hk
  · obtain ⟨y', k1, k2, k3⟩ := hk
    exact ⟨μ y', k2, y', E'', rfl, k1, hE.trans hE', hs₁.sub k3⟩
  · exact ⟨.exit _, fr₁, hp₁, E'', hE.trans hE', hrel, hk, hs₁⟩
  · exact ⟨.goto _, fr₁, hp₁, E'', hE.trans hE', hrel, hk, hs₁⟩
  · exact ⟨.ret, fr₁, hp₁, E'', hE.trans hE', hrel, hk, hs₁⟩

/-! ### regions whose order is open, in a round and elsewhere -/

def noDefer (l : List Oper) : Bool := l.all fun o => match o.op with | .defer _ => false | _ => true

theorem noDefer_ok {l : List Oper} (h : noDefer l = true) {o : Oper} (ho : o ∈ l) : ∀ c, o.op ≠ .defer c := by
  intro c e
  have := List.all_eq_true.1 h o ho
  rw [e] at this
  cases this

theorem wpOps_in {P : Program} {l : List Oper} (hd : noDefer l = true) {r : Option Nat} {Q : Exit → Act → World → Prop} (hQ : ¬ LetsOut Q) : ∀ (is : List Nat) (a : Act) (w : World), wpOps P l.toArray Q is a w → wpOpsIn (FW r) 0 P l.toArray Q is a w := by
  intro is
  induction is with
  | nil => intro a w h; exact h
  | cons i rest ih =>
    intro a w h
    simp only [wpOps] at h
    simp only [wpOpsIn]
    split
    · rename_i ho; simp only [ho] at h; exact ih a w h
    · rename_i o ho
      simp only [ho] at h
      have hmem : o ∈ l := by
        have : l[i]? = some o := by simpa using ho
        exact List.mem_of_getElem? this
      split
      · rename_i hw
        simp only [hw, if_true] at h
        rcases h with h | ⟨_, h⟩
        · exact wp_in (noDefer_ok hd hmem) (Oper.wp_mono (fun a w => ih a w) h)
        · exact absurd h hQ
      · rename_i hw
        simp only [hw] at h
        exact ⟨fun _ _ => trivial, ih _ _ h⟩

theorem region_any_in {P : Program} {l : List Oper} (hm : P.follows .mixedOrders = true) (hd : noDefer l = true) {r : Option Nat} {Q : Exit → Act → World → Prop} (hQ : ¬ LetsOut Q) {id : Nat} {a : Act} {w : World}
    (h : wpAny P .any l.toArray Q l.toArray.size (Array.replicate l.toArray.size false) a { w with drawn := w.drawn + 1 }) : (Code.region id l.toArray true).wpIn (FW r) 0 P Q a w :=
  wpIn_region_draw fun t => by
    simp only [Region.schedule, hm, Bool.true_or, if_true]
    exact wpOps_in hd hQ _ _ _ (wpAny_sound _ t _ a _ h)

/-! ### statements whose order is open, and that only read -/

def valOf : SV → Option Value
  | .d (.int k n) => some (.int k n)
  | .d (.bool b) => some (.bool b)
  | .d (.str l) => some (.string ⟨l.toArray⟩)
  | _ => none

theorem valOf_ok {w : World} {ρ : Env} {s : SV} {u v : Value} (h : valOf s = some u) (hr : Rep w ρ s v) : v = u := by
  unfold valOf at h
  split at h
  · injection h with h; rw [← h]; exact hr.int_inv
  · injection h with h; rw [← h]; exact hr.bool_inv
  · injection h with h; rw [← h]; exact hr.str_inv.1
  · cases h

def qcallVC (P : Program) (fr : Fr) (hp : Hp) (f : Operand) (args : List Operand) (K : SV → Prop) : Prop :=
  ev fr f fun s => match fnOf s with
    | some (g, first, cap) => (match evL fr args with
      | some l => callable P g = true ∧ ∃ r u hpc, valOf r = some u ∧ subH hpc hp ∧ Tri P g (first ++ l ++ cap) hpc (· = r) ∧ K r
      | none => Stuck "call: an argument")
    | none => Stuck "call: no function"

def qVC (P : Program) (ti : TypeId → Option TI) (fr : Fr) (hp : Hp) (o : Oper) (K : SV → Prop) : Prop :=
  match o.op with
  | .call { callee := .value f, args := args, argTypes := _ } => qcallVC P fr hp f args.toList K
  | _ => pureVC P ti fr hp o K

theorem RO.grow {w w' : World} {ρ : Env} {id : Nat} {o : HObj} (h : RO w ρ id o) (hg : Grew w w') (hs : ∀ b i, ρ.S b i → b < w.heap.size) : RO w' ρ id o := by
  have key : ∀ t cs, (∃ g, ρ.blk id = some g ∧ CellsAt w ρ g t cs) → ∃ g, ρ.blk id = some g ∧ CellsAt w' ρ g t cs := by
    rintro t cs ⟨g, h1, h2⟩
    refine ⟨g, h1, h2.mono ?_ (hg.keeps hs) (fun _ _ x => x) fun i _ => ρ.moved_refl i⟩
    obtain ⟨cur, hc, _⟩ := h2
    exact hg.block g (lt_of_heap hc)
  cases o with
  | cells t cs => exact key t cs h
  | ro t cs => exact key t cs h
  | own => trivial
  | mrow => trivial
  | loop => trivial
  | ext X =>
    obtain ⟨g, x, h1, h2, h3⟩ := h
    exact ⟨g, x, h1, (hg.block g (lt_of_heap h2)).trans h2, X.keep w w' ρ ρ x (hg.keeps hs) (fun _ _ x => x) (fun i _ => ρ.moved_refl i) h3⟩

theorem run_call_enter {P : Program} {o : Oper} {a : Act} {f : Operand} {args : Array Operand} {ts : Array TypeId} (ho : o.op = .call { callee := .value f, args := args, argTypes := ts }) {g : FuncId} {fv cv : Array Value} (e : a.eval f = .func (.func g) fv cv) (hcall : callable P g = true) (w : World) :
    (execOp a.eval o).run P w = .ok (.enter g (fv ++ args.map a.eval ++ cv)) w := by
  unfold callable at hcall
  split at hcall
  · rename_i fn hfn'
    simp only [Bool.and_eq_true, Bool.not_eq_true'] at hcall
    obtain ⟨c1, c2⟩ := hcall
    have c3 : fn.body.isNone = false := by cases hb : fn.body <;> simp_all
    simp only [execOp, ho, resolve, e, Deferred.ofValue, invoke, callFunc, Sem.run_bind, Sem.run_pure, Result.andThen_ok, run_program, hfn', c2, c3, Bool.false_eq_true, if_false]
  · cases hcall

/-- One value, whatever the world has grown to. -/
theorem q_ok {P : Program} {ti : TypeId → Option TI} (hti : TyOK P ti) {o : Oper} {fr : Fr} {hp : Hp} {K : SV → Prop} (h : qVC P ti fr hp o K) {E : Entry} {ρ : Env} {a : Act} {w : World} (hm : Mem E ρ hp w) (hf : FSat ρ w fr a.tmps) :
    ∃ v s, (∀ w', Grew w w' → o.quietAt P a (Grew w) w' v) ∧ Rep w ρ s v ∧ K s := by
  unfold qVC at h
  split at h
  · rename_i f args ts hop
    obtain ⟨s, hs, hv⟩ := ev_ok h
    have hr := evO_ok hf hs
    split at hv
    · rename_i g first cap hfn
      obtain ⟨fv, cv, e, h1, h2⟩ := fnOf_ok hfn hr
      split at hv
      · rename_i l hl
        obtain ⟨hcall, r, u, hpc, hval, hsub, htri, hk⟩ := hv
        obtain ⟨l1, l2⟩ := evL_ok hf _ _ hl
        have hargs : ArgsRep w ρ (first ++ l ++ cap) (fv ++ args.map a.eval ++ cv) := by
          refine (h1.append ⟨?_, ?_⟩).append h2
          · simpa using l1
          · intro j s' v hs' hv'
            refine l2 j s' v hs' ?_
            rw [← Array.toList_map]; simpa using hv'
        have hro : ∀ id o, getH hpc id = some o → RO w ρ id o := fun id o ho => (hm.sat id o (subH_ok _ _ hsub id o ho)).ro_
        have hat : ∀ w', Grew w w' → Calls P g (fv ++ args.map a.eval ++ cv) w' fun e w'' => e = .returned u ∧ Grew w w'' ∧ ∃ S', Rep w'' (ρ.withS S') r u := by
          intro w' hg
          refine (htri w' ρ _ (fun b i hs => Nat.lt_of_lt_of_le (hm.slt b i hs) hg.size) ⟨hargs.1, fun j s v a b => (hargs.2 j s v a b).grow hg hm.slt⟩ fun id o ho => (hro id o ho).grow hg hm.slt).mono ?_
          rintro e' w'' ⟨v, S', s', q1, q2, q3, _, _, _, q7⟩
          subst q2
          have := valOf_ok hval q7
          subst this
          exact ⟨q1, hg.trans q3, S', q7⟩
        have hrep : Rep w ρ r u := by
          obtain ⟨e', w'', fr', ⟨_, _, S', q⟩, _⟩ := hat w (Grew.refl w) []
          unfold valOf at hval
          split at hval
          · injection hval with hval; rw [← hval]; exact .d _ _ (.int _ _)
          · injection hval with hval; rw [← hval]; exact .d _ _ (.bool _)
          · have := q.str_inv
            injection hval with hval; rw [← hval]; exact .d _ _ (.str _ (by simpa only [maxLen] using this.2))
          · cases hval
        refine ⟨u, r, ?_, hrep, hk⟩
        intro w' hg
        unfold Oper.quietAt
        rw [run_call_enter hop e hcall]
        exact ⟨rfl, (hat w' hg).mono fun _ _ ⟨q1, q2, _⟩ => ⟨q1, q2⟩⟩
      · exact hv.elim
    · exact hv.elim
  · obtain ⟨v, s, q1, q2, q3⟩ := pure_ok hti (o := o) h E ρ a w hm hf
    refine ⟨v, s, fun w' hg => ?_, q2, q3⟩
    unfold Oper.quietAt
    rw [q1 w' (hm.kept_grew hg)]
    exact ⟨rfl, rfl⟩

def qstep (C : Cfg) (all : List Oper) (o : Oper) (fr : Fr) (hp : Hp) (k : Fr → Prop) : Prop :=
  guarded all fr o.guard
    (fun fr => qVC C.P C.ti fr hp o fun s => put C o.dst s fr fun fr' => k fr')
    (fun fr => put C o.dst (.d (.lit undef)) fr fun fr' => k fr')

def qopsVC (C : Cfg) (all : List Oper) (K : Fr → Hp → Prop) : List Oper → Fr → Hp → Prop
  | [], fr, hp => pruneK C.keep fr fun fr' => K fr' hp
  | o :: r, fr, hp => qstep C all o fr hp fun fr' => qopsVC C all K r fr' hp

theorem qops_sound {C : Cfg} (hti : TyOK C.P C.ti) {all : List Oper} {K : Fr → Hp → Prop} {E : Entry} {ρ : Env} {w : World} {hp : Hp} {df : List Deferred} (hm : Mem E ρ hp w) : ∀ (l : List Oper) (fr : Fr) (a : Act), qopsVC C all K l fr hp → a.tmps.size = C.nt → a.defers = df → FSat ρ w fr a.tmps →
    wpQuiet C.P all.toArray (Grew w) (fun a' => ∃ fr', K fr' hp ∧ a'.tmps.size = C.nt ∧ a'.defers = df ∧ FSat ρ w fr' a'.tmps) l a := by
  intro l
  induction l with
  | nil =>
    intro fr a h h1 h2 h3
    simp only [qopsVC, pruneK_eq] at h
    exact ⟨_, h, h1, h2, fun t s hts => h3 t s (getF_prune _ _ t s hts)⟩
  | cons o r ih =>
    intro fr a h h1 h2 h3
    simp only [qopsVC, qstep] at h
    simp only [wpQuiet]
    obtain ⟨fr0, h3, hh⟩ := guarded_ok h h3
    rcases hh with ⟨hw, h⟩ | ⟨hw, h⟩
    · simp only [hw, if_true]
      obtain ⟨v, s, q1, q2, q3⟩ := q_ok hti h hm h3
      obtain ⟨fr', p1, p2⟩ := put_ok q3 h1 h3 q2
      exact ⟨v, q1, ih fr' _ p1 (by rw [put_size]; exact h1) (by rw [put_defers]; exact h2) p2⟩
    · simp only [hw, Bool.false_eq_true, if_false]
      obtain ⟨fr', p1, p2⟩ := put_ok h h1 h3 (Rep.d _ undef (.lit undef))
      exact ih fr' _ p1 (by rw [put_size]; exact h1) (by rw [put_defers]; exact h2) p2

theorem draw_rule {C : Cfg} (hti : TyOK C.P C.ti) {id : Nat} {l : List Oper} {fr : Fr} {hp : Hp} {K : Ex → Fr → Hp → Prop} (hm : C.P.follows .mixedOrders = true) (hB : (Region.lexB .any l.toArray && noDefer l) = true)
    (h : qopsVC C l (K .normal) l fr hp) : SemVC C (.region id l.toArray true) fr hp K := by
  intro E a w hpin hrd ⟨h1, h2, ρ, h3, h4⟩
  rw [Bool.and_eq_true] at hB
  obtain ⟨hB, hnd⟩ := hB
  simp only [Region.lexB, Bool.and_eq_true] at hB
  refine region_any_in hm hnd PostX.noOut (wpAny_of_quiet (C := Grew w) (Q := fun a' => ∀ w', Grew w w' → PostX C E K .normal a' w') (fun _ w' hw' h => h w' hw') _ _ _ _ (Grew.drew w) ?_)
  have := qops_sound (C := C) hti (all := l) (K := K .normal) h3 l fr a h h1 rfl h4
  have hmono : ∀ (l' : List Oper) (a' : Act), wpQuiet C.P l.toArray (Grew w) (fun a'' => ∃ fr', K .normal fr' hp ∧ a''.tmps.size = C.nt ∧ a''.defers = a.defers ∧ FSat ρ w fr' a''.tmps) l' a' →
      wpQuiet C.P l.toArray (Grew w) (fun a' => ∀ w', Grew w w' → PostX C E K .normal a' w') l' a' := by
    intro l'
    induction l' with
    | nil =>
      rintro a' ⟨fr', k1, k2, k3, k4⟩ w' hg
      obtain ⟨m1, m2⟩ := h3.grow_same hg
      exact ⟨.normal, fr', hp, E, .refl E, trivial, k1, k2, k3.trans h2, ρ, m1, m2 fr' _ k4⟩
    | cons o r ih =>
      intro a' h
      simp only [wpQuiet] at h ⊢
      split
      · rename_i hw
        simp only [hw, if_true] at h
        exact Oper.quiet_mono (fun a h => ih a h) h
      · rename_i hw
        simp only [hw] at h
        exact ih _ h
  have hq := hmono l a this
  have := wpAnyQ_lex (C := Grew w) (md := .any) hB.1 l 0 (Array.replicate l.toArray.size false) a (by simp) (by simpa using hB.2) hq
  simpa using this

end
end Go.Proofs.Ytljlhoekpjkgoaa

namespace Go.Proofs.Ytljlhoekpjkgoaa

def getT : List (Nat × TI) → Nat → Option TI
  | [], _ => none
  | (k, T) :: r, t => if k = t then some T else getT r t

def AllT (P : Program) : List (Nat × TI) → Prop
  | [] => True
  | (t, T) :: r => tiOf P t = some T ∧ AllT P r

theorem tyOK_of {P : Program} : ∀ {l : List (Nat × TI)}, AllT P l → TyOK P (getT l) := by
  intro l
  induction l with
  | nil => intro _ t T h; simp [getT] at h
  | cons p r ih =>
    obtain ⟨k, U⟩ := p
    intro h t T hg
    simp only [getT] at hg
    by_cases e : k = t
    · subst e; simp at hg; subst hg; exact h.1
    · simp [e] at hg; exact ih h.2 t T hg

def kp : List Nat → Nat → Bool
  | [], _ => false
  | k :: r, t => if k = t then true else kp r t

theorem Wk_refl (s : SV) : Wk s s := by rw [Wk_self]; trivial

theorem byte_lt (c : UInt8) : (c.toNat : Int).toNat < 256 := by have := c.toNat_lt; omega

/-- An element of a list that is written row by row. -/
theorem row_at {α : Type} {f : α → List D} {l : List α} {i : Nat} (h : i < l.length) : (l.map f)[i]? = some (f l[i]) := by
  rw [List.getElem?_map, List.getElem?_eq_getElem h]; rfl

end Go.Proofs.Ytljlhoekpjkgoaa
