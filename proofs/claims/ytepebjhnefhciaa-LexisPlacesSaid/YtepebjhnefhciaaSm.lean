/-
  Contracts of functions that leave what was there alone; loops; statements whose order is open.
  Conditions: none.
-/
import Derived.Test.YtepebjhnefhciaaSl
namespace Go.Proofs.Ytepebjhnefhciaa
open Go.RowKit

section
variable {P : Program}

/-! ### contracts -/

/-- What a callee may know of an object of its caller. -/
def RO (w : World) (ρ : Env) (id : Nat) : HObj → Prop
  | .cells t cs => ∃ g, ρ.blk id = some g ∧ CellsAt w ρ g t cs
  | .ro t cs => ∃ g, ρ.blk id = some g ∧ CellsAt w ρ g t cs
  | .own _ _ _ => True

theorem HSat.ro_ {w : World} {ρ : Env} {id : Nat} {o : HObj} (h : HSat w ρ id o) : RO w ρ id o := by
  cases o with
  | cells t cs => obtain ⟨g, h1, h2, _⟩ := h; exact ⟨g, h1, h2⟩
  | ro t cs => exact h
  | own => trivial

/-- The call comes back; nothing that was there has changed; its result stands for a datum that post knows. -/
def Tri (P : Program) (f : FuncId) (args : List SV) (hp : Hp) (post : SV → Prop) : Prop :=
  ∀ (w : World) (ρ : Env) (vs : Array Value), (∀ b i, ρ.S b i → b < w.heap.size) → ArgsRep w ρ args vs → (∀ id o, getH hp id = some o → RO w ρ id o) →
    Calls P f vs w fun e w' => ∃ v S' s, e = .returned v ∧ post s ∧ Grew w w' ∧ (∀ b i, ρ.S b i → S' b i) ∧ (∀ b i, S' b i → ρ.S b i ∨ w.heap.size ≤ b) ∧ (∀ b i, S' b i → b < w'.heap.size) ∧ Rep w' (ρ.withS S') s v

theorem Tri.mono {f : FuncId} {args : List SV} {hp : Hp} {post post' : SV → Prop} (h : Tri P f args hp post) (hp' : ∀ s, post s → post' s) : Tri P f args hp post' :=
  fun w ρ vs a b c => (h w ρ vs a b c).mono fun _ _ ⟨v, S', s, h1, h2, h3⟩ => ⟨v, S', s, h1, hp' s h2, h3⟩

def subH : Hp → Hp → Prop
  | [], _ => True
  | (id, o) :: r, hp => getH hp id = some o ∧ subH r hp

theorem subH_ok : ∀ (hp' hp : Hp), subH hp' hp → ∀ id o, getH hp' id = some o → getH hp id = some o := by
  intro hp'
  induction hp' with
  | nil => intro hp _ id o h; simp [getH] at h
  | cons p r ih =>
    obtain ⟨k, x⟩ := p
    intro hp h id o hg
    simp only [getH] at hg
    by_cases e : k = id
    · subst e; simp at hg; subst hg; exact h.1
    · simp [e] at hg; exact ih hp h.2 id o hg

/-- A call by its contract. -/
theorem call_tri {pin : List Nat} {fr : Fr} {hp : Hp} {f : FuncId} {args : List SV} {K : SV → Hp → Prop} (hpc : Hp) {post : SV → Prop} (hc : Tri P f args hpc post) (hsub : subH hpc hp) (hk : ∀ s, post s → K s hp) : CallVC P pin fr hp f args K := by
  intro E ρ w tm _ hm hf vs hv
  refine (hc w ρ vs hm.slt hv fun id o ho => (hm.sat id o (subH_ok _ _ hsub id o ho)).ro_).mono ?_
  rintro e w' ⟨v, S', s, h1, h2, h3, h4, h5, h6, h7⟩
  obtain ⟨m1, m2⟩ := hm.grow h3 S' h4 h5 h6
  exact ⟨v, _, s, hp, h1, hk s h2, m1, m2 fr tm hf, h7⟩

def argFr : Nat → List SV → Fr
  | _, [] => []
  | k, s :: r => (k, s) :: argFr (k + 1) r

theorem getF_argFr : ∀ (l : List SV) (k t : Nat) (s : SV), getF (argFr k l) t = some s → k ≤ t ∧ l[t - k]? = some s := by
  intro l
  induction l with
  | nil => intro k t s h; simp [argFr, getF] at h
  | cons x r ih =>
    intro k t s h
    simp only [argFr, getF] at h
    by_cases e : k = t
    · subst e; simp at h; subst h; exact ⟨Nat.le_refl _, by simp⟩
    · simp [e] at h
      obtain ⟨h1, h2⟩ := ih (k + 1) t s h
      refine ⟨by omega, ?_⟩
      obtain ⟨q, hq⟩ : ∃ q, t - k = q + 1 := ⟨t - (k + 1), by omega⟩
      rw [hq, List.getElem?_cons_succ]
      rw [← h2]; congr 1; omega

def roH : Hp → Hp
  | [] => []
  | (id, .cells t cs) :: r => (id, .ro t cs) :: roH r
  | (id, .ro t cs) :: r => (id, .ro t cs) :: roH r
  | (_, .own _ _ _) :: r => roH r

theorem getH_roH : ∀ (hp : Hp) (id : Nat) (o : HObj), (hp.map (·.1)).Nodup → getH (roH hp) id = some o → ∃ t cs, o = .ro t cs ∧ (getH hp id = some (.cells t cs) ∨ getH hp id = some (.ro t cs)) := by
  intro hp
  induction hp with
  | nil => intro id o _ h; simp [roH, getH] at h
  | cons p r ih =>
    obtain ⟨k, x⟩ := p
    intro id o hnd h
    rw [List.map_cons, List.nodup_cons] at hnd
    have hno : ∀ (r : Hp) o, k ∉ r.map (·.1) → getH (roH r) k ≠ some o := by
      intro r
      induction r with
      | nil => intro o _ h; simp [roH, getH] at h
      | cons q r ih =>
        obtain ⟨k', x'⟩ := q
        intro o hk
        simp only [List.map_cons, List.mem_cons, not_or] at hk
        cases x' <;> simp only [roH, getH, if_neg (fun e => hk.1 (Eq.symm e))] <;> exact ih o hk.2
    cases x with
    | cells t cs =>
      simp only [roH, getH] at h ⊢
      by_cases e : k = id
      · simp [e] at h; subst h; exact ⟨t, cs, rfl, .inl (by simp [e])⟩
      · simp [e] at h; simp only [e, if_false]; exact ih id o hnd.2 h
    | ro t cs =>
      simp only [roH, getH] at h ⊢
      by_cases e : k = id
      · simp [e] at h; subst h; exact ⟨t, cs, rfl, .inr (by simp [e])⟩
      · simp [e] at h; simp only [e, if_false]; exact ih id o hnd.2 h
    | own a b c =>
      simp only [roH, getH] at h ⊢
      by_cases e : k = id
      · subst e; exact absurd h (hno r o hnd.1)
      · simp only [e, if_false]; exact ih id o hnd.2 h

/-- The results, symbolically. -/
def resVC (ti : TypeId → Option TI) (fr : Fr) (hp : Hp) : List ResultVar → (List SV → Prop) → Prop
  | [], K => K []
  | .tmp t :: r, K => ev fr (.tmp t) fun s => resVC ti fr hp r fun l => K (s :: l)
  | .cell a t :: r, K => ev fr (.tmp a) fun s => vLoad ti t s hp fun x => resVC ti fr hp r fun l => K (x :: l)

def oneOf : List SV → SV
  | [s] => s
  | l => .tup l

def resFn (tm : Array Value) : ResultVar → Sem Value
  | .tmp t => pure (tm.getD t undef)
  | .cell x t => do loadVar t (← asAddr (tm.getD x undef))

def oneV : List Value → Value
  | [v] => v
  | l => .tuple l.toArray

theorem res_ok {ti : TypeId → Option TI} (hti : TyOK P ti) {E : Entry} {ρ : Env} {w : World} {fr : Fr} {hp : Hp} {a : Act} (hm : Mem E ρ hp w) (hf : FSat ρ w fr a.tmps) : ∀ (rs : List ResultVar) (K : List SV → Prop), resVC ti fr hp rs K →
    ∃ vs l, (rs.mapM (resFn a.tmps)).run P w = .ok vs w ∧ vs.length = l.length ∧ (∀ (j : Nat) (s : SV) (v : Value), l[j]? = some s → vs[j]? = some v → Rep w ρ s v) ∧ K l := by
  intro rs
  induction rs with
  | nil => intro K h; exact ⟨[], [], by simp, rfl, by simp, h⟩
  | cons r rest ih =>
    intro K h
    cases r with
    | tmp t =>
      simp only [resVC] at h
      obtain ⟨s, hs, h⟩ := ev_ok h
      have hr := evO_ok hf hs
      obtain ⟨vs, l, q1, q2, q3, q4⟩ := ih _ h
      refine ⟨a.tmps.getD t undef :: vs, s :: l, ?_, by simp [q2], ?_, q4⟩
      · simp only [List.mapM_cons, resFn, Sem.run_bind, Sem.run_pure, Result.andThen_ok]
        rw [q1]
        simp
      · intro j s' v hs' hv
        cases j with
        | zero => simp at hs' hv; subst hs'; rw [← hv]; simpa [Act.eval] using hr
        | succ j => exact q3 j s' v (by simpa using hs') (by simpa using hv)
    | cell x t =>
      simp only [resVC] at h
      obtain ⟨s, hs, h⟩ := ev_ok h
      have hr := evO_ok hf hs
      have hl : ev fr (.tmp x) fun s => vLoad ti t s hp fun x => resVC ti fr hp rest fun l => K (x :: l) := by
        unfold ev; rw [hs]; exact h
      obtain ⟨v, y, p1, p2, p3⟩ := ok_load (P := P) hti (o := { dst := none, op := .load t (.tmp x), type := 0, pos := "", after := #[], guard := none }) rfl hl E ρ a w hm hf
      obtain ⟨vs, l, q1, q2, q3, q4⟩ := ih _ p3
      have hrun := p1 w (Kept.refl ρ hp w)
      refine ⟨v :: vs, y :: l, ?_, by simp [q2], ?_, q4⟩
      · have hlv : (do loadVar t (← asAddr (a.tmps.getD x undef)) : Sem Value).run P w = .ok v w := by
          have hptr : ∃ ad, a.eval (.tmp x) = .pointer (some ad) := by
            unfold vLoad at h
            split at h
            · exact h.elim
            · split at h
              · obtain ⟨g, _, e⟩ := hr.ptr_inv; exact ⟨_, e⟩
              · obtain ⟨b, o, _, e⟩ := hr.ea_inv; exact ⟨_, e⟩
              · exact h.elim
          obtain ⟨ad, had⟩ := hptr
          have had' : a.tmps.getD x undef = .pointer (some ad) := had
          simp only [execOp, Instr.loadAt, had, Instr.sureAddr, Sem.run_bind, Sem.run_pure, Result.andThen_ok] at hrun
          simp only [had', asAddr, Sem.run_bind, Sem.run_pure, Result.andThen_ok]
          cases hlv : (loadVar t ad).run P w with
          | ok u w' => rw [hlv] at hrun; simp only [Result.andThen_ok] at hrun; injection hrun with h1 h2; injection h1 with h1; rw [h1, h2]
          | halt u w' => rw [hlv] at hrun; simp [Result.andThen] at hrun
        simp only [List.mapM_cons, resFn, Sem.run_bind]
        simp only [Sem.run_bind] at hlv
        rw [hlv]
        simp only [Result.andThen_ok]
        rw [q1]
        simp
      · intro j s' u hs' hu
        cases j with
        | zero => simp at hs' hu; subst hs'; subst hu; exact p2
        | succ j => exact q3 j s' u (by simpa using hs') (by simpa using hu)

theorem run_results {fn : Func} {a : Act} {w : World} {vs : List Value} (h : (fn.results.toList.mapM (resFn a.tmps)).run P w = .ok vs w) : (results fn a.tmps).run P w = .ok (oneV vs) w := by
  have e : results fn a.tmps = (do let vs ← fn.results.mapM (resFn a.tmps); pure (if h : vs.size = 1 then vs[0] else .tuple vs)) := by
    unfold results
    congr 1
  have e2 : (fn.results.mapM (resFn a.tmps)).run P w = .ok vs.toArray w := by
    rw [Array.mapM_eq_mapM_toList]
    rw [map_eq_pure_bind, Sem.run_bind, h]
    rfl
  rw [e, Sem.run_bind, e2]
  simp only [Result.andThen_ok]
  match vs with
  | [] => rfl
  | [v] => rfl
  | a :: b :: r => rfl

theorem rep_oneOf {w : World} {ρ : Env} {l : List SV} {vs : List Value} (hl : vs.length = l.length) (h : ∀ (j : Nat) (s : SV) (v : Value), l[j]? = some s → vs[j]? = some v → Rep w ρ s v) : Rep w ρ (oneOf l) (oneV vs) := by
  match l, vs, hl with
  | [], [], _ => exact .tup [] #[] rfl (by simp)
  | [s], [v], _ => exact h 0 s v rfl rfl
  | s :: s' :: r, v :: v' :: r', hl => exact .tup _ _ (by simpa using hl) fun j x u hx hu => h j x u hx (by simpa using hu)

/-- What a result says when the call is over. -/
def thaw : SV → SV
  | .osl _ z rows => .d (.sl z rows)
  | s => s

theorem thaw_ok {w : World} {ρ : Env} {s : SV} {v : Value} (h : Rep w ρ s v) : Rep w ρ (thaw s) v := by
  unfold thaw
  split
  · exact .d _ _ h.osl_inv.1
  · exact h

def thawL : List SV → List SV
  | [] => []
  | s :: r => thaw s :: thawL r

theorem thawL_eq (l : List SV) : thawL l = l.map thaw := by
  induction l with
  | nil => rfl
  | cons a r ih => simp [thawL, ih]

def retVC (ti : TypeId → Option TI) (rs : List ResultVar) (post : SV → Prop) (e : Ex) (fr : Fr) (hp : Hp) : Prop :=
  match e with
  | .ret => resVC ti fr hp rs fun l => (oneOf (thawL l)).ids = [] ∧ post (oneOf (thawL l))
  | .normal => resVC ti fr hp rs fun l => (oneOf (thawL l)).ids = [] ∧ post (oneOf (thawL l))
  | _ => Stuck "the end"

/-- A contract, by a walk through the body. -/
theorem tri_of_body {ti : TypeId → Option TI} (hti : TyOK P ti) {f : FuncId} {fn : Func} {c : Code} (hf : P.funcs[f]? = some fn) (hb : fn.body = some c) (keep : Nat → Bool) (pin : List Nat) (args : List SV) (hp : Hp) (post : SV → Prop)
    (hn : args.length ≤ fn.ntmps) (hnd : (hp.map (·.1)).Nodup) (hx : X ⟨P, ti, pin, fn.ntmps, keep⟩ c (argFr 0 args) (roH hp) (retVC ti fn.results.toList post)) : Tri P f args hp post := by
  intro w ρ vs hslt hargs hro
  refine calls_of_wp hf hb ?_
  have hm : Mem ⟨w, ρ.S, fun _ => False, pin, ρ⟩ ρ (roH hp) w := by
    have hat : ∀ id o, getH (roH hp) id = some o → ρ.at id o = none := by
      intro id o ho
      obtain ⟨t, cs, rfl, _⟩ := getH_roH hp id o hnd ho
      rfl
    refine ⟨rfl, rfl, rfl, Nat.le_refl _, fun _ _ _ => rfl, fun _ _ h => h, fun _ _ h _ _ => h, hslt, fun _ _ _ => rfl, ?_, ?_, ?_, fun id _ => ρ.moved_refl id, ?_⟩
    · intro id o ho
      obtain ⟨t, cs, rfl, h | h⟩ := getH_roH hp id o hnd ho
      · exact hro id _ h
      · exact hro id _ h
    · intro id o id' o' g h1 _ h3 _; rw [hat id o h1] at h3; cases h3
    · intro id o g h1 h3; rw [hat id o h1] at h3; cases h3
    · intro id t cs g _ _ id' o' h3 h4; rw [hat id' o' h3] at h4; cases h4
  have hfs : FSat ρ w (argFr 0 args) (vs ++ Array.replicate (fn.ntmps - vs.size) undef) := by
    intro t s ht
    obtain ⟨_, h2⟩ := getF_argFr args 0 t s ht
    simp only [Nat.sub_zero] at h2
    have hlt := (List.getElem?_eq_some_iff.1 h2).1
    have hlt' : t < vs.size := by rw [hargs.1]; exact hlt
    refine ⟨vs[t], ?_, hargs.2 t s _ h2 (Array.getElem?_eq_getElem hlt')⟩
    rw [Array.getElem?_append_left hlt', Array.getElem?_eq_getElem hlt']
  refine wp_mono (X_sound (C := ⟨P, ti, pin, fn.ntmps, keep⟩) hti c _ _ _ hx ⟨w, ρ.S, fun _ => False, pin, ρ⟩ _ w rfl ⟨?_, rfl, ρ, hm, hfs⟩) ?_
  · simp only [Array.size_append, Array.size_replicate]
    have := hargs.1
    omega
  · rintro e a' w' ⟨x, fr', hp', hrel, hk, hnt, hdf, ρ', hm', hf'⟩
    have fin : resVC ti fr' hp' fn.results.toList (fun l => (oneOf (thawL l)).ids = [] ∧ post (oneOf (thawL l))) → a'.defers = [] ∧ ∃ v, (results fn a'.tmps).run P w' = .ok v w' ∧
        ∃ v_1 S' s, Ending.returned v = .returned v_1 ∧ post s ∧ Grew w w' ∧ (∀ b i, ρ.S b i → S' b i) ∧ (∀ b i, S' b i → ρ.S b i ∨ w.heap.size ≤ b) ∧ (∀ b i, S' b i → b < w'.heap.size) ∧ Rep w' (ρ.withS S') s v_1 := by
      intro hk
      obtain ⟨us, l, q1, q2, q3, q4, q5⟩ := res_ok hti hm' hf' _ _ hk
      refine ⟨hdf, _, run_results q1, _, ρ'.S, oneOf (thawL l), rfl, q5, ⟨hm'.os, hm'.tape, hm'.output, hm'.size, fun b hb => hm'.old b hb (fun h => h)⟩, hm'.sold, ?_, hm'.slt, ?_⟩
      · intro b i hs
        rcases Nat.lt_or_ge b w.heap.size with hlt | hge
        · exact .inl (hm'.snew b i hs hlt (fun h => h))
        · exact .inr hge
      · refine (rep_oneOf (w := w') (ρ := ρ') (l := thawL l) (by rw [thawL_eq, List.length_map]; exact q2) (fun j x v hx hv => by rw [thawL_eq, List.getElem?_map] at hx; obtain ⟨y, hy, rfl⟩ := Option.map_eq_some_iff.1 hx; exact thaw_ok (q3 j y v hy hv))).mono (fun _ _ _ => rfl) (fun _ _ h => h) fun id hid => ?_
        rw [q4] at hid
        cases hid
    cases x <;> cases e <;> simp only [Ex.rel] at hrel <;> simp only [retVC] at hk
    · exact fin hk
    · exact hk.elim
    · exact hk.elim
    · exact fin hk

end
end Go.Proofs.Ytepebjhnefhciaa
