/-
  Calls that are walked into; scopes with a label; loops that are unrolled.
  Conditions: none.
-/
import Derived.Test.YtepebjhnefhciaaSo
import Derived.ScopeJumps
namespace Go.Proofs.Ytepebjhnefhciaa
open Go.RowKit

section
variable {P : Program}

/-- The entry of a call that may write all objects that are known. -/
def entryAt (w : World) (ρ : Env) (hp : Hp) (pin : List Nat) : Entry := ⟨w, ρ.S, fun b => ∃ id o, getH hp id = some o ∧ ρ.at id o = some b, pin, ρ⟩

theorem Mem.enter {E : Entry} {ρ : Env} {hp : Hp} {w : World} (h : Mem E ρ hp w) (pin : List Nat) : Mem (entryAt w ρ hp pin) ρ hp w :=
  ⟨rfl, rfl, rfl, Nat.le_refl _, fun _ _ _ => rfl, fun _ _ h => h, fun _ _ h _ _ => h, h.slt, fun _ _ _ => rfl, h.sat, h.inj, fun id o g a b => .inr ⟨id, o, a, b⟩, fun id _ => ρ.moved_refl id, h.ro⟩

theorem Mem.leave {E : Entry} {ρ ρ' : Env} {hp hp' : Hp} {w w' : World} {pin : List Nat} (h : Mem E ρ hp w) (h' : Mem (entryAt w ρ hp pin) ρ' hp' w') (hsub : ∀ id ∈ E.pin, id ∈ pin) : Mem E ρ' hp' w' := by
  have hB : ∀ b, b < E.w.heap.size → ¬ E.B b → ¬ (entryAt w ρ hp pin).B b := by
    rintro b hb hnb ⟨id, o, h1, h2⟩
    rcases h.hb id o b h1 h2 with hge | hbb
    · omega
    · exact hnb hbb
  refine ⟨h'.os.trans h.os, h'.tape.trans h.tape, h'.output.trans h.output, Nat.le_trans h.size h'.size, ?_, ?_, ?_, h'.slt, h.kp.trans h.sold h'.kp, h'.sat, h'.inj, ?_, ?_, h'.ro⟩
  · exact fun b hb hnb => (h'.old b (Nat.lt_of_lt_of_le hb h.size) (hB b hb hnb)).trans (h.old b hb hnb)
  · exact fun b i hs => h'.sold b i (h.sold b i hs)
  · exact fun b i hs hb hnb => h.snew b i (h'.snew b i hs (Nat.lt_of_lt_of_le hb h.size) (hB b hb hnb)) hb hnb
  · intro id o g h1 h2
    rcases h'.hb id o g h1 h2 with hge | ⟨id', o', h3, h4⟩
    · exact .inl (Nat.le_trans h.size hge)
    · exact h.hb id' o' g h3 h4
  · exact fun id hid => Env.moved_trans (h.mv id hid) (h'.mv id (hsub id hid))

def retK (ti : TypeId → Option TI) (rs : List ResultVar) (K : SV → Hp → Prop) (e : Ex) (fr : Fr) (hp : Hp) : Prop :=
  match e with
  | .ret => resVC ti fr hp rs fun l => K (oneOf l) hp
  | .normal => resVC ti fr hp rs fun l => K (oneOf l) hp
  | _ => Stuck "the end"

/-- A call that is walked into, with all objects that the caller knows. -/
theorem call_inline {ti : TypeId → Option TI} (hti : TyOK P ti) {f : FuncId} {fn : Func} {c : Code} (hf : P.funcs[f]? = some fn) (hb : fn.body = some c) (keep : Nat → Bool) {pin : List Nat} {fr : Fr} {hp : Hp} {args : List SV} {K : SV → Hp → Prop}
    (hn : args.length ≤ fn.ntmps) (hx : X ⟨P, ti, pin ++ idsF fr, fn.ntmps, keep⟩ c (argFr 0 args) hp (retK ti fn.results.toList K)) : CallVC P pin fr hp f args K := by
  intro E ρ w tm hpin hm hfs vs hargs
  refine calls_of_wp hf hb ?_
  have hfs' : FSat ρ w (argFr 0 args) (vs ++ Array.replicate (fn.ntmps - vs.size) undef) := by
    intro t s ht
    obtain ⟨_, h2⟩ := getF_argFr args 0 t s ht
    simp only [Nat.sub_zero] at h2
    have hlt := (List.getElem?_eq_some_iff.1 h2).1
    have hlt' : t < vs.size := by rw [hargs.1]; exact hlt
    refine ⟨vs[t], ?_, hargs.2 t s _ h2 (Array.getElem?_eq_getElem hlt')⟩
    rw [Array.getElem?_append_left hlt', Array.getElem?_eq_getElem hlt']
  have hm0 := hm.enter (pin ++ idsF fr)
  refine wp_mono (X_sound (C := ⟨P, ti, pin ++ idsF fr, fn.ntmps, keep⟩) hti c _ _ _ hx _ _ w rfl ⟨?_, rfl, ρ, hm0, hfs'⟩) ?_
  · simp only [Array.size_append, Array.size_replicate]
    have := hargs.1
    omega
  · rintro e a' w' ⟨x, fr', hp', hrel, hk, hnt, hdf, ρ', hm', hf'⟩
    have fin : resVC ti fr' hp' fn.results.toList (fun l => K (oneOf l) hp') → a'.defers = [] ∧ ∃ v, (results fn a'.tmps).run P w' = .ok v w' ∧
        ∃ v_1 ρ'_1 s hp'_1, Ending.returned v = .returned v_1 ∧ K s hp'_1 ∧ Mem E ρ'_1 hp'_1 w' ∧ FSat ρ'_1 w' fr tm ∧ Rep w' ρ'_1 s v_1 := by
      intro hk
      obtain ⟨us, l, q1, q2, q3, q4⟩ := res_ok hti hm' hf' _ _ hk
      refine ⟨hdf, _, run_results q1, _, ρ', oneOf l, hp', rfl, q4, hm.leave hm' (fun id hid => by rw [hpin] at hid; exact List.mem_append_left _ hid), ?_, rep_oneOf q2 q3⟩
      exact hfs.mono hm'.kp hm'.sold fun id hid => hm'.mv id (List.mem_append_right _ hid)
    cases x <;> cases e <;> simp only [Ex.rel] at hrel <;> simp only [retK] at hk
    · exact fin hk
    · exact hk.elim
    · exact hk.elim
    · exact fin hk

/-! ### semantic steps -/

theorem sem_seq {C : Cfg} (hti : TyOK C.P C.ti) {x y : Code} {fr : Fr} {hp : Hp} {K : Ex → Fr → Hp → Prop} (h : X C x fr hp fun e fr hp => match e with | .normal => SemVC C y fr hp K | e => K e fr hp) : SemVC C (.seq x y) fr hp K := by
  intro E a w hpin hs
  refine wp_seq (wp_mono (X_sound hti x fr hp _ h E a w hpin hs) ?_)
  rintro e a' w' ⟨ex, fr', hp', hrel, hk, hs'⟩
  cases ex <;> cases e <;> simp only [Ex.rel] at hrel
  · exact hk E a' w' hpin hs'
  · exact ⟨.exit _, fr', hp', hrel, hk, hs'⟩
  · exact ⟨.goto _, fr', hp', hrel, hk, hs'⟩
  · exact ⟨.ret, fr', hp', hrel, hk, hs'⟩

theorem sem_of_X {C : Cfg} (hti : TyOK C.P C.ti) {c : Code} {fr : Fr} {hp : Hp} {K : Ex → Fr → Hp → Prop} (h : X C c fr hp K) : SemVC C c fr hp K := X_sound hti c fr hp K h

theorem sem_label {C : Cfg} {l : Nat} {y : Code} {fr : Fr} {hp : Hp} {K : Ex → Fr → Hp → Prop} (h : SemVC C y fr hp K) : SemVC C (.seq (.label l) y) fr hp K := by
  intro E a w hpin hs
  exact wp_seq (wp_label (h E a w hpin hs))

/-- A cut: what is known, is said anew. -/
theorem sem_cut {C : Cfg} {x y : Code} {fr : Fr} {hp : Hp} {K : Ex → Fr → Hp → Prop} (M : Fr → Hp → Prop) (h1 : SemVC C x fr hp fun e fr hp => match e with | .normal => M fr hp | e => K e fr hp) (h2 : ∀ fr hp, M fr hp → SemVC C y fr hp K) : SemVC C (.seq x y) fr hp K := by
  intro E a w hpin hs
  refine wp_seq (wp_mono (h1 E a w hpin hs) ?_)
  rintro e a' w' ⟨ex, fr', hp', hrel, hk, hs'⟩
  cases ex <;> cases e <;> simp only [Ex.rel] at hrel
  · exact h2 fr' hp' hk E a' w' hpin hs'
  · exact ⟨.exit _, fr', hp', hrel, hk, hs'⟩
  · exact ⟨.goto _, fr', hp', hrel, hk, hs'⟩
  · exact ⟨.ret, fr', hp', hrel, hk, hs'⟩

def jumpK {α : Type} (l : Nat) (I : α → Fr × Hp) (Ok : α → Prop) (K : Ex → Fr → Hp → Prop) (e : Ex) (fr : Fr) (hp : Hp) : Prop :=
  match e with
  | .goto l' => l' = l ∧ ∃ y, Ok y ∧ Sub fr hp (I y).1 (I y).2
  | e => K e fr hp

theorem scope_rule {C : Cfg} {c rest : Code} {fr : Fr} {hp : Hp} {K : Ex → Fr → Hp → Prop} {α : Type} (l : Nat) (I : α → Fr × Hp) (Ok : α → Prop) (μ : α → Nat) (hf : findLabel c l = some rest)
    (pass : ∀ y, Ok y → SemVC C rest (I y).1 (I y).2 (jumpK l I (fun z => Ok z ∧ μ z < μ y) K))
    (first : (∀ y, Ok y → SemVC C rest (I y).1 (I y).2 (jumpK l I Ok K)) → SemVC C c fr hp (jumpK l I Ok K)) : SemVC C (.scope c) fr hp K := by
  intro E a w hpin hsat
  have first' := first fun y hy => (pass y hy).mono fun e fr hp h => by
    cases e <;> simp only [jumpK] at h ⊢ <;> first | exact h | (obtain ⟨h1, z, ⟨h2, _⟩, h3⟩ := h; exact ⟨h1, z, h2, h3⟩)
  refine wp_scope_jumps l (fun a w => ∃ n y, μ y = n ∧ Ok y ∧ Sat E C.nt ⟨(I y).1, (I y).2⟩ a w) (fun a w => leastOf (fun n => ∃ y, μ y = n ∧ Ok y ∧ Sat E C.nt ⟨(I y).1, (I y).2⟩ a w)) hf ?_ ?_
  · refine wp_mono (first' E a w hpin hsat) ?_
    rintro e a' w' ⟨ex, fr', hp', hrel, hk, hs'⟩
    cases ex <;> cases e <;> simp only [Ex.rel] at hrel <;> simp only [jumpK] at hk
    · exact ⟨.normal, fr', hp', trivial, hk, hs'⟩
    · exact ⟨.exit _, fr', hp', hrel, hk, hs'⟩
    · obtain ⟨rfl, y, h1, h2⟩ := hk
      exact ⟨hrel.symm, μ y, y, rfl, h1, hs'.sub h2⟩
    · exact ⟨.ret, fr', hp', trivial, hk, hs'⟩
  · intro a w hJ
    obtain ⟨⟨y, hy1, hy2, hy3⟩, hleast⟩ := leastOf_spec hJ
    refine wp_mono (pass y hy2 E a w hpin hy3) ?_
    rintro e a' w' ⟨ex, fr', hp', hrel, hk, hs'⟩
    cases ex <;> cases e <;> simp only [Ex.rel] at hrel <;> simp only [jumpK] at hk
    · exact ⟨.normal, fr', hp', trivial, hk, hs'⟩
    · exact ⟨.exit _, fr', hp', hrel, hk, hs'⟩
    · obtain ⟨rfl, z, ⟨h1, hlt⟩, h2⟩ := hk
      have hz := hs'.sub h2
      refine ⟨hrel.symm, ⟨μ z, z, rfl, h1, hz⟩, ?_⟩
      have hJ' : ∃ n, ∃ y, μ y = n ∧ Ok y ∧ Sat E C.nt ⟨(I y).1, (I y).2⟩ a' w' := ⟨μ z, z, rfl, h1, hz⟩
      have := (leastOf_spec hJ').2 (μ z) ⟨z, rfl, h1, hz⟩
      omega
    · exact ⟨.ret, fr', hp', trivial, hk, hs'⟩

theorem sem_skip {C : Cfg} {y : Code} {fr : Fr} {hp : Hp} {K : Ex → Fr → Hp → Prop} (h : SemVC C y fr hp K) : SemVC C (.seq .skip y) fr hp K := by
  intro E a w hpin hs
  exact wp_seq (wp_skip (h E a w hpin hs))

/-- The same, where what stands behind the label is known behind a skip. -/
theorem scope_rule' {C : Cfg} {c rest : Code} {fr : Fr} {hp : Hp} {K : Ex → Fr → Hp → Prop} {α : Type} (l : Nat) (I : α → Fr × Hp) (Ok : α → Prop) (μ : α → Nat) (hf : findLabel c l = some (.seq .skip rest))
    (pass : ∀ y, Ok y → SemVC C rest (I y).1 (I y).2 (jumpK l I (fun z => Ok z ∧ μ z < μ y) K))
    (first : (∀ y, Ok y → SemVC C rest (I y).1 (I y).2 (jumpK l I Ok K)) → SemVC C c fr hp (jumpK l I Ok K)) : SemVC C (.scope c) fr hp K := by
  refine scope_rule l I Ok μ hf (fun y hy => sem_skip (pass y hy)) fun _ => first fun y hy => (pass y hy).mono fun e fr hp h => ?_
  cases e <;> simp only [jumpK] at h ⊢ <;> first | exact h | (obtain ⟨h1, z, ⟨h2, _⟩, h3⟩ := h; exact ⟨h1, z, h2, h3⟩)

/-! ### loops that are unrolled -/

def XL (C : Cfg) (c : Code) : Nat → Fr → Hp → (Ex → Fr → Hp → Prop) → Prop
  | 0, _, _, _ => Stuck "unrolled to the end"
  | n + 1, fr, hp, K => X C c fr hp fun e fr hp => match e with | .normal => XL C c n fr hp K | e => K e fr hp

theorem unroll {C : Cfg} (hti : TyOK C.P C.ti) {c : Code} : ∀ (n : Nat) {fr : Fr} {hp : Hp} {K : Ex → Fr → Hp → Prop}, XL C c n fr hp K → SemVC C (.loop c) fr hp K := by
  intro n
  intro fr hp K h E a w hpin hsat
  refine wp_loop_ghost (fun m a w => ∃ fr hp, Sat E C.nt ⟨fr, hp⟩ a w ∧ XL C c m fr hp K) n ⟨fr, hp, hsat, h⟩ ?_
  rintro m a' w' ⟨fr', hp', hs', hx⟩
  cases m with
  | zero => exact hx.elim
  | succ m =>
    refine wp_mono (X_sound hti c _ _ _ hx E a' w' hpin hs') ?_
    rintro e a₁ w₁ ⟨ex, fr₁, hp₁, hrel, hk, hs₁⟩
    cases ex <;> cases e <;> simp only [Ex.rel] at hrel
    · exact ⟨m, by omega, fr₁, hp₁, hs₁, hk⟩
    · exact ⟨.exit _, fr₁, hp₁, hrel, hk, hs₁⟩
    · exact ⟨.goto _, fr₁, hp₁, hrel, hk, hs₁⟩
    · exact ⟨.ret, fr₁, hp₁, hrel, hk, hs₁⟩

end
end Go.Proofs.Ytepebjhnefhciaa
