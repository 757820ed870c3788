/-
  Calls that are walked into; scopes with a label; loops that are unrolled.
  Conditions: none.
-/
import Derived.Test.YtljlhoekpjkgoaaSn
namespace Go.Proofs.Ytljlhoekpjkgoaa
open Go.RowKit

section
variable {P : Program}

/-- The entry of a call that may write all objects that are known. -/
def entryAt (w : World) (ρ : Env) (hp : Hp) (pin : List Nat) (rd : Option Nat) (D : List Nat) : Entry := ⟨w, ρ.S, fun b => ∃ id o, getH hp id = some o ∧ ρ.at id o = some b, pin, ρ, rd, D, 0⟩

theorem Mem.enter {E : Entry} {ρ : Env} {hp : Hp} {w : World} (h : Mem E ρ hp w) (pin : List Nat) (rd : Option Nat) : Mem (entryAt w ρ hp pin rd E.D) ρ hp w :=
  ⟨rfl, rfl, .refl _, Nat.le_refl _, fun _ _ _ => rfl, fun _ _ h => h, fun _ _ h _ _ => h, h.slt, fun _ _ _ => rfl, h.sat, h.inj, fun id o _ a b => .inr ⟨id, o, a, b⟩, fun id _ => ρ.moved_refl id, h.ro, h.md⟩

theorem Mem.leave {E E2 : Entry} {ρ ρ' : Env} {hp hp' : Hp} {w w' : World} {pin : List Nat} {rd : Option Nat} (h : Mem E ρ hp w) (h' : Mem E2 ρ' hp' w') (hE : E2.w = w ∧ E2.S = ρ.S ∧ E2.B = (entryAt w ρ hp pin rd E.D).B ∧ E2.pin = pin ∧ E2.ρ = ρ ∧ ∀ b ∈ E.D, b ∈ E2.D) (hsub : ∀ id ∈ E.pin, id ∈ pin) : Mem E ρ' hp' w' := by
  obtain ⟨e1, e2, e3, e4, e5, e6⟩ := hE
  have hB : ∀ b, b < E.w.heap.size → ¬ E.B b → ¬ E2.B b := by
    rw [e3]
    rintro b hb hnb ⟨id, o, h1, h2⟩
    rcases h.hb id o b h1 h2 with hge | hbb
    · omega
    · exact hnb hbb
  have hos := h'.os; have htp := h'.tape; have hou := h'.output; have hsz := h'.size; have hkp := h'.kp; have hsold := h'.sold; have hsnew := h'.snew; have hold := h'.old; have hhb := h'.hb; have hmv := h'.mv
  rw [e1] at hos htp hou hsz hkp hsnew hold hhb
  rw [e2] at hkp hsold hsnew
  rw [e4, e5] at hmv
  refine ⟨hos.trans h.os, htp.trans h.tape, hou.trans h.output, Nat.le_trans h.size hsz, ?_, ?_, ?_, h'.slt, h.kp.trans h.sold hkp, h'.sat, h'.inj, ?_, ?_, h'.ro, fun b hb => h'.md b (e6 b hb)⟩
  · exact fun b hb hnb => (hold b (Nat.lt_of_lt_of_le hb h.size) (hB b hb hnb)).trans (h.old b hb hnb)
  · exact fun b i hs => hsold b i (h.sold b i hs)
  · exact fun b i hs hb hnb => h.snew b i (hsnew b i hs (Nat.lt_of_lt_of_le hb h.size) (hB b hb hnb)) hb hnb
  · intro id o g h1 h2
    rcases hhb id o g h1 h2 with hge | hb
    · exact .inl (Nat.le_trans h.size hge)
    · rw [e3] at hb
      obtain ⟨id', o', h3, h4⟩ := hb
      exact h.hb id' o' g h3 h4
  · exact fun id hid => Env.moved_trans (h.mv id hid) (hmv id (hsub id hid))

def retK (ti : TypeId → Option TI) (rs : List ResultVar) (K : SV → Hp → Prop) (e : Ex) (fr : Fr) (hp : Hp) : Prop :=
  match e with
  | .ret => resVC ti fr hp rs fun l => K (oneOf l) hp
  | .normal => resVC ti fr hp rs fun l => K (oneOf l) hp
  | _ => Stuck "the end"

/-- A call that is walked into, with all objects that the caller knows. -/
theorem call_inlineZ (zc : Bool) {ti : TypeId → Option TI} (hti : TyOK P ti) {f : FuncId} {fn : Func} {c : Code} (hf : P.funcs[f]? = some fn) (hb : fn.body = some c) (keep : Nat → Bool) (off : Nat) {pin : List Nat} {fr : Fr} {hp : Hp} {args : List SV} {K : SV → Hp → Prop}
    (hn : args.length ≤ fn.ntmps) (hx : X ⟨P, ti, pin ++ idsF fr, fn.ntmps, keep, off, none, zc⟩ c (argFr 0 args) hp (retK ti fn.results.toList K)) : CallVC P pin fr hp f args K := by
  intro E ρ w tm hpin hm hfs vs hargs
  refine callsIn_FW (r := none) (n := 0) |>.1 (callsIn_of_wp_marks hf hb trivial ?_)
  have hfs' : FSat ρ w (argFr 0 args) (vs ++ Array.replicate (fn.ntmps - vs.size) undef) := by
    intro t s ht
    obtain ⟨_, h2⟩ := getF_argFr args 0 t s ht
    simp only [Nat.sub_zero] at h2
    have hlt := (List.getElem?_eq_some_iff.1 h2).1
    have hlt' : t < vs.size := by rw [hargs.1]; exact hlt
    refine ⟨vs[t], ?_, hargs.2 t s _ h2 (Array.getElem?_eq_getElem hlt')⟩
    rw [Array.getElem?_append_left hlt', Array.getElem?_eq_getElem hlt']
  have hm0 := hm.enter (pin ++ idsF fr) none
  refine wpIn_mono (X_sound (C := ⟨P, ti, pin ++ idsF fr, fn.ntmps, keep, off, none, zc⟩) hti c _ _ _ hx (entryAt w ρ hp (pin ++ idsF fr) none E.D) _ w rfl rfl ⟨?_, rfl, ρ, hm0, hfs'⟩) ?_
  · simp only [Array.size_append, Array.size_replicate]
    have := hargs.1
    omega
  · rintro e a' w' ⟨x, fr', hp', E', hE, hrel, hk, hnt, hdf, ρ', hm', hf'⟩
    obtain ⟨own, o1, o2, o3, o4, o5⟩ := take_own hE rfl
    have fin : resVC ti fr' hp' fn.results.toList (fun l => K (oneOf l) hp') → LeavesInM (FW none) 0 P fn a'.tmps (fun e w' => ∃ v ρ' s hp', e = .returned v ∧ K s hp' ∧ Mem E ρ' hp' w' ∧ FSat ρ' w' fr tm ∧ Rep w' ρ' s v) a'.defers .returning w' := by
      intro hk
      rw [hdf, o2]
      refine shutAll own E' w' hm' ⟨_, o1, o5⟩ o4 o3 ?_
      rintro E'' w'' ⟨q1, q2, q3, q4, q5, q6⟩ hm'' hkp
      have hf'' : FSat ρ' w'' fr' a'.tmps := hf'.mono hkp (fun _ _ x => x) fun i _ => ρ'.moved_refl i
      obtain ⟨us, l, r1, r2, r3, r4⟩ := res_ok hti hm'' hf'' _ _ hk
      have hmE : Mem E ρ' hp' w'' := hm.leave (pin := pin ++ idsF fr) (rd := none) hm'' ⟨q1.trans hE.w, q2.trans hE.S, q3.trans hE.B, q4.trans hE.pin, q5.trans hE.ρ, fun b hb => by rw [q6, o1]; simpa [entryAt] using hb⟩ (fun id hid => by rw [hpin] at hid; exact List.mem_append_left _ hid)
      refine ⟨_, run_results r1, _, ρ', oneOf l, hp', rfl, r4, hmE, ?_, rep_oneOf r2 r3⟩
      have kp := hm''.kp
      have sold := hm''.sold
      have mv := hm''.mv
      rw [q1.trans hE.w, q2.trans hE.S] at kp
      rw [q2.trans hE.S] at sold
      rw [q4.trans hE.pin, q5.trans hE.ρ] at mv
      exact hfs.mono kp sold fun id hid => mv id (List.mem_append_right _ hid)
    cases x <;> cases e <;> simp only [Ex.rel] at hrel <;> simp only [retK] at hk
    · exact fin hk
    · exact hk.elim
    · exact hk.elim
    · exact fin hk

theorem call_inline {ti : TypeId → Option TI} (hti : TyOK P ti) {f : FuncId} {fn : Func} {c : Code} (hf : P.funcs[f]? = some fn) (hb : fn.body = some c) (keep : Nat → Bool) (off : Nat) {pin : List Nat} {fr : Fr} {hp : Hp} {args : List SV} {K : SV → Hp → Prop}
    (hn : args.length ≤ fn.ntmps) (hx : X ⟨P, ti, pin ++ idsF fr, fn.ntmps, keep, off, none, false⟩ c (argFr 0 args) hp (retK ti fn.results.toList K)) : CallVC P pin fr hp f args K := call_inlineZ false hti hf hb keep off hn hx

/-! ### semantic steps -/

theorem sem_seq {C : Cfg} (hti : TyOK C.P C.ti) {x y : Code} {fr : Fr} {hp : Hp} {K : Ex → Fr → Hp → Prop} (h : X C x fr hp fun e fr hp => match e with | .normal => SemVC C y fr hp K | e => K e fr hp) : SemVC C (.seq x y) fr hp K := by
  intro E a w hpin hrd hs
  refine wpIn_seq (wpIn_mono (X_sound hti x fr hp _ h E a w hpin hrd hs) ?_)
  rintro e a' w' ⟨ex, fr', hp', E', hE, hrel, hk, hs'⟩
  cases ex <;> cases e <;> simp only [Ex.rel] at hrel
  · have := hk E' a' w' (hE.pin.trans hpin) (hrd.ext hE) hs'
    rw [hE.rd] at this
    exact wpIn_mono this fun e a w ⟨ex, fr', hp', E'', hE', rest⟩ => ⟨ex, fr', hp', E'', hE.trans hE', rest⟩
  · exact ⟨.exit _, fr', hp', E', hE, hrel, hk, hs'⟩
  · exact ⟨.goto _, fr', hp', E', hE, hrel, hk, hs'⟩
  · exact ⟨.ret, fr', hp', E', hE, hrel, hk, hs'⟩

theorem sem_of_X {C : Cfg} (hti : TyOK C.P C.ti) {c : Code} {fr : Fr} {hp : Hp} {K : Ex → Fr → Hp → Prop} (h : X C c fr hp K) : SemVC C c fr hp K := X_sound hti c fr hp K h

/-- A cut: what is known, is said anew. -/
theorem sem_cut {C : Cfg} {x y : Code} {fr : Fr} {hp : Hp} {K : Ex → Fr → Hp → Prop} (M : Fr → Hp → Prop) (h1 : SemVC C x fr hp fun e fr hp => match e with | .normal => M fr hp | e => K e fr hp) (h2 : ∀ fr hp, M fr hp → SemVC C y fr hp K) : SemVC C (.seq x y) fr hp K := by
  intro E a w hpin hrd hs
  refine wpIn_seq (wpIn_mono (h1 E a w hpin hrd hs) ?_)
  rintro e a' w' ⟨ex, fr', hp', E', hE, hrel, hk, hs'⟩
  cases ex <;> cases e <;> simp only [Ex.rel] at hrel
  · have := h2 fr' hp' hk E' a' w' (hE.pin.trans hpin) (hrd.ext hE) hs'
    rw [hE.rd] at this
    exact wpIn_mono this fun e a w ⟨ex, fr', hp', E'', hE', rest⟩ => ⟨ex, fr', hp', E'', hE.trans hE', rest⟩
  · exact ⟨.exit _, fr', hp', E', hE, hrel, hk, hs'⟩
  · exact ⟨.goto _, fr', hp', E', hE, hrel, hk, hs'⟩
  · exact ⟨.ret, fr', hp', E', hE, hrel, hk, hs'⟩

/-! ### loops that are unrolled -/

def XL (C : Cfg) (c : Code) : Nat → Fr → Hp → (Ex → Fr → Hp → Prop) → Prop
  | 0, _, _, _ => Stuck "unrolled to the end"
  | n + 1, fr, hp, K => X C c fr hp fun e fr hp => match e with | .normal => XL C c n fr hp K | e => K e fr hp

theorem unroll {C : Cfg} (hti : TyOK C.P C.ti) {c : Code} : ∀ (n : Nat) {fr : Fr} {hp : Hp} {K : Ex → Fr → Hp → Prop}, XL C c n fr hp K → SemVC C (.loop c) fr hp K := by
  intro n
  intro fr hp K h E a w hpin hrd hsat
  refine wpIn_loop_ghost (fun m a w => ∃ fr hp E', Ext E E' ∧ Sat E' C.nt ⟨fr, hp⟩ a w ∧ XL C c m fr hp K) n ⟨fr, hp, E, .refl E, hsat, h⟩ ?_
  rintro m a' w' ⟨fr', hp', E', hE, hs', hx⟩
  cases m with
  | zero => exact hx.elim
  | succ m =>
    have := X_sound hti c _ _ _ hx E' a' w' (hE.pin.trans hpin) (hrd.ext hE) hs'
    rw [hE.rd] at this
    refine wpIn_mono this ?_
    rintro e a₁ w₁ ⟨ex, fr₁, hp₁, E'', hE', hrel, hk, hs₁⟩
    cases ex <;> cases e <;> simp only [Ex.rel] at hrel
    · exact ⟨m, by omega, fr₁, hp₁, E'', hE.trans hE', hs₁, hk⟩
    · exact ⟨.exit _, fr₁, hp₁, E'', hE.trans hE', hrel, hk, hs₁⟩
    · exact ⟨.goto _, fr₁, hp₁, E'', hE.trans hE', hrel, hk, hs₁⟩
    · exact ⟨.ret, fr₁, hp₁, E'', hE.trans hE', hrel, hk, hs₁⟩

end
end Go.Proofs.Ytljlhoekpjkgoaa
