/-
  Arrays of numbers: are two equal? And a row of a package-level array. Rows known cell by cell: at a call's begin and end. Terms: concepts and axioms as data.
  Conditions: none.
-/
import Derived.Test.YtkbmlchceiglfaaGreatDoorMSnb
import Derived.Test.YtkbmlchceiglfaaGreatDoorMG2
import Derived.Test.YtkbmlchceiglfaaGreatDoorMSna
namespace Go.Proofs.YtkbmlchceiglfaaGreatDoor
set_option linter.unnecessarySimpa false
set_option linter.unusedSectionVars false
set_option linter.unusedSimpArgs false
set_option linter.unusedVariables false
open Go.RowKit

section
variable {P : Program}

def arrOK (P : Program) (t : TypeId) : Bool := !P.eqGuardType P.depth t

/-- What a run through an array comes to. -/
def eqAll (td : TD) : List D → List D → Option Bool
  | [], [] => some true
  | x :: xs, y :: ys => match eqLeaf td x y with
    | some c => match eqAll td xs ys with | some b => some (c && b) | none => none
    | none => none
  | _, _ => none

theorem eqAll_len {td : TD} : ∀ {xs ys : List D} {b : Bool}, eqAll td xs ys = some b → xs.length = ys.length
  | [], [], _, _ => rfl
  | x :: xs, y :: ys, b, h => by
    simp only [eqAll] at h
    split at h
    · split at h
      · rename_i h'
        simp [eqAll_len h']
      · cases h
    · cases h
  | [], _ :: _, _, h => by simp [eqAll] at h
  | _ :: _, [], _, h => by simp [eqAll] at h

theorem eqAll_ints {k k' : IntKind} : ∀ (l m : List Int), l.length = m.length → eqAll (.int k') (l.map (D.int k)) (m.map (D.int k)) = some (decide (l = m))
  | [], [], _ => rfl
  | a :: l, b :: m, h => by
    have h' : l.length = m.length := by simpa using h
    simp only [List.map_cons, eqAll, eqLeaf, if_true, eqAll_ints l m h', List.cons.injEq, Bool.decide_and]
  | [], _ :: _, h => by simp at h
  | _ :: _, [], h => by simp at h

theorem run_eqAll {t : TypeId} {T : TI} {dd : TypeDesc} {i : TypeInfo} {z : Value} (hT : TIok P t T dd i z) (ha : T.td.isAgg = false) {w : World} {S : Nat → Nat → Prop} (d : Nat) (w' : World) : ∀ (xs ys : List D) (b : Bool) (k : Nat) (us vs : Array Value), eqAll T.td xs ys = some b →
    (∀ (j : Nat) (x : D), xs[j]? = some x → ∃ u, us[k + j]? = some u ∧ RepD w S x u) → (∀ (j : Nat) (x : D), ys[j]? = some x → ∃ u, vs[k + j]? = some u ∧ RepD w S x u) →
    (forIn (m := Sem) (List.range' k xs.length) ((none, ()) : Option Bool × Unit) (fun i _ => do
        let x ← part t us i
        let y ← part t vs i
        let c ← Op.equalIn (d + 1) t x y
        if (!c) = true then pure (ForInStep.done (some false, ())) else pure (ForInStep.yield (none, ())))).run P w' = .ok ((if b then none else some false), ()) w'
  | [], [], b, k, us, vs, h, _, _ => by
    simp [eqAll] at h
    subst h
    simp
  | x :: xs, y :: ys, b, k, us, vs, h, hx, hy => by
    simp only [eqAll] at h
    split at h
    · rename_i c hc
      split at h
      · rename_i b' hb'
        injection h with h
        obtain ⟨u, u1, u2⟩ := hx 0 x rfl
        obtain ⟨v, v1, v2⟩ := hy 0 y rfl
        have hr := run_eqLeaf (P := P) hc u2 v2 hT rfl d w'
        have ih := run_eqAll hT ha d w' xs ys b' (k + 1) us vs hb' (fun j x' h' => by
          obtain ⟨q, q1, q2⟩ := hx (j + 1) x' (by simpa using h')
          exact ⟨q, by rw [← q1]; congr 1; omega, q2⟩) (fun j x' h' => by
          obtain ⟨q, q1, q2⟩ := hy (j + 1) x' (by simpa using h')
          exact ⟨q, by rw [← q1]; congr 1; omega, q2⟩)
        simp only [Nat.add_zero] at u1 v1
        simp only [List.length_cons, List.range'_succ, List.forIn_cons, Sem.run_bind, run_part hT, ha, Bool.false_eq_true, if_false, u1, v1, Result.andThen_ok, hr, Sem.run_ite]
        cases c
        · simp at h
          subst h
          simp
        · simp at h
          subst h
          simpa using ih
      · cases h
    · cases h
  | [], _ :: _, _, _, _, _, h, _, _ => by simp [eqAll] at h
  | _ :: _, [], _, _, _, _, h, _, _ => by simp [eqAll] at h

theorem run_equalIn_arr {t e : TypeId} {n : Nat} {T : TI} {dd : TypeDesc} {i : TypeInfo} {z : Value} (ht : P.underlying t = some (.array n e)) (hT : TIok P e T dd i z) (h1 : T.size = 1) {d : Nat} {us vs : Array Value} {w' : World} {b : Bool}
    (h : (forIn (m := Sem) (List.range' 0 n) ((none, ()) : Option Bool × Unit) (fun i _ => do
        let x ← part e us i
        let y ← part e vs i
        let c ← Op.equalIn (d + 1) e x y
        if (!c) = true then pure (ForInStep.done (some false, ())) else pure (ForInStep.yield (none, ())))).run P w' = .ok ((if b then none else some false), ()) w') :
    (Op.equalIn (d + 2) t (.agg us) (.agg vs)).run P w' = .ok b w' := by
  rw [Op.equalIn]
  simp only [Sem.run_bind, run_underlying ht, Result.andThen_ok, hT.run_size w', h1, Nat.mul_one]
  rw [Std.Legacy.Range.forIn_eq_forIn_range']
  simp only [Std.Legacy.Range.size, Nat.sub_zero, Nat.add_sub_cancel, Nat.div_one]
  first | rw [h] | erw [h]
  cases b <;> simp

theorem bin_arr {ti : TypeId → Option TI} (hti : TyOK P ti) {o : Oper} {t t' e : TypeId} {n : Nat} {x y : Operand} (ho : o.op = .binOp .eql t x y t') {Ts T : TI} (hT : ti t = some Ts) (htd : Ts.td = .array n e) (hE : ti e = some T) (ha : T.td.isAgg = false) (h1 : T.size = 1) (hg : arrOK P t = true) {fr : Fr} {hp : Hp} {K : SV → Prop} {xs ys : List D} {b : Bool}
    (hx : evO fr x = some (.d (.agg xs))) (hy : evO fr y = some (.d (.agg ys))) (hn : xs.length = n) (hb : eqAll T.td xs ys = some b) (hk : K (.d (.bool b))) : GenP P o fr hp K := by
  intro E ρ a w hm hf
  obtain ⟨us, e1, hl1, hh1⟩ := (evO_ok hf hx).dagg_inv
  obtain ⟨vs, e2, hl2, hh2⟩ := (evO_ok hf hy).dagg_inv
  obtain ⟨d0, i0, z0, hT0⟩ := tiOf_ok (hti _ _ hT)
  obtain ⟨d1, i1, z1, hE1⟩ := tiOf_ok (hti _ _ hE)
  have hd : d0 = .array n e := by
    have := hT0.td
    rw [htd] at this
    cases d0 <;> simp [tdOf] at this
    obtain ⟨rfl, rfl⟩ := this
    rfl
  subst hd
  have hlen := eqAll_len hb
  refine ⟨.bool b, _, fun w' _ => ?_, .d _ _ (.bool _), hk⟩
  have k2 : P.eqGuardType P.depth t = false := by simpa [arrOK] using hg
  have hrun := run_eqAll (P := P) hE1 ha (w := w) (S := ρ.S) 9998 w' xs ys b 0 us vs hb (fun j x h => by
    have hj := (List.getElem?_eq_some_iff.1 h).1
    exact ⟨us[j]'(by omega), by rw [Nat.zero_add]; exact Array.getElem?_eq_getElem (by omega), hh1 j x _ h (Array.getElem?_eq_getElem (by omega))⟩) (fun j x h => by
    have hj := (List.getElem?_eq_some_iff.1 h).1
    exact ⟨vs[j]'(by omega), by rw [Nat.zero_add]; exact Array.getElem?_eq_getElem (by omega), hh2 j x _ h (Array.getElem?_eq_getElem (by omega))⟩)
  have heq : (Op.equalIn 10000 t (.agg us) (.agg vs)).run P w' = .ok b w' := run_equalIn_arr hT0.und hE1 h1 (by rw [← hn]; exact hrun)
  simp only [execOp, ho, e1, e2, Sem.run_bind, run_eqGuard_agg w' _ t x y us vs k2, Result.andThen_ok, run_eql_struct, heq]
  rfl

/-- A row of a package-level array. -/
theorem index_glob {ti : TypeId → Option TI} (hti : TyOK P ti) {o : Oper} {t e : TypeId} {g m z : Nat} {y : Operand} (ho : o.op = .indexAddr t (.global g) y) {Ts T : TI} (hT : ti t = some Ts) (htd : Ts.td = .array m e) (hE : ti e = some T) {fr : Fr} {hp : Hp} {K : SV → Prop} {id : Nat} {rows : List (List D)}
    (hg : getH hp id = some (.glob g z rows)) (hz : T.size = z) {k : IntKind} {n : Int} (hy : evO fr y = some (.d (.int k n))) (h0 : 0 ≤ n) (h1 : n.toNat < m) (hk : K (.ea z rows n.toNat 0)) : GenP P o fr hp K := by
  intro E ρ a w hm hf
  have ei := (evO_ok hf hy).int_inv
  obtain ⟨d0, i0, z0, hT0⟩ := tiOf_ok (hti _ _ hT)
  obtain ⟨d1, i1, z1, hE1⟩ := tiOf_ok (hti _ _ hE)
  have hd : d0 = .array m e := by
    have := hT0.td
    rw [htd] at this
    exact array_inv this
  subst hd
  have hv : View w ρ.S z rows g 0 := hm.sat id _ hg
  have e1 : a.eval (.global g) = .pointer (some ⟨g, 0, none⟩) := rfl
  refine ⟨.pointer (some (Addr.add ⟨g, 0, none⟩ (n.toNat * T.size))), _, fun w' _ => ?_, ?_, hk⟩
  · have := run_indexAt_ar (P := P) hT0.und hE1 w' ⟨g, 0, none⟩ k n h0 h1
    simp [execOp, ho, e1, ei, this]
  · rw [addr_add, hz]
    exact .ea z rows n.toNat 0 g 0 hv

theorem max_ints {o : Oper} {x y : Operand} {ts : Array TypeId} (ho : o.op = .call { callee := .builtin .max, args := #[x, y], argTypes := ts }) {pin : List Nat} {fr : Fr} {hp : Hp} {K : SV → Hp → Prop} {k k' : IntKind} {a b : Int}
    (hx : evO fr x = some (.d (.int k a))) (hy : evO fr y = some (.d (.int k' b))) (hk : K (.d (.int k (max a b))) hp) : GenVC P o pin fr hp K := by
  intro E ρ ac w _ hm hf next Q hn
  have e1 := (evO_ok hf hx).int_inv
  have e2 := (evO_ok hf hy).int_inv
  have hrun : (execOp ac.eval o).run P w = .ok (.value (.int k (max a b))) w := by
    have : (if b > a then b else a) = max a b := by omega
    simp [run_call_builtin ho, builtin, Builtin.max_, Builtin.max2, e1, e2, this]
  exact wp_value hrun (hn _ _ ρ _ _ hk hm hf (.d _ _ (.int _ _)))

/-- A nil cell of an object takes up rows of the call's own. -/
theorem SemVC.mownC {C : Cfg} {c : Code} {fr : Fr} {hp : Hp} {K : Ex → Fr → Hp → Prop} (i id t e z k : Nat) {cs : List SV} (hnil : getH hp i = some (.cells t cs)) (hk : cs[k]? = some (.d .nil)) (hfr : fresh id C.pin fr hp)
    (h : SemVC C c fr ((id, .mrow e z 0 []) :: setH hp i (.cells t (cs.set k (.mw id z 0)))) K) : SemVC C c fr hp K := by
  intro E a w hpin hrd hsat
  obtain ⟨h1, h2, ρ, h3, h4⟩ := hsat
  obtain ⟨f1, f2, f3⟩ := hfr
  obtain ⟨m1, m2, m3⟩ := h3.newMrow (id := id) (e := e) (z := z) (cap := 0) (rows := []) (v := .slice none 0 0) f3 (by rw [hpin]; exact f1) (Grew.refl w) (.inl ⟨rfl, rfl, none, rfl⟩) (fun g hg => by simp [mblk] at hg)
  have hne : i ≠ id := fun e => f3 (by subst e; exact ids_of_getH hnil (.inl rfl))
  have hi' : getH ((id, HObj.mrow e z 0 []) :: hp) i = some (.cells t cs) := by
    simp only [getH]; rw [if_neg (Ne.symm hne)]; exact hnil
  have hkl : k < cs.length := (List.getElem?_eq_some_iff.1 hk).1
  have m4 := m1.recell hi' (cs' := cs.set k (.mw id z 0)) (by simp) (fun j s' v hs' hv => by
    by_cases e : j = k
    · subst e
      rw [List.getElem?_set_self hkl] at hs'
      injection hs' with hs'
      subst hs'
      have := (hv _ hk).nil_inv
      subst this
      exact .mw id z 0 0 none (by simp) (by simp) (fun h => absurd rfl h) (by simp) (by simp [Env.retop])
    · rw [List.getElem?_set_ne (Ne.symm e)] at hs'
      exact hv _ hs')
  have e2 : setH ((id, HObj.mrow e z 0 []) :: hp) i (.cells t (cs.set k (.mw id z 0))) = (id, .mrow e z 0 []) :: setH hp i (.cells t (cs.set k (.mw id z 0))) := by
    simp only [setH]; rw [if_neg (Ne.symm hne)]
  rw [e2] at m4
  exact h E a w hpin hrd ⟨h1, h2, _, m4, h4.mono (ρ' := ρ.retop id 0 (.slice none 0 0)) m2 (fun _ _ x => x) fun j hj => m3 j fun e => f2 (e ▸ hj)⟩
end
end Go.Proofs.YtkbmlchceiglfaaGreatDoor

namespace Go.Proofs.YtkbmlchceiglfaaGreatDoor
set_option linter.unnecessarySimpa false
set_option linter.unusedSectionVars false
set_option linter.unusedSimpArgs false
set_option linter.unusedVariables false
open Go.RowKit

section
variable {P : Program}

/-- x[l:], whatever comes of it -/
theorem slice_lowU {ti : TypeId → Option TI} (hti : TyOK P ti) {o : Oper} {t e : TypeId} {T : TI} {x lx : Operand} (ho : o.op = .slice t x (some lx) none none) (hT : slT ti t = some (e, T)) {fr : Fr} {hp : Hp} {K : SV → Prop}
    {id off n c : Nat} {k : IntKind} {l : Int} (hx : evO fr x = some (.xv id (slv off n c))) (hl : evO fr lx = some (.d (.int k l))) (h0 : 0 ≤ l) (h1 : l ≤ n) (hk : ∀ v, K (.d (.lit v))) : GenP P o fr hp K := by
  intro E ρ a w hm hf
  obtain ⟨g, hg, e1, _⟩ := (evO_ok hf hx).xv_inv
  have e2 := (evO_ok hf hl).int_inv
  refine ⟨_, _, fun w' _ => slice_run hti ho hT (a' := l.toNat) (b := n) (m' := c) e1 ?_, .d _ _ (.lit _), hk _⟩
  simp [Instr.sliceBounds, e2, run_sliceBound, h0, h1]

theorem len_xv {ti : TypeId → Option TI} (hti : TyOK P ti) {o : Oper} {t e : TypeId} {T : TI} {x : Operand} (ho : o.op = .call { callee := .builtin .len, args := #[x], argTypes := #[t] }) (hT : slT ti t = some (e, T)) {fr : Fr} {hp : Hp} {K : SV → Prop}
    {id off n c : Nat} (hx : evO fr x = some (.xv id (slv off n c))) (hk : K (.d (.int .i64 n))) : GenP P o fr hp K := by
  intro E ρ a w hm hf
  obtain ⟨hu, dd, i, z, hT2⟩ := slT_ok hti hT
  obtain ⟨g, hg, e1, _⟩ := (evO_ok hf hx).xv_inv
  refine ⟨_, _, fun w' _ => ?_, .d _ _ (.int _ _), hk⟩
  simp [run_call_builtin ho, builtin, Builtin.len_, run_underlying hu, e1, slv, goInt]

theorem cap_xv {ti : TypeId → Option TI} (hti : TyOK P ti) {o : Oper} {t e : TypeId} {T : TI} {x : Operand} (ho : o.op = .call { callee := .builtin .cap, args := #[x], argTypes := #[t] }) (hT : slT ti t = some (e, T)) {fr : Fr} {hp : Hp} {K : SV → Prop}
    {id off n c : Nat} (hx : evO fr x = some (.xv id (slv off n c))) (hk : K (.d (.int .i64 c))) : GenP P o fr hp K := by
  intro E ρ a w hm hf
  obtain ⟨hu, dd, i, z, hT2⟩ := slT_ok hti hT
  obtain ⟨g, hg, e1, _⟩ := (evO_ok hf hx).xv_inv
  refine ⟨_, _, fun w' _ => ?_, .d _ _ (.int _ _), hk⟩
  simp [run_call_builtin ho, builtin, Builtin.cap_, run_underlying hu, e1, slv, goInt]

/-- The first argument becomes known cell by cell. -/
theorem CallVC.openR {pin : List Nat} {fr : Fr} {hp hp' : Hp} {f : FuncId} {asv : List SV} {K : SV → Hp → Prop} (id id' e z cap n : Nat) {rows : List (List D)} (hpos : 0 < cap) (hn : n = rows.length) (ho : getH hp id = some (.mrow e z cap rows))
    (hfr : fresh id' pin fr hp) (has : id' ∉ SV.idsL asv) (hsub : subH hp' hp) (hno : getH hp' id = none)
    (h : (∀ row ∈ rows, row.length = z) → rows.length ≤ cap → cap ≤ maxLen → CallVC P pin fr ((id', .ext (rowsX e (cap * z) (flatK rows))) :: hp') f (.xv id' (slv 0 n cap) :: asv) K) : CallVC P pin fr hp f (.mw id z n :: asv) K := by
  intro E ρ w tm hpin h3 h4 vs hargs
  obtain ⟨f1, f2, f3⟩ := hfr
  obtain ⟨n0, m0⟩ := h3.sat id _ ho
  rcases m0 with ⟨_, hc0, _⟩ | ⟨hc, g, cur, e1, q1, q2, q3, q4, q6, q7⟩
  · omega
  have hat : ρ.at id (.mrow e z cap rows) = some g := by
    simp only [Env.at]; rw [e1]; have : cap ≠ 0 := by omega
    simp [mblk, this]
  have hfree := h3.free_del ho hat hsub hno
  have hm' := h3.sub (hp' := hp') fun i o hio => subH_ok _ _ hsub i o hio
  obtain ⟨s1, s2, s3⟩ := hm'.newObj (id := id') (b := some g) (n := 0) (v := undef) (o := .ext (rowsX e (cap * z) (flatK rows))) (subH_ids hsub f3) (by rw [hpin]; exact f1) (Grew.refl w) (by intro t cs e; cases e)
    ⟨g, _, by simp [Env.upd3], q1, ⟨cur, rfl, q4, fun k x hx => by
      obtain ⟨i, row, j, r1, r2, r3⟩ := flat_get q6.hz k x hx
      obtain ⟨v, v1, v2⟩ := q6.at_ i row j x r1 r2
      refine ⟨v, ?_, v2, q6.one v (List.mem_of_getElem? v1)⟩
      rw [List.getElem?_take] at v1
      split at v1
      · rw [r3]; simpa using v1
      · cases v1⟩, by simpa [Env.upd3] using q7⟩
    (fun g' hg' => by
      simp only [Env.at, Env.upd3, if_true, Option.some.injEq] at hg'
      subst hg'; exact hfree)
  refine h q6.hz q2 q3 E _ w tm hpin s1 (h4.mono s2 (fun _ _ x => x) fun i hi => s3 i fun e => f2 (e ▸ hi)) vs ⟨by simpa using hargs.1, ?_⟩
  intro j s v hs hv
  cases j with
  | zero =>
    simp at hs
    subst hs
    obtain ⟨A, c', _, _, _, _, _, e2⟩ := (hargs.2 0 _ v rfl hv).mw_inv
    have e3 : v = slv 0 n cap g := by
      have := e2 (by omega)
      subst this
      rw [e1]; simp [slv, hn]
    rw [e3]
    exact .xv id' _ g (by simp [Env.upd3]) rfl
  | succ j =>
    have hs' : asv[j]? = some s := by simpa using hs
    exact (hargs.2 (j + 1) s v (by simpa using hs') hv).mono s2 (fun _ _ x => x) fun i hi => s3 i fun e => has (e ▸ SV.mem_idsL hs' hi)

/-- What a result that is known cell by cell is worth. -/
structure CloseP (pin : List Nat) (fr : Fr) (K : SV → Hp → Prop) (id' : Nat) (s : SV) (hp : Hp) : Prop where
  ex : ∃ (id e z cap n : Nat) (kn : Nat → Option D) (rows : List (List D)) (hp' : Hp), s = .xv id (slv 0 n cap) ∧ getH hp id = some (.ext (rowsX e (cap * z) kn)) ∧ (∀ row ∈ rows, row.length = z) ∧ n = rows.length ∧ 0 < cap ∧ n ≤ cap ∧ cap ≤ maxLen ∧
    (∀ k, k < n * z → kn k = flatK rows k) ∧ fresh id' pin fr hp ∧ subH hp' hp ∧ getH hp' id = none ∧ K (.mw id' z n) ((id', .mrow e z cap rows) :: hp')

theorem CallVC.closeR {pin : List Nat} {fr : Fr} {hp : Hp} {f : FuncId} {asv : List SV} {K : SV → Hp → Prop} (id' : Nat) (h : CallVC P pin fr hp f asv (CloseP pin fr K id')) : CallVC P pin fr hp f asv K := by
  intro E ρ0 w0 tm hpin h30 h40 vs hargs
  refine (h E ρ0 w0 tm hpin h30 h40 vs hargs).mono ?_
  rintro e0 w ⟨v, ρ, s, hp1, rfl, ⟨id, e, z, cap, n, kn, rows, hp', rfl, ho, hz, hn, hpos, hnc, hcm, hkn, ⟨f1, f2, f3⟩, hsub, hno, hk⟩, h3, h4, hr⟩
  obtain ⟨g, ob, b1, b2, ⟨cur, b3, b4, b5⟩, b6⟩ := h3.sat id _ ho
  subst b3
  have hfree := h3.free_del ho b1 hsub hno
  have hm' := h3.sub (hp' := hp') fun i o hio => subH_ok _ _ hsub i o hio
  have hmut : MutAt w ρ.S e z cap rows (.slice (some ⟨g, 0, none⟩) rows.length cap) :=
    .inr ⟨hpos, g, cur, rfl, b2, by omega, hcm, b4, known_flat hz hn hnc b4 b5 hkn, b6⟩
  obtain ⟨s1, s2, s3⟩ := hm'.newObj (id := id') (b := ρ.blk id') (n := rows.length) (v := .slice (some ⟨g, 0, none⟩) rows.length cap) (o := .mrow e z cap rows) (subH_ids hsub f3) (by rw [hpin]; exact f1) (Grew.refl w) (by intro t cs e; cases e)
    ⟨by simp [Env.upd3], by simp only [Env.upd3, if_true]; exact hmut⟩
    (fun g' hg' => by
      have hc0 : cap ≠ 0 := by omega
      simp only [Env.at, Env.upd3, if_true, mblk, hc0, if_false, Option.some.injEq] at hg'
      subst hg'; exact hfree)
  obtain ⟨g2, hg2, e2, _⟩ := hr.xv_inv
  rw [b1] at hg2
  injection hg2 with hg2
  subst hg2
  refine ⟨v, _, _, _, rfl, hk, s1, h4.mono s2 (fun _ _ x => x) fun i hi => s3 i fun e => f2 (e ▸ hi), ?_⟩
  rw [e2]
  exact .mw id' z n cap _ (by omega) hcm (fun _ => ⟨_, rfl⟩) (by simp [Env.upd3, hn]) (by simp [Env.upd3, hn])
end
end Go.Proofs.YtkbmlchceiglfaaGreatDoor

namespace Go.Proofs.YtkbmlchceiglfaaGreatDoor
set_option linter.unnecessarySimpa false
set_option linter.unusedSectionVars false
set_option linter.unusedSimpArgs false
set_option linter.unusedVariables false
open Go.Proofs

/-- A concept. -/
inductive Cn where
  | mk (kind : Int) (name : List UInt8) (lo hi : Int) (parts : List Cn)

def Cn.kind : Cn → Int | .mk k _ _ _ _ => k
def Cn.name : Cn → List UInt8 | .mk _ n _ _ _ => n
def Cn.lo : Cn → Int | .mk _ _ l _ _ => l
def Cn.hi : Cn → Int | .mk _ _ _ h _ => h
def Cn.parts : Cn → List Cn | .mk _ _ _ _ p => p

mutual
def cnR : Cn → List D
  | .mk k n lo hi ps => [.int .i64 k, .str n, .int .i64 lo, .int .i64 hi, .sl 5 (cnRs ps)]
def cnRs : List Cn → List (List D)
  | [] => []
  | c :: r => cnR c :: cnRs r
end

theorem cnRs_map : ∀ l, cnRs l = l.map cnR
  | [] => rfl
  | c :: r => by rw [cnRs, cnRs_map r]; rfl

theorem cnR_eq (c : Cn) : cnR c = [.int .i64 c.kind, .str c.name, .int .i64 c.lo, .int .i64 c.hi, .sl 5 (c.parts.map cnR)] := by
  cases c; rw [cnR, cnRs_map]; rfl

def cv (c : Cn) : D := .agg (cnR c)
def cnl (l : List Cn) : D := .sl 5 (l.map cnR)

mutual
theorem Cn.ind {p : Cn → Prop} (h : ∀ c, (∀ q ∈ c.parts, p q) → p c) : ∀ c, p c
  | .mk k n lo hi ps => h _ (Cn.indL h ps)
theorem Cn.indL {p : Cn → Prop} (h : ∀ c, (∀ q ∈ c.parts, p q) → p c) : ∀ (l : List Cn), ∀ q ∈ l, p q
  | [] => by simp
  | c :: r => by
    intro q hq
    rcases List.mem_cons.1 hq with e | e
    · rw [e]; exact Cn.ind h c
    · exact Cn.indL h r q e
end

def strR (s : List UInt8) : List D := [.str s]
def strl (l : List (List UInt8)) : D := .sl 1 (l.map strR)

/-- An axiom. -/
structure Ax where
  kind : Int
  isopen : Bool
  left : Cn
  right : Cn
  roles : List (List UInt8)
  role : List UInt8
  a : List UInt8
  b : List UInt8

def axR (x : Ax) : List D := [.int .i64 x.kind, .bool x.isopen, .int .i64 x.left.kind, .str x.left.name, .int .i64 x.left.lo, .int .i64 x.left.hi, cnl x.left.parts,
  .int .i64 x.right.kind, .str x.right.name, .int .i64 x.right.lo, .int .i64 x.right.hi, cnl x.right.parts, strl x.roles, .str x.role, .str x.a, .str x.b]

/-! ### numbers of objects -/

theorem freshG {id : Nat} {pin : List Nat} {fr0 fr : Fr} {hp : Hp} (h1 : ∀ k, 100 ≤ k → k ∉ pin) (h2 : ∀ k, 100 ≤ k → k ∉ idsF fr0) (h4 : ∀ k, 100 ≤ k → k ∉ idsH hp) (hid : 100 ≤ id) (h3 : (idsF fr).all (fun k => decide (k < 100)) = true) : fresh id (pin ++ idsF fr0) fr hp := by
  refine ⟨?_, ?_, h4 id hid⟩
  · simp [h1 id hid, h2 id hid]
  · intro hm
    have := List.all_eq_true.1 h3 id hm
    simp at this
    omega

theorem bigH {k0 : Nat} {o : HObj} {hp : Hp} (h0 : k0 < 100) (h1 : o.ids = []) (h2 : ∀ k, 100 ≤ k → k ∉ idsH hp) : ∀ k, 100 ≤ k → k ∉ idsH ((k0, o) :: hp) := by
  intro k hk hm
  simp only [idsH, List.flatMap_cons, List.mem_append, List.mem_cons, h1, List.not_mem_nil, or_false] at hm
  rcases hm with hm | hm
  · omega
  · exact h2 k hk hm

theorem bigP {pin : List Nat} {fr0 : Fr} (h1 : ∀ k, 100 ≤ k → k ∉ pin) (h2 : ∀ k, 100 ≤ k → k ∉ idsF fr0) : ∀ k, 100 ≤ k → k ∉ pin ++ idsF fr0 := by
  intro k hk; simp [h1 k hk, h2 k hk]

theorem bigF {fr : Fr} (h3 : (idsF fr).all (fun k => decide (k < 100)) = true) : ∀ k, 100 ≤ k → k ∉ idsF fr := by
  intro k hk hm
  have := List.all_eq_true.1 h3 k hm
  simp at this
  omega

theorem rowC_at {α : Type} {f : α → List D} {l : List α} {i : Nat} (h : i < l.length) : (l.map f)[((i : Nat) : Int).toNat]? = some (f l[i]) := by
  rw [Int.toNat_natCast, List.getElem?_map, List.getElem?_eq_getElem h]; rfl
end Go.Proofs.YtkbmlchceiglfaaGreatDoor
