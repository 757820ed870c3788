/-
  Rows known cell by cell: slices of them, copy, append of zero values; and back to rows.
  Conditions: none.
-/
import Derived.Test.YtkbmlchceiglfaaGreatDoorMSna
import Derived.Lib.AppendZerosOnto
namespace Go.Proofs.YtkbmlchceiglfaaGreatDoor
set_option linter.unusedSectionVars false
set_option linter.unusedSimpArgs false
set_option linter.unusedVariables false
open Go.RowKit

section
variable {P : Program}

/-- The slices of a type and their elements. -/
def slT (ti : TypeId → Option TI) (t : TypeId) : Option (TypeId × TI) :=
  match ti t with
  | some { td := .slice e, .. } => (match ti e with | some T => some (e, T) | none => none)
  | _ => none

theorem slT_ok {ti : TypeId → Option TI} (hti : TyOK P ti) {t e : TypeId} {T : TI} (h : slT ti t = some (e, T)) : P.underlying t = some (.slice e) ∧ ∃ d i z, TIok P e T d i z := by
  unfold slT at h
  split at h
  · rename_i e' _ _ _ hT
    obtain ⟨d, i, z, hT⟩ := tiOf_ok (hti _ _ hT)
    have hd := slice_inv hT.td
    subst hd
    split at h
    · rename_i T' hT2
      simp only [Option.some.injEq, Prod.mk.injEq] at h
      obtain ⟨rfl, rfl⟩ := h
      exact ⟨hT.und, tiOf_ok (hti _ _ hT2)⟩
    · cases h
  · cases h

theorem slice_run {ti : TypeId → Option TI} (hti : TyOK P ti) {o : Oper} {t e : TypeId} {T : TI} {x : Operand} {lo hi : Option Operand} (ho : o.op = .slice t x lo hi none) (hT : slT ti t = some (e, T)) {a : Act} {A : Option Addr} {len cap a' b m' : Nat}
    (e1 : a.eval x = .slice A len cap) {w' : World} (e2 : (Instr.sliceBounds true len cap (lo.map a.eval) (hi.map a.eval) none).run P w' = .ok (a', b, m') w') :
    (execOp a.eval o).run P w' = .ok (.value (.slice (if m' = a' then A else A.map (·.add (a' * T.size))) (b - a') (m' - a'))) w' := by
  obtain ⟨hu, d, i, z, hT2⟩ := slT_ok hti hT
  simp [execOp, ho, Instr.sliceAt, run_underlying hu, Instr.slice, e1, e2, hT2.run_size]

/-- x[l:] -/
theorem slice_low {ti : TypeId → Option TI} (hti : TyOK P ti) {o : Oper} {t e : TypeId} {T : TI} {x lx : Operand} (ho : o.op = .slice t x (some lx) none none) (hT : slT ti t = some (e, T)) {fr : Fr} {hp : Hp} {K : SV → Prop}
    {id off n c : Nat} {k : IntKind} {l : Int} (hx : evO fr x = some (.xv id (slv off n c))) (hl : evO fr lx = some (.d (.int k l))) (h0 : 0 ≤ l) (h1 : l ≤ n) (h2 : l < c)
    (hk : K (.xv id (slv (off + l.toNat * T.size) (n - l.toNat) (c - l.toNat)))) : GenP P o fr hp K := by
  intro E ρ a w hm hf
  obtain ⟨g, hg, e1, _⟩ := (evO_ok hf hx).xv_inv
  have e2 := (evO_ok hf hl).int_inv
  refine ⟨_, _, fun w' _ => slice_run hti ho hT (a' := l.toNat) (b := n) (m' := c) e1 ?_, ?_, hk⟩
  · simp [Instr.sliceBounds, e2, run_sliceBound, h0, h1]
  · have := Rep.xv (w := w) (ρ := ρ) id (slv (off + l.toNat * T.size) (n - l.toNat) (c - l.toNat)) g hg rfl
    rw [if_neg (by omega)]
    simpa [slv, addr_add] using this

/-- x[:h] -/
theorem slice_high {ti : TypeId → Option TI} (hti : TyOK P ti) {o : Oper} {t e : TypeId} {T : TI} {x hx : Operand} (ho : o.op = .slice t x none (some hx) none) (hT : slT ti t = some (e, T)) {fr : Fr} {hp : Hp} {K : SV → Prop}
    {id off n c : Nat} {k : IntKind} {h : Int} (hx1 : evO fr x = some (.xv id (slv off n c))) (hh : evO fr hx = some (.d (.int k h))) (h0 : 0 ≤ h) (h1 : h ≤ c) (h2 : 0 < c)
    (hk : K (.xv id (slv off h.toNat c))) : GenP P o fr hp K := by
  intro E ρ a w hm hf
  obtain ⟨g, hg, e1, _⟩ := (evO_ok hf hx1).xv_inv
  have e2 := (evO_ok hf hh).int_inv
  refine ⟨_, _, fun w' _ => slice_run hti ho hT (a' := 0) (b := h.toNat) (m' := c) e1 ?_, ?_, hk⟩
  · simp [Instr.sliceBounds, e2, run_sliceBound, h0, h1]
  · have := Rep.xv (w := w) (ρ := ρ) id (slv off h.toNat c) g hg rfl
    rw [if_neg (by omega)]
    simpa [slv, addr_add] using this

/-- x[l:] of rows that may be written; what comes of it is not told. -/
theorem slice_mw {ti : TypeId → Option TI} (hti : TyOK P ti) {o : Oper} {t e : TypeId} {T : TI} {x lx : Operand} (ho : o.op = .slice t x (some lx) none none) (hT : slT ti t = some (e, T)) {fr : Fr} {hp : Hp} {K : SV → Prop}
    {id z n : Nat} {k : IntKind} {l : Int} (hx : evO fr x = some (.mw id z n)) (hl : evO fr lx = some (.d (.int k l))) (h0 : 0 ≤ l) (h1 : l ≤ n) (hk : ∀ v, K (.d (.lit v))) : GenP P o fr hp K := by
  intro E ρ a w hm hf
  obtain ⟨A, c, e1, hnc, _⟩ := (evO_ok hf hx).mw_inv
  have e2 := (evO_ok hf hl).int_inv
  refine ⟨_, _, fun w' _ => slice_run hti ho hT (a' := l.toNat) (b := n) (m' := c) e1 ?_, .d _ _ (.lit _), hk _⟩
  simp [Instr.sliceBounds, e2, run_sliceBound, h0, h1]

/-! ### copy -/

theorem setCells_heap (g e : Nat) (fz : Nat × Nat) : ∀ (vs : List Value) (off : Nat) (w : World) (cur : Array Value), w.heap[g]? = some (.cells cur e fz) →
    ∃ cur', (w.setCells g off vs).heap[g]? = some (.cells cur' e fz) ∧ cur'.size = cur.size ∧ (∀ k, off ≤ k → k < off + vs.length → k < cur.size → cur'[k]? = vs[k - off]?) ∧ ∀ k, k < off ∨ off + vs.length ≤ k → cur'[k]? = cur[k]?
  | [], off, w, cur, h => ⟨cur, h, rfl, fun k h1 h2 _ => by simp at h2; omega, fun _ _ => rfl⟩
  | v :: vs, off, w, cur, h => by
    have h' : (w.setCell ⟨g, off, none⟩ v).heap[g]? = some (.cells (cur.setIfInBounds off v) e fz) := by
      simp [World.setCell, Array.getElem?_modify, h]
    obtain ⟨cur', a1, a2, a3, a4⟩ := setCells_heap g e fz vs (off + 1) _ _ h'
    refine ⟨cur', a1, by simpa using a2, ?_, ?_⟩
    · intro k h1 h2 h3
      by_cases hk : k = off
      · subst hk
        rw [a4 k (.inl (by omega))]
        simp [h3]
      · rw [a3 k (by omega) (by simp at h2; omega) (by simpa using h3)]
        rw [show k - off = (k - (off + 1)) + 1 from by omega, List.getElem?_cons_succ]
    · intro k hk
      rw [a4 k (by simp at hk; omega), Array.getElem?_setIfInBounds_ne (by simp at hk; omega)]

theorem setCells_rest (g : Nat) : ∀ (vs : List Value) (off : Nat) (w : World), (w.setCells g off vs).os = w.os ∧ (w.setCells g off vs).tape = w.tape ∧ OutD (w.setCells g off vs) w ∧ (w.setCells g off vs).heap.size = w.heap.size ∧ ∀ b, b ≠ g → (w.setCells g off vs).heap[b]? = w.heap[b]?
  | [], off, w => ⟨rfl, rfl, .refl _, rfl, fun _ _ => rfl⟩
  | v :: vs, off, w => by
    obtain ⟨a1, a2, a3, a4, a5⟩ := setCells_rest g vs (off + 1) (w.setCell ⟨g, off, none⟩ v)
    refine ⟨a1, a2, a3, a4.trans (by simp [World.setCell]), fun b hb => (a5 b hb).trans ?_⟩
    simp [World.setCell, Array.getElem?_modify, Ne.symm hb]

/-- The cells after n of them were overwritten from off on. -/
def over (kn : Nat → Option D) (off n : Nat) (src : Nat → Option D) : Nat → Option D := fun k => if off ≤ k ∧ k < off + n then src (k - off) else kn k

theorem copy_core {ti : TypeId → Option TI} (hti : TyOK P ti) {o : Oper} {dT sT e : TypeId} {T : TI} {d x : Operand} (ho : o.op = .call { callee := .builtin .copy, args := #[d, x], argTypes := #[dT, sT] }) (hT : slT ti dT = some (e, T))
    {pin : List Nat} {fr : Fr} {hp : Hp} {K : SV → Hp → Prop} {id off n c size m : Nat} {e' : Nat} {kn src : Nat → Option D} (hd : evO fr d = some (.xv id (slv off n c))) (hobj : getH hp id = some (.ext (rowsX e' size kn))) (hfit : off + m * T.size ≤ size)
    (hsrc : ∀ (E : Entry) (ρ : Env) (a : Act) (w : World), Mem E ρ hp w → FSat ρ w fr a.tmps → ∃ (A : Option Addr) (sl sc : Nat) (cs : List Value), a.eval x = .slice A sl sc ∧ m = Nat.min sl n ∧ cs.length = m * T.size ∧ (Builtin.firstCells T.size m (.slice A sl sc)).run P w = .ok cs.toArray w ∧
      (∀ v ∈ cs, v.oneCell' = true) ∧ ∀ k y, k < m * T.size → src k = some y → ∃ v, cs[k]? = some v ∧ RepD w ρ.S y v)
    (hk : K (.d (.int .i64 m)) (setH hp id (.ext (rowsX e' size (over kn off (m * T.size) src))))) : GenVC P o pin fr hp K := by
  intro E ρ a w _ hm hf next Q hn
  obtain ⟨hu, dd, i, z, hT2⟩ := slT_ok hti hT
  obtain ⟨g, hg, e1, _⟩ := (evO_ok hf hd).xv_inv
  obtain ⟨A, sl, sc, cs, e2, hmm, hcl, hload, hone, hknown⟩ := hsrc E ρ a w hm hf
  obtain ⟨g', ob, b1, b2, ⟨cur, b3, b4, b5⟩, b6⟩ := hm.sat id _ hobj
  rw [hg] at b1
  injection b1 with b1
  subst b1
  subst b3
  have hcell : ∀ j, j < cs.length → (w.cell? ⟨g, off + j, none⟩).isSome = true := by
    intro j hj
    rw [cell_of_row w g (off + j) cur e' (0, 0) b2]
    rw [Array.getElem?_eq_getElem (by omega)]; rfl
  have hfz : ∀ j, j < cs.length → w.frozen? ⟨g, off + j, none⟩ = false := by
    intro j hj
    simp [World.frozen?, b2]
  have hst := run_storeCells_cells (P := P) g off cs 0 w (by simpa using hcell) (by simpa using hfz) hone
  have hrun : (execOp a.eval o).run P w = .ok (.value (goInt m)) (w.setCells g off cs) := by
    have hmin : Nat.min sl n = m := hmm.symm
    simp only [execOp, ho, resolve, invoke, builtin, Sem.run_bind, Sem.run_pure, Result.andThen_ok, List.map_toArray, List.map_cons, List.map_nil, e1, e2, slv]
    have hs2 : (sizeOf e).run P w = .ok T.size w := hT2.run_size w
    simp only [Nat.add_zero] at hst
    simp [Builtin.copy_, run_underlying hu, Builtin.lenOf, hs2, hmin, hload, hst]
  obtain ⟨cur', c1, c2, c3, c4⟩ := setCells_heap g e' (0, 0) cs off w cur b2
  obtain ⟨r1, r2, r3, r4, r5⟩ := setCells_rest g cs off w
  have hks : Keeps ρ.S w (w.setCells g off cs) := fun b i hs => World.cell?_of_block (w := w) (r5 b fun e => b6 i (e ▸ hs))
  obtain ⟨s1, s2⟩ := hm.setExt (X' := rowsX e' size (over kn off (m * T.size) src)) hobj hg r1 r2 r3 (by rw [r4]; exact Nat.le_refl _) (fun b _ hb => r5 b hb) c1 ⟨cur', rfl, by omega, by
    intro k y hy
    simp only [over] at hy
    split at hy
    · rename_i hin
      obtain ⟨v, v1, v2⟩ := hknown (k - off) y (by omega) hy
      refine ⟨v, ?_, v2.mono hks (fun _ _ x => x), hone v (List.mem_of_getElem? v1)⟩
      rw [c3 k hin.1 (by omega) (by omega)]; exact v1
    · rename_i hin
      obtain ⟨v, v1, v2, v3⟩ := b5 k y hy
      refine ⟨v, ?_, v2.mono hks (fun _ _ x => x), v3⟩
      rw [c4 k (by omega)]; exact v1⟩
  exact wp_value hrun (hn _ _ ρ _ _ hk s1 (hf.mono s2 (fun _ _ x => x) fun i _ => ρ.moved_refl i) (.d _ _ (.int _ _)))

/-- copy(x, data) -/
theorem copy_data {ti : TypeId → Option TI} (hti : TyOK P ti) {o : Oper} {dT sT e : TypeId} {T : TI} {d x : Operand} (ho : o.op = .call { callee := .builtin .copy, args := #[d, x], argTypes := #[dT, sT] }) (hT : slT ti dT = some (e, T))
    {pin : List Nat} {fr : Fr} {hp : Hp} {K : SV → Hp → Prop} {id off n c size m : Nat} {e' : Nat} {kn : Nat → Option D} {s : SV} {rows : List (List D)} (hd : evO fr d = some (.xv id (slv off n c))) (hobj : getH hp id = some (.ext (rowsX e' size kn)))
    (hx : evO fr x = some s) (hrows : rowsOf s = some (T.size, rows)) (hm : rows.length = m) (hmn : m ≤ n) (hfit : off + m * T.size ≤ size)
    (hk : K (.d (.int .i64 m)) (setH hp id (.ext (rowsX e' size (over kn off (m * T.size) (flatK rows)))))) : GenVC P o pin fr hp K := by
  refine copy_core hti ho hT hd hobj (src := flatK rows) hfit ?_ hk
  intro E ρ a w hmem hf
  obtain ⟨A, cap, b, off', e1, _, _, hA, hview⟩ := (rowsOf_ok hrows (evO_ok hf hx)).of_sl
  obtain ⟨vs, hfl, hc, _⟩ := hview.flat
  refine ⟨A, rows.length, cap, vs, e1, by rw [hm]; exact (Nat.min_eq_left hmn).symm, by rw [hfl.len, hm], ?_, hfl.one, ?_⟩
  · by_cases hne : rows = []
    · subst hne
      have h0 : m = 0 := by simpa using hm.symm
      subst h0
      have hv : vs = [] := by have := hfl.len; simpa using this
      subst hv
      cases A with
      | none => simp [Builtin.firstCells]
      | some ad =>
        have := run_loadCells_list (P := P) (w := w) ad [] (by simp)
        simpa [Builtin.firstCells] using this
    · have := hA hne
      subst this
      have hl := run_loadCells_list (P := P) (w := w) ⟨b, off', none⟩ vs (fun j v hj => by rw [addr_add]; exact hc j v hj)
      rw [hfl.len, hm] at hl
      simpa [Builtin.firstCells] using hl
  · intro k y hk' hy
    obtain ⟨i, row, j, r1, r2, r3⟩ := flat_get hfl.hz k y hy
    rw [r3]
    exact hfl.at_ i row j y r1 r2

/-- copy(x, y), both of rows known cell by cell -/
theorem copy_xv {ti : TypeId → Option TI} (hti : TyOK P ti) {o : Oper} {dT sT e : TypeId} {T : TI} {d x : Operand} (ho : o.op = .call { callee := .builtin .copy, args := #[d, x], argTypes := #[dT, sT] }) (hT : slT ti dT = some (e, T))
    {pin : List Nat} {fr : Fr} {hp : Hp} {K : SV → Hp → Prop} {id off n c size m : Nat} {e' : Nat} {kn : Nat → Option D} {id2 off2 n2 c2 size2 e2 : Nat} {kn2 : Nat → Option D} (hd : evO fr d = some (.xv id (slv off n c))) (hobj : getH hp id = some (.ext (rowsX e' size kn)))
    (hx : evO fr x = some (.xv id2 (slv off2 n2 c2))) (hobj2 : getH hp id2 = some (.ext (rowsX e2 size2 kn2))) (hm : m = Nat.min n2 n) (hfit : off + m * T.size ≤ size) (hknown : ∀ k, k < m * T.size → (kn2 (off2 + k)).isSome = true)
    (hk : K (.d (.int .i64 m)) (setH hp id (.ext (rowsX e' size (over kn off (m * T.size) fun k => kn2 (off2 + k)))))) : GenVC P o pin fr hp K := by
  refine copy_core hti ho hT hd hobj (src := fun k => kn2 (off2 + k)) hfit ?_ hk
  intro E ρ a w hmem hf
  obtain ⟨g, hg, e1, _⟩ := (evO_ok hf hx).xv_inv
  obtain ⟨g', ob, b1, b2, ⟨cur, b3, b4, b5⟩, b6⟩ := hmem.sat id2 _ hobj2
  rw [hg] at b1
  injection b1 with b1
  subst b1
  subst b3
  have hget : ∀ k, k < m * T.size → ∃ y v, kn2 (off2 + k) = some y ∧ cur[off2 + k]? = some v ∧ RepD w ρ.S y v ∧ v.oneCell' = true := by
    intro k hk
    obtain ⟨y, hy⟩ := Option.isSome_iff_exists.1 (hknown k hk)
    obtain ⟨v, v1, v2, v3⟩ := b5 _ y hy
    exact ⟨y, v, hy, v1, v2, v3⟩
  have hcs : ∀ k, k < m * T.size → ((List.range (m * T.size)).map fun k => (cur[off2 + k]?).getD undef)[k]? = cur[off2 + k]? := by
    intro k hk
    obtain ⟨_, v, _, hv, _⟩ := hget k hk
    rw [List.getElem?_map, List.getElem?_range hk, Option.map_some, hv]; rfl
  refine ⟨some ⟨g, off2, none⟩, n2, c2, (List.range (m * T.size)).map fun k => (cur[off2 + k]?).getD undef, e1, hm, by simp, ?_, ?_, ?_⟩
  · have hl := run_loadCells_list (P := P) (w := w) ⟨g, off2, none⟩ ((List.range (m * T.size)).map fun k => (cur[off2 + k]?).getD undef) (fun j v hj => by
      have hlt : j < m * T.size := by have := (List.getElem?_eq_some_iff.1 hj).1; simpa using this
      rw [hcs j hlt] at hj
      rw [addr_add, cell_of_row w g (off2 + j) cur e2 (0, 0) b2]; exact hj)
    simpa [Builtin.firstCells] using hl
  · intro v hv
    obtain ⟨k, hk, e⟩ := List.mem_map.1 hv
    obtain ⟨_, u, _, hu, _, h1⟩ := hget k (List.mem_range.1 hk)
    rw [hu] at e
    subst e; exact h1
  · intro k y hk' hy
    obtain ⟨y', v, hy', hv, hr, _⟩ := hget k hk'
    rw [hy] at hy'
    injection hy' with hy'
    subst hy'
    exact ⟨v, (hcs k hk').trans hv, hr⟩

/-! ### append of zero values -/

theorem append_zeros {ti : TypeId → Option TI} (hti : TyOK P ti) {o : Oper} {t tn e : TypeId} {T N : TI} {x y : Operand} {k kn : IntKind} (ho : o.op = .call { callee := .builtin .append, args := #[x, y], argTypes := #[t, tn] }) (hT : slT ti t = some (e, T)) (hN : ti tn = some N) (hNk : N.td = .int kn)
    {pin : List Nat} {fr : Fr} {hp : Hp} {K : SV → Hp → Prop} {id n c size m new : Nat} {e' : Nat} {l : Int} {kc : Nat → Option D} (hx : evO fr x = some (.xv id (slv 0 n c))) (hobj : getH hp id = some (.ext (rowsX e' size kc))) (hy : evO fr y = some (.d (.int k l))) (hl : l = m)
    (hm : 0 < m) (hpos : 0 < T.size) (hg : c < n + m) (hnm : (n + m) * T.bytes ≤ 140737488355328) (h63 : n + m ≤ 9223372036854775807) (hknown : ∀ j, j < n * T.size → (kc j).isSome = true) (hfr : fresh new pin fr hp)
    (hk : ∀ c', n + m ≤ c' → c' ≤ maxLen → K (.xv new (slv 0 (n + m) c')) ((new, .ext (rowsX e (c' * T.size) fun j => if j < n * T.size then kc j else none)) :: hp)) : GenVC P o pin fr hp K := by
  intro E ρ a w hpin hmem hf next Q hn
  subst hl
  obtain ⟨f1, f2, f3⟩ := hfr
  obtain ⟨hu, dd, i, z, hT2⟩ := slT_ok hti hT
  obtain ⟨dn, i0, z0, hTN⟩ := tiOf_ok (hti _ _ hN)
  have htd := hTN.td
  rw [hNk] at htd
  have hdn := tint_inv htd
  subst hdn
  obtain ⟨g, hg1, e1, _⟩ := (evO_ok hf hx).xv_inv
  have e2 := (evO_ok hf hy).int_inv
  obtain ⟨g', ob, b1, b2, ⟨cur, b3, b4, b5⟩, b6⟩ := hmem.sat id _ hobj
  rw [hg1] at b1
  injection b1 with b1
  subst b1
  subst b3
  have hget : ∀ j, j < n * T.size → ∃ y v, kc j = some y ∧ cur[j]? = some v ∧ RepD w ρ.S y v ∧ v.oneCell' = true := by
    intro j hj
    obtain ⟨y, hy⟩ := Option.isSome_iff_exists.1 (hknown j hj)
    obtain ⟨v, v1, v2, v3⟩ := b5 _ y hy
    exact ⟨y, v, hy, v1, v2, v3⟩
  obtain ⟨cs, hcs0⟩ : ∃ cs : List Value, cs = (List.range (n * T.size)).map fun j => (cur[j]?).getD undef := ⟨_, rfl⟩
  have hcl : cs.length = n * T.size := by rw [hcs0]; simp
  have hcs : ∀ j, j < n * T.size → cs[j]? = cur[j]? := by
    intro j hj
    obtain ⟨_, v, _, hv, _⟩ := hget j hj
    rw [hcs0, List.getElem?_map, List.getElem?_range hj, Option.map_some, hv]; rfl
  have hold : (Builtin.firstCells i.size n (.slice (some ⟨g, 0, none⟩) n c)).run P w.drew = .ok cs.toArray w.drew := by
    have hl := run_loadCells_list (P := P) (w := w.drew) ⟨g, 0, none⟩ cs (fun j v hj => by
      have hlt : j < n * T.size := by have := (List.getElem?_eq_some_iff.1 hj).1; omega
      rw [hcs j hlt] at hj
      rw [addr_add, Nat.zero_add]
      show w.cell? ⟨g, j, none⟩ = some v
      rw [cell_of_row w g j cur e' (0, 0) b2]; exact hj)
    rw [hcl] at hl
    rw [hT2.size]
    simpa [Builtin.firstCells] using hl
  have hnb : Builtin.nextslicecap (n + m) c * i.bytes ≤ 281474976710656 := by
    rw [hT2.bytes]
    have := nextslicecap_le (need := n + m) (old := c) hg
    calc _ ≤ 2 * (n + m) * T.bytes := Nat.mul_le_mul_right _ this
      _ = 2 * ((n + m) * T.bytes) := by rw [Nat.mul_assoc]
      _ ≤ _ := by omega
  have hmb : m * i.bytes ≤ 281474976710656 := by
    rw [hT2.bytes]
    have : m * T.bytes ≤ (n + m) * T.bytes := Nat.mul_le_mul_right _ (by omega)
    omega
  have hrun := Lib.run_append_grow_zeros (P := P) w t tn o.type e i z k kn hu hTN.und hT2.info hT2.zero (some ⟨g, 0, none⟩) n c cs hold m hm (by rw [hT2.size]; exact hpos) hg (by omega) hmb hnb
  have hrun' : (execOp a.eval o).run P w = .ok (.value (.slice (some ⟨w.heap.size, 0, none⟩) (n + m) (grownCap w (n + m) c e))) (w.drew.alloc (.cells (cs.toArray ++ Builtin.zeroCells z.cells m ++ Builtin.zeroCells z.cells (grownCap w (n + m) c e - (n + m))) e)) := by
    simp only [execOp, ho, resolve, invoke, builtin, Sem.run_bind, Sem.run_pure, Result.andThen_ok, List.map_toArray, List.map_cons, List.map_nil, e1, e2, slv]
    rw [hrun]; rfl
  have hge := grownCap_ge w (n + m) c e
  have hle : grownCap w (n + m) c e ≤ maxLen := grownCap_le_maxLen w (n + m) c e (by simp only [maxLen]; omega)
  have hgr : Grew w (w.drew.alloc (.cells (cs.toArray ++ Builtin.zeroCells z.cells m ++ Builtin.zeroCells z.cells (grownCap w (n + m) c e - (n + m))) e)) := (Grew.drew w).trans (Grew.alloc w.drew _)
  have hks := hgr.keeps hmem.slt
  obtain ⟨s1, s2, s3⟩ := hmem.newObj (id := new) (b := some w.heap.size) (n := 0) (v := undef) (o := .ext (rowsX e (grownCap w (n + m) c e * T.size) fun j => if j < n * T.size then kc j else none)) f3 (by rw [hpin]; exact f1) hgr (by intro t cs e; cases e)
    ⟨w.heap.size, _, by simp [Env.upd3], heap_alloc_new w.drew _, ⟨_, rfl, by
      have h1 : z.cells.size = T.size := by rw [hT2.cells, hT2.size]
      simp only [Array.size_append, size_zeroCells, List.size_toArray, hcl, h1, ← Nat.add_mul]
      congr 1; omega, fun j y hy => by
      dsimp only at hy
      split at hy
      · rename_i hj
        obtain ⟨y', v, h1, h2, h3, h4⟩ := hget j hj
        rw [hy] at h1
        injection h1 with h1
        subst h1
        refine ⟨v, ?_, h3.mono hks (fun _ _ x => x), h4⟩
        rw [Array.append_assoc, Array.getElem?_append_left (by simp; omega)]
        simpa using (hcs j hj).trans h2
      · cases hy⟩, fun j hj => by have := hmem.slt _ j hj; omega⟩
    (fun g' hg' => by
      simp only [Env.at, Env.upd3, if_true, Option.some.injEq] at hg'
      subst hg'; exact hmem.free_new (Nat.le_refl _))
  refine wp_value hrun' (hn _ _ _ _ _ (hk _ hge hle) s1 (hf.mono s2 (fun _ _ x => x) fun j hj => s3 j fun e => f2 (e ▸ hj)) ?_)
  exact Rep.xv new (slv 0 (n + m) (grownCap w (n + m) c e)) w.heap.size (by simp [Env.upd3]) rfl

/-! ### slices.overlaps -/

theorem overlaps_no {ti : TypeId → Option TI} (hti : TyOK P ti) {o : Oper} {f : FuncId} {fn : Func} {x y : Operand} {ts : Array TypeId} {tS tR e : TypeId} {T : TI} (ho : o.op = .call { callee := .value (.func f), args := #[x, y], argTypes := ts }) (hT : slT ti tS = some (e, T)) (hf : P.funcs[f]? = some fn) (hname : (fn.name == "runtime.NumGoroutine") = false)
    (hb : fn.body.isNone = true) (hnx : Extern.findNext fn = none) (he : Extern.find fn = some (Extern.SlicesOverlaps.overlaps #[tS, tS] #[tR]))
    {pin : List Nat} {fr : Fr} {hp : Hp} {K : SV → Hp → Prop} {id off n c size e' : Nat} {kn : Nat → Option D} {idv z nv ev' : Nat} {rows : List (List D)} (hx : evO fr x = some (.osl idv z rows)) (hobjv : getH hp idv = some (.own ev' z nv)) (hnv : rows.length = nv) (hpos : 0 < nv)
    (hy : evO fr y = some (.xv id (slv off n c))) (hobj : getH hp id = some (.ext (rowsX e' size kn))) (hsz : size ≠ 0) (hk : K (.d (.bool false)) hp) : GenVC P o pin fr hp K := by
  intro E ρ a w _ hm hfs next Q hn
  obtain ⟨hu, dd, i, zz, hT2⟩ := slT_ok hti hT
  obtain ⟨g, hg1, e1, _⟩ := (evO_ok hfs hy).xv_inv
  obtain ⟨g', ob, b1, b2, ⟨cur, b3, b4, b5⟩, b6⟩ := hm.sat id _ hobj
  rw [hg1] at b1
  injection b1 with b1
  subst b1
  subst b3
  obtain ⟨q1, xs, q2, _, _⟩ := hm.sat idv _ hobjv
  obtain ⟨_, _, q3⟩ := (evO_ok hfs hx).osl_inv
  have ev := q3 (by omega)
  rcases q2.2 with ⟨h0, h1⟩ | ⟨gv, cap, curv, r1, _, r2, r3, r4, r5, _⟩
  · omega
  have hgv : ρ.at idv (.own ev' z nv) = some gv := by simp [Env.at, r1, Value.ownBlock]
  have hne : gv ≠ g := by
    intro e0
    subst e0
    have := hm.inj idv _ id _ gv hobjv hobj hgv hg1
    subst this
    rw [hobj] at hobjv; cases hobjv
  have hov := Lib.run_overlaps_apart (P := P) w tS tR e hu T.size (fun w => hT2.run_size w) ⟨gv, 0, none⟩ ⟨g, off, none⟩ (ρ.n idv) cap n c hne ev' e' curv.size cur.size (by simp [World.shape?, r2]) (by simp [World.shape?, b2]) (by omega) (by simp [World.frozen?, r2]) (by simp [World.frozen?, r2])
  have hrun : (execOp a.eval o).run P w = .ok (.value (.bool false)) w := by
    have hev : a.eval (.func f) = .func (.func f) #[] #[] := rfl
    simp only [execOp, ho, resolve, hev, Deferred.ofValue, invoke, Sem.run_bind, Sem.run_pure, Result.andThen_ok, List.map_toArray, List.map_cons, List.map_nil, e1, slv, ev, r1]
    have := run_callFunc_extern (P := P) hf hname hb hnx he #[.slice (some ⟨gv, 0, none⟩) (ρ.n idv) cap, .slice (some ⟨g, off, none⟩) n c] w
    rw [hov] at this
    simpa using this
  exact wp_value hrun (hn _ _ ρ _ _ hk hm hfs (.d _ _ (.bool false)))

/-! ### back to rows -/

theorem known_flat {w : World} {S : Nat → Nat → Prop} {z cap n : Nat} {kn : Nat → Option D} {rows : List (List D)} {cur : Array Value} (hz : ∀ row ∈ rows, row.length = z) (hn : n = rows.length) (hnc : n ≤ cap) (b4 : cur.size = cap * z)
    (b5 : ∀ k x, kn k = some x → ∃ v, cur[k]? = some v ∧ RepD w S x v ∧ v.oneCell' = true) (hkn : ∀ k, k < n * z → kn k = flatK rows k) : Flat w S z rows (cur.toList.take (rows.length * z)) := by
  have hlen : rows.flatten.length = rows.length * z := flat_len hz
  have hle : n * z ≤ cap * z := Nat.mul_le_mul_right _ hnc
  have hgetk : ∀ k, k < n * z → ∃ y v, rows.flatten[k]? = some y ∧ cur[k]? = some v ∧ RepD w S y v ∧ v.oneCell' = true := by
    intro k hk
    have hk' : k < rows.flatten.length := by rw [hlen, ← hn]; exact hk
    have e1 := hkn k hk
    simp only [flatK, List.getElem?_eq_getElem hk'] at e1
    obtain ⟨v, v1, v2, v3⟩ := b5 k _ e1
    exact ⟨_, v, List.getElem?_eq_getElem hk', v1, v2, v3⟩
  have htk : ∀ k, k < n * z → (cur.toList.take (rows.length * z))[k]? = cur[k]? := by
    intro k hk
    rw [List.getElem?_take, if_pos (by rw [← hn]; exact hk)]; simp
  refine ⟨by rw [List.length_take, ← hn]; simp; omega, hz, ?_, ?_⟩
  · intro v hv
    obtain ⟨k, hk, e⟩ := List.getElem_of_mem hv
    have hk' : k < n * z := by rw [List.length_take, ← hn] at hk; omega
    obtain ⟨y, u, _, hu, _, ho1⟩ := hgetk k hk'
    have := htk k hk'
    rw [List.getElem?_eq_getElem hk, hu, e] at this
    injection this with this
    subst this; exact ho1
  · intro i row j x hi hj
    have hx := flat_at hz i row j x hi hj
    have hk : i * z + j < n * z := by
      have := (List.getElem?_eq_some_iff.1 hx).1
      rw [hlen, ← hn] at this; exact this
    obtain ⟨y, v, hy, hv, hr, _⟩ := hgetk _ hk
    rw [hx] at hy
    injection hy with hy
    subst hy
    exact ⟨v, (htk _ hk).trans hv, hr⟩
end
end Go.Proofs.YtkbmlchceiglfaaGreatDoor
