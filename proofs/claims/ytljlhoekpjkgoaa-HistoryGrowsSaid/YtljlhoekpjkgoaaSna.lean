/-
  Objects of other kinds: a new one, and one that is written; rows whose cells are known one by one. Rows known cell by cell: slices of them, copy, append of zero values; and back to rows. Rows known cell by cell: at a call's begin and end. Arrays of numbers: are two equal?
  Conditions: none.
-/
import Derived.Test.YtljlhoekpjkgoaaSxa
import Derived.Laws.IdiomCopy
import Derived.Laws.Externs
import Derived.Lib.Overlaps
import Derived.Lib.AppendZeros
import Derived.Lib.AppendZerosOnto
namespace Go.Proofs.Ytljlhoekpjkgoaa
open Go.RowKit

section
variable {P : Program}

def Env.upd3 (ρ : Env) (id : Nat) (b : Option Nat) (n : Nat) (v : Value) : Env :=
  { S := ρ.S, blk := fun i => if i = id then b else ρ.blk i, n := fun i => if i = id then n else ρ.n i, tv := fun i => if i = id then v else ρ.tv i }

theorem Env.moved_upd3 (ρ : Env) {id n : Nat} {b : Option Nat} {v : Value} {i : Nat} (h : i ≠ id) : ρ.moved (ρ.upd3 id b n v) i := by
  refine ⟨by simp [Env.upd3, h], .inl (by simp [Env.upd3, h])⟩
theorem Env.upd3_at (ρ : Env) {id n i : Nat} {b : Option Nat} {v : Value} {x : HObj} (h : i ≠ id) : (ρ.upd3 id b n v).at i x = ρ.at i x := by
  cases x <;> simp [Env.at, Env.upd3, h]

/-- The block g belongs to no object. -/
def Free (E : Entry) (ρ : Env) (hp : Hp) (g : Nat) : Prop :=
  (∀ i o, getH hp i = some o → ρ.at i o ≠ some g) ∧ (∀ i t cs, getH hp i = some (.ro t cs) → ρ.blk i ≠ some g) ∧ (E.w.heap.size ≤ g ∨ E.B g)

theorem Mem.free_new {E : Entry} {ρ : Env} {hp : Hp} {w : World} (h : Mem E ρ hp w) {g : Nat} (hg : w.heap.size ≤ g) : Free E ρ hp g := by
  refine ⟨fun i o ho he => ?_, fun i t cs ho he => ?_, ?_⟩
  · have := h.blk_lt ho he; omega
  · have := h.ro_lt ho he; omega
  · have := h.size; left; omega

theorem Mem.free_del {E : Entry} {ρ : Env} {hp hp' : Hp} {w : World} (h : Mem E ρ hp w) {id g : Nat} {o : HObj} (ho : getH hp id = some o) (hg : ρ.at id o = some g) (hs : subH hp' hp) (hn : getH hp' id = none) : Free E ρ hp' g := by
  refine ⟨fun i x hx he => ?_, fun i t cs hx he => ?_, h.hb id o g ho hg⟩
  · have := h.inj i x id o g (subH_ok _ _ hs i x hx) ho he hg
    subst this
    rw [hn] at hx; cases hx
  · exact h.ro i t cs g (subH_ok _ _ hs i _ hx) he id o ho hg

theorem subH_ids {id : Nat} : ∀ {hp' hp : Hp}, subH hp' hp → id ∉ idsH hp → id ∉ idsH hp'
  | [], _, _, _ => by simp [idsH]
  | (k, o) :: r, hp, hs, hn => by
    obtain ⟨h1, h2⟩ := hs
    have ih := subH_ids h2 hn
    intro hm
    simp only [idsH, List.flatMap_cons, List.mem_append, List.mem_cons] at hm
    rcases hm with (hm | hm) | hm
    · exact hn (ids_of_getH h1 (.inl hm))
    · exact hn (ids_of_getH h1 (.inr hm))
    · exact ih hm

theorem Mem.newObj {E : Entry} {ρ : Env} {hp : Hp} {w w' : World} (h : Mem E ρ hp w) {id n : Nat} {b : Option Nat} {v : Value} {o : HObj} (hid : id ∉ idsH hp) (hpin : id ∉ E.pin) (hg : Grew w w') (hro : ∀ t cs, o ≠ .ro t cs)
    (hs : HSat w' (ρ.upd3 id b n v) id o) (hf : ∀ g, (ρ.upd3 id b n v).at id o = some g → Free E ρ hp g) :
    Mem E (ρ.upd3 id b n v) ((id, o) :: hp) w' ∧ Keeps ρ.S w w' ∧ ∀ i, i ≠ id → ρ.moved (ρ.upd3 id b n v) i := by
  have hk : Keeps ρ.S w w' := hg.keeps h.slt
  have hmv : ∀ i, i ≠ id → ρ.moved (ρ.upd3 id b n v) i := fun i hi => ρ.moved_upd3 hi
  have hget : ∀ i x, getH ((id, o) :: hp) i = some x → (i = id ∧ x = o) ∨ (i ≠ id ∧ getH hp i = some x) := by
    intro i x hx
    by_cases e : i = id
    · subst e; simp [getH] at hx; exact .inl ⟨rfl, hx.symm⟩
    · rw [getH_cons_ne (fun h => e h.symm)] at hx; exact .inr ⟨e, hx⟩
  refine ⟨⟨hg.os.trans h.os, hg.tape.trans h.tape, hg.output.trans h.output, Nat.le_trans h.size hg.size, ?_, h.sold, h.snew, fun b i hs => Nat.lt_of_lt_of_le (h.slt b i hs) hg.size, h.kp.trans h.sold hk, ?_, ?_, ?_, ?_, ?_, fun b hb => (hg.block b (lt_of_heap (h.md b hb))).trans (h.md b hb)⟩, hk, hmv⟩
  · exact fun b hb hB => (hg.block b (Nat.lt_of_lt_of_le hb h.size)).trans (h.old b hb hB)
  · intro i x hx
    rcases hget i x hx with ⟨rfl, rfl⟩ | ⟨e1, hx1⟩
    · exact hs
    · refine (h.sat i x hx1).keep hk (fun _ _ x => x) ?_ (by simp [Env.upd3, e1]) ?_ (fun _ _ _ x => x)
      · rintro j hj
        exact hmv j fun e' => hid (e' ▸ ids_of_getH hx1 hj)
      · rintro g (hg' | ⟨hg', t, cs, rfl⟩)
        · exact hg.block g (h.blk_lt hx1 hg')
        · exact hg.block g (h.ro_lt hx1 hg')
  · intro i x i' x' g hx hx' hg1 hg2
    rcases hget i x hx with ⟨e1, rfl⟩ | ⟨e1, hx1⟩
    · rcases hget i' x' hx' with ⟨e2, rfl⟩ | ⟨e2, hx2⟩
      · rw [e1, e2]
      · subst e1
        rw [ρ.upd3_at e2] at hg2
        exact absurd hg2 ((hf g hg1).1 i' x' hx2)
    · rcases hget i' x' hx' with ⟨e2, rfl⟩ | ⟨e2, hx2⟩
      · subst e2
        rw [ρ.upd3_at e1] at hg1
        exact absurd hg1 ((hf g hg2).1 i x hx1)
      · rw [ρ.upd3_at e1] at hg1
        rw [ρ.upd3_at e2] at hg2
        exact h.inj i x i' x' g hx1 hx2 hg1 hg2
  · intro i x g hx hg1
    rcases hget i x hx with ⟨e1, rfl⟩ | ⟨e1, hx1⟩
    · subst e1
      exact (hf g hg1).2.2
    · rw [ρ.upd3_at e1] at hg1
      exact h.hb i x g hx1 hg1
  · exact fun i hi => Env.moved_trans (h.mv i hi) (hmv i fun e => hpin (e ▸ hi))
  · intro i t' cs' g hx hg1 i' x' hx' hg2
    rcases hget i _ hx with ⟨_, hc⟩ | ⟨e1, hx1⟩
    · exact hro _ _ hc.symm
    · have hg1' : ρ.blk i = some g := by simpa [Env.upd3, e1] using hg1
      rcases hget i' x' hx' with ⟨e2, rfl⟩ | ⟨e2, hx2⟩
      · subst e2
        exact (hf g hg2).2.1 i t' cs' hx1 hg1'
      · rw [ρ.upd3_at e2] at hg2
        exact h.ro i t' cs' g hx1 hg1' i' x' hx2 hg2

/-- An object's block takes up another content. -/
theorem Mem.setExt {E : Entry} {ρ : Env} {hp : Hp} {w w' : World} (h : Mem E ρ hp w) {id g : Nat} {X X' : ExtO} (ho : getH hp id = some (.ext X)) (hg : ρ.blk id = some g)
    (hos : w'.os = w.os) (htape : w'.tape = w.tape) (hout : OutD w' w) (hsz : w.heap.size ≤ w'.heap.size) (hoth : ∀ b, b < w.heap.size → b ≠ g → w'.heap[b]? = w.heap[b]?)
    {o' : Obj} (ho' : w'.heap[g]? = some o') (hs : X'.sat w' ρ o') : Mem E ρ (setH hp id (.ext X')) w' ∧ Keeps ρ.S w w' := by
  obtain ⟨g', x, h1, h2, h3, h4⟩ := h.sat id _ ho
  rw [hg] at h1
  injection h1 with h1
  subst h1
  have hatg : ρ.at id (.ext X) = some g := hg
  have hk : Keeps ρ.S w w' := fun b i hs => World.cell?_of_block (w := w) (hoth b (h.slt b i hs) fun e => h4 i (e ▸ hs))
  have hget : ∀ j y, getH (setH hp id (.ext X')) j = some y → (j = id ∧ y = .ext X') ∨ (j ≠ id ∧ getH hp j = some y) := by
    intro j y hj
    rw [getH_setH _ ho] at hj
    by_cases e1 : j = id
    · simp [e1] at hj; exact .inl ⟨e1, hj.symm⟩
    · simp [e1] at hj; exact .inr ⟨e1, hj⟩
  have hne : ∀ j y b, j ≠ id → getH hp j = some y → ρ.at j y = some b → b ≠ g := fun j y b hj hjo hb e => hj (h.inj j y id _ b hjo ho hb (by rw [hatg, e]))
  refine ⟨⟨hos.trans h.os, htape.trans h.tape, hout.trans h.output, Nat.le_trans h.size hsz, ?_, h.sold, h.snew, fun b i hs => Nat.lt_of_lt_of_le (h.slt b i hs) hsz, h.kp.trans h.sold hk, ?_, ?_, ?_, h.mv, ?_, ?_⟩, hk⟩
  · intro b hb hB
    rw [hoth b (Nat.lt_of_lt_of_le hb h.size) ?_]
    · exact h.old b hb hB
    · rintro rfl
      rcases h.hb id _ b ho hatg with hge | hB'
      · omega
      · exact hB hB'
  · intro j y hj
    rcases hget j y hj with ⟨rfl, rfl⟩ | ⟨e1, hj⟩
    · exact ⟨g, o', hg, ho', hs, h4⟩
    · refine (h.sat j y hj).keep hk (fun _ _ x => x) (fun a _ => ρ.moved_refl a) ⟨rfl, rfl⟩ ?_ (fun _ _ _ x => x)
      rintro b (hb | ⟨hb, t', cs', rfl⟩)
      · exact hoth b (h.blk_lt hj hb) (hne j y b e1 hj hb)
      · exact hoth b (h.ro_lt hj hb) fun e => h.ro j t' cs' b hj hb id _ ho (by rw [hatg, e])
  · intro j y j' y' b hj hj' hb hb'
    rcases hget j y hj with ⟨e1, rfl⟩ | ⟨e1, hj1⟩
    · rcases hget j' y' hj' with ⟨e2, rfl⟩ | ⟨e2, hj2⟩
      · rw [e1, e2]
      · subst e1
        exact h.inj j (.ext X) j' y' b ho hj2 hb hb'
    · rcases hget j' y' hj' with ⟨e2, rfl⟩ | ⟨e2, hj2⟩
      · subst e2
        exact h.inj j y j' (.ext X) b hj1 ho hb hb'
      · exact h.inj j y j' y' b hj1 hj2 hb hb'
  · intro j y b hj hb
    rcases hget j y hj with ⟨e1, rfl⟩ | ⟨e1, hj1⟩
    · subst e1
      exact h.hb j (.ext X) b ho hb
    · exact h.hb j y b hj1 hb
  · intro j t' cs' b hj hb j' y' hj' hb'
    rcases hget j _ hj with ⟨_, hc⟩ | ⟨e1, hj1⟩
    · cases hc
    · rcases hget j' y' hj' with ⟨e2, rfl⟩ | ⟨e2, hj2⟩
      · subst e2
        exact h.ro j t' cs' b hj1 hb j' (.ext X) ho hb'
      · exact h.ro j t' cs' b hj1 hb j' y' hj2 hb'
  · intro b hb
    refine (hoth b (lt_of_heap (h.md b hb)) ?_).trans (h.md b hb)
    rintro rfl
    rw [h.md b hb] at h2
    cases h2
    exact X.nd _ _ _ h3

/-! ### rows, cell by cell -/

/-- A block of cells, of which those that kn tells are known. -/
def rowsX (e size : Nat) (kn : Nat → Option D) : ExtO where
  ids := []
  sat := fun w ρ o => ∃ cur : Array Value, o = .cells cur e (0, 0) ∧ cur.size = size ∧ ∀ k x, kn k = some x → ∃ v, cur[k]? = some v ∧ RepD w ρ.S x v ∧ v.oneCell' = true
  keep := by
    rintro w w' ρ ρ' o hk hs _ ⟨cur, h1, h2, h3⟩
    refine ⟨cur, h1, h2, fun k x hx => ?_⟩
    obtain ⟨v, a, b, c⟩ := h3 k x hx
    exact ⟨v, a, b.mono hk hs, c⟩
  nd := by
    rintro w ρ x ⟨cur, h1, _⟩
    cases h1

/-- A slice in the block. -/
def slv (off n c : Nat) : Nat → Value := fun g => .slice (some ⟨g, off, none⟩) n c

/-- The cells of rows, one after another. -/
def flatK (rows : List (List D)) : Nat → Option D := fun k => rows.flatten[k]?

theorem flat_get : ∀ {rows : List (List D)} {z : Nat}, (∀ row ∈ rows, row.length = z) → ∀ (k : Nat) (x : D), rows.flatten[k]? = some x → ∃ i row j, rows[i]? = some row ∧ row[j]? = some x ∧ k = i * z + j
  | [], z, _, k, x, h => by simp at h
  | row :: rows, z, hz, k, x, h => by
    have hr := hz row (List.mem_cons_self ..)
    rw [List.flatten_cons] at h
    by_cases hk : k < row.length
    · rw [List.getElem?_append_left hk] at h
      exact ⟨0, row, k, rfl, h, by simp⟩
    · rw [List.getElem?_append_right (by omega)] at h
      obtain ⟨i, row', j, h1, h2, h3⟩ := flat_get (rows := rows) (z := z) (fun r hr => hz r (List.mem_cons_of_mem _ hr)) _ _ h
      refine ⟨i + 1, row', j, by simpa using h1, h2, ?_⟩
      rw [Nat.add_mul]; omega

theorem flat_at : ∀ {rows : List (List D)} {z : Nat}, (∀ row ∈ rows, row.length = z) → ∀ (i : Nat) (row : List D) (j : Nat) (x : D), rows[i]? = some row → row[j]? = some x → rows.flatten[i * z + j]? = some x
  | [], z, _, i, row, j, x, h, _ => by simp at h
  | r :: rows, z, hz, i, row, j, x, h, hx => by
    have hr := hz r (List.mem_cons_self ..)
    rw [List.flatten_cons]
    cases i with
    | zero =>
      simp at h
      subst h
      have hj : j < r.length := (List.getElem?_eq_some_iff.1 hx).1
      rw [Nat.zero_mul, Nat.zero_add, List.getElem?_append_left hj]
      exact hx
    | succ i =>
      have h' : rows[i]? = some row := by simpa using h
      rw [List.getElem?_append_right (by rw [Nat.add_mul]; omega)]
      have := flat_at (rows := rows) (z := z) (fun r hr => hz r (List.mem_cons_of_mem _ hr)) i row j x h' hx
      rw [show (i + 1) * z + j - r.length = i * z + j from by rw [Nat.add_mul]; omega]
      exact this

theorem flat_len : ∀ {rows : List (List D)} {z : Nat}, (∀ row ∈ rows, row.length = z) → rows.flatten.length = rows.length * z
  | [], z, _ => by simp
  | r :: rows, z, hz => by
    rw [List.flatten_cons, List.length_append, flat_len (rows := rows) (z := z) (fun r hr => hz r (List.mem_cons_of_mem _ hr)), hz r (List.mem_cons_self ..), List.length_cons, Nat.add_mul]; omega

end
end Go.Proofs.Ytljlhoekpjkgoaa

namespace Go.Proofs.Ytljlhoekpjkgoaa
open Go.RowKit

section
variable {P : Program}

/-- The slices of a type and their elements. -/
def slT (ti : TypeId → Option TI) (t : TypeId) : Option (TypeId × TI) :=
  match ti t with
  | some { td := .slice e, .. } => (match ti e with | some T => some (e, T) | none => none)
  | _ => none

theorem slT_ok {ti : TypeId → Option TI} (hti : TyOK P ti) {t e : TypeId} {T : TI} (h : slT ti t = some (e, T)) : P.underlying t = some (.slice e) ∧ ∃ d i z, TIok P e T d i z := by
  unfold slT at h
  split at h
  · rename_i e' _ _ _ hT
    obtain ⟨d, i, z, hT⟩ := tiOf_ok (hti _ _ hT)
    have hd := slice_inv hT.td
    subst hd
    split at h
    · rename_i T' hT2
      simp only [Option.some.injEq, Prod.mk.injEq] at h
      obtain ⟨rfl, rfl⟩ := h
      exact ⟨hT.und, tiOf_ok (hti _ _ hT2)⟩
    · cases h
  · cases h

theorem slice_run {ti : TypeId → Option TI} (hti : TyOK P ti) {o : Oper} {t e : TypeId} {T : TI} {x : Operand} {lo hi : Option Operand} (ho : o.op = .slice t x lo hi none) (hT : slT ti t = some (e, T)) {a : Act} {A : Option Addr} {len cap a' b m' : Nat}
    (e1 : a.eval x = .slice A len cap) {w' : World} (e2 : (Instr.sliceBounds true len cap (lo.map a.eval) (hi.map a.eval) none).run P w' = .ok (a', b, m') w') :
    (execOp a.eval o).run P w' = .ok (.value (.slice (if m' = a' then A else A.map (·.add (a' * T.size))) (b - a') (m' - a'))) w' := by
  obtain ⟨hu, d, i, z, hT2⟩ := slT_ok hti hT
  simp [execOp, ho, Instr.sliceAt, run_underlying hu, Instr.slice, e1, e2, hT2.run_size]

/-- x[l:] -/
theorem slice_low {ti : TypeId → Option TI} (hti : TyOK P ti) {o : Oper} {t e : TypeId} {T : TI} {x lx : Operand} (ho : o.op = .slice t x (some lx) none none) (hT : slT ti t = some (e, T)) {fr : Fr} {hp : Hp} {K : SV → Prop}
    {id off n c : Nat} {k : IntKind} {l : Int} (hx : evO fr x = some (.xv id (slv off n c))) (hl : evO fr lx = some (.d (.int k l))) (h0 : 0 ≤ l) (h1 : l ≤ n) (h2 : l < c)
    (hk : K (.xv id (slv (off + l.toNat * T.size) (n - l.toNat) (c - l.toNat)))) : GenP P o fr hp K := by
  intro E ρ a w hm hf
  obtain ⟨g, hg, e1, _⟩ := (evO_ok hf hx).xv_inv
  have e2 := (evO_ok hf hl).int_inv
  refine ⟨_, _, fun w' _ => slice_run hti ho hT (a' := l.toNat) (b := n) (m' := c) e1 ?_, ?_, hk⟩
  · simp [Instr.sliceBounds, e2, run_sliceBound, h0, h1]
  · have := Rep.xv (w := w) (ρ := ρ) id (slv (off + l.toNat * T.size) (n - l.toNat) (c - l.toNat)) g hg rfl
    rw [if_neg (by omega)]
    simpa [slv, addr_add] using this

/-- x[:h] -/
theorem slice_high {ti : TypeId → Option TI} (hti : TyOK P ti) {o : Oper} {t e : TypeId} {T : TI} {x hx : Operand} (ho : o.op = .slice t x none (some hx) none) (hT : slT ti t = some (e, T)) {fr : Fr} {hp : Hp} {K : SV → Prop}
    {id off n c : Nat} {k : IntKind} {h : Int} (hx1 : evO fr x = some (.xv id (slv off n c))) (hh : evO fr hx = some (.d (.int k h))) (h0 : 0 ≤ h) (h1 : h ≤ c) (h2 : 0 < c)
    (hk : K (.xv id (slv off h.toNat c))) : GenP P o fr hp K := by
  intro E ρ a w hm hf
  obtain ⟨g, hg, e1, _⟩ := (evO_ok hf hx1).xv_inv
  have e2 := (evO_ok hf hh).int_inv
  refine ⟨_, _, fun w' _ => slice_run hti ho hT (a' := 0) (b := h.toNat) (m' := c) e1 ?_, ?_, hk⟩
  · simp [Instr.sliceBounds, e2, run_sliceBound, h0, h1]
  · have := Rep.xv (w := w) (ρ := ρ) id (slv off h.toNat c) g hg rfl
    rw [if_neg (by omega)]
    simpa [slv, addr_add] using this

/-- x[l:] of rows that may be written; what comes of it is not told. -/
theorem slice_mw {ti : TypeId → Option TI} (hti : TyOK P ti) {o : Oper} {t e : TypeId} {T : TI} {x lx : Operand} (ho : o.op = .slice t x (some lx) none none) (hT : slT ti t = some (e, T)) {fr : Fr} {hp : Hp} {K : SV → Prop}
    {id z n : Nat} {k : IntKind} {l : Int} (hx : evO fr x = some (.mw id z n)) (hl : evO fr lx = some (.d (.int k l))) (h0 : 0 ≤ l) (h1 : l ≤ n) (hk : ∀ v, K (.d (.lit v))) : GenP P o fr hp K := by
  intro E ρ a w hm hf
  obtain ⟨A, c, e1, hnc, _⟩ := (evO_ok hf hx).mw_inv
  have e2 := (evO_ok hf hl).int_inv
  refine ⟨_, _, fun w' _ => slice_run hti ho hT (a' := l.toNat) (b := n) (m' := c) e1 ?_, .d _ _ (.lit _), hk _⟩
  simp [Instr.sliceBounds, e2, run_sliceBound, h0, h1]

/-! ### copy -/

theorem setCells_heap (g e : Nat) (fz : Nat × Nat) : ∀ (vs : List Value) (off : Nat) (w : World) (cur : Array Value), w.heap[g]? = some (.cells cur e fz) →
    ∃ cur', (w.setCells g off vs).heap[g]? = some (.cells cur' e fz) ∧ cur'.size = cur.size ∧ (∀ k, off ≤ k → k < off + vs.length → k < cur.size → cur'[k]? = vs[k - off]?) ∧ ∀ k, k < off ∨ off + vs.length ≤ k → cur'[k]? = cur[k]?
  | [], off, w, cur, h => ⟨cur, h, rfl, fun k h1 h2 _ => by simp at h2; omega, fun _ _ => rfl⟩
  | v :: vs, off, w, cur, h => by
    have h' : (w.setCell ⟨g, off, none⟩ v).heap[g]? = some (.cells (cur.setIfInBounds off v) e fz) := by
      simp [World.setCell, Array.getElem?_modify, h]
    obtain ⟨cur', a1, a2, a3, a4⟩ := setCells_heap g e fz vs (off + 1) _ _ h'
    refine ⟨cur', a1, by simpa using a2, ?_, ?_⟩
    · intro k h1 h2 h3
      by_cases hk : k = off
      · subst hk
        rw [a4 k (.inl (by omega))]
        simp [h3]
      · rw [a3 k (by omega) (by simp at h2; omega) (by simpa using h3)]
        rw [show k - off = (k - (off + 1)) + 1 from by omega, List.getElem?_cons_succ]
    · intro k hk
      rw [a4 k (by simp at hk; omega), Array.getElem?_setIfInBounds_ne (by simp at hk; omega)]

theorem setCells_rest (g : Nat) : ∀ (vs : List Value) (off : Nat) (w : World), (w.setCells g off vs).os = w.os ∧ (w.setCells g off vs).tape = w.tape ∧ OutD (w.setCells g off vs) w ∧ (w.setCells g off vs).heap.size = w.heap.size ∧ ∀ b, b ≠ g → (w.setCells g off vs).heap[b]? = w.heap[b]?
  | [], off, w => ⟨rfl, rfl, .refl _, rfl, fun _ _ => rfl⟩
  | v :: vs, off, w => by
    obtain ⟨a1, a2, a3, a4, a5⟩ := setCells_rest g vs (off + 1) (w.setCell ⟨g, off, none⟩ v)
    refine ⟨a1, a2, a3, a4.trans (by simp [World.setCell]), fun b hb => (a5 b hb).trans ?_⟩
    simp [World.setCell, Array.getElem?_modify, Ne.symm hb]

/-- The cells after n of them were overwritten from off on. -/
def over (kn : Nat → Option D) (off n : Nat) (src : Nat → Option D) : Nat → Option D := fun k => if off ≤ k ∧ k < off + n then src (k - off) else kn k

theorem copy_core {ti : TypeId → Option TI} (hti : TyOK P ti) {o : Oper} {dT sT e : TypeId} {T : TI} {d x : Operand} (ho : o.op = .call { callee := .builtin .copy, args := #[d, x], argTypes := #[dT, sT] }) (hT : slT ti dT = some (e, T))
    {pin : List Nat} {fr : Fr} {hp : Hp} {K : SV → Hp → Prop} {id off n c size m : Nat} {e' : Nat} {kn src : Nat → Option D} (hd : evO fr d = some (.xv id (slv off n c))) (hobj : getH hp id = some (.ext (rowsX e' size kn))) (hfit : off + m * T.size ≤ size)
    (hsrc : ∀ (E : Entry) (ρ : Env) (a : Act) (w : World), Mem E ρ hp w → FSat ρ w fr a.tmps → ∃ (A : Option Addr) (sl sc : Nat) (cs : List Value), a.eval x = .slice A sl sc ∧ m = Nat.min sl n ∧ cs.length = m * T.size ∧ (Builtin.firstCells T.size m (.slice A sl sc)).run P w = .ok cs.toArray w ∧
      (∀ v ∈ cs, v.oneCell' = true) ∧ ∀ k y, k < m * T.size → src k = some y → ∃ v, cs[k]? = some v ∧ RepD w ρ.S y v)
    (hk : K (.d (.int .i64 m)) (setH hp id (.ext (rowsX e' size (over kn off (m * T.size) src))))) : GenVC P o pin fr hp K := by
  intro E ρ a w _ hm hf next Q hn
  obtain ⟨hu, dd, i, z, hT2⟩ := slT_ok hti hT
  obtain ⟨g, hg, e1, _⟩ := (evO_ok hf hd).xv_inv
  obtain ⟨A, sl, sc, cs, e2, hmm, hcl, hload, hone, hknown⟩ := hsrc E ρ a w hm hf
  obtain ⟨g', ob, b1, b2, ⟨cur, b3, b4, b5⟩, b6⟩ := hm.sat id _ hobj
  rw [hg] at b1
  injection b1 with b1
  subst b1
  subst b3
  have hcell : ∀ j, j < cs.length → (w.cell? ⟨g, off + j, none⟩).isSome = true := by
    intro j hj
    rw [cell_of_row w g (off + j) cur e' (0, 0) b2]
    rw [Array.getElem?_eq_getElem (by omega)]; rfl
  have hfz : ∀ j, j < cs.length → w.frozen? ⟨g, off + j, none⟩ = false := by
    intro j hj
    simp [World.frozen?, b2]
  have hst := run_storeCells_cells (P := P) g off cs 0 w (by simpa using hcell) (by simpa using hfz) hone
  have hrun : (execOp a.eval o).run P w = .ok (.value (goInt m)) (w.setCells g off cs) := by
    have hmin : Nat.min sl n = m := hmm.symm
    simp only [execOp, ho, resolve, invoke, builtin, Sem.run_bind, Sem.run_pure, Result.andThen_ok, List.map_toArray, List.map_cons, List.map_nil, e1, e2, slv]
    have hs2 : (sizeOf e).run P w = .ok T.size w := hT2.run_size w
    simp only [Nat.add_zero] at hst
    simp [Builtin.copy_, run_underlying hu, Builtin.lenOf, hs2, hmin, hload, hst]
  obtain ⟨cur', c1, c2, c3, c4⟩ := setCells_heap g e' (0, 0) cs off w cur b2
  obtain ⟨r1, r2, r3, r4, r5⟩ := setCells_rest g cs off w
  have hks : Keeps ρ.S w (w.setCells g off cs) := fun b i hs => World.cell?_of_block (w := w) (r5 b fun e => b6 i (e ▸ hs))
  obtain ⟨s1, s2⟩ := hm.setExt (X' := rowsX e' size (over kn off (m * T.size) src)) hobj hg r1 r2 r3 (by rw [r4]; exact Nat.le_refl _) (fun b _ hb => r5 b hb) c1 ⟨cur', rfl, by omega, by
    intro k y hy
    simp only [over] at hy
    split at hy
    · rename_i hin
      obtain ⟨v, v1, v2⟩ := hknown (k - off) y (by omega) hy
      refine ⟨v, ?_, v2.mono hks (fun _ _ x => x), hone v (List.mem_of_getElem? v1)⟩
      rw [c3 k hin.1 (by omega) (by omega)]; exact v1
    · rename_i hin
      obtain ⟨v, v1, v2, v3⟩ := b5 k y hy
      refine ⟨v, ?_, v2.mono hks (fun _ _ x => x), v3⟩
      rw [c4 k (by omega)]; exact v1⟩
  exact wp_value hrun (hn _ _ ρ _ _ hk s1 (hf.mono s2 (fun _ _ x => x) fun i _ => ρ.moved_refl i) (.d _ _ (.int _ _)))

/-- copy(x, data) -/
theorem copy_data {ti : TypeId → Option TI} (hti : TyOK P ti) {o : Oper} {dT sT e : TypeId} {T : TI} {d x : Operand} (ho : o.op = .call { callee := .builtin .copy, args := #[d, x], argTypes := #[dT, sT] }) (hT : slT ti dT = some (e, T))
    {pin : List Nat} {fr : Fr} {hp : Hp} {K : SV → Hp → Prop} {id off n c size m : Nat} {e' : Nat} {kn : Nat → Option D} {s : SV} {rows : List (List D)} (hd : evO fr d = some (.xv id (slv off n c))) (hobj : getH hp id = some (.ext (rowsX e' size kn)))
    (hx : evO fr x = some s) (hrows : rowsOf s = some (T.size, rows)) (hm : rows.length = m) (hmn : m ≤ n) (hfit : off + m * T.size ≤ size)
    (hk : K (.d (.int .i64 m)) (setH hp id (.ext (rowsX e' size (over kn off (m * T.size) (flatK rows)))))) : GenVC P o pin fr hp K := by
  refine copy_core hti ho hT hd hobj (src := flatK rows) hfit ?_ hk
  intro E ρ a w hmem hf
  obtain ⟨A, cap, b, off', e1, _, _, hA, hview⟩ := (rowsOf_ok hrows (evO_ok hf hx)).of_sl
  obtain ⟨vs, hfl, hc, _⟩ := hview.flat
  refine ⟨A, rows.length, cap, vs, e1, by rw [hm]; exact (Nat.min_eq_left hmn).symm, by rw [hfl.len, hm], ?_, hfl.one, ?_⟩
  · by_cases hne : rows = []
    · subst hne
      have h0 : m = 0 := by simpa using hm.symm
      subst h0
      have hv : vs = [] := by have := hfl.len; simpa using this
      subst hv
      cases A with
      | none => simp [Builtin.firstCells]
      | some ad =>
        have := run_loadCells_list (P := P) (w := w) ad [] (by simp)
        simpa [Builtin.firstCells] using this
    · have := hA hne
      subst this
      have hl := run_loadCells_list (P := P) (w := w) ⟨b, off', none⟩ vs (fun j v hj => by rw [addr_add]; exact hc j v hj)
      rw [hfl.len, hm] at hl
      simpa [Builtin.firstCells] using hl
  · intro k y hk' hy
    obtain ⟨i, row, j, r1, r2, r3⟩ := flat_get hfl.hz k y hy
    rw [r3]
    exact hfl.at_ i row j y r1 r2

/-- copy(x, y), both of rows known cell by cell -/
theorem copy_xv {ti : TypeId → Option TI} (hti : TyOK P ti) {o : Oper} {dT sT e : TypeId} {T : TI} {d x : Operand} (ho : o.op = .call { callee := .builtin .copy, args := #[d, x], argTypes := #[dT, sT] }) (hT : slT ti dT = some (e, T))
    {pin : List Nat} {fr : Fr} {hp : Hp} {K : SV → Hp → Prop} {id off n c size m : Nat} {e' : Nat} {kn : Nat → Option D} {id2 off2 n2 c2 size2 e2 : Nat} {kn2 : Nat → Option D} (hd : evO fr d = some (.xv id (slv off n c))) (hobj : getH hp id = some (.ext (rowsX e' size kn)))
    (hx : evO fr x = some (.xv id2 (slv off2 n2 c2))) (hobj2 : getH hp id2 = some (.ext (rowsX e2 size2 kn2))) (hm : m = Nat.min n2 n) (hfit : off + m * T.size ≤ size) (hknown : ∀ k, k < m * T.size → (kn2 (off2 + k)).isSome = true)
    (hk : K (.d (.int .i64 m)) (setH hp id (.ext (rowsX e' size (over kn off (m * T.size) fun k => kn2 (off2 + k)))))) : GenVC P o pin fr hp K := by
  refine copy_core hti ho hT hd hobj (src := fun k => kn2 (off2 + k)) hfit ?_ hk
  intro E ρ a w hmem hf
  obtain ⟨g, hg, e1, _⟩ := (evO_ok hf hx).xv_inv
  obtain ⟨g', ob, b1, b2, ⟨cur, b3, b4, b5⟩, b6⟩ := hmem.sat id2 _ hobj2
  rw [hg] at b1
  injection b1 with b1
  subst b1
  subst b3
  have hget : ∀ k, k < m * T.size → ∃ y v, kn2 (off2 + k) = some y ∧ cur[off2 + k]? = some v ∧ RepD w ρ.S y v ∧ v.oneCell' = true := by
    intro k hk
    obtain ⟨y, hy⟩ := Option.isSome_iff_exists.1 (hknown k hk)
    obtain ⟨v, v1, v2, v3⟩ := b5 _ y hy
    exact ⟨y, v, hy, v1, v2, v3⟩
  have hcs : ∀ k, k < m * T.size → ((List.range (m * T.size)).map fun k => (cur[off2 + k]?).getD undef)[k]? = cur[off2 + k]? := by
    intro k hk
    obtain ⟨_, v, _, hv, _⟩ := hget k hk
    rw [List.getElem?_map, List.getElem?_range hk, Option.map_some, hv]; rfl
  refine ⟨some ⟨g, off2, none⟩, n2, c2, (List.range (m * T.size)).map fun k => (cur[off2 + k]?).getD undef, e1, hm, by simp, ?_, ?_, ?_⟩
  · have hl := run_loadCells_list (P := P) (w := w) ⟨g, off2, none⟩ ((List.range (m * T.size)).map fun k => (cur[off2 + k]?).getD undef) (fun j v hj => by
      have hlt : j < m * T.size := by have := (List.getElem?_eq_some_iff.1 hj).1; simpa using this
      rw [hcs j hlt] at hj
      rw [addr_add, cell_of_row w g (off2 + j) cur e2 (0, 0) b2]; exact hj)
    simpa [Builtin.firstCells] using hl
  · intro v hv
    obtain ⟨k, hk, e⟩ := List.mem_map.1 hv
    obtain ⟨_, u, _, hu, _, h1⟩ := hget k (List.mem_range.1 hk)
    rw [hu] at e
    subst e; exact h1
  · intro k y hk' hy
    obtain ⟨y', v, hy', hv, hr, _⟩ := hget k hk'
    rw [hy] at hy'
    injection hy' with hy'
    subst hy'
    exact ⟨v, (hcs k hk').trans hv, hr⟩

/-! ### append of zero values -/

theorem append_zeros {ti : TypeId → Option TI} (hti : TyOK P ti) {o : Oper} {t tn e : TypeId} {T N : TI} {x y : Operand} {k kn : IntKind} (ho : o.op = .call { callee := .builtin .append, args := #[x, y], argTypes := #[t, tn] }) (hT : slT ti t = some (e, T)) (hN : ti tn = some N) (hNk : N.td = .int kn)
    {pin : List Nat} {fr : Fr} {hp : Hp} {K : SV → Hp → Prop} {id n c size m new : Nat} {e' : Nat} {l : Int} {kc : Nat → Option D} (hx : evO fr x = some (.xv id (slv 0 n c))) (hobj : getH hp id = some (.ext (rowsX e' size kc))) (hy : evO fr y = some (.d (.int k l))) (hl : l = m)
    (hm : 0 < m) (hpos : 0 < T.size) (hg : c < n + m) (hnm : (n + m) * T.bytes ≤ 140737488355328) (h63 : n + m ≤ 9223372036854775807) (hknown : ∀ j, j < n * T.size → (kc j).isSome = true) (hfr : fresh new pin fr hp)
    (hk : ∀ c', n + m ≤ c' → c' ≤ maxLen → K (.xv new (slv 0 (n + m) c')) ((new, .ext (rowsX e (c' * T.size) fun j => if j < n * T.size then kc j else none)) :: hp)) : GenVC P o pin fr hp K := by
  intro E ρ a w hpin hmem hf next Q hn
  subst hl
  obtain ⟨f1, f2, f3⟩ := hfr
  obtain ⟨hu, dd, i, z, hT2⟩ := slT_ok hti hT
  obtain ⟨dn, i0, z0, hTN⟩ := tiOf_ok (hti _ _ hN)
  have htd := hTN.td
  rw [hNk] at htd
  have hdn := tint_inv htd
  subst hdn
  obtain ⟨g, hg1, e1, _⟩ := (evO_ok hf hx).xv_inv
  have e2 := (evO_ok hf hy).int_inv
  obtain ⟨g', ob, b1, b2, ⟨cur, b3, b4, b5⟩, b6⟩ := hmem.sat id _ hobj
  rw [hg1] at b1
  injection b1 with b1
  subst b1
  subst b3
  have hget : ∀ j, j < n * T.size → ∃ y v, kc j = some y ∧ cur[j]? = some v ∧ RepD w ρ.S y v ∧ v.oneCell' = true := by
    intro j hj
    obtain ⟨y, hy⟩ := Option.isSome_iff_exists.1 (hknown j hj)
    obtain ⟨v, v1, v2, v3⟩ := b5 _ y hy
    exact ⟨y, v, hy, v1, v2, v3⟩
  obtain ⟨cs, hcs0⟩ : ∃ cs : List Value, cs = (List.range (n * T.size)).map fun j => (cur[j]?).getD undef := ⟨_, rfl⟩
  have hcl : cs.length = n * T.size := by rw [hcs0]; simp
  have hcs : ∀ j, j < n * T.size → cs[j]? = cur[j]? := by
    intro j hj
    obtain ⟨_, v, _, hv, _⟩ := hget j hj
    rw [hcs0, List.getElem?_map, List.getElem?_range hj, Option.map_some, hv]; rfl
  have hold : (Builtin.firstCells i.size n (.slice (some ⟨g, 0, none⟩) n c)).run P w.drew = .ok cs.toArray w.drew := by
    have hl := run_loadCells_list (P := P) (w := w.drew) ⟨g, 0, none⟩ cs (fun j v hj => by
      have hlt : j < n * T.size := by have := (List.getElem?_eq_some_iff.1 hj).1; omega
      rw [hcs j hlt] at hj
      rw [addr_add, Nat.zero_add]
      show w.cell? ⟨g, j, none⟩ = some v
      rw [cell_of_row w g j cur e' (0, 0) b2]; exact hj)
    rw [hcl] at hl
    rw [hT2.size]
    simpa [Builtin.firstCells] using hl
  have hnb : Builtin.nextslicecap (n + m) c * i.bytes ≤ 281474976710656 := by
    rw [hT2.bytes]
    have := nextslicecap_le (need := n + m) (old := c) hg
    calc _ ≤ 2 * (n + m) * T.bytes := Nat.mul_le_mul_right _ this
      _ = 2 * ((n + m) * T.bytes) := by rw [Nat.mul_assoc]
      _ ≤ _ := by omega
  have hmb : m * i.bytes ≤ 281474976710656 := by
    rw [hT2.bytes]
    have : m * T.bytes ≤ (n + m) * T.bytes := Nat.mul_le_mul_right _ (by omega)
    omega
  have hrun := Lib.run_append_grow_zeros (P := P) w t tn o.type e i z k kn hu hTN.und hT2.info hT2.zero (some ⟨g, 0, none⟩) n c cs hold m hm (by rw [hT2.size]; exact hpos) hg (by omega) hmb hnb
  have hrun' : (execOp a.eval o).run P w = .ok (.value (.slice (some ⟨w.heap.size, 0, none⟩) (n + m) (grownCap w (n + m) c e))) (w.drew.alloc (.cells (cs.toArray ++ Builtin.zeroCells z.cells m ++ Builtin.zeroCells z.cells (grownCap w (n + m) c e - (n + m))) e)) := by
    simp only [execOp, ho, resolve, invoke, builtin, Sem.run_bind, Sem.run_pure, Result.andThen_ok, List.map_toArray, List.map_cons, List.map_nil, e1, e2, slv]
    rw [hrun]; rfl
  have hge := grownCap_ge w (n + m) c e
  have hle : grownCap w (n + m) c e ≤ maxLen := grownCap_le_maxLen w (n + m) c e (by simp only [maxLen]; omega)
  have hgr : Grew w (w.drew.alloc (.cells (cs.toArray ++ Builtin.zeroCells z.cells m ++ Builtin.zeroCells z.cells (grownCap w (n + m) c e - (n + m))) e)) := (Grew.drew w).trans (Grew.alloc w.drew _)
  have hks := hgr.keeps hmem.slt
  obtain ⟨s1, s2, s3⟩ := hmem.newObj (id := new) (b := some w.heap.size) (n := 0) (v := undef) (o := .ext (rowsX e (grownCap w (n + m) c e * T.size) fun j => if j < n * T.size then kc j else none)) f3 (by rw [hpin]; exact f1) hgr (by intro t cs e; cases e)
    ⟨w.heap.size, _, by simp [Env.upd3], heap_alloc_new w.drew _, ⟨_, rfl, by
      have h1 : z.cells.size = T.size := by rw [hT2.cells, hT2.size]
      simp only [Array.size_append, size_zeroCells, List.size_toArray, hcl, h1, ← Nat.add_mul]
      congr 1; omega, fun j y hy => by
      dsimp only at hy
      split at hy
      · rename_i hj
        obtain ⟨y', v, h1, h2, h3, h4⟩ := hget j hj
        rw [hy] at h1
        injection h1 with h1
        subst h1
        refine ⟨v, ?_, h3.mono hks (fun _ _ x => x), h4⟩
        rw [Array.append_assoc, Array.getElem?_append_left (by simp; omega)]
        simpa using (hcs j hj).trans h2
      · cases hy⟩, fun j hj => by have := hmem.slt _ j hj; omega⟩
    (fun g' hg' => by
      simp only [Env.at, Env.upd3, if_true, Option.some.injEq] at hg'
      subst hg'; exact hmem.free_new (Nat.le_refl _))
  refine wp_value hrun' (hn _ _ _ _ _ (hk _ hge hle) s1 (hf.mono s2 (fun _ _ x => x) fun j hj => s3 j fun e => f2 (e ▸ hj)) ?_)
  exact Rep.xv new (slv 0 (n + m) (grownCap w (n + m) c e)) w.heap.size (by simp [Env.upd3]) rfl

/-! ### slices.overlaps -/

theorem overlaps_no {ti : TypeId → Option TI} (hti : TyOK P ti) {o : Oper} {f : FuncId} {fn : Func} {x y : Operand} {ts : Array TypeId} {tS tR e : TypeId} {T : TI} (ho : o.op = .call { callee := .value (.func f), args := #[x, y], argTypes := ts }) (hT : slT ti tS = some (e, T)) (hf : P.funcs[f]? = some fn) (hname : (fn.name == "runtime.NumGoroutine") = false)
    (hb : fn.body.isNone = true) (hnx : Extern.findNext fn = none) (he : Extern.find fn = some (Extern.SlicesOverlaps.overlaps #[tS, tS] #[tR]))
    {pin : List Nat} {fr : Fr} {hp : Hp} {K : SV → Hp → Prop} {id off n c size e' : Nat} {kn : Nat → Option D} {idv z nv ev' : Nat} {rows : List (List D)} (hx : evO fr x = some (.osl idv z rows)) (hobjv : getH hp idv = some (.own ev' z nv)) (hnv : rows.length = nv) (hpos : 0 < nv)
    (hy : evO fr y = some (.xv id (slv off n c))) (hobj : getH hp id = some (.ext (rowsX e' size kn))) (hsz : size ≠ 0) (hk : K (.d (.bool false)) hp) : GenVC P o pin fr hp K := by
  intro E ρ a w _ hm hfs next Q hn
  obtain ⟨hu, dd, i, zz, hT2⟩ := slT_ok hti hT
  obtain ⟨g, hg1, e1, _⟩ := (evO_ok hfs hy).xv_inv
  obtain ⟨g', ob, b1, b2, ⟨cur, b3, b4, b5⟩, b6⟩ := hm.sat id _ hobj
  rw [hg1] at b1
  injection b1 with b1
  subst b1
  subst b3
  obtain ⟨q1, xs, q2, _, _⟩ := hm.sat idv _ hobjv
  obtain ⟨_, _, q3⟩ := (evO_ok hfs hx).osl_inv
  have ev := q3 (by omega)
  rcases q2.2 with ⟨h0, h1⟩ | ⟨gv, cap, curv, r1, _, r2, r3, r4, r5, _⟩
  · omega
  have hgv : ρ.at idv (.own ev' z nv) = some gv := by simp [Env.at, r1, Value.ownBlock]
  have hne : gv ≠ g := by
    intro e0
    subst e0
    have := hm.inj idv _ id _ gv hobjv hobj hgv hg1
    subst this
    rw [hobj] at hobjv; cases hobjv
  have hov := Lib.run_overlaps_apart (P := P) w tS tR e hu T.size (fun w => hT2.run_size w) ⟨gv, 0, none⟩ ⟨g, off, none⟩ (ρ.n idv) cap n c hne ev' e' curv.size cur.size (by simp [World.shape?, r2]) (by simp [World.shape?, b2]) (by omega) (by simp [World.frozen?, r2]) (by simp [World.frozen?, r2])
  have hrun : (execOp a.eval o).run P w = .ok (.value (.bool false)) w := by
    have hev : a.eval (.func f) = .func (.func f) #[] #[] := rfl
    simp only [execOp, ho, resolve, hev, Deferred.ofValue, invoke, Sem.run_bind, Sem.run_pure, Result.andThen_ok, List.map_toArray, List.map_cons, List.map_nil, e1, slv, ev, r1]
    have := run_callFunc_extern (P := P) hf hname hb hnx he #[.slice (some ⟨gv, 0, none⟩) (ρ.n idv) cap, .slice (some ⟨g, off, none⟩) n c] w
    rw [hov] at this
    simpa using this
  exact wp_value hrun (hn _ _ ρ _ _ hk hm hfs (.d _ _ (.bool false)))

/-! ### back to rows -/

theorem known_flat {w : World} {S : Nat → Nat → Prop} {z cap n : Nat} {kn : Nat → Option D} {rows : List (List D)} {cur : Array Value} (hz : ∀ row ∈ rows, row.length = z) (hn : n = rows.length) (hnc : n ≤ cap) (b4 : cur.size = cap * z)
    (b5 : ∀ k x, kn k = some x → ∃ v, cur[k]? = some v ∧ RepD w S x v ∧ v.oneCell' = true) (hkn : ∀ k, k < n * z → kn k = flatK rows k) : Flat w S z rows (cur.toList.take (rows.length * z)) := by
  have hlen : rows.flatten.length = rows.length * z := flat_len hz
  have hle : n * z ≤ cap * z := Nat.mul_le_mul_right _ hnc
  have hgetk : ∀ k, k < n * z → ∃ y v, rows.flatten[k]? = some y ∧ cur[k]? = some v ∧ RepD w S y v ∧ v.oneCell' = true := by
    intro k hk
    have hk' : k < rows.flatten.length := by rw [hlen, ← hn]; exact hk
    have e1 := hkn k hk
    simp only [flatK, List.getElem?_eq_getElem hk'] at e1
    obtain ⟨v, v1, v2, v3⟩ := b5 k _ e1
    exact ⟨_, v, List.getElem?_eq_getElem hk', v1, v2, v3⟩
  have htk : ∀ k, k < n * z → (cur.toList.take (rows.length * z))[k]? = cur[k]? := by
    intro k hk
    rw [List.getElem?_take, if_pos (by rw [← hn]; exact hk)]; simp
  refine ⟨by rw [List.length_take, ← hn]; simp; omega, hz, ?_, ?_⟩
  · intro v hv
    obtain ⟨k, hk, e⟩ := List.getElem_of_mem hv
    have hk' : k < n * z := by rw [List.length_take, ← hn] at hk; omega
    obtain ⟨y, u, _, hu, _, ho1⟩ := hgetk k hk'
    have := htk k hk'
    rw [List.getElem?_eq_getElem hk, hu, e] at this
    injection this with this
    subst this; exact ho1
  · intro i row j x hi hj
    have hx := flat_at hz i row j x hi hj
    have hk : i * z + j < n * z := by
      have := (List.getElem?_eq_some_iff.1 hx).1
      rw [hlen, ← hn] at this; exact this
    obtain ⟨y, v, hy, hv, hr, _⟩ := hgetk _ hk
    rw [hx] at hy
    injection hy with hy
    subst hy
    exact ⟨v, (htk _ hk).trans hv, hr⟩
end
end Go.Proofs.Ytljlhoekpjkgoaa

namespace Go.Proofs.Ytljlhoekpjkgoaa
open Go.RowKit

section
variable {P : Program}

/-- x[l:], whatever comes of it -/
theorem slice_lowU {ti : TypeId → Option TI} (hti : TyOK P ti) {o : Oper} {t e : TypeId} {T : TI} {x lx : Operand} (ho : o.op = .slice t x (some lx) none none) (hT : slT ti t = some (e, T)) {fr : Fr} {hp : Hp} {K : SV → Prop}
    {id off n c : Nat} {k : IntKind} {l : Int} (hx : evO fr x = some (.xv id (slv off n c))) (hl : evO fr lx = some (.d (.int k l))) (h0 : 0 ≤ l) (h1 : l ≤ n) (hk : ∀ v, K (.d (.lit v))) : GenP P o fr hp K := by
  intro E ρ a w hm hf
  obtain ⟨g, hg, e1, _⟩ := (evO_ok hf hx).xv_inv
  have e2 := (evO_ok hf hl).int_inv
  refine ⟨_, _, fun w' _ => slice_run hti ho hT (a' := l.toNat) (b := n) (m' := c) e1 ?_, .d _ _ (.lit _), hk _⟩
  simp [Instr.sliceBounds, e2, run_sliceBound, h0, h1]

theorem len_xv {ti : TypeId → Option TI} (hti : TyOK P ti) {o : Oper} {t e : TypeId} {T : TI} {x : Operand} (ho : o.op = .call { callee := .builtin .len, args := #[x], argTypes := #[t] }) (hT : slT ti t = some (e, T)) {fr : Fr} {hp : Hp} {K : SV → Prop}
    {id off n c : Nat} (hx : evO fr x = some (.xv id (slv off n c))) (hk : K (.d (.int .i64 n))) : GenP P o fr hp K := by
  intro E ρ a w hm hf
  obtain ⟨hu, dd, i, z, hT2⟩ := slT_ok hti hT
  obtain ⟨g, hg, e1, _⟩ := (evO_ok hf hx).xv_inv
  refine ⟨_, _, fun w' _ => ?_, .d _ _ (.int _ _), hk⟩
  simp [run_call_builtin ho, builtin, Builtin.len_, run_underlying hu, e1, slv, goInt]

theorem cap_xv {ti : TypeId → Option TI} (hti : TyOK P ti) {o : Oper} {t e : TypeId} {T : TI} {x : Operand} (ho : o.op = .call { callee := .builtin .cap, args := #[x], argTypes := #[t] }) (hT : slT ti t = some (e, T)) {fr : Fr} {hp : Hp} {K : SV → Prop}
    {id off n c : Nat} (hx : evO fr x = some (.xv id (slv off n c))) (hk : K (.d (.int .i64 c))) : GenP P o fr hp K := by
  intro E ρ a w hm hf
  obtain ⟨hu, dd, i, z, hT2⟩ := slT_ok hti hT
  obtain ⟨g, hg, e1, _⟩ := (evO_ok hf hx).xv_inv
  refine ⟨_, _, fun w' _ => ?_, .d _ _ (.int _ _), hk⟩
  simp [run_call_builtin ho, builtin, Builtin.cap_, run_underlying hu, e1, slv, goInt]

/-- The first argument becomes known cell by cell. -/
theorem CallVC.openR {pin : List Nat} {fr : Fr} {hp hp' : Hp} {f : FuncId} {as : List SV} {K : SV → Hp → Prop} (id id' e z cap n : Nat) {rows : List (List D)} (hpos : 0 < cap) (hn : n = rows.length) (ho : getH hp id = some (.mrow e z cap rows))
    (hfr : fresh id' pin fr hp) (has : id' ∉ SV.idsL as) (hsub : subH hp' hp) (hno : getH hp' id = none)
    (h : (∀ row ∈ rows, row.length = z) → rows.length ≤ cap → cap ≤ maxLen → CallVC P pin fr ((id', .ext (rowsX e (cap * z) (flatK rows))) :: hp') f (.xv id' (slv 0 n cap) :: as) K) : CallVC P pin fr hp f (.mw id z n :: as) K := by
  intro E ρ w tm hpin h3 h4 vs hargs
  obtain ⟨f1, f2, f3⟩ := hfr
  obtain ⟨n0, m0⟩ := h3.sat id _ ho
  rcases m0 with ⟨_, hc0, _⟩ | ⟨hc, g, cur, e1, q1, q2, q3, q4, q6, q7⟩
  · omega
  have hat : ρ.at id (.mrow e z cap rows) = some g := by
    simp only [Env.at]; rw [e1]; have : cap ≠ 0 := by omega
    simp [mblk, this]
  have hfree := h3.free_del ho hat hsub hno
  have hm' := h3.sub (hp' := hp') fun i o hio => subH_ok _ _ hsub i o hio
  obtain ⟨s1, s2, s3⟩ := hm'.newObj (id := id') (b := some g) (n := 0) (v := undef) (o := .ext (rowsX e (cap * z) (flatK rows))) (subH_ids hsub f3) (by rw [hpin]; exact f1) (Grew.refl w) (by intro t cs e; cases e)
    ⟨g, _, by simp [Env.upd3], q1, ⟨cur, rfl, q4, fun k x hx => by
      obtain ⟨i, row, j, r1, r2, r3⟩ := flat_get q6.hz k x hx
      obtain ⟨v, v1, v2⟩ := q6.at_ i row j x r1 r2
      refine ⟨v, ?_, v2, q6.one v (List.mem_of_getElem? v1)⟩
      rw [List.getElem?_take] at v1
      split at v1
      · rw [r3]; simpa using v1
      · cases v1⟩, by simpa [Env.upd3] using q7⟩
    (fun g' hg' => by
      simp only [Env.at, Env.upd3, if_true, Option.some.injEq] at hg'
      subst hg'; exact hfree)
  refine h q6.hz q2 q3 E _ w tm hpin s1 (h4.mono s2 (fun _ _ x => x) fun i hi => s3 i fun e => f2 (e ▸ hi)) vs ⟨by simpa using hargs.1, ?_⟩
  intro j s v hs hv
  cases j with
  | zero =>
    simp at hs
    subst hs
    obtain ⟨A, c', _, _, _, _, _, e2⟩ := (hargs.2 0 _ v rfl hv).mw_inv
    have e3 : v = slv 0 n cap g := by
      have := e2 (by omega)
      subst this
      rw [e1]; simp [slv, hn]
    rw [e3]
    exact .xv id' _ g (by simp [Env.upd3]) rfl
  | succ j =>
    have hs' : as[j]? = some s := by simpa using hs
    exact (hargs.2 (j + 1) s v (by simpa using hs') hv).mono s2 (fun _ _ x => x) fun i hi => s3 i fun e => has (e ▸ SV.mem_idsL hs' hi)

/-- What a result that is known cell by cell is worth. -/
structure CloseP (pin : List Nat) (fr : Fr) (K : SV → Hp → Prop) (id' : Nat) (s : SV) (hp : Hp) : Prop where
  ex : ∃ (id e z cap n : Nat) (kn : Nat → Option D) (rows : List (List D)) (hp' : Hp), s = .xv id (slv 0 n cap) ∧ getH hp id = some (.ext (rowsX e (cap * z) kn)) ∧ (∀ row ∈ rows, row.length = z) ∧ n = rows.length ∧ 0 < cap ∧ n ≤ cap ∧ cap ≤ maxLen ∧
    (∀ k, k < n * z → kn k = flatK rows k) ∧ fresh id' pin fr hp ∧ subH hp' hp ∧ getH hp' id = none ∧ K (.mw id' z n) ((id', .mrow e z cap rows) :: hp')

theorem CallVC.closeR {pin : List Nat} {fr : Fr} {hp : Hp} {f : FuncId} {as : List SV} {K : SV → Hp → Prop} (id' : Nat) (h : CallVC P pin fr hp f as (CloseP pin fr K id')) : CallVC P pin fr hp f as K := by
  intro E ρ0 w0 tm hpin h30 h40 vs hargs
  refine (h E ρ0 w0 tm hpin h30 h40 vs hargs).mono ?_
  rintro e0 w ⟨v, ρ, s, hp1, rfl, ⟨id, e, z, cap, n, kn, rows, hp', rfl, ho, hz, hn, hpos, hnc, hcm, hkn, ⟨f1, f2, f3⟩, hsub, hno, hk⟩, h3, h4, hr⟩
  obtain ⟨g, ob, b1, b2, ⟨cur, b3, b4, b5⟩, b6⟩ := h3.sat id _ ho
  subst b3
  have hfree := h3.free_del ho b1 hsub hno
  have hm' := h3.sub (hp' := hp') fun i o hio => subH_ok _ _ hsub i o hio
  have hmut : MutAt w ρ.S e z cap rows (.slice (some ⟨g, 0, none⟩) rows.length cap) :=
    .inr ⟨hpos, g, cur, rfl, b2, by omega, hcm, b4, known_flat hz hn hnc b4 b5 hkn, b6⟩
  obtain ⟨s1, s2, s3⟩ := hm'.newObj (id := id') (b := ρ.blk id') (n := rows.length) (v := .slice (some ⟨g, 0, none⟩) rows.length cap) (o := .mrow e z cap rows) (subH_ids hsub f3) (by rw [hpin]; exact f1) (Grew.refl w) (by intro t cs e; cases e)
    ⟨by simp [Env.upd3], by simp only [Env.upd3, if_true]; exact hmut⟩
    (fun g' hg' => by
      have hc0 : cap ≠ 0 := by omega
      simp only [Env.at, Env.upd3, if_true, mblk, hc0, if_false, Option.some.injEq] at hg'
      subst hg'; exact hfree)
  obtain ⟨g2, hg2, e2, _⟩ := hr.xv_inv
  rw [b1] at hg2
  injection hg2 with hg2
  subst hg2
  refine ⟨v, _, _, _, rfl, hk, s1, h4.mono s2 (fun _ _ x => x) fun i hi => s3 i fun e => f2 (e ▸ hi), ?_⟩
  rw [e2]
  exact .mw id' z n cap _ (by omega) hcm (fun _ => ⟨_, rfl⟩) (by simp [Env.upd3, hn]) (by simp [Env.upd3, hn])
end
end Go.Proofs.Ytljlhoekpjkgoaa

namespace Go.Proofs.Ytljlhoekpjkgoaa
open Go.RowKit

section
variable {P : Program}

def arrOK (P : Program) (t : TypeId) : Bool := !P.eqGuardType P.depth t

/-- What a run through an array comes to. -/
def eqAll (td : TD) : List D → List D → Option Bool
  | [], [] => some true
  | x :: xs, y :: ys => match eqLeaf td x y with
    | some c => match eqAll td xs ys with | some b => some (c && b) | none => none
    | none => none
  | _, _ => none

theorem eqAll_len {td : TD} : ∀ {xs ys : List D} {b : Bool}, eqAll td xs ys = some b → xs.length = ys.length
  | [], [], _, _ => rfl
  | x :: xs, y :: ys, b, h => by
    simp only [eqAll] at h
    split at h
    · split at h
      · rename_i h'
        simp [eqAll_len h']
      · cases h
    · cases h
  | [], _ :: _, _, h => by simp [eqAll] at h
  | _ :: _, [], _, h => by simp [eqAll] at h

theorem eqAll_ints {k k' : IntKind} : ∀ (l m : List Int), l.length = m.length → eqAll (.int k') (l.map (D.int k)) (m.map (D.int k)) = some (decide (l = m))
  | [], [], _ => rfl
  | a :: l, b :: m, h => by
    have h' : l.length = m.length := by simpa using h
    simp only [List.map_cons, eqAll, eqLeaf, if_true, eqAll_ints l m h', List.cons.injEq, Bool.decide_and]
  | [], _ :: _, h => by simp at h
  | _ :: _, [], h => by simp at h

theorem run_eqAll {t : TypeId} {T : TI} {dd : TypeDesc} {i : TypeInfo} {z : Value} (hT : TIok P t T dd i z) (ha : T.td.isAgg = false) {w : World} {S : Nat → Nat → Prop} (d : Nat) (w' : World) : ∀ (xs ys : List D) (b : Bool) (k : Nat) (us vs : Array Value), eqAll T.td xs ys = some b →
    (∀ (j : Nat) (x : D), xs[j]? = some x → ∃ u, us[k + j]? = some u ∧ RepD w S x u) → (∀ (j : Nat) (x : D), ys[j]? = some x → ∃ u, vs[k + j]? = some u ∧ RepD w S x u) →
    (forIn (m := Sem) (List.range' k xs.length) ((none, ()) : Option Bool × Unit) (fun i _ => do
        let x ← part t us i
        let y ← part t vs i
        let c ← Op.equalIn (d + 1) t x y
        if (!c) = true then pure (ForInStep.done (some false, ())) else pure (ForInStep.yield (none, ())))).run P w' = .ok ((if b then none else some false), ()) w'
  | [], [], b, k, us, vs, h, _, _ => by
    simp [eqAll] at h
    subst h
    simp
  | x :: xs, y :: ys, b, k, us, vs, h, hx, hy => by
    simp only [eqAll] at h
    split at h
    · rename_i c hc
      split at h
      · rename_i b' hb'
        injection h with h
        obtain ⟨u, u1, u2⟩ := hx 0 x rfl
        obtain ⟨v, v1, v2⟩ := hy 0 y rfl
        have hr := run_eqLeaf (P := P) hc u2 v2 hT rfl d w'
        have ih := run_eqAll hT ha d w' xs ys b' (k + 1) us vs hb' (fun j x' h' => by
          obtain ⟨q, q1, q2⟩ := hx (j + 1) x' (by simpa using h')
          exact ⟨q, by rw [← q1]; congr 1; omega, q2⟩) (fun j x' h' => by
          obtain ⟨q, q1, q2⟩ := hy (j + 1) x' (by simpa using h')
          exact ⟨q, by rw [← q1]; congr 1; omega, q2⟩)
        simp only [Nat.add_zero] at u1 v1
        simp only [List.length_cons, List.range'_succ, List.forIn_cons, Sem.run_bind, run_part hT, ha, Bool.false_eq_true, if_false, u1, v1, Result.andThen_ok, hr, Sem.run_ite]
        cases c
        · simp at h
          subst h
          simp
        · simp at h
          subst h
          simpa using ih
      · cases h
    · cases h
  | [], _ :: _, _, _, _, _, h, _, _ => by simp [eqAll] at h
  | _ :: _, [], _, _, _, _, h, _, _ => by simp [eqAll] at h

theorem run_equalIn_arr {t e : TypeId} {n : Nat} {T : TI} {dd : TypeDesc} {i : TypeInfo} {z : Value} (ht : P.underlying t = some (.array n e)) (hT : TIok P e T dd i z) (h1 : T.size = 1) {d : Nat} {us vs : Array Value} {w' : World} {b : Bool}
    (h : (forIn (m := Sem) (List.range' 0 n) ((none, ()) : Option Bool × Unit) (fun i _ => do
        let x ← part e us i
        let y ← part e vs i
        let c ← Op.equalIn (d + 1) e x y
        if (!c) = true then pure (ForInStep.done (some false, ())) else pure (ForInStep.yield (none, ())))).run P w' = .ok ((if b then none else some false), ()) w') :
    (Op.equalIn (d + 2) t (.agg us) (.agg vs)).run P w' = .ok b w' := by
  rw [Op.equalIn]
  simp only [Sem.run_bind, run_underlying ht, Result.andThen_ok, hT.run_size w', h1, Nat.mul_one]
  rw [Std.Legacy.Range.forIn_eq_forIn_range']
  simp only [Std.Legacy.Range.size, Nat.sub_zero, Nat.add_sub_cancel, Nat.div_one]
  first | rw [h] | erw [h]
  cases b <;> simp

theorem bin_arr {ti : TypeId → Option TI} (hti : TyOK P ti) {o : Oper} {t t' e : TypeId} {n : Nat} {x y : Operand} (ho : o.op = .binOp .eql t x y t') {Ts T : TI} (hT : ti t = some Ts) (htd : Ts.td = .array n e) (hE : ti e = some T) (ha : T.td.isAgg = false) (h1 : T.size = 1) (hg : arrOK P t = true) {fr : Fr} {hp : Hp} {K : SV → Prop} {xs ys : List D} {b : Bool}
    (hx : evO fr x = some (.d (.agg xs))) (hy : evO fr y = some (.d (.agg ys))) (hn : xs.length = n) (hb : eqAll T.td xs ys = some b) (hk : K (.d (.bool b))) : GenP P o fr hp K := by
  intro E ρ a w hm hf
  obtain ⟨us, e1, hl1, hh1⟩ := (evO_ok hf hx).dagg_inv
  obtain ⟨vs, e2, hl2, hh2⟩ := (evO_ok hf hy).dagg_inv
  obtain ⟨d0, i0, z0, hT0⟩ := tiOf_ok (hti _ _ hT)
  obtain ⟨d1, i1, z1, hE1⟩ := tiOf_ok (hti _ _ hE)
  have hd : d0 = .array n e := by
    have := hT0.td
    rw [htd] at this
    cases d0 <;> simp [tdOf] at this
    obtain ⟨rfl, rfl⟩ := this
    rfl
  subst hd
  have hlen := eqAll_len hb
  refine ⟨.bool b, _, fun w' _ => ?_, .d _ _ (.bool _), hk⟩
  have k2 : P.eqGuardType P.depth t = false := by simpa [arrOK] using hg
  have hrun := run_eqAll (P := P) hE1 ha (w := w) (S := ρ.S) 9998 w' xs ys b 0 us vs hb (fun j x h => by
    have hj := (List.getElem?_eq_some_iff.1 h).1
    exact ⟨us[j]'(by omega), by rw [Nat.zero_add]; exact Array.getElem?_eq_getElem (by omega), hh1 j x _ h (Array.getElem?_eq_getElem (by omega))⟩) (fun j x h => by
    have hj := (List.getElem?_eq_some_iff.1 h).1
    exact ⟨vs[j]'(by omega), by rw [Nat.zero_add]; exact Array.getElem?_eq_getElem (by omega), hh2 j x _ h (Array.getElem?_eq_getElem (by omega))⟩)
  have heq : (Op.equalIn 10000 t (.agg us) (.agg vs)).run P w' = .ok b w' := run_equalIn_arr hT0.und hE1 h1 (by rw [← hn]; exact hrun)
  simp only [execOp, ho, e1, e2, Sem.run_bind, run_eqGuard_agg w' _ t x y us vs k2, Result.andThen_ok, run_eql_struct, heq]
  rfl
end
end Go.Proofs.Ytljlhoekpjkgoaa
