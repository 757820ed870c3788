/-
  Symbolic operations, one by one: slice literals, make, append.
  Conditions: none.
-/
import Derived.Test.YtljlhoekpjkgoaaSj
namespace Go.Proofs.Ytljlhoekpjkgoaa
open Go.RowKit

section
variable {P : Program}

/-! ### slice literals -/

def asD : SV → Option D
  | .d x => some x
  | .osl _ z rows => some (.sl z rows)
  | _ => none

theorem asD_ok {w : World} {ρ : Env} {s : SV} {v : Value} {x : D} (h : asD s = some x) (hr : Rep w ρ s v) : RepD w ρ.S x v := by
  unfold asD at h
  split at h
  · injection h with h; subst h; cases hr with | d _ _ h => exact h
  · injection h with h; subst h; exact hr.osl_inv.1
  · cases h

def asDL : List SV → Option (List D)
  | [] => some []
  | s :: r => match asD s with | some x => (match asDL r with | some l => some (x :: l) | none => none) | none => none

theorem asDL_ok : ∀ {cs : List SV} {l : List D}, asDL cs = some l → l.length = cs.length ∧ ∀ (j : Nat) (x : D), l[j]? = some x → ∃ s, cs[j]? = some s ∧ asD s = some x := by
  intro cs
  induction cs with
  | nil => intro l h; simp [asDL] at h; subst h; exact ⟨rfl, by simp⟩
  | cons s r ih =>
    intro l h
    simp only [asDL] at h
    split at h
    · rename_i x hx
      split at h
      · rename_i l' hl'
        injection h with h
        subst h
        obtain ⟨i1, i2⟩ := ih hl'
        refine ⟨by simp [i1], fun j y hy => ?_⟩
        cases j with
        | zero => simp at hy; subst hy; exact ⟨s, by simp, hx⟩
        | succ j => simp at hy; simpa using i2 j y hy
      · cases h
    · cases h

/-- The data of a struct. -/
def rowOfS (s : SV) : Option (List D) := match partCells s with | some cs => asDL cs | none => none

def fillR (z : Nat) : List (List D) → List (Nat × SV) → Option (List (List D))
  | rows, [] => some rows
  | rows, (i, s) :: r =>
    match rowOfS s with
    | some row => if row.length = z ∧ i < rows.length then fillR z (rows.set i row) r else none
    | none => none

theorem rowOfS_ok {w : World} {ρ : Env} {s : SV} {v : Value} {row : List D} (h : rowOfS s = some row) (hr : Rep w ρ s v) :
    v.cells.size = row.length ∧ (∀ u ∈ v.cells, u.oneCell' = true) ∧ ∀ (j : Nat) (x : D) (u : Value), row[j]? = some x → v.cells[j]? = some u → RepD w ρ.S x u := by
  unfold rowOfS at h
  split at h
  · rename_i cs hcs
    obtain ⟨k1, k2, k3⟩ := partCells_ok hcs hr
    obtain ⟨e1, e2⟩ := asDL_ok h
    refine ⟨by omega, k2, fun j x u hx hu => ?_⟩
    obtain ⟨s', hs', hx'⟩ := e2 j x hx
    exact asD_ok hx' (k3 j s' u hs' hu)
  · cases h

theorem Flat.set {w : World} {S : Nat → Nat → Prop} {z : Nat} {rows : List (List D)} {vs : List Value} (h : Flat w S z rows vs) {i : Nat} (hi : i < rows.length) {row : List D} (hrow : row.length = z) {pv : List Value} (hpl : pv.length = z)
    (h1 : ∀ u ∈ pv, u.oneCell' = true) (hr : ∀ (j : Nat) (x : D) (u : Value), row[j]? = some x → pv[j]? = some u → RepD w S x u) :
    Flat w S z (rows.set i row) (vs.take (i * z) ++ pv ++ vs.drop (i * z + pv.length)) := by
  have hle : i * z + pv.length ≤ vs.length := by
    rw [h.len, hpl]
    have : (i + 1) * z ≤ rows.length * z := Nat.mul_le_mul_right z hi
    rw [Nat.add_mul] at this
    omega
  refine ⟨?_, ?_, ?_, ?_⟩
  · simp only [List.length_append, List.length_take, List.length_drop, List.length_set]
    rw [← h.len]
    omega
  · intro r hr'
    rcases List.mem_or_eq_of_mem_set hr' with hr' | hr'
    · exact h.hz r hr'
    · rw [hr']; exact hrow
  · intro u hu
    simp only [List.mem_append] at hu
    rcases hu with (hu | hu) | hu
    · exact h.one u (List.mem_of_mem_take hu)
    · exact h1 u hu
    · exact h.one u (List.mem_of_mem_drop hu)
  · intro a r j x hra hx
    rw [splice_getElem? _ _ _ _ hle]
    by_cases e : a = i
    · subst e
      rw [List.getElem?_set_self hi] at hra
      injection hra with hra
      subst hra
      have hj : j < row.length := (List.getElem?_eq_some_iff.1 hx).1
      rw [if_neg (by omega), if_pos (by omega)]
      have : a * z + j - a * z = j := by omega
      rw [this]
      have hpj : pv[j]? = some (pv[j]'(by omega)) := List.getElem?_eq_getElem (by omega)
      exact ⟨_, hpj, hr j x _ hx hpj⟩
    · rw [List.getElem?_set_ne (fun e' => e e'.symm)] at hra
      obtain ⟨v, hv, hrep⟩ := h.at_ a r j x hra hx
      refine ⟨v, ?_, hrep⟩
      have hlt := row_lt h.hz hra hx
      by_cases hlt2 : a < i
      · have : (a + 1) * z ≤ i * z := Nat.mul_le_mul_right z hlt2
        rw [Nat.add_mul] at this
        rw [if_pos (by omega)]
        exact hv
      · have : (i + 1) * z ≤ a * z := Nat.mul_le_mul_right z (by omega)
        rw [Nat.add_mul] at this
        rw [if_neg (by omega), if_neg (by omega)]
        exact hv

theorem fillR_ok {w : World} {ρ : Env} (z : Nat) : ∀ (parts : List (Nat × SV)) (pv : List (Nat × Value)) (rows : List (List D)) (vs : Array Value) (r : List (List D)),
    Flat w ρ.S z rows vs.toList → pv.length = parts.length → (∀ (j : Nat) (i : Nat) (s : SV) (i' : Nat) (v : Value), parts[j]? = some (i, s) → pv[j]? = some (i', v) → i = i' ∧ Rep w ρ s v) → fillR z rows parts = some r →
    ∃ rs, Instr.fill (fun i => some (i * z, z)) vs pv = some rs ∧ Flat w ρ.S z r rs.toList ∧ r.length = rows.length := by
  intro parts
  induction parts with
  | nil =>
    intro pv rows vs r hc hl _ h
    have : pv = [] := List.eq_nil_of_length_eq_zero (by simpa using hl)
    subst this
    simp [fillR] at h
    subst h
    exact ⟨vs, rfl, hc, rfl⟩
  | cons p rest ih =>
    obtain ⟨i, s⟩ := p
    intro pv rows vs r hc hl hp h
    obtain ⟨q, pv', rfl⟩ : ∃ q pv', pv = q :: pv' := by
      cases pv with
      | nil => simp at hl
      | cons q pv' => exact ⟨q, pv', rfl⟩
    obtain ⟨i', v⟩ := q
    obtain ⟨rfl, hr⟩ := hp 0 i s i' v rfl rfl
    simp only [fillR] at h
    split at h
    · rename_i row hrow
      split at h
      · rename_i hcond
        obtain ⟨k1, k2, k3⟩ := rowOfS_ok hrow hr
        have hfit : i * z + v.cells.size ≤ vs.size := by
          have := hc.len
          rw [Array.length_toList] at this
          rw [this, k1, hcond.1]
          have h2 : (i + 1) * z ≤ rows.length * z := Nat.mul_le_mul_right z hcond.2
          rw [Nat.add_mul] at h2
          omega
        have hfc := foldl_cells (i * z) v.cells vs hfit
        have hset := hc.set hcond.2 hcond.1 (pv := v.cells.toList) (by rw [Array.length_toList, k1]; exact hcond.1) (fun u hu => k2 u (by simpa using hu)) (fun j x u hx hu => k3 j x u hx (by simpa using hu))
        rw [← hfc] at hset
        obtain ⟨rs, e1, e2, e3⟩ := ih pv' _ _ r hset (by simpa using hl) (fun j a b a' b' h1 h2 => hp (j + 1) a b a' b' (by simpa using h1) (by simpa using h2)) h
        refine ⟨rs, ?_, e2, by rw [e3]; simp⟩
        simp only [Instr.fill]
        rw [if_neg]
        · exact e1
        · simp; omega
      · cases h
    · cases h

def vBuildSlice (ti : TypeId → Option TI) (t : TypeId) (len id : Nat) (parts : List (Nat × SV)) (pin : List Nat) (fr : Fr) (hp : Hp) (K : SV → Hp → Prop) : Prop :=
  match ti t with
  | some { td := .slice e, .. } =>
    (match ti e with
    | some T =>
      0 < T.size ∧ len * T.size ≤ 16777216 ∧
      (match fillR T.size (List.replicate len T.zero) parts with
      | some rows => fresh id pin fr hp ∧ K (.osl id T.size rows) ((id, .own e T.size rows.length) :: hp)
      | none => Stuck "buildSlice: fill")
    | none => Stuck "buildSlice: an element's type")
  | _ => Stuck "buildSlice: a type"

theorem zero_flat {t : TypeId} {T : TI} {d : TypeDesc} {i : TypeInfo} {z : Value} (hT : TIok P t T d i z) (w : World) (S : Nat → Nat → Prop) (len : Nat) (hpos : 0 < T.size) :
    Flat w S T.size (List.replicate len T.zero) ((Array.range (len * i.size)).map (z.cells[· % z.cells.size]!)).toList := by
  have hzl : T.zero.length = T.size := by rw [hT.zs, List.length_map, Array.length_toList, hT.cells, hT.size]
  have hzc : z.cells.size = T.size := by rw [hT.cells, hT.size]
  refine ⟨by simp [hT.size], ?_, ?_, ?_⟩
  · intro row hr
    rw [List.eq_of_mem_replicate hr]
    exact hzl
  · intro v hv
    simp only [Array.toList_map, List.mem_map] at hv
    obtain ⟨k, _, rfl⟩ := hv
    have hlt : k % z.cells.size < z.cells.size := Nat.mod_lt _ (by omega)
    rw [getElem!_pos z.cells _ hlt]
    exact hT.one _ (Array.getElem_mem hlt)
  · intro a row j x h1 h2
    have hr := List.eq_of_mem_replicate (List.mem_of_getElem? h1)
    subst hr
    have ha : a < len := by simpa using (List.getElem?_eq_some_iff.1 h1).1
    have hj : j < T.size := by rw [← hzl]; exact (List.getElem?_eq_some_iff.1 h2).1
    have hlt : a * T.size + j < len * i.size := by
      have : (a + 1) * T.size ≤ len * T.size := Nat.mul_le_mul_right _ ha
      rw [Nat.add_mul] at this
      rw [hT.size]; omega
    refine ⟨z.cells[(a * T.size + j) % z.cells.size]!, ?_, ?_⟩
    · simp [hlt]
    · have hm : (a * T.size + j) % z.cells.size = j := by rw [hzc, Nat.mul_comm, Nat.mul_add_mod, Nat.mod_eq_of_lt hj]
      rw [hm, getElem!_pos z.cells j (by omega)]
      rw [hT.zs] at h2
      simp only [List.getElem?_map, Option.map_eq_some_iff] at h2
      obtain ⟨u, hu, rfl⟩ := h2
      have : z.cells[j]? = some u := by simpa using hu
      rw [Array.getElem?_eq_getElem (by omega)] at this
      injection this with this
      rw [this]
      exact repD_ofVD w S u

theorem Env.grown_kb (ρ : Env) {id n z i : Nat} {v : Value} {x : HObj} (h : i ≠ id) : (ρ.grown id n z v).kb i x = ρ.kb i x := by
  cases x <;> simp [Env.kb, Env.grown, h]

theorem Env.kb_at {ρ : Env} {i g : Nat} {x : HObj} (h : ρ.kb i x = some g) : ρ.at i x = some g ∨ ρ.blk i = some g ∧ ∃ t cs, x = .ro t cs := by
  cases x with
  | cells t cs => exact .inl h
  | ro t cs => exact .inr ⟨h, t, cs, rfl⟩
  | own => cases h
  | mrow => exact .inl h
  | loop => exact .inl h
  | ext => exact .inl h

theorem newRow_own {w : World} {e z cap : Nat} {cur : Array Value} {rows : List (List D)} {vs : List Value} {S : Nat → Nat → Prop} (hfl : Flat w S z rows vs) (hcur : cur.toList.take (rows.length * z) = vs) (hc : cur.size = cap * z) (hle : rows.length ≤ cap) (hm : cap ≤ maxLen) :
    (w.alloc (.cells cur e)).ownsRow 0 e z (.slice (some ⟨w.heap.size, 0, none⟩) rows.length cap) rows.length vs :=
  ⟨hfl.len, .inr ⟨w.heap.size, cap, cur, rfl, Nat.zero_le _, heap_alloc_new w _, hle, hm, hc, hcur⟩⟩

theorem ok_buildSlice {ti : TypeId → Option TI} (hti : TyOK P ti) {o : Oper} {t : TypeId} {len id : Nat} {parts : Array (Nat × Operand)} (ho : o.op = .buildSlice t len parts) {pin : List Nat} {fr : Fr} {hp : Hp} {K : SV → Hp → Prop}
    (h : match evP fr parts.toList with | some l => vBuildSlice ti t len id l pin fr hp K | none => Stuck "buildSlice: a part") : OpOKk P o pin fr hp K := by
  intro E ρ a w hp' hm hf next Q hn
  split at h
  · rename_i l hl
    obtain ⟨p1, p2⟩ := evP_ok hf _ _ hl
    unfold vBuildSlice at h
    split at h
    · rename_i e _ _ _ hT
      obtain ⟨d, i, z, hT⟩ := tiOf_ok (hti _ _ hT)
      have hd := slice_inv hT.td
      subst hd
      split at h
      · rename_i T hT2
        obtain ⟨d2, i2, z2, hT2⟩ := tiOf_ok (hti _ _ hT2)
        obtain ⟨hpos, hsm, h⟩ := h
        split at h
        · rename_i rows hrows
          obtain ⟨hfr, hk⟩ := h
          obtain ⟨rs, r1, r2, r3⟩ := fillR_ok (ρ := ρ) T.size l _ _ _ rows (zero_flat hT2 w ρ.S len hpos) p1 p2 hrows
          have hlen : rows.length = len := by rw [r3]; simp
          have hrun : (execOp a.eval o).run P w = .ok (.value (.slice (some ⟨w.heap.size, 0, none⟩) rows.length rows.length)) (w.alloc (.cells rs e)) := by
            have e2 : (parts.map fun (x : Nat × Operand) => match x with | (i, x) => (i, a.eval x)) = parts.map fun p => (p.1, a.eval p.2) := rfl
            have hsz2 : i2.size = T.size := hT2.size
            by_cases h0 : len = 0
            · subst h0
              have hrs : rs = #[] := by
                have := r2.len
                rw [hlen] at this
                simp at this
                exact this
              have hl0 : rows.length = 0 := hlen
              rw [hl0, hrs]
              rw [hrs] at r1
              simp only [execOp, ho, Sem.run_bind, Instr.buildSlice, run_underlying hT.und, Result.andThen_ok, hT2.run_size]
              have hr0 : Array.range 0 = #[] := by apply Array.eq_empty_of_size_eq_zero; simp
              have hfill : Instr.fill (fun i => some (i * T.size, T.size)) #[] (List.map (fun p => (p.fst, a.eval p.snd)) parts.toList) = some #[] := by simpa [hr0] using r1
              simp [hfill, newRow, hr0]
            · have := Go.run_buildSlice (P := P) w t e len (parts.map fun p => (p.1, a.eval p.2)) rs i2 z2 hT.und hT2.info hT2.zero (by rw [hsz2]; omega) (by rw [hsz2]; exact fun h => h0 (by rcases Nat.mul_eq_zero.1 h with h | h; exact h; omega)) (by rw [hsz2]; simpa [hsz2] using r1)
              simp only [execOp, ho, Sem.run_bind, this, Result.andThen_ok, Sem.run_pure, hlen]
          obtain ⟨f1, f2, f3⟩ := hfr
          have hrl := r2.len
          rw [Array.length_toList] at hrl
          have hml : rows.length ≤ maxLen := by
            rw [hlen]; simp only [maxLen]
            have : len * 1 ≤ len * T.size := Nat.mul_le_mul_left _ hpos
            omega
          obtain ⟨m1, m2, m3⟩ := hm.newOwn (id := id) (e := e) (z := T.size) (rows := rows) (vs := rs.toList) (Grew.alloc w (.cells rs e)) (newRow_own r2 (List.take_of_length_le (by rw [Array.length_toList, hrl]; exact Nat.le_refl _)) hrl (Nat.le_refl _) hml)
            (by intro g hg; simp [Value.ownBlock] at hg; omega) r2 f3 (by rw [hp']; exact f1)
          refine wp_value hrun (hn _ _ _ _ _ hk m1 (m2 fr _ f2 hf) m3 (KInfo.mk_ (hm.kept_grew (Grew.alloc w _)) (fun _ _ x => .inl x) fun i x g hx hg => ?_))
          have hne : i ≠ id := fun e => f3 (e ▸ ids_of_getH hx (.inl rfl))
          exact ⟨by rw [getH_cons_ne (Ne.symm hne)]; exact hx, by rw [ρ.grown_kb hne]; exact hg⟩
        · exact h.elim
      · exact h.elim
    · exact h.elim
  · exact h.elim

/-! ### append -/

/-- The rows that are appended. -/
def srcRows (ti : TypeId → Option TI) (tx : TypeId) (z : Nat) (x : SV) : Option (List (List D)) :=
  match ti tx with
  | some { td := .string, .. } => (match x with | .d (.str l) => if z = 1 then some (l.map brow) else none | _ => none)
  | some { td := .slice _, .. } => (match x with | .d .nil => some [] | x => match rowsOf x with | some (z', rows) => if z = z' then some rows else none | none => none)
  | _ => none

theorem srcRows_ok {ti : TypeId → Option TI} (hti : TyOK P ti) {tx : TypeId} {z : Nat} {x : SV} {rows : List (List D)} (h : srcRows ti tx z x = some rows) {w : World} {ρ : Env} {v : Value} (hr : Rep w ρ x v) :
    ∃ dx vs, P.underlying tx = some dx ∧ (dx = .string ∨ ∃ e', dx = .slice e') ∧ Flat w ρ.S z rows vs ∧ (∀ u : World, (Builtin.lenOf v).run P u = .ok rows.length u) ∧
      ∀ u : World, u.heap = w.heap → (Builtin.firstCells z rows.length v).run P u = .ok vs.toArray u := by
  unfold srcRows at h
  split at h
  · rename_i hT
    obtain ⟨d, i, zz, hT⟩ := tiOf_ok (hti _ _ hT)
    have hd := string_inv hT.td
    subst hd
    split at h
    · rename_i l
      split at h
      · rename_i hz
        subst hz
        simp at h
        subst h
        obtain ⟨e, hle⟩ := hr.str_inv
        subst e
        refine ⟨.string, l.map fun c => .int .u8 c.toNat, hT.und, .inl rfl, ⟨by simp, ?_, ?_, ?_⟩, ?_, ?_⟩
        · intro row hrow
          obtain ⟨c, _, rfl⟩ := List.mem_map.1 hrow
          rfl
        · intro u hu
          obtain ⟨c, _, rfl⟩ := List.mem_map.1 hu
          rfl
        · intro a row j x h1 h2
          simp only [List.getElem?_map, Option.map_eq_some_iff] at h1
          obtain ⟨c, hc, rfl⟩ := h1
          have hj : j = 0 ∧ x = .int .u8 c.toNat := by
            cases j with
            | zero => simp [brow] at h2; exact ⟨rfl, h2.symm⟩
            | succ j => simp [brow] at h2
          obtain ⟨rfl, rfl⟩ := hj
          exact ⟨.int .u8 c.toNat, by simp [hc], .int _ _⟩
        · intro u
          simp [Builtin.lenOf]; rfl
        · intro u _
          have e2 : ((⟨l.toArray⟩ : ByteArray).extract 0 (l.map brow).length).data = l.toArray := by
            rw [ByteArray.data_extract]
            simp
          simp only [Builtin.firstCells, e2, Sem.run_pure]
          simp
      · cases h
    · cases h
  · rename_i e _ _ _ hT
    obtain ⟨d, i, zz, hT⟩ := tiOf_ok (hti _ _ hT)
    have hd := slice_inv hT.td
    subst hd
    split at h
    · simp at h
      subst h
      have e := hr.nil_inv
      subst e
      exact ⟨_, [], hT.und, .inr ⟨_, rfl⟩, Flat.nil _ _ _, fun u => by simp [Builtin.lenOf], fun u _ => by simp [Builtin.firstCells]⟩
    · split at h
      · rename_i z' rows' hrows
        split at h
        · rename_i hz
          subst hz
          simp at h
          subst h
          obtain ⟨A, cap, b, off, e1, hnc, hcm, hA, hview⟩ := (rowsOf_ok hrows hr).of_sl
          obtain ⟨vs, f1, f2, f3⟩ := hview.flat
          subst e1
          refine ⟨_, vs, hT.und, .inr ⟨_, rfl⟩, f1, fun u => by simp [Builtin.lenOf], fun u hu => ?_⟩
          have hvl := f1.len
          by_cases hne : rows' = []
          · subst hne
            have hvs : vs = [] := List.eq_nil_of_length_eq_zero (by simpa using hvl)
            subst hvs
            cases A <;> simp [Builtin.firstCells, loadCells, loadCellsFrom]
          · rw [hA hne]
            refine run_firstCells_some u z rows'.length ⟨b, off, none⟩ _ _ vs hvl fun j v hv => ?_
            rw [addr_add]
            have := f2 j v hv
            rw [← this]
            simp [World.cell?, hu]
        · cases h
      · cases h
  · cases h

def vAppend (ti : TypeId → Option TI) (t tx : TypeId) (s x : SV) (hp : Hp) (K : SV → Hp → Prop) : Prop :=
  match ti t with
  | some { td := .slice e, .. } =>
    (match ti e with
    | some T =>
      (match srcRows ti tx T.size x with
      | some new =>
        (match s with
        | .osl i z rows => T.size = z ∧ getH hp i = some (.own e z rows.length) ∧ rows.length + new.length ≤ 9223372036854775807 ∧ (rows.length + new.length) * T.bytes ≤ 140737488355328 ∧
          setHK hp i (.own e z (rows.length + new.length)) fun hp' => K (.osl i z (rows ++ new)) hp'
        | _ => Stuck "append: onto what is not its own")
      | none => Stuck "append: what is appended")
    | none => Stuck "append: an element's type")
  | _ => Stuck "append: a type"

theorem setH_cons_eq (id : Nat) (o o' : HObj) (hp : Hp) : setH ((id, o) :: hp) id o' = (id, o') :: hp := by simp [setH]

theorem ok_append {ti : TypeId → Option TI} (hti : TyOK P ti) {o : Oper} {t tx : TypeId} {x y : Operand} (ho : o.op = .call { callee := .builtin .append, args := #[x, y], argTypes := #[t, tx] }) {pin : List Nat} {fr : Fr} {hp : Hp} {K : SV → Hp → Prop}
    (h : ev fr x fun s => ev fr y fun r => vAppend ti t tx s r hp K) : OpOKk P o pin fr hp K := by
  intro E ρ a w hpin hm hf next Q hn
  obtain ⟨s, hs, hv0⟩ := ev_ok h
  obtain ⟨r, hr, hv⟩ := ev_ok hv0
  clear hv0
  have h1 := evO_ok hf hs
  have h2 := evO_ok hf hr
  have hrun : ∀ v w', (Builtin.append_ #[t, tx] o.type #[a.eval x, a.eval y]).run P w = .ok v w' → (execOp a.eval o).run P w = .ok (.value v) w' := by
    intro v w' e
    rw [run_call_builtin ho]
    simp only [builtin, List.map_toArray, List.map_cons, List.map_nil, Sem.run_bind, e, Result.andThen_ok, Sem.run_pure]
  unfold vAppend at hv
  split at hv
  · rename_i e _ _ _ hT
    obtain ⟨d, i, z, hT⟩ := tiOf_ok (hti _ _ hT)
    have hd := slice_inv hT.td
    subst hd
    split at hv
    · rename_i T hT2
      obtain ⟨d2, i2, z2, hT2⟩ := tiOf_ok (hti _ _ hT2)
      split at hv
      · rename_i new hnew
        split at hv
        · rename_i j z' rows
          obtain ⟨hz, hoo, h63, hby, hk⟩ := hv
          rw [setHK_eq] at hk
          subst hz
          obtain ⟨dx, vs, q1, q2, q3, q4, q5⟩ := srcRows_ok hti hnew h2
          obtain ⟨v', w', ρ', a1, a2, a3, a4, a5, a6, a7, a7', a8⟩ := hm.append (P := P) hoo h1 q3 t tx o.type i2 z2 dx hT.und q1 q2 hT2.info hT2.zero hT2.cells hT2.size (a.eval y) q4 (by rw [hT2.size]; exact q5)
            (by simp only [maxLen]; omega) (by rw [hT2.bytes]; exact hby)
          have hnid : ∀ i x g, getH hp i = some x → ρ.kb i x = some g → i ≠ j := fun i x g hx hc e => by
            subst e; rw [hoo] at hx; injection hx with hx; subst hx; cases hc
          refine wp_value (hrun _ _ a1) (hn _ _ _ _ _ hk a2 (a3 fr _ hf) a4 (KInfo.mk_ ⟨a5, fun i x g hx hg => ?_⟩ a6 fun i x g hx hg => ?_))
          · exact a8 i x g (hnid i x g hx hg) hx (Env.kb_at hg)
          · refine ⟨?_, by rw [a7' i x (hnid i x g hx hg)]; exact hg⟩
            rw [getH_setH _ hoo]
            rw [if_neg (hnid i x g hx hg)]
            exact hx
        · exact hv.elim
      · exact hv.elim
    · exact hv.elim
  · exact hv.elim

end
end Go.Proofs.Ytljlhoekpjkgoaa
