/-
  Symbolic operations, one by one: struct and slice literals, make, append.
  Conditions: none.
-/
import Derived.Test.YtljlhoekpjkgoaaSi
import Derived.Great.BuildSlice
namespace Go.Proofs.Ytljlhoekpjkgoaa
open Go.RowKit

section
variable {P : Program}

/-! ### filling -/

theorem foldl_set (off : Nat) : ∀ (l : List Value) (k : Nat) (cs : Array Value),
    ((l.zipIdx k).foldl (fun (cs : Array Value) (p : Value × Nat) => cs.setIfInBounds (off + p.2) p.1) cs).size = cs.size ∧
    ∀ j, ((l.zipIdx k).foldl (fun (cs : Array Value) (p : Value × Nat) => cs.setIfInBounds (off + p.2) p.1) cs)[j]? = if off + k ≤ j ∧ j < off + k + l.length ∧ j < cs.size then l[j - (off + k)]? else cs[j]? := by
  intro l
  induction l with
  | nil => intro k cs; simp; intro j h1 h2; omega
  | cons v r ih =>
    intro k cs
    simp only [List.zipIdx_cons, List.foldl_cons]
    obtain ⟨h1, h2⟩ := ih (k + 1) (cs.setIfInBounds (off + k) v)
    refine ⟨by rw [h1]; simp, fun j => ?_⟩
    rw [h2 j]
    simp only [Array.size_setIfInBounds, List.length_cons]
    by_cases hj : j < cs.size
    · by_cases e : j = off + k
      · subst e
        rw [if_neg (by omega), if_pos ⟨by omega, by omega, hj⟩]
        simp [hj]
      · by_cases hin : off + (k + 1) ≤ j ∧ j < off + (k + 1) + r.length ∧ j < cs.size
        · rw [if_pos hin, if_pos ⟨by omega, by omega, hj⟩]
          obtain ⟨q, hq⟩ : ∃ q, j - (off + k) = q + 1 := ⟨j - (off + (k + 1)), by omega⟩
          rw [hq]
          simp only [List.getElem?_cons_succ]
          congr 1
          omega
        · rw [if_neg hin, if_neg (by omega), Array.getElem?_setIfInBounds_ne (by omega)]
    · rw [if_neg (by omega), if_neg (by omega)]
      rw [Array.getElem?_eq_none (by simpa using hj), Array.getElem?_eq_none (by omega)]

theorem foldl_cells (off : Nat) (vc cs : Array Value) (h : off + vc.size ≤ cs.size) :
    (vc.zipIdx.foldl (fun cs (c, j) => cs.setIfInBounds (off + j) c) cs).toList = cs.toList.take off ++ vc.toList ++ cs.toList.drop (off + vc.toList.length) := by
  rw [← Array.foldl_toList]
  have e : vc.zipIdx.toList = vc.toList.zipIdx := by simp
  rw [e]
  obtain ⟨h1, h2⟩ := foldl_set off vc.toList 0 cs
  apply List.ext_getElem?
  intro j
  rw [splice_getElem? _ _ _ _ (by simpa using h)]
  have := h2 j
  rw [Array.getElem?_toList]
  refine Eq.trans this ?_
  simp only [Nat.add_zero, Array.length_toList, Array.getElem?_toList]
  by_cases a : j < off
  · rw [if_pos a, if_neg (by omega)]
  · rw [if_neg a]
    by_cases b : j < off + vc.size
    · rw [if_pos b, if_pos ⟨by omega, b, by omega⟩]
    · rw [if_neg b, if_neg (by omega)]

def fillS (place : Nat → Option (Nat × Nat)) : List SV → List (Nat × SV) → Option (List SV)
  | cs, [] => some cs
  | cs, (i, s) :: r =>
    match place i with
    | some (off, size) =>
      match partCells s with
      | some ns => if ns.length = size ∧ off + size ≤ cs.length then fillS place (splice cs off ns) r else none
      | none => none
    | none => none

/-- The cells of symbolic structs. -/
def CellsRep (w : World) (ρ : Env) (cs : List SV) (vs : Array Value) : Prop :=
  vs.size = cs.length ∧ (∀ v ∈ vs, v.oneCell' = true) ∧ ∀ (j : Nat) (s : SV) (v : Value), cs[j]? = some s → vs[j]? = some v → Rep w ρ s v

theorem fillS_ok {w : World} {ρ : Env} (place : Nat → Option (Nat × Nat)) : ∀ (parts : List (Nat × SV)) (pv : List (Nat × Value)) (cs : List SV) (vs : Array Value) (r : List SV),
    CellsRep w ρ cs vs → pv.length = parts.length → (∀ (j : Nat) (i : Nat) (s : SV) (i' : Nat) (v : Value), parts[j]? = some (i, s) → pv[j]? = some (i', v) → i = i' ∧ Rep w ρ s v) → fillS place cs parts = some r →
    ∃ rs, Instr.fill place vs pv = some rs ∧ CellsRep w ρ r rs := by
  intro parts
  induction parts with
  | nil =>
    intro pv cs vs r hc hl _ h
    have : pv = [] := List.eq_nil_of_length_eq_zero (by simpa using hl)
    subst this
    simp [fillS] at h
    subst h
    exact ⟨vs, rfl, hc⟩
  | cons p rest ih =>
    obtain ⟨i, s⟩ := p
    intro pv cs vs r hc hl hp h
    obtain ⟨q, pv', rfl⟩ : ∃ q pv', pv = q :: pv' := by
      cases pv with
      | nil => simp at hl
      | cons q pv' => exact ⟨q, pv', rfl⟩
    obtain ⟨i', v⟩ := q
    obtain ⟨rfl, hr⟩ := hp 0 i s i' v rfl rfl
    simp only [fillS] at h
    split at h
    · rename_i off size hpl
      split at h
      · rename_i ns hns
        split at h
        · rename_i hcond
          obtain ⟨k1, k2, k3⟩ := partCells_ok hns hr
          obtain ⟨c1, c2, c3⟩ := hc
          have hfit : off + v.cells.size ≤ vs.size := by omega
          have hnew : CellsRep w ρ (splice cs off ns) (v.cells.zipIdx.foldl (fun cs (c, j) => cs.setIfInBounds (off + j) c) vs) := by
            have hfc := foldl_cells off v.cells vs hfit
            generalize v.cells.zipIdx.foldl (fun cs (c, j) => cs.setIfInBounds (off + j) c) vs = us at hfc ⊢
            have hus : us = (vs.toList.take off ++ v.cells.toList ++ vs.toList.drop (off + v.cells.toList.length)).toArray := by rw [← hfc]
            refine ⟨?_, ?_, ?_⟩
            · rw [hus]
              simp only [List.size_toArray, List.length_append, List.length_take, List.length_drop, splice, Array.length_toList]
              omega
            · intro u hu
              rw [hus] at hu
              simp only [List.mem_toArray, List.mem_append] at hu
              rcases hu with (hu | hu) | hu
              · exact c2 u (by simpa using List.mem_of_mem_take hu)
              · exact k2 u (by simpa using hu)
              · exact c2 u (by simpa using List.mem_of_mem_drop hu)
            · intro j s' u hs hu
              rw [hus] at hu
              have hu' : (vs.toList.take off ++ v.cells.toList ++ vs.toList.drop (off + v.cells.toList.length))[j]? = some u := by rw [← hu]; simp
              rw [splice_getElem? _ _ _ _ (by simpa using hfit)] at hu'
              unfold splice at hs
              rw [splice_getElem? _ _ _ _ (by omega)] at hs
              have hvl : v.cells.toList.length = ns.length := by rw [Array.length_toList]; exact k1
              rw [hvl] at hu'
              split at hs
              · rename_i hlt; rw [if_pos hlt] at hu'; exact c3 j s' u hs (by simpa using hu')
              · rename_i hlt
                rw [if_neg hlt] at hu'
                split at hs
                · rename_i hlt2; rw [if_pos hlt2] at hu'; exact k3 _ s' u hs (by simpa using hu')
                · rename_i hlt2; rw [if_neg hlt2] at hu'; exact c3 j s' u hs (by simpa using hu')
          obtain ⟨rs, e1, e2⟩ := ih pv' _ _ r hnew (by simpa using hl) (fun j a b a' b' h1 h2 => hp (j + 1) a b a' b' (by simpa using h1) (by simpa using h2)) h
          refine ⟨rs, ?_, e2⟩
          simp only [Instr.fill, hpl]
          rw [if_neg]
          · exact e1
          · simp; omega
        · cases h
      · cases h
    · cases h

def placesS (ti : TypeId → Option TI) : List (TypeId × Nat) → Option (List (Nat × Nat))
  | [] => some []
  | (ft, off) :: r =>
    match ti ft with
    | some T => match placesS ti r with | some l => some ((off, T.size) :: l) | none => none
    | none => none

theorem placesS_ok {ti : TypeId → Option TI} (hti : TyOK P ti) : ∀ (fs : List Field) (l : List (Nat × Nat)), placesS ti (fs.map fun f => (f.type, f.offset)) = some l → fs.mapM (fun f => (P.info? f.type).map fun i => (f.offset, i.size)) = some l := by
  intro fs
  induction fs with
  | nil => intro l h; simp [placesS] at h; subst h; simp
  | cons f r ih =>
    intro l h
    simp only [List.map_cons, placesS] at h
    split at h
    · rename_i T hT
      obtain ⟨d, i, z, hT⟩ := tiOf_ok (hti _ _ hT)
      split at h
      · rename_i l' hl'
        simp at h
        subst h
        simp [ih l' hl', hT.info, hT.size]
      · cases h
    · cases h

def evP (fr : Fr) : List (Nat × Operand) → Option (List (Nat × SV))
  | [] => some []
  | (i, x) :: r => match evO fr x with
    | some s => match evP fr r with | some l => some ((i, s) :: l) | none => none
    | none => none

theorem evP_ok {ρ : Env} {w : World} {fr : Fr} {a : Act} (hf : FSat ρ w fr a.tmps) : ∀ (xs : List (Nat × Operand)) (l : List (Nat × SV)), evP fr xs = some l →
    (xs.map fun p => (p.1, a.eval p.2)).length = l.length ∧ ∀ (j : Nat) (i : Nat) (s : SV) (i' : Nat) (v : Value), l[j]? = some (i, s) → (xs.map fun p => (p.1, a.eval p.2))[j]? = some (i', v) → i = i' ∧ Rep w ρ s v := by
  intro xs
  induction xs with
  | nil => intro l h; simp [evP] at h; subst h; simp
  | cons p r ih =>
    obtain ⟨i0, x⟩ := p
    intro l h
    simp only [evP] at h
    split at h
    · rename_i s hs
      split at h
      · rename_i l' hl'
        simp at h
        subst h
        obtain ⟨a1, a2⟩ := ih l' hl'
        refine ⟨by simpa using a1, fun j i s' i' v h1 h2 => ?_⟩
        cases j with
        | zero => simp at h1 h2; obtain ⟨rfl, rfl⟩ := h1; obtain ⟨rfl, rfl⟩ := h2; exact ⟨rfl, evO_ok hf hs⟩
        | succ j => exact a2 j i s' i' v (by simpa using h1) (by simpa using h2)
      · cases h
    · cases h

def vBuild (ti : TypeId → Option TI) (t : TypeId) (parts : List (Nat × SV)) (K : SV → Prop) : Prop :=
  match ti t with
  | some T =>
    (match T.td with
    | .struct fs =>
      (match placesS ti fs with
      | some pl => (match fillS (fun i => pl[i]?) (T.zero.map .d) parts with | some cs => K (mkAgg cs) | none => Stuck "build: fill")
      | none => Stuck "build: places")
    | .array _ e =>
      (match ti e with
      | some T2 => (match fillS (fun i => some (i * T2.size, T2.size)) (T.zero.map .d) parts with | some cs => K (mkAgg cs) | none => Stuck "build: fill")
      | none => Stuck "build: an element's type")
    | _ => Stuck "build: a type")
  | none => Stuck "build: a type"

theorem zero_cells {t : TypeId} {T : TI} {d : TypeDesc} {i : TypeInfo} {z : Value} (hT : TIok P t T d i z) (w : World) (ρ : Env) : CellsRep w ρ (T.zero.map .d) z.cells := by
  refine ⟨by simp [hT.zs], hT.one, ?_⟩
  intro j s v hs hv
  rw [hT.zs] at hs
  simp only [List.map_map, List.getElem?_map, Option.map_eq_some_iff] at hs
  obtain ⟨u, hu, rfl⟩ := hs
  have : u = v := by
    have hu' : z.cells[j]? = some u := by simpa using hu
    rw [hu'] at hv; injection hv
  subst this
  exact .d _ _ (repD_ofVD w ρ.S u)

theorem ok_build {ti : TypeId → Option TI} (hti : TyOK P ti) {o : Oper} {t : TypeId} {parts : Array (Nat × Operand)} (ho : o.op = .build t parts) {fr : Fr} {hp : Hp} {K : SV → Prop}
    (h : match evP fr parts.toList with | some l => vBuild ti t l K | none => Stuck "build: a part") : PureOK P o fr hp K := by
  intro E ρ a w hm hf
  split at h
  · rename_i l hl
    obtain ⟨p1, p2⟩ := evP_ok hf _ _ hl
    have hrun : ∀ cells : Array Value, P.built t (parts.toList.map fun p => (p.1, a.eval p.2)) = some cells → ∀ w', Kept ρ hp w w' → (execOp a.eval o).run P w' = .ok (.value (.agg cells)) w' := by
      intro cells e w' _
      have := run_build (P := P) w' t (parts.map fun p => (p.1, a.eval p.2)) cells (by simpa using e)
      have e2 : (parts.map fun (x : Nat × Operand) => match x with | (i, x) => (i, a.eval x)) = parts.map fun p => (p.1, a.eval p.2) := rfl
      simp only [execOp, ho, Sem.run_bind, this, Result.andThen_ok, Sem.run_pure]
    unfold vBuild at h
    split at h
    · rename_i T hT
      obtain ⟨d, i, z, hT⟩ := tiOf_ok (hti _ _ hT)
      have hz0 := zero_cells hT w ρ
      have htd := hT.td
      split at h
      · rename_i fs hfs
        rw [hfs] at htd
        obtain ⟨gs, rfl, hfs'⟩ := struct_inv htd
        subst hfs'
        split at h
        · rename_i pl hpl
          have hpl' := placesS_ok hti _ _ hpl
          split at h
          · rename_i cs hcs
            obtain ⟨rs, r1, r2⟩ := fillS_ok _ l _ _ _ cs hz0 p1 p2 hcs
            refine ⟨_, _, hrun rs ?_, rep_mkAgg r2.1 r2.2.2, h⟩
            simp only [Program.built, hT.info, hT.und, hT.zero, hpl', List.getElem?_toArray]
            exact r1
          · exact h.elim
        · exact h.elim
      · rename_i n e he
        rw [he] at htd
        have hd := array_inv htd
        subst hd
        split at h
        · rename_i T2 hT2
          obtain ⟨d2, i2, z2, hT2⟩ := tiOf_ok (hti _ _ hT2)
          split at h
          · rename_i cs hcs
            obtain ⟨rs, r1, r2⟩ := fillS_ok _ l _ _ _ cs hz0 p1 p2 hcs
            refine ⟨_, _, hrun rs ?_, rep_mkAgg r2.1 r2.2.2, h⟩
            simp only [Program.built, hT.info, hT.und, hT.zero, hT2.info, hT2.size]
            exact r1
          · exact h.elim
        · exact h.elim
      · exact h.elim
    · exact h.elim
  · exact h.elim

end
end Go.Proofs.Ytljlhoekpjkgoaa
