/-
  The words of the proofs: data without addresses (D), symbolic values (SV), what it means that a value in a world stands for one (RepD, Rep), symbolic memory, and that all of it is kept while the world grows.
  Conditions: none.
-/
import Derived.WalkKit
import Derived.Maps.AppendAt
import Derived.Deep.Quiet
import Derived.BigQuiet
namespace Go.Proofs.Ytljlhoekpjkgoaa
open Go.RowKit

/-! ### Data and symbolic values -/

inductive D where
  | int (k : IntKind) (n : Int)
  | bool (b : Bool)
  | str (l : List UInt8)
  | nil
  | sl (z : Nat) (rows : List (List D))
  | agg (cs : List D)
  | lit (v : Value)

inductive SV where
  | d (x : D)
  | agg (cs : List SV)
  | tup (vs : List SV)
  | ptr (id off : Nat)
  | ea (z : Nat) (rows : List (List D)) (i off : Nat)
  | osl (id z : Nat) (rows : List (List D))
  | msl (id z off n : Nat)
  | fn (f : FuncId) (first cap : List SV)
  | mw (id z n : Nat)
  | ms (id z lo n ver : Nat)
  | mp (id z i off ver : Nat)
  | zc
  | yld (id : Nat)
  /-- a value that tells the block of an object -/
  | xv (id : Nat) (mk : Nat → Value)

structure Env where
  S : Nat → Nat → Prop
  blk : Nat → Option Nat
  n : Nat → Nat
  tv : Nat → Value

/-- A value that stands for a datum: all cells that it leads to lie in S. -/
inductive RepD (w : World) (S : Nat → Nat → Prop) : D → Value → Prop
  | int (k : IntKind) (n : Int) : RepD w S (.int k n) (.int k n)
  | bool (b : Bool) : RepD w S (.bool b) (.bool b)
  | str (l : List UInt8) (h : l.length ≤ maxLen) : RepD w S (.str l) (.string ⟨l.toArray⟩)
  | nil : RepD w S .nil (.slice none 0 0)
  | sl (z : Nat) (rows : List (List D)) (A : Option Addr) (cap b off : Nat) (f : Nat → Value)
      (hz : ∀ row ∈ rows, row.length = z) (hn : rows.length ≤ cap) (hc : cap ≤ maxLen)
      (hA : rows ≠ [] → A = some ⟨b, off, none⟩)
      (hcell : ∀ (i : Nat) (row : List D) (j : Nat) (x : D), rows[i]? = some row → row[j]? = some x →
        w.cell? ⟨b, off + (i * z + j), none⟩ = some (f (i * z + j)) ∧ S b (off + (i * z + j)) ∧ (f (i * z + j)).oneCell' = true)
      (hrep : ∀ (i : Nat) (row : List D) (j : Nat) (x : D), rows[i]? = some row → row[j]? = some x → RepD w S x (f (i * z + j))) :
      RepD w S (.sl z rows) (.slice A rows.length cap)
  | agg (cs : List D) (vs : Array Value) (hl : vs.size = cs.length)
      (h : ∀ (j : Nat) (x : D) (v : Value), cs[j]? = some x → vs[j]? = some v → RepD w S x v) : RepD w S (.agg cs) (.agg vs)
  | lit (v : Value) : RepD w S (.lit v) v

/-- The slice v is the part of the slice u from its row lo on, of n rows. -/
def PartOf (z lo n : Nat) (u v : Value) : Prop :=
  ∃ A len cap, u = .slice A len cap ∧ lo + n ≤ len ∧ len ≤ cap ∧ (len ≠ 0 → ∃ g, A = some ⟨g, 0, none⟩) ∧ ∃ A', v = .slice A' n (cap - lo) ∧ (cap - lo ≠ 0 → A' = A.map (·.add (lo * z)))

/-- The block in which a slice may write. -/
def mblk : Value → Option Nat
  | .slice (some a) _ cap => if cap = 0 then none else some a.block
  | _ => none

/-- A view of rows at a place. -/
structure View (w : World) (S : Nat → Nat → Prop) (z : Nat) (rows : List (List D)) (b off : Nat) : Prop where
  hz : ∀ row ∈ rows, row.length = z
  cell : ∀ (i : Nat) (row : List D) (j : Nat) (x : D), rows[i]? = some row → row[j]? = some x →
    ∃ v, w.cell? ⟨b, off + (i * z + j), none⟩ = some v ∧ S b (off + (i * z + j)) ∧ v.oneCell' = true ∧ RepD w S x v

inductive Rep (w : World) (ρ : Env) : SV → Value → Prop
  | d (x : D) (v : Value) (h : RepD w ρ.S x v) : Rep w ρ (.d x) v
  | agg (cs : List SV) (vs : Array Value) (hl : vs.size = cs.length)
      (h : ∀ (j : Nat) (s : SV) (v : Value), cs[j]? = some s → vs[j]? = some v → Rep w ρ s v) : Rep w ρ (.agg cs) (.agg vs)
  | tup (cs : List SV) (vs : Array Value) (hl : vs.size = cs.length)
      (h : ∀ (j : Nat) (s : SV) (v : Value), cs[j]? = some s → vs[j]? = some v → Rep w ρ s v) : Rep w ρ (.tup cs) (.tuple vs)
  | ptr (id off g : Nat) (h : ρ.blk id = some g) : Rep w ρ (.ptr id off) (.pointer (some ⟨g, off, none⟩))
  | ea (z : Nat) (rows : List (List D)) (i off b o : Nat) (h : View w ρ.S z rows b o) : Rep w ρ (.ea z rows i off) (.pointer (some ⟨b, o + (i * z + off), none⟩))
  | osl (id z : Nat) (rows : List (List D)) (v : Value) (h : RepD w ρ.S (.sl z rows) v) (hn : rows.length ≤ ρ.n id) (ht : rows.length = ρ.n id → v = ρ.tv id) :
      Rep w ρ (.osl id z rows) v
  | msl (id z off n g cap : Nat) (h : ρ.blk id = some g) (hn : n ≤ cap) (hc : cap ≤ maxLen) : Rep w ρ (.msl id z off n) (.slice (some ⟨g, off, none⟩) n cap)
  | fn (f : FuncId) (first cap : List SV) (fv cv : Array Value) (hf : fv.size = first.length) (hc : cv.size = cap.length)
      (h1 : ∀ (j : Nat) (s : SV) (v : Value), first[j]? = some s → fv[j]? = some v → Rep w ρ s v)
      (h2 : ∀ (j : Nat) (s : SV) (v : Value), cap[j]? = some s → cv[j]? = some v → Rep w ρ s v) : Rep w ρ (.fn f first cap) (.func (.func f) fv cv)
  | mw (id z n cap : Nat) (A : Option Addr) (hn : n ≤ cap) (hc : cap ≤ maxLen) (hA : n ≠ 0 → ∃ g, A = some ⟨g, 0, none⟩) (h1 : n ≤ ρ.n id) (h2 : n = ρ.n id → .slice A n cap = ρ.tv id) : Rep w ρ (.mw id z n) (.slice A n cap)
  | ms (id z lo n ver cap : Nat) (A : Option Addr) (hn : n ≤ cap) (hc : cap ≤ maxLen) (hA : n ≠ 0 → ∃ a, A = some a) (h1 : ver ≤ ρ.n id) (h2 : ver = ρ.n id → PartOf z lo n (ρ.tv id) (.slice A n cap)) : Rep w ρ (.ms id z lo n ver) (.slice A n cap)
  | mp (id z i off ver : Nat) (a : Addr) (h1 : ver ≤ ρ.n id) (h2 : ver = ρ.n id → ∃ g, mblk (ρ.tv id) = some g ∧ a = ⟨g, i * z + off, none⟩) : Rep w ρ (.mp id z i off ver) (.pointer (some a))
  | zc (A : Option Addr) : Rep w ρ .zc (.slice A 0 0)
  | yld (id l : Nat) (h : ρ.blk id = some l) : Rep w ρ (.yld id) (.func (.yield l) #[] #[])
  | xv (id : Nat) (mk : Nat → Value) (g : Nat) (h : ρ.blk id = some g) (h1 : (mk g).oneCell' = true) : Rep w ρ (.xv id mk) (mk g)

theorem RepD.of_sl {w : World} {S : Nat → Nat → Prop} {z : Nat} {rows : List (List D)} {v : Value} (h : RepD w S (.sl z rows) v) :
    ∃ (A : Option Addr) (cap b off : Nat), v = .slice A rows.length cap ∧ rows.length ≤ cap ∧ cap ≤ maxLen ∧ (rows ≠ [] → A = some ⟨b, off, none⟩) ∧ View w S z rows b off := by
  cases h with
  | sl z rows A cap b off f hz hn hc hA hcell hrep =>
    exact ⟨A, cap, b, off, rfl, hn, hc, hA, hz, fun i row j x h1 h2 => ⟨_, (hcell i row j x h1 h2).1, (hcell i row j x h1 h2).2.1, (hcell i row j x h1 h2).2.2, hrep i row j x h1 h2⟩⟩

open Classical in
theorem RepD.mk_sl {w : World} {S : Nat → Nat → Prop} {z : Nat} {rows : List (List D)} {A : Option Addr} {cap b off n : Nat} (hn : rows.length ≤ cap) (hc : cap ≤ maxLen)
    (hA : rows ≠ [] → A = some ⟨b, off, none⟩) (hv : View w S z rows b off) (he : n = rows.length) : RepD w S (.sl z rows) (.slice A n cap) := by
  subst he
  have key : ∀ (i : Nat) (row : List D) (j : Nat) (x : D), rows[i]? = some row → row[j]? = some x →
      w.cell? ⟨b, off + (i * z + j), none⟩ = some ((w.cell? ⟨b, off + (i * z + j), none⟩).getD undef) := by
    intro i row j x h1 h2
    obtain ⟨v, hv1, _⟩ := hv.cell i row j x h1 h2
    rw [hv1]; rfl
  refine RepD.sl z rows A cap b off (fun k => (w.cell? ⟨b, off + k, none⟩).getD undef) hv.hz hn hc hA ?_ ?_
  · intro i row j x h1 h2
    obtain ⟨v, hv1, hs, ho, _⟩ := hv.cell i row j x h1 h2
    exact ⟨key i row j x h1 h2, hs, by simp only [hv1, Option.getD_some]; exact ho⟩
  · intro i row j x h1 h2
    obtain ⟨v, hv1, hs, ho, hr⟩ := hv.cell i row j x h1 h2
    simp only [hv1, Option.getD_some]; exact hr

/-! ### Growth -/

/-- Every stable cell reads as before. -/
def Keeps (S : Nat → Nat → Prop) (w w' : World) : Prop := ∀ b i, S b i → w'.cell? ⟨b, i, none⟩ = w.cell? ⟨b, i, none⟩

theorem RepD.mono {w w' : World} {S S' : Nat → Nat → Prop} {x : D} {v : Value} (h : RepD w S x v) (hk : Keeps S w w') (hs : ∀ b i, S b i → S' b i) : RepD w' S' x v := by
  induction h with
  | int k n => exact .int k n
  | bool b => exact .bool b
  | str l h => exact .str l h
  | nil => exact .nil
  | sl z rows A cap b off f hz hn hc hA hcell hrep ih =>
    refine .sl z rows A cap b off f hz hn hc hA ?_ ih
    intro i row j x h1 h2
    obtain ⟨a1, a2, a3⟩ := hcell i row j x h1 h2
    exact ⟨(hk _ _ a2).trans a1, hs _ _ a2, a3⟩
  | agg cs vs hl h ih => exact .agg cs vs hl ih
  | lit v => exact .lit v

theorem View.mono {w w' : World} {S S' : Nat → Nat → Prop} {z : Nat} {rows : List (List D)} {b off : Nat} (h : View w S z rows b off) (hk : Keeps S w w') (hs : ∀ b i, S b i → S' b i) : View w' S' z rows b off :=
  ⟨h.hz, fun i row j x h1 h2 => by
    obtain ⟨v, a1, a2, a3, a4⟩ := h.cell i row j x h1 h2
    exact ⟨v, (hk _ _ a2).trans a1, hs _ _ a2, a3, a4.mono hk hs⟩⟩

mutual
def SV.ids : SV → List Nat
  | .d _ => []
  | .agg cs => SV.idsL cs
  | .tup cs => SV.idsL cs
  | .ptr id _ => [id]
  | .ea _ _ _ _ => []
  | .osl id _ _ => [id]
  | .msl id _ _ _ => [id]
  | .fn _ first cap => SV.idsL first ++ SV.idsL cap
  | .mw id _ _ => [id]
  | .ms id _ _ _ _ => [id]
  | .mp id _ _ _ _ => [id]
  | .zc => []
  | .yld id => [id]
  | .xv id _ => [id]
def SV.idsL : List SV → List Nat
  | [] => []
  | s :: r => SV.ids s ++ SV.idsL r
end

theorem SV.mem_idsL {cs : List SV} {j : Nat} {s : SV} {id : Nat} (h : cs[j]? = some s) (hm : id ∈ s.ids) : id ∈ SV.idsL cs := by
  induction cs generalizing j with
  | nil => simp at h
  | cons c r ih =>
    cases j with
    | zero => simp at h; subst h; simp [SV.idsL, hm]
    | succ j => simp at h; simp [SV.idsL, ih h]

/-- How an id's meaning may move: not at all, or an own row has grown. -/
def Env.moved (ρ ρ' : Env) (id : Nat) : Prop := ρ'.blk id = ρ.blk id ∧ ((ρ'.n id = ρ.n id ∧ ρ'.tv id = ρ.tv id) ∨ ρ.n id < ρ'.n id)

theorem Env.moved_trans {ρ ρ' ρ'' : Env} {id : Nat} (h : ρ.moved ρ' id) (k : ρ'.moved ρ'' id) : ρ.moved ρ'' id := by
  refine ⟨k.1.trans h.1, ?_⟩
  rcases h.2 with ⟨a, b⟩ | a <;> rcases k.2 with ⟨c, d⟩ | c
  · exact .inl ⟨c.trans a, d.trans b⟩
  · right; omega
  · right; omega
  · right; omega

theorem Env.moved_refl (ρ : Env) (id : Nat) : ρ.moved ρ id := ⟨rfl, .inl ⟨rfl, rfl⟩⟩

theorem Rep.mono {w w' : World} {ρ ρ' : Env} {s : SV} {v : Value} (h : Rep w ρ s v) (hk : Keeps ρ.S w w') (hs : ∀ b i, ρ.S b i → ρ'.S b i)
    (hm : ∀ id ∈ s.ids, ρ.moved ρ' id) : Rep w' ρ' s v := by
  induction h with
  | d x v h => exact .d x v (h.mono hk hs)
  | agg cs vs hl h ih => exact .agg cs vs hl fun j s v h1 h2 => ih j s v h1 h2 fun id hid => hm id (by simp only [SV.ids]; exact SV.mem_idsL h1 hid)
  | tup cs vs hl h ih => exact .tup cs vs hl fun j s v h1 h2 => ih j s v h1 h2 fun id hid => hm id (by simp only [SV.ids]; exact SV.mem_idsL h1 hid)
  | ptr id off g h => exact .ptr id off g ((hm id (by simp [SV.ids])).1.trans h)
  | ea z rows i off b o h => exact .ea z rows i off b o (h.mono hk hs)
  | osl id z rows v h hn ht =>
    obtain ⟨_, hh⟩ := hm id (by simp [SV.ids])
    rcases hh with ⟨e1, e2⟩ | hlt
    · exact .osl id z rows v (h.mono hk hs) (by rw [e1]; exact hn) (by rw [e1, e2]; exact ht)
    · exact .osl id z rows v (h.mono hk hs) (by omega) (fun e => by omega)
  | msl id z off n g cap h hn hc => exact .msl id z off n g cap ((hm id (by simp [SV.ids])).1.trans h) hn hc
  | fn f first cap fv cv hf hc h1 h2 ih1 ih2 =>
    exact .fn f first cap fv cv hf hc (fun j s v a b => ih1 j s v a b fun id hid => hm id (by simp only [SV.ids, List.mem_append]; exact .inl (SV.mem_idsL a hid)))
      (fun j s v a b => ih2 j s v a b fun id hid => hm id (by simp only [SV.ids, List.mem_append]; exact .inr (SV.mem_idsL a hid)))
  | mw id z n cap A hn hc hA h1 h2 =>
    obtain ⟨_, hh⟩ := hm id (by simp [SV.ids])
    rcases hh with ⟨e1, e2⟩ | hlt
    · exact .mw id z n cap A hn hc hA (by omega) (by rw [e1, e2]; exact h2)
    · exact .mw id z n cap A hn hc hA (by omega) (fun e => by omega)
  | ms id z lo n ver cap A hn hc hA h1 h2 =>
    obtain ⟨_, hh⟩ := hm id (by simp [SV.ids])
    rcases hh with ⟨e1, e2⟩ | hlt
    · exact .ms id z lo n ver cap A hn hc hA (by omega) (by rw [e1, e2]; exact h2)
    · exact .ms id z lo n ver cap A hn hc hA (by omega) (fun e => by omega)
  | mp id z i off ver a h1 h2 =>
    obtain ⟨_, hh⟩ := hm id (by simp [SV.ids])
    rcases hh with ⟨e1, e2⟩ | hlt
    · exact .mp id z i off ver a (by omega) (by rw [e1, e2]; exact h2)
    · exact .mp id z i off ver a (by omega) (fun e => by omega)
  | zc A => exact .zc A
  | yld id l h => exact .yld id l ((hm id (by simp [SV.ids])).1.trans h)
  | xv id mk g h h1 => exact .xv id mk g ((hm id (by simp [SV.ids])).1.trans h) h1

/-! ### Symbolic memory -/

/-- The cells of rows, one after another. -/
structure Flat (w : World) (S : Nat → Nat → Prop) (z : Nat) (rows : List (List D)) (vs : List Value) : Prop where
  len : vs.length = rows.length * z
  hz : ∀ row ∈ rows, row.length = z
  one : ∀ v ∈ vs, v.oneCell' = true
  at_ : ∀ (i : Nat) (row : List D) (j : Nat) (x : D), rows[i]? = some row → row[j]? = some x → ∃ v, vs[i * z + j]? = some v ∧ RepD w S x v

abbrev Fr := List (Nat × SV)

def getF : Fr → Nat → Option SV
  | [], _ => none
  | (k, s) :: r, t => if k = t then some s else getF r t

def idsF (fr : Fr) : List Nat := fr.flatMap fun p => p.2.ids

/-- The frame, symbolically. -/
def FSat (ρ : Env) (w : World) (fr : Fr) (tm : Array Value) : Prop := ∀ t s, getF fr t = some s → ∃ v, tm[t]? = some v ∧ Rep w ρ s v

/-- What a loop over a function is at: ready for a round; in a round; left by a jump. -/
inductive LoopAt where
  | ready
  | busy
  | done (c : Code)

/-- A loop over a function: what its rounds run, and from which frame. -/
structure LoopI where
  nt : Nat
  ps : Array Tmp
  assign : Code
  body : Code
  fr : Fr

/-- What another kind of object's block holds. -/
structure ExtO where
  ids : List Nat
  sat : World → Env → Obj → Prop
  keep : ∀ (w w' : World) (ρ ρ' : Env) (o : Obj), Keeps ρ.S w w' → (∀ b i, ρ.S b i → ρ'.S b i) → (∀ id ∈ ids, ρ.moved ρ' id) → sat w ρ o → sat w' ρ' o
  nd : ∀ (w : World) (ρ : Env) (x : Option (List Deferred)), ¬ sat w ρ (.deferred x)

inductive HObj where
  | cells (t : TypeId) (cs : List SV)
  | ro (t : TypeId) (cs : List SV)
  | own (e z n : Nat)
  | mrow (e z cap : Nat) (rows : List (List D))
  | loop (L : LoopI) (at_ : LoopAt)
  | ext (X : ExtO)

def HObj.ids : HObj → List Nat
  | .cells _ cs => SV.idsL cs
  | .ro _ cs => SV.idsL cs
  | .own _ _ _ => []
  | .mrow _ _ _ _ => []
  | .loop L _ => idsF L.fr
  | .ext X => X.ids

/-- The cells of block g hold cs. -/
def CellsAt (w : World) (ρ : Env) (g : Nat) (t : TypeId) (cs : List SV) : Prop :=
  ∃ cur : Array Value, w.heap[g]? = some (.cells cur t (0, 0)) ∧ cur.size = cs.length ∧ (∀ v ∈ cur, v.oneCell' = true) ∧ ∀ (j : Nat) (s : SV) (v : Value), cs[j]? = some s → cur[j]? = some v → Rep w ρ s v

/-- The slice v, of n rows and room for cap, holds the rows, in a block of its own. -/
def MutAt (w : World) (S : Nat → Nat → Prop) (e z cap : Nat) (rows : List (List D)) (v : Value) : Prop :=
  (rows = [] ∧ cap = 0 ∧ ∃ A, v = .slice A 0 0) ∨
  (0 < cap ∧ ∃ g cur, v = .slice (some ⟨g, 0, none⟩) rows.length cap ∧ w.heap[g]? = some (.cells cur e (0, 0)) ∧ rows.length ≤ cap ∧ cap ≤ maxLen ∧ cur.size = cap * z ∧
    Flat w S z rows (cur.toList.take (rows.length * z)) ∧ ∀ i, ¬ S g i)

def LoopAt.state : LoopAt → LoopState × Option Code
  | .ready => (.ready, none)
  | .busy => (.busy, none)
  | .done c => (.done, some c)

def HSat (w : World) (ρ : Env) (id : Nat) : HObj → Prop
  | .cells t cs => ∃ g, ρ.blk id = some g ∧ CellsAt w ρ g t cs ∧ ∀ i, ¬ ρ.S g i
  | .ro t cs => ∃ g, ρ.blk id = some g ∧ CellsAt w ρ g t cs
  | .own e z n => ρ.n id = n ∧ ∃ xs, w.ownsRow 0 e z (ρ.tv id) (ρ.n id) xs ∧ (∀ g, (ρ.tv id).ownBlock = some g → ∀ i, ρ.S g i → i < ρ.n id * z) ∧ ∀ v ∈ xs, v.oneCell' = true
  | .mrow e z cap rows => ρ.n id = rows.length ∧ MutAt w ρ.S e z cap rows (ρ.tv id)
  | .loop L s => ∃ g r, ρ.blk id = some g ∧ w.heap[g]? = some (.loop r) ∧ r.params = L.ps ∧ r.assign = L.assign ∧ r.body = L.body ∧ r.tmps.size = L.nt ∧ FSat ρ w L.fr r.tmps ∧ (r.state, r.pending) = s.state
  | .ext X => ∃ g o, ρ.blk id = some g ∧ w.heap[g]? = some o ∧ X.sat w ρ o ∧ ∀ i, ¬ ρ.S g i

/-- The block that an object may write. -/
def Env.at (ρ : Env) (id : Nat) : HObj → Option Nat
  | .cells _ _ => ρ.blk id
  | .ro _ _ => none
  | .own _ _ _ => (ρ.tv id).ownBlock
  | .mrow _ _ _ _ => mblk (ρ.tv id)
  | .loop _ _ => ρ.blk id
  | .ext _ => ρ.blk id

abbrev Hp := List (Nat × HObj)

def getH : Hp → Nat → Option HObj
  | [], _ => none
  | (k, o) :: r, t => if k = t then some o else getH r t

def setH : Hp → Nat → HObj → Hp
  | [], _, _ => []
  | (k, o) :: r, t, x => if k = t then (k, x) :: r else (k, o) :: setH r t x

def idsH (hp : Hp) : List Nat := hp.flatMap fun p => p.1 :: p.2.ids

theorem ids_of_getF {fr : Fr} {t : Nat} {s : SV} {id : Nat} (h : getF fr t = some s) (hm : id ∈ s.ids) : id ∈ idsF fr := by
  induction fr with
  | nil => simp [getF] at h
  | cons p r ih =>
    obtain ⟨k, s'⟩ := p
    simp only [getF] at h
    simp only [idsF, List.flatMap_cons, List.mem_append]
    by_cases e : k = t
    · simp [e] at h; subst h; exact .inl hm
    · simp [e] at h; exact .inr (ih h)

theorem ids_of_getH {hp : Hp} {i : Nat} {o : HObj} {id : Nat} (h : getH hp i = some o) (hm : id = i ∨ id ∈ o.ids) : id ∈ idsH hp := by
  induction hp with
  | nil => simp [getH] at h
  | cons p r ih =>
    obtain ⟨k, o'⟩ := p
    simp only [getH] at h
    simp only [idsH, List.flatMap_cons, List.mem_append, List.mem_cons]
    by_cases e : k = i
    · simp [e] at h; subst h; subst e
      rcases hm with rfl | hm
      · exact .inl (.inl rfl)
      · exact .inl (.inr hm)
    · simp [e] at h; exact .inr (ih h)

/-- The call whose body is walked: the world, the stable cells and the blocks that it may write, as it began. -/
structure Entry where
  w : World
  S : Nat → Nat → Prop
  B : Nat → Prop
  pin : List Nat
  ρ : Env
  /-- the round in which the frame runs -/
  rd : Option Nat
  /-- the blocks for calls that rounds defer; the first k of them are the activation's own -/
  D : List Nat
  k : Nat

/-- What was printed stays; draws only go on. -/
def OutD (a b : World) : Prop := a.output = b.output ∧ b.drawn ≤ a.drawn
theorem OutD.trans {a b c : World} (h : OutD a b) (k : OutD b c) : OutD a c := ⟨h.1.trans k.1, Nat.le_trans k.2 h.2⟩
theorem OutD.refl (a : World) : OutD a a := ⟨rfl, Nat.le_refl _⟩

/-- The memory, symbolically. -/
structure Mem (E : Entry) (ρ : Env) (hp : Hp) (w : World) : Prop where
  os : w.os = E.w.os
  tape : w.tape = E.w.tape
  output : OutD w E.w
  size : E.w.heap.size ≤ w.heap.size
  old : ∀ b, b < E.w.heap.size → ¬ E.B b → w.heap[b]? = E.w.heap[b]?
  sold : ∀ b i, E.S b i → ρ.S b i
  snew : ∀ b i, ρ.S b i → b < E.w.heap.size → ¬ E.B b → E.S b i
  slt : ∀ b i, ρ.S b i → b < w.heap.size
  kp : Keeps E.S E.w w
  sat : ∀ id o, getH hp id = some o → HSat w ρ id o
  inj : ∀ id o id' o' g, getH hp id = some o → getH hp id' = some o' → ρ.at id o = some g → ρ.at id' o' = some g → id = id'
  hb : ∀ id o g, getH hp id = some o → ρ.at id o = some g → E.w.heap.size ≤ g ∨ E.B g
  mv : ∀ id ∈ E.pin, E.ρ.moved ρ id
  ro : ∀ id t cs g, getH hp id = some (.ro t cs) → ρ.blk id = some g → (∀ id' o', getH hp id' = some o' → ρ.at id' o' ≠ some g)
  md : ∀ b ∈ E.D, w.heap[b]? = some (.deferred (some []))

structure St where
  fr : Fr
  hp : Hp

/-- The mark of a block for calls that rounds defer. -/
def markOf (b : Nat) : Deferred := { target := .collected b, args := #[] }

structure Sat (E : Entry) (nt : Nat) (σ : St) (a : Act) (w : World) : Prop where
  nt : a.tmps.size = nt
  df : a.defers = (E.D.take E.k).map markOf
  mem : ∃ ρ, Mem E ρ σ.hp w ∧ FSat ρ w σ.fr a.tmps

end Go.Proofs.Ytljlhoekpjkgoaa
