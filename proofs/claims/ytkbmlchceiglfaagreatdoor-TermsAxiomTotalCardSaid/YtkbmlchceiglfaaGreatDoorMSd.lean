/-
  Symbolic operations: what each operation of the model does to symbolic values and memory, and that this is so.
  Conditions: none.
-/
import Derived.Test.YtkbmlchceiglfaaGreatDoorMSc
import Derived.Lib.ConvBytes
namespace Go.Proofs.YtkbmlchceiglfaaGreatDoor
set_option linter.unusedSectionVars false
set_option linter.unusedSimpArgs false
set_option linter.unusedVariables false
open Go.RowKit

/-- Where a symbolic walk stands still, and why. -/
def Stuck (_why : String) : Prop := False

/-- Two ways. -/
def brB (b : Bool) (y n : Prop) : Prop := match b with | true => y | false => n
theorem brB_split {b : Bool} {y n : Prop} (h1 : b = true → y) (h2 : b = false → n) : brB b y n := by cases b; exact h2 rfl; exact h1 rfl
theorem brB_dec {p : Prop} [Decidable p] {y n : Prop} (h1 : p → y) (h2 : ¬ p → n) : brB (decide p) y n := brB_split (fun h => h1 (of_decide_eq_true h)) (fun h => h2 (of_decide_eq_false h))
theorem brB_ndec {p : Prop} [Decidable p] {y n : Prop} (h1 : ¬ p → y) (h2 : p → n) : brB (!decide p) y n := brB_split (fun h => h1 (by simpa using h)) (fun h => h2 (by simpa using h))
theorem brB_t {b : Bool} {y n : Prop} (h : brB b y n) : b = true → y := by rintro rfl; exact h
theorem brB_f {b : Bool} {y n : Prop} (h : brB b y n) : b = false → n := by rintro rfl; exact h

/-- The same as setH, delH, step by step. -/
def setHK : Hp → Nat → HObj → (Hp → Prop) → Prop
  | [], _, _, K => K []
  | (k, o) :: r, t, x, K => if k = t then K ((k, x) :: r) else setHK r t x fun r' => K ((k, o) :: r')
theorem setHK_eq : ∀ (hp : Hp) (t : Nat) (x : HObj) (K : Hp → Prop), setHK hp t x K = K (setH hp t x) := by
  intro hp
  induction hp with
  | nil => intro t x K; rfl
  | cons p r ih =>
    obtain ⟨k, o⟩ := p
    intro t x K
    simp only [setHK, setH]
    split
    · rfl
    · rw [ih]

/-! ### Types in short -/

inductive TD where
  | bool | int (k : IntKind) | string | slice (e : TypeId) | array (n : Nat) (e : TypeId) | struct (fs : List (TypeId × Nat)) | pointer (e : TypeId) | other

def tdOf : TypeDesc → TD
  | .bool => .bool
  | .int k => .int k
  | .string => .string
  | .slice e => .slice e
  | .array n e => .array n e
  | .struct fs => .struct (fs.toList.map fun f => (f.type, f.offset))
  | .pointer e => .pointer e
  | _ => .other

def TD.isAgg : TD → Bool
  | .struct _ => true
  | .array _ _ => true
  | _ => false

/-- A value without addresses, symbolically. -/
def ofV : Value → SV
  | .int k n => .d (.int k n)
  | .bool b => .d (.bool b)
  | .string s => if s.data.toList.length ≤ 9223372036854775807 then .d (.str s.data.toList) else .d (.lit (.string s))
  | .slice none 0 0 => .d .nil
  | v => .d (.lit v)

def ofVD : Value → D
  | .int k n => .int k n
  | .bool b => .bool b
  | .string s => if s.data.toList.length ≤ 9223372036854775807 then .str s.data.toList else .lit (.string s)
  | .slice none 0 0 => .nil
  | v => .lit v

structure TI where
  td : TD
  size : Nat
  bytes : Nat
  zero : List D

def tiOf (P : Program) (t : TypeId) : Option TI :=
  match P.underlying t, P.info? t with
  | some d, some i =>
    match i.zero with
    | some z => if z.cells.size == i.size && z.cells.all (·.oneCell') then some ⟨tdOf d, i.size, i.bytes, z.cells.toList.map ofVD⟩ else none
    | none => none
  | _, _ => none

theorem repD_ofVD (w : World) (S : Nat → Nat → Prop) (v : Value) : RepD w S (ofVD v) v := by
  unfold ofVD
  split
  · exact .int _ _
  · exact .bool _
  · rename_i s
    split
    · rename_i h
      have : RepD w S (.str s.data.toList) (.string ⟨s.data.toList.toArray⟩) := .str _ (by simpa only [maxLen] using h)
      simpa using this
    · exact .lit _
  · exact .nil
  · exact .lit _

theorem rep_ofV (w : World) (ρ : Env) (v : Value) : Rep w ρ (ofV v) v := by
  have h := repD_ofVD w ρ.S v
  have e : ofV v = .d (ofVD v) := by
    unfold ofV ofVD
    split <;> first | rfl | (split <;> rfl)
  rw [e]
  exact .d _ _ h

structure TIok (P : Program) (t : TypeId) (T : TI) (d : TypeDesc) (i : TypeInfo) (z : Value) : Prop where
  und : P.underlying t = some d
  td : tdOf d = T.td
  info : P.info? t = some i
  zero : i.zero = some z
  size : i.size = T.size
  bytes : i.bytes = T.bytes
  cells : z.cells.size = i.size
  one : ∀ v ∈ z.cells, v.oneCell' = true
  zs : T.zero = z.cells.toList.map ofVD

theorem tiOf_ok {P : Program} {t : TypeId} {T : TI} (h : tiOf P t = some T) : ∃ d i z, TIok P t T d i z := by
  unfold tiOf at h
  split at h
  · rename_i d i hd hi
    split at h
    · rename_i z hz
      split at h
      · rename_i hc
        simp at h hc
        subst h
        exact ⟨d, i, z, hd, rfl, hi, hz, rfl, rfl, hc.1, fun v hv => by
          obtain ⟨k, hk, rfl⟩ := Array.mem_iff_getElem.1 hv
          exact hc.2 k hk, rfl⟩
      · cases h
    · cases h
  · cases h

theorem TIok.run_size {P : Program} {t : TypeId} {T : TI} {d : TypeDesc} {i : TypeInfo} {z : Value} (h : TIok P t T d i z) (w : World) : (sizeOf t).run P w = .ok T.size w := by
  simp [sizeOf, typeInfo, h.info, h.size]

theorem TIok.run_isAgg {P : Program} {t : TypeId} {T : TI} {d : TypeDesc} {i : TypeInfo} {z : Value} (h : TIok P t T d i z) (w : World) : (isAgg t).run P w = .ok T.td.isAgg w := by
  have := h.td
  unfold isAgg
  simp only [Sem.run_bind, run_underlying h.und, Result.andThen_ok]
  cases d <;> simp [tdOf] at this <;> rw [← this] <;> rfl

/-- A table of types that tells what is so. -/
def TyOK (P : Program) (ti : TypeId → Option TI) : Prop := ∀ t T, ti t = some T → tiOf P t = some T

/-! ### Operands -/

def evO (fr : Fr) : Operand → Option SV
  | .tmp t => getF fr t
  | .const v => some (ofV v)
  | .global _ => none
  | .func f => some (.fn f [] [])

theorem evO_ok {ρ : Env} {w : World} {fr : Fr} {a : Act} (hf : FSat ρ w fr a.tmps) {x : Operand} {s : SV} (h : evO fr x = some s) : Rep w ρ s (a.eval x) := by
  cases x with
  | tmp t =>
    obtain ⟨v, h1, h2⟩ := hf t s h
    simp only [Act.eval, Array.getD_eq_getD_getElem?, h1, Option.getD_some]
    exact h2
  | const v =>
    simp only [evO, Option.some.injEq] at h
    subst h
    exact rep_ofV w ρ v
  | global g => simp [evO] at h
  | func f =>
    simp only [evO, Option.some.injEq] at h
    subst h
    exact .fn f [] [] #[] #[] rfl rfl (by simp) (by simp)

/-- An operand's symbolic value, handed on. -/
def ev (fr : Fr) (x : Operand) (K : SV → Prop) : Prop :=
  match evO fr x with
  | some s => K s
  | none => Stuck "an operand without a value"

theorem ev_ok {fr : Fr} {x : Operand} {K : SV → Prop} (h : ev fr x K) : ∃ s, evO fr x = some s ∧ K s := by
  unfold ev at h
  split at h
  · exact ⟨_, by assumption, h⟩
  · exact h.elim

/-! ### Operations: the form of a step -/

/-- From every memory and frame that this fits, the operation comes to a value that K knows. -/
def OpOK (P : Program) (o : Oper) (pin : List Nat) (fr : Fr) (hp : Hp) (K : SV → Hp → Prop) : Prop :=
  ∀ (E : Entry) (ρ : Env) (a : Act) (w : World), E.pin = pin → Mem E ρ hp w → FSat ρ w fr a.tmps → ∀ (next : Act → World → Prop) (Q : Exit → Act → World → Prop),
    (∀ v w' ρ' s hp', K s hp' → Mem E ρ' hp' w' → FSat ρ' w' fr a.tmps → Rep w' ρ' s v → next (a.put o.dst v) w') → o.wp P a w next Q

theorem wp_value {P : Program} {o : Oper} {a : Act} {w w' : World} {v : Value} {next : Act → World → Prop} {Q : Exit → Act → World → Prop}
    (h : (execOp a.eval o).run P w = .ok (.value v) w') (hn : next (a.put o.dst v) w') : o.wp P a w next Q := by
  unfold Oper.wp; rw [h]; exact hn

theorem wp_skipv {P : Program} {o : Oper} {a : Act} {w w' : World} {next : Act → World → Prop} {Q : Exit → Act → World → Prop}
    (h : (execOp a.eval o).run P w = .ok .skip w') (hn : next (a.put o.dst undef) w') : o.wp P a w next Q := by
  unfold Oper.wp; rw [h]; exact hn

/-- All stable cells, and all objects that are cells, are as they were. -/
structure Kept (ρ : Env) (hp : Hp) (w w' : World) : Prop where
  s : Keeps ρ.S w w'
  o : ∀ id x g, getH hp id = some x → ρ.kb id x = some g → w'.heap[g]? = w.heap[g]?

theorem Kept.refl (ρ : Env) (hp : Hp) (w : World) : Kept ρ hp w w := ⟨fun _ _ _ => rfl, fun _ _ _ _ _ => rfl⟩

theorem Mem.obj_lt {E : Entry} {ρ : Env} {hp : Hp} {w : World} (h : Mem E ρ hp w) {id : Nat} {x : HObj} {g : Nat} (hx : getH hp id = some x) (hg : ρ.kb id x = some g) : g < w.heap.size := by
  cases x with
  | cells t cs => exact h.blk_lt hx hg
  | ro t cs => exact h.ro_lt hx hg
  | own => cases hg
  | mrow => exact h.blk_lt hx hg
  | loop => exact h.blk_lt hx hg
  | ext => exact h.blk_lt hx hg
  | glob => cases hg

theorem Mem.kept_grew {E : Entry} {ρ : Env} {hp : Hp} {w w' : World} (h : Mem E ρ hp w) (hg : Grew w w') : Kept ρ hp w w' :=
  ⟨hg.keeps h.slt, fun _ _ g hx hb => hg.block g (h.obj_lt hx hb)⟩

/-- What is kept behind a step was kept before it. -/
structure KInfo (ρ : Env) (hp : Hp) (w : World) (ρ' : Env) (hp' : Hp) (w' : World) : Prop where
  k : Kept ρ hp w w'
  b : ∀ w'', Kept ρ' hp' w' w'' → Kept ρ hp w w''

theorem KInfo.mk_ {ρ ρ' : Env} {hp hp' : Hp} {w w' : World} (hk : Kept ρ hp w w') (hS : ∀ b i, ρ.S b i → ρ'.S b i) (ho : ∀ id x g, getH hp id = some x → ρ.kb id x = some g → getH hp' id = some x ∧ ρ'.kb id x = some g) : KInfo ρ hp w ρ' hp' w' :=
  ⟨hk, fun _ h => ⟨fun b i hs => (h.s b i (hS b i hs)).trans (hk.s b i hs), fun id x g hx hg => (h.o id x g (ho id x g hx hg).1 (ho id x g hx hg).2).trans (hk.o id x g hx hg)⟩⟩

/-- A step that only computes: it yields one value in every world that keeps what is known. -/
def PureOK (P : Program) (o : Oper) (fr : Fr) (hp : Hp) (K : SV → Prop) : Prop :=
  ∀ (E : Entry) (ρ : Env) (a : Act) (w : World), Mem E ρ hp w → FSat ρ w fr a.tmps → ∃ v s, (∀ w', Kept ρ hp w w' → (execOp a.eval o).run P w' = .ok (.value v) w') ∧ Rep w ρ s v ∧ K s

/-- A step that keeps what is known. -/
def OpOKk (P : Program) (o : Oper) (pin : List Nat) (fr : Fr) (hp : Hp) (K : SV → Hp → Prop) : Prop :=
  ∀ (E : Entry) (ρ : Env) (a : Act) (w : World), E.pin = pin → Mem E ρ hp w → FSat ρ w fr a.tmps → ∀ (next : Act → World → Prop) (Q : Exit → Act → World → Prop),
    (∀ v w' ρ' s hp', K s hp' → Mem E ρ' hp' w' → FSat ρ' w' fr a.tmps → Rep w' ρ' s v → KInfo ρ hp w ρ' hp' w' → next (a.put o.dst v) w') → o.wp P a w next Q

theorem OpOKk.drop {P : Program} {o : Oper} {pin : List Nat} {fr : Fr} {hp : Hp} {K : SV → Hp → Prop} (h : OpOKk P o pin fr hp K) : OpOK P o pin fr hp K :=
  fun E ρ a w h1 h2 h3 next Q hn => h E ρ a w h1 h2 h3 next Q fun v w' ρ' s hp' a b c d _ => hn v w' ρ' s hp' a b c d

theorem OpOK.pure {P : Program} {o : Oper} {pin : List Nat} {fr : Fr} {hp : Hp} {K : SV → Hp → Prop} (h : PureOK P o fr hp fun s => K s hp) : OpOK P o pin fr hp K := by
  intro E ρ a w _ hm hf next Q hn
  obtain ⟨v, s, h1, h2, h3⟩ := h E ρ a w hm hf
  exact wp_value (h1 w (Kept.refl ρ hp w)) (hn v w ρ s hp h3 hm hf h2)

theorem Rep.int_inv {w : World} {ρ : Env} {k : IntKind} {n : Int} {v : Value} (h : Rep w ρ (.d (.int k n)) v) : v = .int k n := by
  cases h with | d _ _ h => cases h; rfl
theorem Rep.bool_inv {w : World} {ρ : Env} {b : Bool} {v : Value} (h : Rep w ρ (.d (.bool b)) v) : v = .bool b := by
  cases h with | d _ _ h => cases h; rfl
theorem Rep.str_inv {w : World} {ρ : Env} {l : List UInt8} {v : Value} (h : Rep w ρ (.d (.str l)) v) : v = .string ⟨l.toArray⟩ ∧ l.length ≤ 9223372036854775807 := by
  cases h with | d _ _ h => cases h with | str _ h => exact ⟨rfl, by simpa only [maxLen] using h⟩
theorem Rep.nil_inv {w : World} {ρ : Env} {v : Value} (h : Rep w ρ (.d .nil) v) : v = .slice none 0 0 := by
  cases h with | d _ _ h => cases h; rfl
theorem Rep.lit_inv {w : World} {ρ : Env} {u v : Value} (h : Rep w ρ (.d (.lit u)) v) : v = u := by
  cases h with | d _ _ h => cases h; rfl
theorem Rep.ptr_inv {w : World} {ρ : Env} {id off : Nat} {v : Value} (h : Rep w ρ (.ptr id off) v) : ∃ g, ρ.blk id = some g ∧ v = .pointer (some ⟨g, off, none⟩) := by
  cases h with | ptr _ _ g h => exact ⟨g, h, rfl⟩
theorem Rep.ea_inv {w : World} {ρ : Env} {z i off : Nat} {rows : List (List D)} {v : Value} (h : Rep w ρ (.ea z rows i off) v) : ∃ b o, View w ρ.S z rows b o ∧ v = .pointer (some ⟨b, o + (i * z + off), none⟩) := by
  cases h with | ea _ _ _ _ b o h => exact ⟨b, o, h, rfl⟩
theorem Rep.agg_inv {w : World} {ρ : Env} {cs : List SV} {v : Value} (h : Rep w ρ (.agg cs) v) : ∃ vs : Array Value, v = .agg vs ∧ vs.size = cs.length ∧ ∀ (j : Nat) (s : SV) (u : Value), cs[j]? = some s → vs[j]? = some u → Rep w ρ s u := by
  cases h with | agg _ vs hl h => exact ⟨vs, rfl, hl, h⟩
theorem Rep.dagg_inv {w : World} {ρ : Env} {cs : List D} {v : Value} (h : Rep w ρ (.d (.agg cs)) v) : ∃ vs : Array Value, v = .agg vs ∧ vs.size = cs.length ∧ ∀ (j : Nat) (x : D) (u : Value), cs[j]? = some x → vs[j]? = some u → RepD w ρ.S x u := by
  cases h with | d _ _ h => cases h with | agg _ vs hl h => exact ⟨vs, rfl, hl, h⟩
theorem Rep.tup_inv {w : World} {ρ : Env} {cs : List SV} {v : Value} (h : Rep w ρ (.tup cs) v) : ∃ vs : Array Value, v = .tuple vs ∧ vs.size = cs.length ∧ ∀ (j : Nat) (s : SV) (u : Value), cs[j]? = some s → vs[j]? = some u → Rep w ρ s u := by
  cases h with | tup _ vs hl h => exact ⟨vs, rfl, hl, h⟩

theorem Rep.msl_inv {w : World} {ρ : Env} {id z off n : Nat} {v : Value} (h : Rep w ρ (.msl id z off n) v) : ∃ g cap, ρ.blk id = some g ∧ v = .slice (some ⟨g, off, none⟩) n cap ∧ n ≤ cap ∧ cap ≤ maxLen := by
  cases h with | msl _ _ _ _ g cap h hn hc => exact ⟨g, cap, h, rfl, hn, hc⟩
theorem Rep.osl_inv {w : World} {ρ : Env} {id z : Nat} {rows : List (List D)} {v : Value} (h : Rep w ρ (.osl id z rows) v) : RepD w ρ.S (.sl z rows) v ∧ rows.length ≤ ρ.n id ∧ (rows.length = ρ.n id → v = ρ.tv id) := by
  cases h with | osl _ _ _ _ h hn ht => exact ⟨h, hn, ht⟩
theorem Rep.fn_inv {w : World} {ρ : Env} {f : FuncId} {first cap : List SV} {v : Value} (h : Rep w ρ (.fn f first cap) v) : ∃ fv cv : Array Value, v = .func (.func f) fv cv ∧ fv.size = first.length ∧ cv.size = cap.length ∧
    (∀ (j : Nat) (s : SV) (u : Value), first[j]? = some s → fv[j]? = some u → Rep w ρ s u) ∧ (∀ (j : Nat) (s : SV) (u : Value), cap[j]? = some s → cv[j]? = some u → Rep w ρ s u) := by
  cases h with | fn _ _ _ fv cv hf hc h1 h2 => exact ⟨fv, cv, rfl, hf, hc, h1, h2⟩

/-- The cells of a struct, symbolically: data where all are data. -/
def allD : List SV → Option (List D)
  | [] => some []
  | .d x :: r => match allD r with | some l => some (x :: l) | none => none
  | _ :: _ => none

def mkAgg (cs : List SV) : SV := match allD cs with | some l => .d (.agg l) | none => .agg cs

theorem allD_map {cs : List SV} {l : List D} (h : allD cs = some l) : cs = l.map .d := by
  induction cs generalizing l with
  | nil => simp [allD] at h; subst h; rfl
  | cons s r ih =>
    cases s <;> simp [allD] at h
    split at h
    · rename_i l' hl
      simp at h
      subst h
      simp [ih hl]
    · cases h

theorem rep_mkAgg {w : World} {ρ : Env} {cs : List SV} {vs : Array Value} (hl : vs.size = cs.length) (h : ∀ (j : Nat) (s : SV) (v : Value), cs[j]? = some s → vs[j]? = some v → Rep w ρ s v) : Rep w ρ (mkAgg cs) (.agg vs) := by
  unfold mkAgg
  split
  · rename_i l hl'
    have e := allD_map hl'
    subst e
    refine .d _ _ (.agg l vs (by simpa using hl) fun j x v hx hv => ?_)
    have := h j (.d x) v (by simp [hx]) hv
    cases this with | d _ _ h => exact h
  · exact .agg cs vs hl h

/-- The cells of a value, where it is a struct. -/
def cellsOfS : SV → Option (List SV)
  | .d (.agg ds) => some (ds.map .d)
  | .agg cs => some cs
  | _ => none

theorem cellsOfS_ok {w : World} {ρ : Env} {s : SV} {v : Value} {cs : List SV} (h : cellsOfS s = some cs) (hr : Rep w ρ s v) : ∃ vs : Array Value, v = .agg vs ∧ vs.size = cs.length ∧ ∀ (j : Nat) (s : SV) (u : Value), cs[j]? = some s → vs[j]? = some u → Rep w ρ s u := by
  unfold cellsOfS at h
  split at h
  · simp at h; subst h
    obtain ⟨vs, e, hl, hh⟩ := hr.dagg_inv
    refine ⟨vs, e, by simpa using hl, fun j s u hs hu => ?_⟩
    simp only [List.getElem?_map, Option.map_eq_some_iff] at hs
    obtain ⟨x, hx, rfl⟩ := hs
    exact .d _ _ (hh j x u hx hu)
  · simp at h; subst h
    exact hr.agg_inv
  · cases h

/-- Is it a value of one cell? -/
def leafD : D → Bool
  | .agg _ => false
  | .lit v => v.oneCell'
  | _ => true

def leafS : SV → Bool
  | .d x => leafD x
  | .agg _ => false
  | .tup _ => false
  | _ => true

theorem leafD_ok {w : World} {S : Nat → Nat → Prop} {x : D} {v : Value} (h : RepD w S x v) (hl : leafD x = true) : v.oneCell' = true := by
  cases h <;> simp_all [leafD, Value.oneCell']

theorem leafS_ok {w : World} {ρ : Env} {s : SV} {v : Value} (h : Rep w ρ s v) (hl : leafS s = true) : v.oneCell' = true := by
  cases h with
  | d x v h => exact leafD_ok h (by simpa [leafS] using hl)
  | agg => simp [leafS] at hl
  | tup => simp [leafS] at hl
  | ptr => rfl
  | ea => rfl
  | osl id z rows v h => exact leafD_ok h rfl
  | msl => rfl
  | fn => rfl
  | mw => rfl
  | ms => rfl
  | mp => rfl
  | zc => rfl
  | yld => rfl
  | xv _ _ _ _ h1 => exact h1

theorem Rep.mw_inv {w : World} {ρ : Env} {id z n : Nat} {v : Value} (h : Rep w ρ (.mw id z n) v) : ∃ A cap, v = .slice A n cap ∧ n ≤ cap ∧ cap ≤ maxLen ∧ (n ≠ 0 → ∃ g, A = some ⟨g, 0, none⟩) ∧ n ≤ ρ.n id ∧ (n = ρ.n id → v = ρ.tv id) := by
  cases h with | mw _ _ _ cap A hn hc hA h1 h2 => exact ⟨A, cap, rfl, hn, hc, hA, h1, h2⟩
theorem Rep.ms_inv {w : World} {ρ : Env} {id z lo n ver : Nat} {v : Value} (h : Rep w ρ (.ms id z lo n ver) v) : ∃ A cap, v = .slice A n cap ∧ n ≤ cap ∧ cap ≤ maxLen ∧ (n ≠ 0 → ∃ a, A = some a) ∧ ver ≤ ρ.n id ∧ (ver = ρ.n id → PartOf z lo n (ρ.tv id) v) := by
  cases h with | ms _ _ _ _ _ cap A hn hc hA h1 h2 => exact ⟨A, cap, rfl, hn, hc, hA, h1, h2⟩
theorem Rep.mp_inv {w : World} {ρ : Env} {id z i off ver : Nat} {v : Value} (h : Rep w ρ (.mp id z i off ver) v) : ∃ a, v = .pointer (some a) ∧ ver ≤ ρ.n id ∧ (ver = ρ.n id → ∃ g, mblk (ρ.tv id) = some g ∧ a = ⟨g, i * z + off, none⟩) := by
  cases h with | mp _ _ _ _ _ a h1 h2 => exact ⟨a, rfl, h1, h2⟩
theorem Rep.zc_inv {w : World} {ρ : Env} {v : Value} (h : Rep w ρ .zc v) : ∃ A, v = .slice A 0 0 := by
  cases h with | zc A => exact ⟨A, rfl⟩
theorem Rep.yld_inv {w : World} {ρ : Env} {id : Nat} {v : Value} (h : Rep w ρ (.yld id) v) : ∃ l, ρ.blk id = some l ∧ v = .func (.yield l) #[] #[] := by
  cases h with | yld _ l h => exact ⟨l, h, rfl⟩
theorem Rep.xv_inv {w : World} {ρ : Env} {id : Nat} {mk : Nat → Value} {v : Value} (h : Rep w ρ (.xv id mk) v) : ∃ g, ρ.blk id = some g ∧ v = mk g ∧ (mk g).oneCell' = true := by
  cases h with | xv _ _ g h h1 => exact ⟨g, h, rfl, h1⟩

end Go.Proofs.YtkbmlchceiglfaaGreatDoor
