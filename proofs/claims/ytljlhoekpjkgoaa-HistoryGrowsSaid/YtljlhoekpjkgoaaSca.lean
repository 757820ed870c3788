/-
  What comes in, by its types: a check by reckoning that types lead to plain ones only, and the data of structs, arrays and slices.
  Conditions: none.
-/
import Derived.Test.YtljlhoekpjkgoaaSu
namespace Go.Proofs.Ytljlhoekpjkgoaa
open Go.Proofs

section
variable {P : Program}

def tilesB (P : Program) : Nat → List Field → Nat → Bool
  | off, [], n => off == n
  | off, f :: r, n => f.offset == off && tilesB P (off + P.cellsOf f.type) r n

theorem tiles_of : ∀ (l : List Field) (off n : Nat), tilesB P off l n = true → tiles P off l n
  | [], off, n, h => by simpa [tilesB, tiles] using h
  | f :: r, off, n, h => by
    simp only [tilesB, Bool.and_eq_true, beq_iff_eq] at h
    exact ⟨h.1, tiles_of r _ n h.2⟩

def clB (P : Program) (ts : List TypeId) : Bool := ts.all fun t => match P.underlying t with
  | some .bool => true
  | some (.int _) => true
  | some .string => true
  | some (.slice e) => decide (0 < P.cellsOf e) && ts.contains e
  | some (.struct fs) => tilesB P 0 fs.toList (P.cellsOf t) && fs.toList.all (fun f => ts.contains f.type)
  | some (.array n e) => (P.cellsOf t == n * P.cellsOf e) && ts.contains e
  | _ => false

theorem cl_of {ts : List TypeId} (h : clB P ts = true) : Cl P (· ∈ ts) := by
  intro t ht
  have h1 := List.all_eq_true.1 h t ht
  revert h1
  cases hu : P.underlying t with
  | none => simp
  | some d =>
    cases d with
    | slice e => simp only [Bool.and_eq_true, decide_eq_true_eq, List.contains_iff_mem]; exact id
    | struct fs =>
      simp only [Bool.and_eq_true]
      rintro ⟨h1, h2⟩
      exact ⟨tiles_of _ _ _ h1, fun f hf => by simpa using List.all_eq_true.1 h2 f hf⟩
    | array n e => simp only [Bool.and_eq_true, beq_iff_eq, List.contains_iff_mem]; exact id
    | _ => simp

def tysOf (P : Program) (t : TypeId) : Option (List TypeId) := match P.underlying t with
  | some (.struct fs) => some (fs.toList.map (·.type))
  | _ => none

def TyTs (R : TypeId → List D → Prop) : List TypeId → List D → Prop
  | [], ds => ds = []
  | t :: r, ds => ∃ a b, ds = a ++ b ∧ R t a ∧ TyTs R r b

theorem TyFs.types {R : TypeId → List D → Prop} : ∀ (l : List Field) (ds : List D), TyFs R l ds → TyTs R (l.map (·.type)) ds
  | [], _, h => h
  | _ :: r, _, ⟨a, b, e, h1, h2⟩ => ⟨a, b, e, h1, TyFs.types r b h2⟩

/-- A struct's data, field by field. -/
theorem tyd_struct {t : TypeId} {ts : List TypeId} (h : tysOf P t = some ts) {n : Nat} {ds : List D} (k : TyD P n t ds) : ∃ m, n = m + 1 ∧ TyTs (TyD P m) ts ds := by
  cases n with
  | zero => exact k.elim
  | succ n =>
    refine ⟨n, rfl, ?_⟩
    unfold tysOf at h
    split at h
    · rename_i fs hu
      simp only [TyD, hu] at k
      have := TyFs.types _ _ k
      injection h with h
      rw [h] at this
      exact this
    · cases h

theorem tyd_slice {t e : TypeId} (h : P.underlying t = some (.slice e)) {n : Nat} {ds : List D} (k : TyD P n t ds) : ∃ m, n = m + 1 ∧ ∃ rows, ds = [.sl (P.cellsOf e) rows] ∧ rows.length ≤ maxLen ∧ ∀ r ∈ rows, TyD P m e r := by
  cases n with
  | zero => exact k.elim
  | succ n => simp only [TyD, h] at k; exact ⟨n, rfl, k⟩

theorem tyd_array {t e : TypeId} {m : Nat} (h : P.underlying t = some (.array m e)) {n : Nat} {ds : List D} (k : TyD P n t ds) : ∃ l, n = l + 1 ∧ TyNs (TyD P l e) m ds := by
  cases n with
  | zero => exact k.elim
  | succ n => simp only [TyD, h] at k; exact ⟨n, rfl, k⟩

theorem tyd_string {t : TypeId} (h : P.underlying t = some .string) {n : Nat} {ds : List D} (k : TyD P n t ds) : ∃ l, ds = [.str l] ∧ l.length ≤ maxLen := by
  cases n with
  | zero => exact k.elim
  | succ n => simp only [TyD, h] at k; exact k

theorem tyd_bool {t : TypeId} (h : P.underlying t = some .bool) {n : Nat} {ds : List D} (k : TyD P n t ds) : ∃ b, ds = [.bool b] := by
  cases n with
  | zero => exact k.elim
  | succ n => simp only [TyD, h] at k; exact k

theorem tyd_i64 {t : TypeId} (h : P.underlying t = some (.int .i64)) {n : Nat} {ds : List D} (k : TyD P n t ds) : ∃ z, ds = [.int .i64 z] ∧ -9223372036854775808 ≤ z ∧ z ≤ 9223372036854775807 := by
  cases n with
  | zero => exact k.elim
  | succ n =>
    simp only [TyD, h] at k
    obtain ⟨z, rfl, hw⟩ := k
    exact ⟨z, rfl, by simpa [Lit.wf, IntKind.min, IntKind.max, IntKind.signed, IntKind.bits] using hw⟩

theorem tyd_u8 {t : TypeId} (h : P.underlying t = some (.int .u8)) {n : Nat} {ds : List D} (k : TyD P n t ds) : ∃ c : UInt8, ds = [.int .u8 c.toNat] := by
  cases n with
  | zero => exact k.elim
  | succ n =>
    simp only [TyD, h] at k
    obtain ⟨z, rfl, hw⟩ := k
    have hz : 0 ≤ z ∧ z ≤ 255 := by simpa [Lit.wf, IntKind.min, IntKind.max, IntKind.signed, IntKind.bits] using hw
    refine ⟨UInt8.ofNat z.toNat, ?_⟩
    have : ((UInt8.ofNat z.toNat).toNat : Int) = z := by
      rw [UInt8.toNat_ofNat']; omega
    rw [this]

theorem tyns_u8 {R : List D → Prop} (hR : ∀ a, R a → ∃ c : UInt8, a = [.int .u8 c.toNat]) : ∀ (m : Nat) (ds : List D), TyNs R m ds → ∃ f : Nat → UInt8, ds = (List.range m).map fun i => D.int .u8 (f i).toNat
  | 0, ds, h => ⟨fun _ => 0, h⟩
  | m + 1, ds, ⟨a, b, e, h1, h2⟩ => by
    obtain ⟨c, rfl⟩ := hR a h1
    obtain ⟨f, rfl⟩ := tyns_u8 hR m b h2
    refine ⟨fun i => match i with | 0 => c | i + 1 => f i, ?_⟩
    rw [e, List.range_succ_eq_map]
    simp

theorem rows_of {α : Type} {R : List D → Prop} {f : α → List D} (h : ∀ r, R r → ∃ x, r = f x) : ∀ rows : List (List D), (∀ r ∈ rows, R r) → ∃ l : List α, rows = l.map f
  | [], _ => ⟨[], rfl⟩
  | r :: rest, hr => by
    obtain ⟨x, rfl⟩ := h r (hr r (List.mem_cons_self ..))
    obtain ⟨l, rfl⟩ := rows_of h rest (fun q hq => hr q (List.mem_cons_of_mem _ hq))
    exact ⟨x :: l, rfl⟩
end
end Go.Proofs.Ytljlhoekpjkgoaa
