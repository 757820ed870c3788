/-
  The types that come in, and what their data are.
  Conditions: none.
-/
import Derived.Test.YtepebjhnefhciaaWg
import Derived.Test.YtepebjhnefhciaaSu
namespace Go.Proofs.Ytepebjhnefhciaa
open Go.Proofs

theorem u22 : Try.prog.underlying 22 = some (.slice 5) := by kernel_rfl
theorem u5 : Try.prog.underlying 5 = some (.int .u8) := by kernel_rfl
theorem u3 : Try.prog.underlying 3 = some (.int .i64) := by kernel_rfl
theorem u9 : Try.prog.underlying 9 = some .string := by kernel_rfl
theorem u4 : Try.prog.underlying 4 = some .bool := by kernel_rfl
theorem u24 : Try.prog.underlying 24 = some (.slice 35) := by kernel_rfl
theorem c5 : Try.prog.cellsOf 5 = 1 := by kernel_rfl
theorem c3 : Try.prog.cellsOf 3 = 1 := by kernel_rfl
theorem c9 : Try.prog.cellsOf 9 = 1 := by kernel_rfl
theorem c35 : Try.prog.cellsOf 35 = 3 := by kernel_rfl
theorem laid : laidOutB Try.prog = true := by kernel_rfl

def TT (t : TypeId) : Prop := t = 22 ∨ t = 5 ∨ t = 3 ∨ t = 9 ∨ t = 24 ∨ t = 35

def fieldsOf (d : Option TypeDesc) : Option (List (TypeId × Nat)) := match d with | some (.struct fs) => some (fs.toList.map fun f => (f.type, f.offset)) | _ => none
theorem f35 : fieldsOf (Try.prog.underlying 35) = some [(3, 0), (9, 1), (3, 2)] := by kernel_rfl

theorem u35 : ∃ a b c : Field, Try.prog.underlying 35 = some (.struct #[a, b, c]) ∧ (a.type = 3 ∧ a.offset = 0) ∧ (b.type = 9 ∧ b.offset = 1) ∧ (c.type = 3 ∧ c.offset = 2) := by
  have h := f35
  unfold fieldsOf at h
  split at h
  · rename_i fs hu
    rw [hu]
    obtain ⟨l⟩ := fs
    match l, h with
    | [a, b, c], h =>
      simp at h
      exact ⟨a, b, c, rfl, ⟨h.1.1, h.1.2⟩, ⟨h.2.1.1, h.2.1.2⟩, ⟨h.2.2.1, h.2.2.2⟩⟩
  · cases h

theorem cl : Cl Try.prog TT := by
  intro t ht
  rcases ht with rfl | rfl | rfl | rfl | rfl | rfl
  · rw [u22]; exact ⟨by rw [c5]; decide, .inr (.inl rfl)⟩
  · rw [u5]; trivial
  · rw [u3]; trivial
  · rw [u9]; trivial
  · rw [u24]; exact ⟨by rw [c35]; decide, .inr (.inr (.inr (.inr (.inr rfl))))⟩
  · obtain ⟨a, b, c, h, ⟨a1, a2⟩, ⟨b1, b2⟩, ⟨q1, q2⟩⟩ := u35
    rw [h]
    refine ⟨?_, ?_⟩
    · simp only [tiles, a1, a2, b1, b2, q1, q2, c3, c9, c35]; simp
    · intro f hf
      simp at hf
      rcases hf with rfl | rfl | rfl
      · rw [a1]; exact .inr (.inr (.inl rfl))
      · rw [b1]; exact .inr (.inr (.inr (.inl rfl)))
      · rw [q1]; exact .inr (.inr (.inl rfl))

theorem byte_row {n : Nat} {r : List D} (h : TyD Try.prog n 5 r) : ∃ c, r = brow c := by
  cases n with
  | zero => exact h.elim
  | succ n =>
    simp only [TyD, u5] at h
    obtain ⟨z, rfl, hw⟩ := h
    have hz : 0 ≤ z ∧ z ≤ 255 := by simpa [Lit.wf, IntKind.min, IntKind.max, IntKind.signed, IntKind.bits] using hw
    refine ⟨UInt8.ofNat z.toNat, ?_⟩
    have : ((UInt8.ofNat z.toNat).toNat : Int) = z := by
      rw [UInt8.toNat_ofNat']; omega
    rw [brow, this]

theorem rows_of {α : Type} {R : List D → Prop} {f : α → List D} (h : ∀ r, R r → ∃ x, r = f x) : ∀ rows : List (List D), (∀ r ∈ rows, R r) → ∃ l : List α, rows = l.map f
  | [], _ => ⟨[], rfl⟩
  | r :: rest, hr => by
    obtain ⟨x, rfl⟩ := h r (hr r (List.mem_cons_self ..))
    obtain ⟨l, rfl⟩ := rows_of h rest (fun q hq => hr q (List.mem_cons_of_mem _ hq))
    exact ⟨x :: l, rfl⟩

theorem arg_bytes {n : Nat} {ds : List D} (h : TyD Try.prog n 22 ds) : ∃ l : List UInt8, argOf Try.prog 22 ds = .d (bsv l) := by
  cases n with
  | zero => exact h.elim
  | succ n =>
    simp only [TyD, u22] at h
    obtain ⟨rows, rfl, _, hr⟩ := h
    obtain ⟨l, rfl⟩ := rows_of (fun r hr => byte_row hr) rows hr
    exact ⟨l, by simp only [argOf, u22, c5]; rfl⟩

theorem arg_int {n : Nat} {ds : List D} (h : TyD Try.prog n 3 ds) : ∃ z : Int, argOf Try.prog 3 ds = .d (.int .i64 z) ∧ -9223372036854775808 ≤ z ∧ z ≤ 9223372036854775807 := by
  cases n with
  | zero => exact h.elim
  | succ n =>
    simp only [TyD, u3] at h
    obtain ⟨z, rfl, hw⟩ := h
    have hz : -9223372036854775808 ≤ z ∧ z ≤ 9223372036854775807 := by simpa [Lit.wf, IntKind.min, IntKind.max, IntKind.signed, IntKind.bits] using hw
    exact ⟨z, by simp only [argOf, u3], hz⟩

theorem tok_row {n : Nat} {r : List D} (h : TyD Try.prog n 35 r) : ∃ t, r = gR t := by
  cases n with
  | zero => exact h.elim
  | succ n =>
    obtain ⟨a, b, c, hu, ⟨a1, _⟩, ⟨b1, _⟩, ⟨q1, _⟩⟩ := u35
    simp only [TyD, hu, TyFs, a1, b1, q1] at h
    obtain ⟨x, y, rfl, hx, x', y', rfl, hx', x'', y'', rfl, hx'', rfl⟩ := h
    cases n with
    | zero => exact hx.elim
    | succ n =>
      simp only [TyD, u3, u9] at hx hx' hx''
      obtain ⟨k, rfl, _⟩ := hx
      obtain ⟨l, rfl, _⟩ := hx'
      obtain ⟨m, rfl, _⟩ := hx''
      exact ⟨⟨k, l, m⟩, rfl⟩

theorem arg_toks {n : Nat} {ds : List D} (h : TyD Try.prog n 24 ds) : ∃ l : List GT, argOf Try.prog 24 ds = .d (gsv l) := by
  cases n with
  | zero => exact h.elim
  | succ n =>
    simp only [TyD, u24] at h
    obtain ⟨rows, rfl, _, hr⟩ := h
    obtain ⟨l, rfl⟩ := rows_of (fun r hr => tok_row hr) rows hr
    exact ⟨l, by simp only [argOf, u24, c35]; rfl⟩
end Go.Proofs.Ytepebjhnefhciaa
