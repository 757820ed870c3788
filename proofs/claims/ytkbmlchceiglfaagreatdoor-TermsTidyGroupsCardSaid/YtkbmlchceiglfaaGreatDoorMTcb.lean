/-
  Terms: further types that come in.
  Conditions: none.
-/
import Derived.Test.YtkbmlchceiglfaaGreatDoorMBp
namespace Go.Proofs.YtkbmlchceiglfaaGreatDoor
set_option linter.unnecessarySimpa false
set_option linter.unusedSectionVars false
set_option linter.unusedSimpArgs false
set_option linter.unusedVariables false
open Go.Proofs Go.RowKit
set_option maxRecDepth 100000

theorem uUint : Tryz.prog.underlying 41 = some (.int .u64) := by kernel_rfl
def TU : List TypeId := 41 :: TT
theorem clU : Cl Tryz.prog (· ∈ TU) := cl_of (by kernel_rfl)

theorem tyd_u64 {P : Program} {t : TypeId} (h : P.underlying t = some (.int .u64)) {n : Nat} {ds : List D} (k : TyD P n t ds) : ∃ z, ds = [.int .u64 z] ∧ 0 ≤ z ∧ z < 18446744073709551616 := by
  cases n with
  | zero => exact k.elim
  | succ n =>
    simp only [TyD, h] at k
    obtain ⟨z, rfl, hw⟩ := k
    have hw : 0 ≤ z ∧ z ≤ 18446744073709551615 := by simpa [Lit.wf, IntKind.min, IntKind.max, IntKind.signed, IntKind.bits] using hw
    exact ⟨z, rfl, hw.1, by omega⟩

theorem arg_uint {n : Nat} {ds : List D} (h : TyD Tryz.prog n 41 ds) : ∃ z, argOf Tryz.prog 41 ds = .d (.int .u64 z) ∧ 0 ≤ z ∧ z < 18446744073709551616 := by
  obtain ⟨z, rfl, hz⟩ := tyd_u64 uUint h
  exact ⟨z, by simp only [argOf, uUint], hz⟩
theorem arg_int {n : Nat} {ds : List D} (h : TyD Tryz.prog n 3 ds) : ∃ z, argOf Tryz.prog 3 ds = .d (.int .i64 z) ∧ -9223372036854775808 ≤ z ∧ z ≤ 9223372036854775807 := by
  obtain ⟨z, rfl, hz⟩ := tyd_i64 u3 h
  exact ⟨z, by simp only [argOf, u3], hz⟩
theorem arg_con {n : Nat} {ds : List D} (h : TyD Tryz.prog n 24 ds) : ∃ c, argOf Tryz.prog 24 ds = .d (.agg (cnR c)) := by
  rw [tyStruct uConcept]
  obtain ⟨c, rfl⟩ := con_of _ _ h
  exact ⟨c, rfl⟩
theorem arg_cons {n : Nat} {ds : List D} (h : TyD Tryz.prog n 22 ds) : ∃ l : List Cn, argOf Tryz.prog 22 ds = .d (.sl 5 (l.map cnR)) := by
  obtain ⟨m, rfl, rows, rfl, hn, hr⟩ := tyd_slice uConcepts h
  obtain ⟨l, rfl⟩ := rows_of (fun r hr => con_of _ _ hr) rows hr
  exact ⟨l, by simp only [argOf, uConcepts, cConcept]⟩
end Go.Proofs.YtkbmlchceiglfaaGreatDoor
