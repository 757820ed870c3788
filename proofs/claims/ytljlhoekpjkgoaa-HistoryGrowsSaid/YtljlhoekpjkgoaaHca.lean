/-
  History: the types that come in, and what their data are.
  Conditions: none.
-/
import Derived.Test.YtljlhoekpjkgoaaSca
import Derived.Test.YtljlhoekpjkgoaaHc
namespace Go.Proofs.Ytljlhoekpjkgoaa
open Go.Proofs

theorem uHist : tysOf Try.prog 25 = some [22, 23, 23] := by kernel_rfl
theorem uCommits : Try.prog.underlying 22 = some (.slice 35) := by kernel_rfl
theorem uCommit : tysOf Try.prog 35 = some [3, 31, 33, 9] := by kernel_rfl
theorem uRefs : Try.prog.underlying 23 = some (.slice 40) := by kernel_rfl
theorem uRef : tysOf Try.prog 40 = some [9, 3] := by kernel_rfl
theorem uInts : Try.prog.underlying 31 = some (.slice 3) := by kernel_rfl
theorem uDigest : Try.prog.underlying 33 = some (.array 32 5) := by kernel_rfl
theorem u5 : Try.prog.underlying 5 = some (.int .u8) := by kernel_rfl
theorem u3 : Try.prog.underlying 3 = some (.int .i64) := by kernel_rfl
theorem u9 : Try.prog.underlying 9 = some .string := by kernel_rfl
theorem u4 : Try.prog.underlying 4 = some .bool := by kernel_rfl
theorem cCommit : Try.prog.cellsOf 35 = 35 := by kernel_rfl
theorem cRef : Try.prog.cellsOf 40 = 2 := by kernel_rfl
theorem c3 : Try.prog.cellsOf 3 = 1 := by kernel_rfl
theorem laid : laidOutB Try.prog = true := by kernel_rfl

def TT : List TypeId := [25, 22, 35, 23, 40, 31, 33, 5, 3, 9, 4]
theorem cl : Cl Try.prog (· ∈ TT) := cl_of (by kernel_rfl)

theorem ref_row {n : Nat} {r : List D} (h : TyD Try.prog n 40 r) : ∃ t, r = refR t := by
  obtain ⟨m, rfl, a, b, rfl, h1, a2, b2, rfl, h2, rfl⟩ := tyd_struct uRef h
  obtain ⟨l, rfl, _⟩ := tyd_string u9 h1
  obtain ⟨z, rfl, _⟩ := tyd_i64 u3 h2
  exact ⟨⟨l, z⟩, rfl⟩

theorem data_refs {n : Nat} {ds : List D} (h : TyD Try.prog n 23 ds) : ∃ l, ds = [rsv l] := by
  obtain ⟨m, rfl, rows, rfl, _, hr⟩ := tyd_slice uRefs h
  obtain ⟨l, rfl⟩ := rows_of (fun r hr => ref_row hr) rows hr
  exact ⟨l, by rw [cRef]; rfl⟩

theorem int_row {n : Nat} {r : List D} (h : TyD Try.prog n 3 r) : ∃ z, r = intR z := by
  obtain ⟨z, rfl, _⟩ := tyd_i64 u3 h
  exact ⟨z, rfl⟩

theorem data_ints {n : Nat} {ds : List D} (h : TyD Try.prog n 31 ds) : ∃ l, ds = [isv l] := by
  obtain ⟨m, rfl, rows, rfl, _, hr⟩ := tyd_slice uInts h
  obtain ⟨l, rfl⟩ := rows_of (fun r hr => int_row hr) rows hr
  exact ⟨l, by rw [c3]; rfl⟩

theorem commit_row {n : Nat} {r : List D} (h : TyD Try.prog n 35 r) : ∃ c, r = commitR c := by
  obtain ⟨m, rfl, a1, b1, rfl, h1, a2, b2, rfl, h2, a3, b3, rfl, h3, a4, b4, rfl, h4, rfl⟩ := tyd_struct uCommit h
  obtain ⟨z, rfl, _⟩ := tyd_i64 u3 h1
  obtain ⟨p, rfl⟩ := data_ints h2
  obtain ⟨l, rfl, h3⟩ := tyd_array uDigest h3
  obtain ⟨f, rfl⟩ := tyns_u8 (fun a ha => tyd_u8 u5 ha) _ _ h3
  obtain ⟨s, rfl, _⟩ := tyd_string u9 h4
  exact ⟨⟨z, p, f, s⟩, rfl⟩

theorem data_commits {n : Nat} {ds : List D} (h : TyD Try.prog n 22 ds) : ∃ l, ds = [csv l] := by
  obtain ⟨m, rfl, rows, rfl, _, hr⟩ := tyd_slice uCommits h
  obtain ⟨l, rfl⟩ := rows_of (fun r hr => commit_row hr) rows hr
  exact ⟨l, by rw [cCommit]; rfl⟩

theorem tyStruct {t : TypeId} {ts : List TypeId} (h : tysOf Try.prog t = some ts) (ds : List D) : argOf Try.prog t ds = .d (.agg ds) := by
  unfold tysOf at h
  split at h
  · rename_i fs hu
    simp only [argOf, hu]
  · cases h

theorem arg_hist {n : Nat} {ds : List D} (h : TyD Try.prog n 25 ds) : ∃ h, argOf Try.prog 25 ds = .d (histD h) := by
  rw [tyStruct uHist]
  obtain ⟨m, rfl, a1, b1, rfl, h1, a2, b2, rfl, h2, a3, b3, rfl, h3, rfl⟩ := tyd_struct uHist h
  obtain ⟨c, rfl⟩ := data_commits h1
  obtain ⟨b, rfl⟩ := data_refs h2
  obtain ⟨t, rfl⟩ := data_refs h3
  exact ⟨⟨c, b, t⟩, rfl⟩

theorem arg_ints {n : Nat} {ds : List D} (h : TyD Try.prog n 31 ds) : ∃ l, argOf Try.prog 31 ds = .d (isv l) := by
  obtain ⟨l, rfl⟩ := data_ints h
  exact ⟨l, by simp only [argOf, uInts]⟩

theorem arg_int {n : Nat} {ds : List D} (h : TyD Try.prog n 3 ds) : ∃ z : Int, argOf Try.prog 3 ds = .d (.int .i64 z) ∧ -9223372036854775808 ≤ z ∧ z ≤ 9223372036854775807 := by
  obtain ⟨z, rfl, hz⟩ := tyd_i64 u3 h
  exact ⟨z, by simp only [argOf, u3], hz⟩

theorem arg_str {n : Nat} {ds : List D} (h : TyD Try.prog n 9 ds) : ∃ l, argOf Try.prog 9 ds = .d (.str l) := by
  obtain ⟨l, rfl, _⟩ := tyd_string u9 h
  exact ⟨l, by simp only [argOf, u9]⟩

theorem arg_bool {n : Nat} {ds : List D} (h : TyD Try.prog n 4 ds) : ∃ b, argOf Try.prog 4 ds = .d (.bool b) := by
  obtain ⟨b, rfl⟩ := tyd_bool u4 h
  exact ⟨b, by simp only [argOf, u4]⟩
end Go.Proofs.Ytljlhoekpjkgoaa
