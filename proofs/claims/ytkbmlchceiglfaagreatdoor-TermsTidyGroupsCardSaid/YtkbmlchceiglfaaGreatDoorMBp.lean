/-
  Terms: the reference's count and Few. Terms: the reference's FewAxiom. Terms: the types that come in, what their data are, and what the laid variables hold. Terms: further types that come in. Terms: the order of concepts is total; sorted sets of concepts. Terms: the canonical form of a concept, as a plain function; it is not greater.
  Conditions: none.
-/
import Derived.Test.YtkbmlchceiglfaaGreatDoorMAk
import Derived.Test.YtkbmlchceiglfaaGreatDoorRows
import Derived.Test.YtkbmlchceiglfaaGreatDoorMLd
import Derived.LaidHandle
import Derived.MakeChecks
namespace Go.Proofs.YtkbmlchceiglfaaGreatDoor
set_option linter.unusedSectionVars false
set_option linter.unusedSimpArgs false
set_option linter.unusedVariables false
open Go.Proofs
set_option maxRecDepth 10000
attribute [local irreducible] SemVC CallVC Tri Stuck YVC GenP GenVC

mutual
def countC : Cn → Int → Int → Int
  | .mk _ n _ _ ps, deep, most => if deep ≤ 0 then most + 1 else countL ps (deep - 1) most (1 + n.length / 40)
def countL : List Cn → Int → Int → Int → Int
  | [], _, _, t => t
  | c :: r, deep, most, t => if t ≤ most then countL r deep most (t + countC c deep (most - t)) else t
end

theorem countC_eq (c : Cn) (deep most : Int) : countC c deep most = if deep ≤ 0 then most + 1 else countL c.parts (deep - 1) most (1 + (c.name.length : Int) / 40) := by
  cases c; rw [countC]; rfl

set_option maxHeartbeats 8000000 in
theorem count_spec : ∀ (c : Cn) (deep most : Int), deep ≤ 40 → 0 ≤ deep → 0 ≤ most → most ≤ 150 → Tri Tryz.prog 31 [.d (.agg (cnR c)), .d (.int .i64 deep), .d (.int .i64 most)] []
    (fun r => r = .d (.int .i64 (countC c deep most)) ∧ 1 ≤ countC c deep most ∧ countC c deep most ≤ most + 300000000000000000) := by
  refine Cn.ind ?_
  intro c ih deep most hd0 hd hm0 hm
  rw [cnR_eq, countC_eq]
  refine tri_of_bodyF false [3] hty Tryz.func31 rfl (kp [0, 1, 2, 3, 6, 7, 8, 10, 27]) [] _ _ _ (by simp [Tryz.f31]) (by simp) ?_
  ((conv => whnf); repeat' ((first | (intro hq; (try simp only [lnS] at hq); (try rewrite [List.length_map])) | refine sJ ?_ | refine Exists.intro _ (And.intro rfl ?_) | (refine Exists.intro (show (_ : Nat) < List.length _ from by first | omega | (simp only [List.length_cons, List.length_nil]; omega) | simp) ?_) | fail | refine draw_rule hty (by kernel_rfl) (by kernel_rfl) ?_ | ((first | refine brB_dec (fun hb => ?_) (fun hb => ?_) | refine brB_ndec (fun hb => ?_) (fun hb => ?_)) <;> (first | contradiction | ((try simp only [lnS] at hb); (first | (exfalso; omega) | skip)))) | (refine brB_split (fun hb => ?_) (fun hb => ?_) <;> (first | contradiction | exact absurd (hb.symm.trans (by assumption) : false = true) (by decide) | exact absurd (hb.symm.trans (by assumption) : true = false) (by decide) | skip))) <;> (conv => whnf)))
  · rw [if_pos (by assumption)]
    exact ⟨rfl, by omega, by omega⟩
  · have ht : ((c.name.length : Int)).tdiv 40 = (c.name.length : Int) / 40 := Int.tdiv_eq_ediv_of_nonneg (by omega)
    rw [if_neg (by assumption), ht]
    have hT : 1 ≤ 1 + (c.name.length : Int) / 40 ∧ 1 + (c.name.length : Int) / 40 ≤ most + 300000000000000000 := by omega
    generalize (c.name.length : Int) / 40 = q at hT ⊢
    refine ⟨⟨by omega, by omega⟩, ?_⟩
    ((conv => whnf); repeat' ((first | (intro hq; (try simp only [lnS] at hq); (try rewrite [List.length_map])) | refine sJ ?_ | refine Exists.intro _ (And.intro rfl ?_) | (refine Exists.intro (show (_ : Nat) < List.length _ from by first | omega | (simp only [List.length_cons, List.length_nil]; omega) | simp) ?_) | fail | refine draw_rule hty (by kernel_rfl) (by kernel_rfl) ?_ | ((first | refine brB_dec (fun hb => ?_) (fun hb => ?_) | refine brB_ndec (fun hb => ?_) (fun hb => ?_)) <;> (first | contradiction | ((try simp only [lnS] at hb); (first | (exfalso; omega) | skip)))) | (refine brB_split (fun hb => ?_) (fun hb => ?_) <;> (first | contradiction | exact absurd (hb.symm.trans (by assumption) : false = true) (by decide) | exact absurd (hb.symm.trans (by assumption) : true = false) (by decide) | skip))) <;> (conv => whnf)))
    refine loop_rule hty (fun p : Nat × Int => ([(1, .d (.int .i64 deep)), (2, .d (.int .i64 most)), (3, .ea 5 [[.int .i64 c.kind, .str c.name, .int .i64 c.lo, .int .i64 c.hi, .sl 5 (c.parts.map cnR)]] 0 0), (7, .d (.int .i64 p.2)), (8, .d (.int .i64 p.1))], [])) (fun p => p.1 ≤ c.parts.length ∧ 1 ≤ p.2 ∧ p.2 ≤ most + 300000000000000000 ∧ countL c.parts (deep - 1) most (1 + q) = countL (c.parts.drop p.1) (deep - 1) most p.2) (fun p => c.parts.length - p.1) (0, 1 + q) ⟨Nat.zero_le _, hT.1, hT.2, rfl⟩ ⟨by repeat' (first | exact trivial | exact rfl | (rw [List.length_map]; exact rfl) | exact ⟨rfl, rfl⟩ | refine And.intro ?_ ?_), trivial⟩ ?_
    rintro ⟨j, t⟩ ⟨hj, ht1, ht2, hn⟩
    dsimp only at hj ht1 ht2 hn
    by_cases hjl : j < c.parts.length
    · have hrow : (c.parts.map cnR)[(j : Int).toNat]? = some (cnR c.parts[j]) := rowC_at hjl
      have hcall := ih c.parts[j] (List.getElem_mem hjl) (deep - 1) (most - t) (by omega) (by omega)
      rw [List.drop_eq_getElem_cons hjl, countL] at hn
      generalize c.parts[j] = x at hrow hn hcall
      rw [cnR_eq] at hrow hcall
      ((conv => whnf); repeat' ((first | (intro hq; (try simp only [lnS] at hq); (try rewrite [List.length_map])) | refine sJ ?_ | refine Exists.intro _ (And.intro rfl ?_) | (refine Exists.intro (show (_ : Nat) < List.length _ from by first | omega | (simp only [List.length_cons, List.length_nil]; omega) | simp) ?_) | (refine ⟨_, hrow, ?_⟩) | (refine call_tri [] (hcall (by omega) (by omega)) trivial (fun r hs => ?_); obtain ⟨hs, hs1, hs2⟩ := hs; subst hs) | refine draw_rule hty (by kernel_rfl) (by kernel_rfl) ?_ | ((first | refine brB_dec (fun hb => ?_) (fun hb => ?_) | refine brB_ndec (fun hb => ?_) (fun hb => ?_)) <;> (first | contradiction | ((try simp only [lnS] at hb); (first | (exfalso; omega) | skip)))) | (refine brB_split (fun hb => ?_) (fun hb => ?_) <;> (first | contradiction | exact absurd (hb.symm.trans (by assumption) : false = true) (by decide) | exact absurd (hb.symm.trans (by assumption) : true = false) (by decide) | skip))) <;> (conv => whnf)))
      · have h9 : t ≤ most := by first | assumption | omega
        rw [if_pos h9] at hn
        refine ⟨(j + 1, t + countC x (deep - 1) (most - t)), ⟨by dsimp only; omega, by dsimp only; omega, by dsimp only; omega, hn⟩, by dsimp only; omega, by repeat' (first | exact trivial | exact rfl | refine And.intro ?_ ?_), trivial⟩
      · have h9 : ¬ t ≤ most := by first | assumption | omega
        rw [if_neg h9] at hn
        rw [hn]; exact ⟨rfl, ht1, ht2⟩
    · have hjl : j = c.parts.length := by omega
      subst hjl
      rw [List.drop_length, countL] at hn
      ((conv => whnf); repeat' ((first | (intro hq; (try simp only [lnS] at hq); (try rewrite [List.length_map])) | refine sJ ?_ | refine Exists.intro _ (And.intro rfl ?_) | (refine Exists.intro (show (_ : Nat) < List.length _ from by first | omega | (simp only [List.length_cons, List.length_nil]; omega) | simp) ?_) | fail | refine draw_rule hty (by kernel_rfl) (by kernel_rfl) ?_ | ((first | refine brB_dec (fun hb => ?_) (fun hb => ?_) | refine brB_ndec (fun hb => ?_) (fun hb => ?_)) <;> (first | contradiction | ((try simp only [lnS] at hb); (first | (exfalso; omega) | skip)))) | (refine brB_split (fun hb => ?_) (fun hb => ?_) <;> (first | contradiction | exact absurd (hb.symm.trans (by assumption) : false = true) (by decide) | exact absurd (hb.symm.trans (by assumption) : true = false) (by decide) | skip))) <;> (conv => whnf)))
      all_goals (rw [hn]; exact ⟨rfl, ht1, ht2⟩)

def fewF (c : Cn) : Bool := decide (countC c 40 150 ≤ 150)

theorem few_spec (c : Cn) : Tri Tryz.prog 8 [.d (.agg (cnR c))] [] (fun r => r = .d (.bool (fewF c))) := by
  have hc := count_spec c 40 150 (by omega) (by omega) (by omega) (by omega)
  rw [cnR_eq] at hc ⊢
  refine tri_of_bodyF false [1] hty Tryz.func8 rfl (kp [0, 1, 2]) [] _ _ _ (by simp [Tryz.f8]) (by simp) ?_
  ((conv => whnf); repeat' ((first | (intro hq; (try simp only [lnS] at hq); (try rewrite [List.length_map])) | refine sJ ?_ | refine Exists.intro _ (And.intro rfl ?_) | (refine Exists.intro (show (_ : Nat) < List.length _ from by first | omega | (simp only [List.length_cons, List.length_nil]; omega) | simp) ?_) | (refine call_tri [] hc trivial (fun r hs => ?_); obtain ⟨hs, hs1, hs2⟩ := hs; subst hs) | refine draw_rule hty (by kernel_rfl) (by kernel_rfl) ?_ | ((first | refine brB_dec (fun hb => ?_) (fun hb => ?_) | refine brB_ndec (fun hb => ?_) (fun hb => ?_)) <;> (first | contradiction | ((try simp only [lnS] at hb); (first | (exfalso; omega) | skip)))) | (refine brB_split (fun hb => ?_) (fun hb => ?_) <;> (first | contradiction | exact absurd (hb.symm.trans (by assumption) : false = true) (by decide) | exact absurd (hb.symm.trans (by assumption) : true = false) (by decide) | skip))) <;> (conv => whnf)))
  all_goals rfl
end Go.Proofs.YtkbmlchceiglfaaGreatDoor

namespace Go.Proofs.YtkbmlchceiglfaaGreatDoor
set_option linter.unusedSectionVars false
set_option linter.unusedSimpArgs false
set_option linter.unusedVariables false
open Go.Proofs
set_option maxRecDepth 10000
attribute [local irreducible] SemVC CallVC Tri Stuck YVC GenP GenVC

def lenSum : List (List UInt8) → Int
  | [] => 0
  | s :: r => s.length + lenSum r
def sumAx (x : Ax) : Int := x.role.length + x.a.length + x.b.length + 10 * x.roles.length + lenSum (x.roles.take 100)
def fewAx (x : Ax) : Bool := decide (sumAx x ≤ 600) && fewF x.left && fewF x.right

/-- Strings and lists that memory can hold. -/
structure SzAx (x : Ax) : Prop where
  r : x.roles.length ≤ 140737488351232
  o : x.role.length ≤ 140737488351232
  a : x.a.length ≤ 140737488351232
  b : x.b.length ≤ 140737488351232
  rs : ∀ s ∈ x.roles, s.length ≤ 140737488351232

theorem lenSum_app : ∀ (l m : List (List UInt8)), lenSum (l ++ m) = lenSum l + lenSum m
  | [], m => by simp [lenSum]
  | s :: r, m => by simp [lenSum, lenSum_app r m]; omega

set_option maxHeartbeats 8000000 in
theorem FewAxiom_spec (x : Ax) (h : SzAx x) : Tri Tryz.prog 22 [.d (.agg (axR x))] [] (fun r => r = .d (.bool (fewAx x))) := by
  have hl := few_spec x.left
  have hr := few_spec x.right
  rw [cnR_eq] at hl hr
  obtain ⟨s1, s2, s3, s4, s5⟩ := h
  obtain ⟨kind, isopen, left, right, roles, role, a, b⟩ := x
  dsimp only at hl hr s1 s2 s3 s4 s5
  unfold fewAx sumAx axR
  dsimp only
  obtain ⟨lk, ln, llo, lhi, lps⟩ := left
  obtain ⟨rk, rn, rlo, rhi, rps⟩ := right
  dsimp only [Cn.kind, Cn.name, Cn.lo, Cn.hi, Cn.parts] at hl hr ⊢
  refine tri_of_bodyF false [1] hty Tryz.func22 rfl (kp [0, 1, 2, 3, 4, 29]) [] _ _ _ (by simp [Tryz.f22]) (by simp) ?_
  ((conv => whnf); repeat' ((first | (intro hq; (try simp only [lnS] at hq); (try rewrite [List.length_map])) | refine sJ ?_ | refine Exists.intro _ (And.intro rfl ?_) | (refine Exists.intro (show (_ : Nat) < List.length _ from by first | omega | (simp only [List.length_cons, List.length_nil]; omega) | simp) ?_) | fail | refine draw_rule hty (by kernel_rfl) (by kernel_rfl) ?_ | ((first | refine brB_dec (fun hb => ?_) (fun hb => ?_) | refine brB_ndec (fun hb => ?_) (fun hb => ?_)) <;> (first | contradiction | ((try simp only [lnS] at hb); (first | (exfalso; omega) | skip)))) | (refine brB_split (fun hb => ?_) (fun hb => ?_) <;> (first | contradiction | exact absurd (hb.symm.trans (by assumption) : false = true) (by decide) | exact absurd (hb.symm.trans (by assumption) : true = false) (by decide) | skip))) <;> (conv => whnf)))
  refine loop_rule hty (fun p : Nat × Int => ([(1, .ea 16 [[.int .i64 kind, .bool isopen, .int .i64 lk, .str ln, .int .i64 llo, .int .i64 lhi, cnl lps, .int .i64 rk, .str rn, .int .i64 rlo, .int .i64 rhi, cnl rps, strl roles, .str role, .str a, .str b]] 0 0), (3, .d (.int .i64 p.2)), (4, .d (.int .i64 p.1))], [])) (fun p => p.1 ≤ roles.length ∧ p.1 ≤ 100 ∧ 0 ≤ p.2 ∧ p.2 ≤ 140737488351232 * 13 + 140737488351232 * p.1 ∧ (role.length : Int) + a.length + b.length + 10 * roles.length + lenSum (roles.take 100) = p.2 + lenSum ((roles.take 100).drop p.1)) (fun p => roles.length - p.1) (0, (role.length : Int) + a.length + b.length + 10 * roles.length) ⟨Nat.zero_le _, by omega, by omega, by omega, rfl⟩ ⟨by repeat' (first | exact trivial | exact rfl | (rw [List.length_map]; exact rfl) | exact ⟨rfl, rfl⟩ | refine And.intro ?_ ?_), trivial⟩ ?_
  rintro ⟨j, t⟩ ⟨hj, hj2, ht1, ht2, hn⟩
  dsimp only at hj hj2 ht1 ht2 hn
  by_cases hjl : j < roles.length ∧ j < 100
  · have hrow : (roles.map strR)[(j : Int).toNat]? = some (strR roles[j]) := rowC_at hjl.1
    have hlen := s5 roles[j] (List.getElem_mem hjl.1)
    have htl : j < (roles.take 100).length := by rw [List.length_take]; omega
    rw [List.drop_eq_getElem_cons htl, lenSum, List.getElem_take] at hn
    have hjl1 := hjl.1
    have hjl2 := hjl.2
    clear s5
    generalize roles[j] = y at hrow hn hlen
    ((conv => whnf); repeat' ((first | (intro hq; (try simp only [lnS] at hq); (try rewrite [List.length_map])) | refine sJ ?_ | refine Exists.intro _ (And.intro rfl ?_) | (refine Exists.intro (show (_ : Nat) < List.length _ from by first | omega | (simp only [List.length_cons, List.length_nil]; omega) | simp) ?_) | (refine ⟨_, hrow, ?_⟩) | refine draw_rule hty (by kernel_rfl) (by kernel_rfl) ?_ | ((first | refine brB_dec (fun hb => ?_) (fun hb => ?_) | refine brB_ndec (fun hb => ?_) (fun hb => ?_)) <;> (first | contradiction | ((try simp only [lnS] at hb); (first | (exfalso; omega) | skip)))) | (refine brB_split (fun hb => ?_) (fun hb => ?_) <;> (first | contradiction | exact absurd (hb.symm.trans (by assumption) : false = true) (by decide) | exact absurd (hb.symm.trans (by assumption) : true = false) (by decide) | skip))) <;> (conv => whnf)))
    refine ⟨(j + 1, t + y.length), ⟨by dsimp only; omega, by dsimp only; omega, by dsimp only; omega, by dsimp only; omega, by dsimp only; omega⟩, by dsimp only; omega, by repeat' (first | exact trivial | exact rfl | refine And.intro ?_ ?_), trivial⟩
  · have hdr : (roles.take 100).drop j = [] := List.drop_eq_nil_of_le (by rw [List.length_take]; omega)
    rw [hdr, lenSum, Int.add_zero] at hn
    rw [hn]
    clear hn hdr s5
    ((conv => whnf); repeat' ((first | (intro hq; (try simp only [lnS] at hq); (try rewrite [List.length_map])) | refine sJ ?_ | refine Exists.intro _ (And.intro rfl ?_) | (refine Exists.intro (show (_ : Nat) < List.length _ from by first | omega | (simp only [List.length_cons, List.length_nil]; omega) | simp) ?_) | (refine call_tri [] hl trivial (fun r hs => ?_); subst hs) | (refine call_tri [] hr trivial (fun r hs => ?_); subst hs) | refine draw_rule hty (by kernel_rfl) (by kernel_rfl) ?_ | ((first | refine brB_dec (fun hb => ?_) (fun hb => ?_) | refine brB_ndec (fun hb => ?_) (fun hb => ?_)) <;> (first | contradiction | ((try simp only [lnS] at hb); (first | (exfalso; omega) | skip)))) | (refine brB_split (fun hb => ?_) (fun hb => ?_) <;> (first | contradiction | exact absurd (hb.symm.trans (by assumption) : false = true) (by decide) | exact absurd (hb.symm.trans (by assumption) : true = false) (by decide) | skip))) <;> (conv => whnf)))
    all_goals (refine bool_eq (Eq.symm ?_); simp_all [fewF])
    all_goals (intro h9; omega)
end Go.Proofs.YtkbmlchceiglfaaGreatDoor

namespace Go.Proofs.YtkbmlchceiglfaaGreatDoor
set_option linter.unusedSectionVars false
set_option linter.unusedSimpArgs false
set_option linter.unusedVariables false
open Go.Proofs Go.RowKit
set_option maxRecDepth 100000

theorem uAxiom : tysOf Tryz.prog 32 = some [3, 4, 24, 24, 30, 9, 9, 9] := by kernel_rfl
theorem uConcept : tysOf Tryz.prog 24 = some [3, 9, 3, 3, 22] := by kernel_rfl
theorem uConcepts : Tryz.prog.underlying 22 = some (.slice 24) := by kernel_rfl
theorem uAxioms : Tryz.prog.underlying 25 = some (.slice 32) := by kernel_rfl
theorem uStrings : Tryz.prog.underlying 30 = some (.slice 9) := by kernel_rfl
theorem u3 : Tryz.prog.underlying 3 = some (.int .i64) := by kernel_rfl
theorem u9 : Tryz.prog.underlying 9 = some .string := by kernel_rfl
theorem u4 : Tryz.prog.underlying 4 = some .bool := by kernel_rfl
theorem cConcept : Tryz.prog.cellsOf 24 = 5 := by kernel_rfl
theorem cAxiom : Tryz.prog.cellsOf 32 = 16 := by kernel_rfl
theorem cString : Tryz.prog.cellsOf 9 = 1 := by kernel_rfl
theorem laid : laidOutB Tryz.prog = true := by kernel_rfl

def TT : List TypeId := [32, 25, 24, 22, 30, 3, 9, 4]
theorem cl : Cl Tryz.prog (· ∈ TT) := cl_of (by kernel_rfl)

theorem con_of : ∀ (n : Nat) (ds : List D), TyD Tryz.prog n 24 ds → ∃ c, ds = cnR c := by
  intro n
  induction n using Nat.strongRecOn with
  | _ n ih =>
    intro ds h
    obtain ⟨m, hm, a1, b1, rfl, h1, a2, b2, rfl, h2, a3, b3, rfl, h3, a4, b4, rfl, h4, a5, b5, rfl, h5, rfl⟩ := tyd_struct uConcept h
    obtain ⟨k, rfl, _⟩ := tyd_i64 u3 h1
    obtain ⟨s, rfl, _⟩ := tyd_string u9 h2
    obtain ⟨lo, rfl, _⟩ := tyd_i64 u3 h3
    obtain ⟨hi, rfl, _⟩ := tyd_i64 u3 h4
    obtain ⟨j, hj, rows, rfl, _, hr⟩ := tyd_slice uConcepts h5
    obtain ⟨l, rfl⟩ := rows_of (fun r hr => ih j (by omega) r hr) rows hr
    exact ⟨.mk k s lo hi l, by rw [cConcept, cnR_eq]; rfl⟩

theorem rows_ofP {α : Type} {R : List D → Prop} {Q : α → Prop} {f : α → List D} (h : ∀ r, R r → ∃ x, r = f x ∧ Q x) : ∀ rows : List (List D), (∀ r ∈ rows, R r) → ∃ l : List α, rows = l.map f ∧ ∀ x ∈ l, Q x
  | [], _ => ⟨[], rfl, by simp⟩
  | r :: rest, hr => by
    obtain ⟨x, rfl, hx⟩ := h r (hr r (List.mem_cons_self ..))
    obtain ⟨l, rfl, hl⟩ := rows_ofP h rest (fun q hq => hr q (List.mem_cons_of_mem _ hq))
    exact ⟨x :: l, rfl, by simpa using ⟨hx, hl⟩⟩

theorem data_strings {n : Nat} {ds : List D} (h : TyD Tryz.prog n 30 ds) : ∃ l : List (List UInt8), ds = [strl l] ∧ l.length ≤ 140737488351232 ∧ ∀ s ∈ l, s.length ≤ 140737488351232 := by
  obtain ⟨m, rfl, rows, rfl, hn, hr⟩ := tyd_slice uStrings h
  obtain ⟨l, rfl, hl⟩ := rows_ofP (f := strR) (Q := fun s : List UInt8 => s.length ≤ 140737488351232) (fun r hr => by
    obtain ⟨s, rfl, hs⟩ := tyd_string u9 hr
    exact ⟨s, rfl, hs⟩) rows hr
  exact ⟨l, by rw [cString]; rfl, by rw [List.length_map] at hn; exact hn, hl⟩

theorem ax_of {n : Nat} {ds : List D} (h : TyD Tryz.prog n 32 ds) : ∃ x, ds = axR x ∧ SzAx x := by
  obtain ⟨m, rfl, a1, b1, rfl, h1, a2, b2, rfl, h2, a3, b3, rfl, h3, a4, b4, rfl, h4, a5, b5, rfl, h5, a6, b6, rfl, h6, a7, b7, rfl, h7, a8, b8, rfl, h8, rfl⟩ := tyd_struct uAxiom h
  obtain ⟨k, rfl, _⟩ := tyd_i64 u3 h1
  obtain ⟨o, rfl⟩ := tyd_bool u4 h2
  obtain ⟨l, rfl⟩ := con_of _ _ h3
  obtain ⟨r, rfl⟩ := con_of _ _ h4
  obtain ⟨rs, rfl, q1, q2⟩ := data_strings h5
  obtain ⟨s1, rfl, q3⟩ := tyd_string u9 h6
  obtain ⟨s2, rfl, q4⟩ := tyd_string u9 h7
  obtain ⟨s3, rfl, q5⟩ := tyd_string u9 h8
  exact ⟨⟨k, o, l, r, rs, s1, s2, s3⟩, by rw [cnR_eq, cnR_eq]; rfl, ⟨q1, q3, q4, q5, q2⟩⟩

theorem tyStruct {t : TypeId} {ts : List TypeId} (h : tysOf Tryz.prog t = some ts) (ds : List D) : argOf Tryz.prog t ds = .d (.agg ds) := by
  unfold tysOf at h
  split at h
  · rename_i fs hu
    simp only [argOf, hu]
  · cases h

theorem arg_ax {n : Nat} {ds : List D} (h : TyD Tryz.prog n 32 ds) : ∃ x, argOf Tryz.prog 32 ds = .d (.agg (axR x)) ∧ SzAx x := by
  rw [tyStruct uAxiom]
  obtain ⟨x, rfl, hx⟩ := ax_of h
  exact ⟨x, rfl, hx⟩

theorem arg_axs {n : Nat} {ds : List D} (h : TyD Tryz.prog n 25 ds) : ∃ l : List Ax, argOf Tryz.prog 25 ds = .d (.sl 16 (l.map axR)) ∧ l.length ≤ 140737488351232 ∧ ∀ x ∈ l, SzAx x := by
  obtain ⟨m, rfl, rows, rfl, hn, hr⟩ := tyd_slice uAxioms h
  obtain ⟨l, rfl, hl⟩ := rows_ofP (f := axR) (Q := SzAx) (fun r hr => ax_of hr) rows hr
  exact ⟨l, by simp only [argOf, uAxioms, cAxiom], by rw [List.length_map] at hn; exact hn, hl⟩

/-! ### what is laid -/

def laidL : List (String × DataW Unit) := [("veilstone/terms.needs", Rows.laid_veilstone_terms_needs), ("veilstone/terms.uses", Rows.laid_veilstone_terms_uses)]

theorem gNeeds : Tryz.prog.globalNamed "veilstone/terms.needs" = some 1 := by kernel_rfl
theorem gUses : Tryz.prog.globalNamed "veilstone/terms.uses" = some 0 := by kernel_rfl
theorem tNeeds : (Tryz.prog.globals[(1 : Nat)]?).map (·.type) = some 103 := by kernel_rfl
theorem tUses : (Tryz.prog.globals[(0 : Nat)]?).map (·.type) = some 90 := by kernel_rfl
def FT : List TypeId := [103, 102, 90, 89, 3, 4]
theorem fl : Fl Tryz.prog (· ∈ FT) := fl_of (by kernel_rfl)

theorem ng_of_laid {W : World} (h : laidMetH Tryz.prog laidL W) : ∀ ρ : Env, ρ.S = below W → ∀ id o, getH NG id = some o → RO W ρ id o := by
  rw [MakeChecks.laidMetH_plain _ _ _ (by kernel_rfl)] at h
  obtain ⟨ps, ⟨g0, t0, cs0, f0, p0, q0, hg0, ht0, hv0, hd0, ⟨g1, t1, cs1, f1, p1, q1, hg1, ht1, hv1, hd1, _, _⟩, _⟩, _, _⟩ := h
  obtain rfl := Option.some.inj (gNeeds.symm.trans hg0)
  obtain rfl := Option.some.inj (gUses.symm.trans hg1)
  obtain rfl := Option.some.inj (tNeeds.symm.trans ht0)
  obtain rfl := Option.some.inj (tUses.symm.trans ht1)
  have v0 := view_of_laid (z := 4) (rows := needs.map needR) fl hg0 (by decide) hv0 hd0 (by intro r hr; obtain ⟨x, _, rfl⟩ := List.mem_map.1 hr; rfl) (by kernel_rfl)
  have v1 := view_of_laid (z := 7) (rows := uses.map useR) fl hg1 (by decide) hv1 hd1 (by intro r hr; obtain ⟨x, _, rfl⟩ := List.mem_map.1 hr; rfl) (by kernel_rfl)
  intro ρ hS id o ho
  rw [← hS] at v0 v1
  simp only [NG, getH] at ho
  split at ho
  · injection ho with ho; subst ho; exact v0
  · split at ho
    · injection ho with ho; subst ho; exact v1
    · cases ho
end Go.Proofs.YtkbmlchceiglfaaGreatDoor

namespace Go.Proofs.YtkbmlchceiglfaaGreatDoor
set_option linter.unusedSectionVars false
set_option linter.unusedSimpArgs false
set_option linter.unusedVariables false
open Go.Proofs Go.RowKit
set_option maxRecDepth 100000

theorem uUint : Tryz.prog.underlying 41 = some (.int .u64) := by kernel_rfl
def TU : List TypeId := 41 :: TT
theorem clU : Cl Tryz.prog (· ∈ TU) := cl_of (by kernel_rfl)

theorem tyd_u64 {P : Program} {t : TypeId} (h : P.underlying t = some (.int .u64)) {n : Nat} {ds : List D} (k : TyD P n t ds) : ∃ z, ds = [.int .u64 z] ∧ 0 ≤ z ∧ z < 18446744073709551616 := by
  cases n with
  | zero => exact k.elim
  | succ n =>
    simp only [TyD, h] at k
    obtain ⟨z, rfl, hw⟩ := k
    have hw : 0 ≤ z ∧ z ≤ 18446744073709551615 := by simpa [Lit.wf, IntKind.min, IntKind.max, IntKind.signed, IntKind.bits] using hw
    exact ⟨z, rfl, hw.1, by omega⟩

theorem arg_uint {n : Nat} {ds : List D} (h : TyD Tryz.prog n 41 ds) : ∃ z, argOf Tryz.prog 41 ds = .d (.int .u64 z) ∧ 0 ≤ z ∧ z < 18446744073709551616 := by
  obtain ⟨z, rfl, hz⟩ := tyd_u64 uUint h
  exact ⟨z, by simp only [argOf, uUint], hz⟩
theorem arg_int {n : Nat} {ds : List D} (h : TyD Tryz.prog n 3 ds) : ∃ z, argOf Tryz.prog 3 ds = .d (.int .i64 z) ∧ -9223372036854775808 ≤ z ∧ z ≤ 9223372036854775807 := by
  obtain ⟨z, rfl, hz⟩ := tyd_i64 u3 h
  exact ⟨z, by simp only [argOf, u3], hz⟩
theorem arg_con {n : Nat} {ds : List D} (h : TyD Tryz.prog n 24 ds) : ∃ c, argOf Tryz.prog 24 ds = .d (.agg (cnR c)) := by
  rw [tyStruct uConcept]
  obtain ⟨c, rfl⟩ := con_of _ _ h
  exact ⟨c, rfl⟩
theorem arg_cons {n : Nat} {ds : List D} (h : TyD Tryz.prog n 22 ds) : ∃ l : List Cn, argOf Tryz.prog 22 ds = .d (.sl 5 (l.map cnR)) := by
  obtain ⟨m, rfl, rows, rfl, hn, hr⟩ := tyd_slice uConcepts h
  obtain ⟨l, rfl⟩ := rows_of (fun r hr => con_of _ _ hr) rows hr
  exact ⟨l, by simp only [argOf, uConcepts, cConcept]⟩
end Go.Proofs.YtkbmlchceiglfaaGreatDoor

namespace Go.Proofs.YtkbmlchceiglfaaGreatDoor
set_option linter.unusedSectionVars false
set_option linter.unusedSimpArgs false
set_option linter.unusedVariables false
open Go.Proofs

/-- Three facts of a comparison, at three elements. -/
def Cmp3 {α : Type} (c : α → α → Int) (a b d : α) : Prop :=
  (c a b < 0 → c b d < 0 → c a d < 0) ∧ (c a b = 0 → c a d = c b d) ∧ (c b d = 0 → c a b = c a d)

/-- A comparison as a total order makes it, equal elements not told apart. -/
structure LCk {α : Type} (c : α → α → Int) : Prop where
  rng : ∀ a b, c a b = -1 ∨ c a b = 0 ∨ c a b = 1
  anti : ∀ a b, c b a = - c a b
  t3 : ∀ a b d, Cmp3 c a b d

def lex (x y : Int) : Int := if x ≠ 0 then x else y

theorem LCk.lex {α : Type} {c1 c2 : α → α → Int} (h1 : LCk c1) (h2 : LCk c2) : LCk (fun a b => lex (c1 a b) (c2 a b)) := by
  refine ⟨fun a b => ?_, fun a b => ?_, fun a b d => ?_⟩
  · have := h1.rng a b
    have := h2.rng a b
    unfold Proofs.YtkbmlchceiglfaaGreatDoor.lex
    split <;> omega
  · have := h1.anti a b
    have := h2.anti a b
    unfold Proofs.YtkbmlchceiglfaaGreatDoor.lex
    split <;> split <;> omega
  · have a1 := h1.t3 a b d
    have a2 := h1.t3 b d a
    have a3 := h1.t3 d a b
    have b1 := h2.t3 a b d
    have r1 := h1.rng a b
    have r2 := h1.rng b d
    have r3 := h1.rng a d
    have n1 := h1.anti a b
    have n2 := h1.anti b d
    have n3 := h1.anti a d
    unfold Cmp3 at *
    unfold Proofs.YtkbmlchceiglfaaGreatDoor.lex
    dsimp only
    refine ⟨?_, ?_, ?_⟩ <;> (split <;> split <;> split <;> omega)

theorem LCk.of {α β : Type} {c : β → β → Int} (h : LCk c) (k : α → β) : LCk (fun a b => c (k a) (k b)) :=
  ⟨fun a b => h.rng _ _, fun a b => h.anti _ _, fun a b d => h.t3 _ _ _⟩

theorem LCk.int : LCk cmpI := by
  refine ⟨fun a b => ?_, fun a b => ?_, fun a b d => ?_⟩
  · unfold cmpI; split <;> (try split) <;> simp
  · unfold cmpI; split <;> split <;> (try split) <;> omega
  · unfold Cmp3 cmpI
    refine ⟨?_, ?_, ?_⟩ <;> (split <;> (try split) <;> split <;> (try split) <;> (try split) <;> (try split) <;> omega)

theorem cmpI_zero {a b : Int} : cmpI a b = 0 ↔ a = b := by
  unfold cmpI; split <;> (try split) <;> omega

theorem LCk.str : LCk cmpB := by
  refine ⟨cmpB_range, cmpB_swap, fun a b d => ⟨cmpB_trans a b d, fun h => ?_, fun h => ?_⟩⟩
  · rw [(cmpB_zero a b).1 h]
  · rw [(cmpB_zero b d).1 h]

theorem orF_cons (x : Int) (l : List Int) : orF (x :: l) = lex x (orF l) := rfl

theorem LCk.zero {α : Type} : LCk (fun _ _ : α => (0 : Int)) := ⟨fun _ _ => by simp, fun _ _ => by simp, fun _ _ _ => by simp [Cmp3]⟩

theorem headC_lc : LCk headC := by
  have h := (LCk.int.of (fun c : Cn => (sizeF c : Int))).lex ((LCk.int.of Cn.kind).lex ((LCk.str.of Cn.name).lex ((LCk.int.of Cn.lo).lex ((LCk.int.of Cn.hi).lex LCk.zero))))
  exact h

theorem lex_zero {x y : Int} : lex x y = 0 ↔ x = 0 ∧ y = 0 := by unfold lex; split <;> omega

theorem headC_zero {a b : Cn} (h : headC a b = 0) : a.kind = b.kind ∧ a.name = b.name ∧ a.lo = b.lo ∧ a.hi = b.hi := by
  unfold headC at h
  simp only [orF_cons, lex_zero, cmpI_zero, cmpB_zero] at h
  exact ⟨h.2.1, h.2.2.1, h.2.2.2.1, h.2.2.2.2.1⟩

theorem cmpC_lex (a b : Cn) : cmpC a b = lex (headC a b) (cmpL a.parts b.parts) := by rw [cmpC_eq]; rfl

mutual
theorem cmpC_rng : ∀ (a b : Cn), cmpC a b = -1 ∨ cmpC a b = 0 ∨ cmpC a b = 1
  | .mk k n lo hi ps, b => by
    have h1 := headC_lc.rng (.mk k n lo hi ps) b
    have h2 := cmpL_rng ps b.parts
    rw [cmpC_lex, show (Cn.mk k n lo hi ps).parts = ps from rfl]
    unfold lex; split <;> omega
theorem cmpL_rng : ∀ (l m : List Cn), cmpL l m = -1 ∨ cmpL l m = 0 ∨ cmpL l m = 1
  | [], [] => by simp [cmpL]
  | [], _ :: _ => by simp [cmpL]
  | _ :: _, [] => by simp [cmpL]
  | a :: l, b :: m => by
    have h1 := cmpC_rng a b
    have h2 := cmpL_rng l m
    rw [cmpL]; split <;> omega
end

mutual
theorem cmpC_anti : ∀ (a b : Cn), cmpC b a = - cmpC a b
  | .mk k n lo hi ps, b => by
    have h1 := headC_lc.anti (.mk k n lo hi ps) b
    have h2 := cmpL_anti ps b.parts
    rw [cmpC_lex, cmpC_lex, h1]
    show lex _ (cmpL b.parts ps) = - lex _ (cmpL ps b.parts)
    rw [h2]
    unfold lex; split <;> split <;> omega
theorem cmpL_anti : ∀ (l m : List Cn), cmpL m l = - cmpL l m
  | [], [] => by simp [cmpL]
  | [], _ :: _ => by simp [cmpL]
  | _ :: _, [] => by simp [cmpL]
  | a :: l, b :: m => by
    have h1 := cmpC_anti a b
    have h2 := cmpL_anti l m
    rw [cmpL, cmpL, h1, h2]; split <;> split <;> omega
end

mutual
theorem cmpC_t3 : ∀ (a b d : Cn), Cmp3 cmpC a b d
  | .mk k n lo hi ps, b, d => by
    have a1 := headC_lc.t3 (.mk k n lo hi ps) b d
    have a2 := headC_lc.t3 b d (.mk k n lo hi ps)
    have a3 := headC_lc.t3 d (.mk k n lo hi ps) b
    have n1 := headC_lc.anti (.mk k n lo hi ps) b
    have n2 := headC_lc.anti b d
    have n3 := headC_lc.anti (.mk k n lo hi ps) d
    have r1 := headC_lc.rng (.mk k n lo hi ps) b
    have r2 := headC_lc.rng b d
    have r3 := headC_lc.rng (.mk k n lo hi ps) d
    have b1 := cmpL_t3 ps b.parts d.parts
    unfold Cmp3 at *
    rw [cmpC_lex, cmpC_lex, cmpC_lex]
    rw [show (Cn.mk k n lo hi ps).parts = ps from rfl]
    generalize headC (.mk k n lo hi ps) b = x1 at *
    generalize headC (.mk k n lo hi ps) d = x2 at *
    generalize headC b d = x3 at *
    generalize headC b (.mk k n lo hi ps) = x4 at *
    generalize headC d (.mk k n lo hi ps) = x5 at *
    generalize headC d b = x6 at *
    generalize cmpL ps b.parts = y1 at *
    generalize cmpL ps d.parts = y2 at *
    generalize cmpL b.parts d.parts = y3 at *
    unfold lex
    refine ⟨?_, ?_, ?_⟩ <;> (split <;> split <;> split <;> omega)
theorem cmpL_t3 : ∀ (l m n : List Cn), Cmp3 cmpL l m n
  | [], m, n => by
    cases m <;> cases n <;> simp [Cmp3, cmpL]
  | a :: l, [], n => by
    cases n <;> simp [Cmp3, cmpL]
  | a :: l, b :: m, [] => by
    simp only [Cmp3, cmpL]
    refine ⟨by omega, fun h => ?_, fun h => by omega⟩
    first | rfl | trivial | (simp_all)
  | a :: l, b :: m, d :: n => by
    have a1 := cmpC_t3 a b d
    have b1 := cmpL_t3 l m n
    have r1 := cmpC_rng a b
    have r2 := cmpC_rng b d
    have r3 := cmpC_rng a d
    have n2 := cmpC_anti b d
    unfold Cmp3 at *
    rw [cmpL, cmpL, cmpL]
    generalize cmpC a b = x1 at *
    generalize cmpC a d = x2 at *
    generalize cmpC b d = x3 at *
    generalize cmpL l m = y1 at *
    generalize cmpL l n = y2 at *
    generalize cmpL m n = y3 at *
    refine ⟨?_, ?_, ?_⟩ <;> (split <;> split <;> split <;> omega)
end

theorem cmpC_lc : LCk cmpC := ⟨cmpC_rng, cmpC_anti, cmpC_t3⟩

mutual
theorem cmpC_eq0 : ∀ (a b : Cn), cmpC a b = 0 → a = b
  | .mk k n lo hi ps, .mk k' n' lo' hi' ps', h => by
    rw [cmpC_lex, lex_zero] at h
    obtain ⟨h1, h2⟩ := h
    obtain ⟨e1, e2, e3, e4⟩ := headC_zero h1
    have e5 := cmpL_eq0 ps ps' h2
    simp only [Cn.kind, Cn.name, Cn.lo, Cn.hi] at e1 e2 e3 e4
    rw [e1, e2, e3, e4, e5]
theorem cmpL_eq0 : ∀ (l m : List Cn), cmpL l m = 0 → l = m
  | [], [], _ => rfl
  | [], _ :: _, h => by simp [cmpL] at h
  | _ :: _, [], h => by simp [cmpL] at h
  | a :: l, b :: m, h => by
    rw [cmpL] at h
    have h : lex (cmpC a b) (cmpL l m) = 0 := h
    rw [lex_zero] at h
    rw [cmpC_eq0 a b h.1, cmpL_eq0 l m h.2]
end

theorem cmpC_self (a : Cn) : cmpC a a = 0 := by have := cmpC_anti a a; omega
theorem cmpC_zero {a b : Cn} : cmpC a b = 0 ↔ a = b := ⟨cmpC_eq0 a b, fun h => h ▸ cmpC_self a⟩

theorem cmpC_size {a b : Cn} (h : sizeF a < sizeF b) : cmpC a b = -1 := by
  have : headC a b = -1 := by
    unfold headC
    rw [orF_cons]
    have : cmpI (sizeF a) (sizeF b) = -1 := by unfold cmpI; rw [if_pos (by omega)]
    rw [this]; rfl
  rw [cmpC_lex, this]; rfl

/-! ### sorted sets -/

def insC (c : Cn) : List Cn → List Cn
  | [] => [c]
  | d :: r => if cmpC c d < 0 then c :: d :: r else if cmpC c d = 0 then d :: r else d :: insC c r
def setC : List Cn → List Cn
  | [] => []
  | c :: r => insC c (setC r)

abbrev StrC (l : List Cn) : Prop := l.Pairwise (fun a b => cmpC a b < 0)

theorem mem_insC {c x : Cn} : ∀ {l : List Cn}, x ∈ insC c l ↔ x = c ∨ x ∈ l
  | [] => by simp [insC]
  | d :: r => by
    rw [insC]
    split
    · simp
    · split
      · rename_i h
        have := cmpC_zero.1 h
        subst this
        simp
      · simp only [List.mem_cons, mem_insC (l := r)]
        constructor
        · rintro (h | h | h) <;> simp [h]
        · rintro (h | h | h) <;> simp [h]

theorem mem_setC {x : Cn} : ∀ {l : List Cn}, x ∈ setC l ↔ x ∈ l
  | [] => by simp [setC]
  | c :: r => by rw [setC, mem_insC, mem_setC, List.mem_cons]

theorem str_insC {c : Cn} : ∀ {l : List Cn}, StrC l → StrC (insC c l)
  | [], _ => by simp [insC, StrC]
  | d :: r, h => by
    rw [insC]
    have h1 := List.pairwise_cons.1 h
    split
    · rename_i hlt
      refine List.pairwise_cons.2 ⟨fun x hx => ?_, h⟩
      rcases List.mem_cons.1 hx with rfl | hx
      · exact hlt
      · exact (cmpC_t3 c d x).1 hlt (h1.1 x hx)
    · split
      · exact h
      · rename_i h2 h3
        refine List.pairwise_cons.2 ⟨fun x hx => ?_, str_insC h1.2⟩
        rcases mem_insC.1 hx with rfl | hx
        · have := cmpC_anti x d; omega
        · exact h1.1 x hx

theorem str_setC : ∀ (l : List Cn), StrC (setC l)
  | [] => .nil
  | c :: r => str_insC (str_setC r)

theorem str_nodup {l : List Cn} (h : StrC l) : l.Nodup := h.imp fun {a b} h e => by rw [e, cmpC_self] at h; omega

/-- Two strictly sorted lists with the same members are equal. -/
theorem str_unique : ∀ {l m : List Cn}, StrC l → StrC m → (∀ x, x ∈ l ↔ x ∈ m) → l = m
  | [], [], _, _, _ => rfl
  | [], b :: m, _, _, h => by have := (h b).2 (by simp); simp at this
  | a :: l, [], _, _, h => by have := (h a).1 (by simp); simp at this
  | a :: l, b :: m, h1, h2, h => by
    have p1 := List.pairwise_cons.1 h1
    have p2 := List.pairwise_cons.1 h2
    have hab : a = b := by
      rcases List.mem_cons.1 ((h a).1 (by simp)) with e | e
      · exact e
      · rcases List.mem_cons.1 ((h b).2 (by simp)) with e' | e'
        · exact e'.symm
        · have q1 := p1.1 b e'
          have q2 := p2.1 a e
          have := cmpC_anti a b
          omega
    subst hab
    rw [str_unique p1.2 p2.2 fun x => ?_]
    have hx := h x
    simp only [List.mem_cons] at hx
    have d1 : ∀ x ∈ l, x ≠ a := fun x hx e => by have := p1.1 x hx; rw [e, cmpC_self] at this; omega
    have d2 : ∀ x ∈ m, x ≠ a := fun x hx e => by have := p2.1 x hx; rw [e, cmpC_self] at this; omega
    constructor
    · intro hl
      rcases hx.1 (.inr hl) with e | e
      · exact absurd e (d1 x hl)
      · exact e
    · intro hm
      rcases hx.2 (.inr hm) with e | e
      · exact absurd e (d2 x hm)
      · exact e

theorem setC_eq {l m : List Cn} (h1 : StrC m) (h : ∀ x, x ∈ m ↔ x ∈ l) : m = setC l := str_unique h1 (str_setC l) fun x => by rw [mem_setC, h]

theorem setC_congr {l m : List Cn} (h : ∀ x, x ∈ l ↔ x ∈ m) : setC l = setC m := str_unique (str_setC l) (str_setC m) fun x => by rw [mem_setC, mem_setC, h]

theorem setC_self {l : List Cn} (h : StrC l) : setC l = l := (setC_eq h fun _ => Iff.rfl).symm

/-! ### neighbours that are equal, struck -/

/-- l without the elements that equal the one before. -/
def dedT {α : Type} (eq : α → α → Bool) : α → List α → List α
  | _, [] => []
  | p, b :: r => if eq b p then dedT eq b r else b :: dedT eq b r
def dedF {α : Type} (eq : α → α → Bool) : List α → List α
  | [] => []
  | a :: r => a :: dedT eq a r

def eqCb (a b : Cn) : Bool := decide (cmpC a b = 0)

theorem dedT_spec : ∀ (p : Cn) (l : List Cn), (p :: l).Pairwise (fun a b => ¬ cmpC b a < 0) → StrC (p :: dedT eqCb p l) ∧ ∀ x, x ∈ p :: dedT eqCb p l ↔ x ∈ p :: l
  | p, [], _ => ⟨by simp [dedT, StrC], fun x => by simp [dedT]⟩
  | p, b :: r, h => by
    have h1 := List.pairwise_cons.1 h
    obtain ⟨i1, i2⟩ := dedT_spec b r h1.2
    rw [dedT]
    by_cases he : cmpC b p = 0
    · have hb : b = p := cmpC_zero.1 he
      subst hb
      rw [if_pos (by simp [eqCb, he])]
      exact ⟨i1, fun x => by rw [i2]; simp⟩
    · rw [if_neg (by simp [eqCb, he])]
      have hlt : cmpC p b < 0 := by
        have := h1.1 b (by simp)
        have := cmpC_anti p b
        omega
      refine ⟨List.pairwise_cons.2 ⟨fun x hx => ?_, i1⟩, fun x => ?_⟩
      · rcases List.mem_cons.1 hx with rfl | hx
        · exact hlt
        · exact (cmpC_t3 p b x).1 hlt ((List.pairwise_cons.1 i1).1 x hx)
      · rw [List.mem_cons, i2, List.mem_cons (a := x) (b := p)]

/-- What sorting and striking equal neighbours leaves is the sorted set. -/
theorem dedF_sorted {l l' : List Cn} (hp : l'.Perm l) (hs : l'.Pairwise (fun a b => ¬ cmpC b a < 0)) : dedF eqCb l' = setC l := by
  cases l' with
  | nil =>
    have := hp.symm.eq_nil
    subst this
    rfl
  | cons a r =>
    obtain ⟨h1, h2⟩ := dedT_spec a r hs
    exact setC_eq h1 fun x => (h2 x).trans hp.mem_iff

end Go.Proofs.YtkbmlchceiglfaaGreatDoor

namespace Go.Proofs.YtkbmlchceiglfaaGreatDoor
set_option linter.unusedSectionVars false
set_option linter.unusedSimpArgs false
set_option linter.unusedVariables false
open Go.Proofs

def c0 : Cn := .mk 0 [] 0 0 []
def topC : Cn := .mk 1 [] 0 0 []
def partsF (c : Cn) : List Cn := if c.kind = 1 then [] else if c.kind = 5 then c.parts else [c]
def conjS (s : List Cn) : Cn × Int := match s.find? (fun t => decide (t.kind = 2)) with
  | some t => (t, 0)
  | none => if s.length = 0 then (topC, 0) else if s.length = 1 then (s.headD c0, 0) else if 8 < s.length then (c0, 2) else (.mk 5 [] 0 0 s, 0)
def conjF (l : List Cn) : Cn × Int := conjS (setC l)
def meetF (l : List (Cn × Int)) : Cn × Int := match l.find? (fun r => decide (r.2 ≠ 0)) with
  | some r => (c0, r.2)
  | none => conjF (l.flatMap fun r => partsF r.1)
def someF (n : List UInt8) (l : List (Cn × Int)) : Cn × Int := match l with
  | [] => (c0, 0)
  | r :: _ => if r.2 ≠ 0 ∨ r.1.kind = 2 then r else (.mk 6 n 0 0 [r.1], 0)

mutual
def tidyC : Cn → Cn × Int
  | .mk k n lo hi ps => if k = 6 then someF n (tidyL ps) else if k = 5 then meetF (tidyL ps) else (.mk k n lo hi ps, 0)
def tidyL : List Cn → List (Cn × Int)
  | [] => []
  | c :: r => tidyC c :: tidyL r
end

theorem tidyL_map : ∀ l, tidyL l = l.map tidyC
  | [] => rfl
  | c :: r => by rw [tidyL, tidyL_map r]; rfl

theorem tidyC_eq (c : Cn) : tidyC c = if c.kind = 6 then someF c.name (c.parts.map tidyC) else if c.kind = 5 then meetF (c.parts.map tidyC) else (c, 0) := by
  cases c; rw [tidyC, tidyL_map]; rfl

/-! ### sizes -/

def sumN (l : List Cn) : Nat := (nodesL l).length

theorem sumN_nil : sumN [] = 0 := rfl
theorem sumN_cons (c : Cn) (l : List Cn) : sumN (c :: l) = sizeF c + sumN l := by simp [sumN, nodesL, sizeF]
theorem sumN_append (l m : List Cn) : sumN (l ++ m) = sumN l + sumN m := by simp [sumN, nodesL_append]
theorem sizeF_sum (c : Cn) : sizeF c = sumN c.parts + 1 := sizeF_eq c
theorem sumN_mem {c : Cn} {l : List Cn} (h : c ∈ l) : sizeF c ≤ sumN l := nodesL_mem h

theorem sumN_ins (c : Cn) : ∀ l, sumN (insC c l) ≤ sizeF c + sumN l
  | [] => by rw [insC, sumN_cons, sumN_nil]; omega
  | d :: r => by
    have := sumN_ins c r
    rw [insC]
    split
    · rw [sumN_cons, sumN_cons]; omega
    · split
      · rw [sumN_cons]; omega
      · rw [sumN_cons, sumN_cons]; omega

theorem sumN_set : ∀ l, sumN (setC l) ≤ sumN l
  | [] => by simp [setC]
  | c :: r => by
    have := sumN_set r
    have := sumN_ins c (setC r)
    rw [setC, sumN_cons]; omega

theorem size_c0 : sizeF c0 = 1 := rfl
theorem size_top : sizeF topC = 1 := rfl

theorem sumN_parts (c : Cn) : sumN (partsF c) ≤ sizeF c := by
  unfold partsF
  split
  · rw [sumN_nil]; omega
  · split
    · have := sizeF_sum c; omega
    · rw [sumN_cons, sumN_nil]; omega

theorem conjS_size (s : List Cn) : sizeF (conjS s).1 ≤ sumN s + 1 := by
  unfold conjS
  split
  · rename_i t h
    have := sumN_mem (List.mem_of_find?_eq_some h)
    show sizeF t ≤ _
    omega
  · split
    · show sizeF topC ≤ _; rw [size_top]; omega
    · split
      · rename_i h0 h1
        match s, h1 with
        | [x], _ => show sizeF x ≤ _; rw [sumN_cons]; omega
      · split
        · show sizeF c0 ≤ _; rw [size_c0]; omega
        · show sizeF (.mk 5 [] 0 0 s) ≤ _
          rw [sizeF_sum]; exact Nat.le_refl _

theorem sumN_flat : ∀ (l : List (Cn × Int)), sumN (l.flatMap fun r => partsF r.1) ≤ sumN (l.map (·.1))
  | [] => by simp
  | r :: l => by
    have := sumN_flat l
    have := sumN_parts r.1
    rw [List.flatMap_cons, List.map_cons, sumN_append, sumN_cons]; omega

theorem meetF_size (l : List (Cn × Int)) : sizeF (meetF l).1 ≤ sumN (l.map (·.1)) + 1 := by
  unfold meetF
  split
  · show sizeF c0 ≤ _; rw [size_c0]; omega
  · have h1 := conjS_size (setC (l.flatMap fun r => partsF r.1))
    have h2 := sumN_set (l.flatMap fun r => partsF r.1)
    have h3 := sumN_flat l
    show sizeF (conjS (setC (l.flatMap fun r => partsF r.1))).1 ≤ _
    omega

theorem someF_size (n : List UInt8) (l : List (Cn × Int)) : sizeF (someF n l).1 ≤ sumN (l.map (·.1)) + 1 := by
  unfold someF
  split
  · show sizeF c0 ≤ _; rw [size_c0]; omega
  · rename_i r l
    rw [List.map_cons, sumN_cons]
    split
    · omega
    · show sizeF (.mk 6 n 0 0 [r.1]) ≤ _
      rw [sizeF_sum]
      show sumN [r.1] + 1 ≤ _
      rw [sumN_cons, sumN_nil]; omega

mutual
theorem tidyC_size : ∀ c, sizeF (tidyC c).1 ≤ sizeF c
  | .mk k n lo hi ps => by
    have := tidyL_size ps
    have h1 : sizeF (.mk k n lo hi ps) = sumN ps + 1 := sizeF_sum _
    rw [tidyC]
    split
    · have := someF_size n (tidyL ps); omega
    · split
      · have := meetF_size (tidyL ps); omega
      · exact Nat.le_refl _
theorem tidyL_size : ∀ l, sumN ((tidyL l).map (·.1)) ≤ sumN l
  | [] => by simp [tidyL]
  | c :: r => by
    have := tidyC_size c
    have := tidyL_size r
    rw [tidyL, List.map_cons, sumN_cons, sumN_cons]; omega
end
end Go.Proofs.YtkbmlchceiglfaaGreatDoor
