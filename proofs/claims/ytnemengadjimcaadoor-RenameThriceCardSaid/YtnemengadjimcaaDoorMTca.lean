/-
  Terms: the order of concepts: compare and Compare. Terms: Compare. Terms: CompareAxiom. Terms: the reference's SameList, Same, SameAxiom. Terms: the reference's Same. Terms: the reference's SameAxiom. Terms: the reference's SameNames. Terms: the reference's count and Few. Terms: the reference's FewAxiom. Terms: the types that come in, what their data are, and what the laid variables hold.
  Conditions: none.
-/
import Derived.Test.YtnemengadjimcaaDoorMSyb
import Derived.Test.YtnemengadjimcaaDoorMSna
import Derived.Test.YtnemengadjimcaaDoorRows
import Derived.Test.YtnemengadjimcaaDoorMLd
import Derived.LaidHandle
import Derived.MakeChecks
set_option linter.unnecessarySimpa false
set_option linter.unusedSectionVars false
set_option linter.unusedSimpArgs false
set_option linter.unusedVariables false
namespace Go.Proofs.YtnemengadjimcaaDoor
open Go.Proofs
set_option maxRecDepth 10000
theorem Tri.osl {P : Program} {f : FuncId} {id z : Nat} {rows : List (List D)} {post : SV → Prop} (h : Tri P f [.d (.sl z rows)] [] post) : Tri P f [.osl id z rows] [] post := by
  unfold Tri at h ⊢
  intro w ρ vs a b c
  refine h w ρ vs a ⟨b.1, fun j s v hs hv => ?_⟩ (fun id o ho => by cases ho)
  match j, hs with
  | 0, hs =>
    injection hs with hs; subst hs
    exact .d _ _ (b.2 0 _ v rfl hv).osl_inv.1
attribute [local irreducible] SemVC CallVC Tri Stuck YVC GenP GenVC
set_option maxHeartbeats 8000000 in
theorem compare_spec : ∀ (c d : Cn), Tri Tryd.prog 48 [.d (.agg (grR c)), .d (.agg (grR d))] [] (fun r => r = .d (.int .i64 (cmpC c d))) := by
  refine Cn.ind ?_
  intro c ih d
  have hL := compareFunc_spec 48 (by kernel_rfl) c.parts d.parts (fun a ha b _ => ih a ha b)
  rw [grR_eq, grR_eq, cmpC_eq]
  refine tri_of_bodyF false [2, 3] hty Tryd.func48 rfl (kp [0, 1, 2, 3, 4, 5, 42]) [] _ _ _ (by simp [Tryd.f48]) (by simp) ?_
  ((conv => whnf); repeat ((first | (intro hq; try simp only [lnS] at hq) | refine sI ?_ | refine .intro _ (.intro rfl ?_)); (conv => whnf)))
  refine pre_rule hty 33 (by kernel_rfl) (by kernel_rfl) ?_
  ((conv => whnf); repeat ((first | (intro hq; try simp only [lnS] at hq) | refine sI ?_ | refine .intro _ (.intro rfl ?_)); (conv => whnf)))
  refine ⟨.d (.int .i64 _), _, [], rfl, trivial, compareI_spec _ _, ?_⟩
  ((conv => whnf); repeat ((first | (intro hq; try simp only [lnS] at hq) | refine sI ?_ | refine .intro _ (.intro rfl ?_)); (conv => whnf)))
  refine ⟨.d (.int .i64 _), _, [], rfl, trivial, compareI_spec _ _, ?_⟩
  ((conv => whnf); repeat ((first | (intro hq; try simp only [lnS] at hq) | refine sI ?_ | refine .intro _ (.intro rfl ?_)); (conv => whnf)))
  refine ⟨.d (.int .i64 _), _, [], rfl, trivial, strCompare_spec _ _, ?_⟩
  ((conv => whnf); repeat ((first | (intro hq; try simp only [lnS] at hq) | refine sI ?_ | refine .intro _ (.intro rfl ?_)); (conv => whnf)))
  refine ⟨.d (.int .i64 _), _, [], rfl, trivial, compareI_spec _ _, ?_⟩
  ((conv => whnf); repeat ((first | (intro hq; try simp only [lnS] at hq) | refine sI ?_ | refine .intro _ (.intro rfl ?_)); (conv => whnf)))
  refine ⟨.d (.int .i64 _), _, [], rfl, trivial, compareI_spec _ _, ?_⟩
  ((conv => whnf); repeat ((first | (intro hq; try simp only [lnS] at hq) | refine sI ?_ | refine .intro _ (.intro rfl ?_)); (conv => whnf)))
  refine ⟨[], (fun r => r = .d (.int .i64 (headC c d))), trivial, Tri.osl (or_spec [_, _, _, _, _]), fun r hs => ?_⟩
  subst hs
  ((conv => whnf); repeat' ((first | (intro hq; (try simp only [lnS] at hq); (try rewrite [List.length_map])) | refine sJ ?_ | refine .intro _ (.intro rfl ?_) | (refine .intro (show (_ : Nat) < List.length _ from by first | omega | (simp only [lnS]; omega) | simp) ?_) | (refine call_tri [] hL trivial (fun r hs => ?_); subst hs) | refine draw_rule hty (by kernel_rfl) (by kernel_rfl) ?_ | ((first | refine brB_dec ?_ ?_ | refine brB_ndec ?_ ?_) <;> intro hb <;> (first | contradiction | ((try simp only [lnS] at hb); try (exfalso; omega)))) | (refine brB_split ?_ ?_ <;> intro hb <;> (first | contradiction | exact bT hb (by assumption) | exact bF hb (by assumption) | skip))) <;> (conv => whnf)))
  · exact int_eq (if_pos hb).symm
  · exact int_eq (if_neg (fun h => h hb)).symm
end Go.Proofs.YtnemengadjimcaaDoor
namespace Go.Proofs.YtnemengadjimcaaDoor
open Go.Proofs
set_option maxRecDepth 10000
attribute [local irreducible] SemVC CallVC Tri Stuck YVC GenP GenVC
set_option maxHeartbeats 8000000 in
theorem Compare_spec (c d : Cn) (hc : sizeF c ≤ 1000000) (hd : sizeF d ≤ 1000000) : Tri Tryd.prog 33 [.d (.agg (cnR c)), .d (.agg (cnR d))] [] (fun r => r = .d (.int .i64 (cmpC c d))) := by
  have h1 := grow_spec c hc
  have h2 := grow_spec d hd
  rw [cnR_eq] at h1 h2 ⊢
  rw [cnR_eq d]
  rw [grR_eq] at h1
  rw [grR_eq] at h2
  have h3 := compare_spec c d
  rw [grR_eq, grR_eq] at h3
  refine tri_of_bodyF false [2, 3] hty Tryd.func33 rfl (kp [0, 1, 2, 3, 4]) [] _ _ _ (by simp [Tryd.f33]) (by simp) ?_
  ((conv => whnf); repeat' ((first | (intro hq; (try simp only [lnS] at hq); (try rewrite [List.length_map])) | refine sJ ?_ | refine .intro _ (.intro rfl ?_) | (refine .intro (show (_ : Nat) < List.length _ from by first | omega | (simp only [lnS]; omega) | simp) ?_) | (refine call_tri [] h1 trivial (fun r hs => ?_); subst hs) | (refine call_tri [] h2 trivial (fun r hs => ?_); subst hs) | (refine call_tri [] h3 trivial (fun r hs => ?_); subst hs) | (refine tree_rule (id := 1) hty (.alt 0 (.alt 1 (.alt 2 (.alt 3 (.alt 4 (.first 5 .done) .stop) .stop) .stop) (.alt 2 (.alt 1 (.alt 3 (.alt 4 (.first 5 .done) .stop) .stop) .stop) .stop)) (.alt 2 (.alt 0 (.alt 1 (.alt 3 (.alt 4 (.first 5 .done) .stop) .stop) .stop) .stop) .stop)) (by kernel_rfl) (by kernel_rfl) ?_) | exact trivial | (refine And.intro ?_ ?_) | refine draw_rule hty (by kernel_rfl) (by kernel_rfl) ?_ | ((first | refine brB_dec ?_ ?_ | refine brB_ndec ?_ ?_) <;> intro hb <;> (first | contradiction | ((try simp only [lnS] at hb); try (exfalso; omega)))) | (refine brB_split ?_ ?_ <;> intro hb <;> (first | contradiction | exact bT hb (by assumption) | exact bF hb (by assumption) | skip))) <;> (conv => whnf)))
  all_goals rfl
end Go.Proofs.YtnemengadjimcaaDoor
namespace Go.Proofs.YtnemengadjimcaaDoor
open Go.Proofs
set_option maxRecDepth 10000
attribute [local irreducible] SemVC CallVC Tri Stuck YVC GenP GenVC
end Go.Proofs.YtnemengadjimcaaDoor
namespace Go.Proofs.YtnemengadjimcaaDoor
open Go.Proofs
set_option maxRecDepth 10000
attribute [local irreducible] SemVC CallVC Tri Stuck YVC GenP GenVC
end Go.Proofs.YtnemengadjimcaaDoor
namespace Go.Proofs.YtnemengadjimcaaDoor
open Go.Proofs
set_option maxRecDepth 10000
attribute [local irreducible] SemVC CallVC Tri Stuck YVC GenP GenVC
end Go.Proofs.YtnemengadjimcaaDoor
namespace Go.Proofs.YtnemengadjimcaaDoor
open Go.Proofs
set_option maxRecDepth 10000
attribute [local irreducible] SemVC CallVC Tri Stuck YVC GenP GenVC
end Go.Proofs.YtnemengadjimcaaDoor
namespace Go.Proofs.YtnemengadjimcaaDoor
open Go.Proofs
set_option maxRecDepth 10000
attribute [local irreducible] SemVC CallVC Tri Stuck YVC GenP GenVC
end Go.Proofs.YtnemengadjimcaaDoor
namespace Go.Proofs.YtnemengadjimcaaDoor
open Go.Proofs
set_option maxRecDepth 10000
attribute [local irreducible] SemVC CallVC Tri Stuck YVC GenP GenVC
end Go.Proofs.YtnemengadjimcaaDoor
namespace Go.Proofs.YtnemengadjimcaaDoor
open Go.Proofs
set_option maxRecDepth 10000
attribute [local irreducible] SemVC CallVC Tri Stuck YVC GenP GenVC
end Go.Proofs.YtnemengadjimcaaDoor
namespace Go.Proofs.YtnemengadjimcaaDoor
open Go.Proofs Go.RowKit
set_option maxRecDepth 100000
theorem u3 : Tryd.prog.underlying 3 = some (.int .i64) := by kernel_rfl
theorem u9 : Tryd.prog.underlying 9 = some .string := by kernel_rfl
theorem u4 : Tryd.prog.underlying 4 = some .bool := by kernel_rfl
theorem laid : laidOutB Tryd.prog = true := by kernel_rfl
def TT : List TypeId := [36, 37, 33, 31, 34, 3, 9, 4]
theorem rows_ofP {α : Type} {R : List D → Prop} {Q : α → Prop} {f : α → List D} (h : ∀ r, R r → ∃ x, r = f x ∧ Q x) : ∀ rows : List (List D), (∀ r ∈ rows, R r) → ∃ l : List α, rows = l.map f ∧ ∀ x ∈ l, Q x
  | [], _ => ⟨[], rfl, by simp⟩
  | r :: rest, hr => by
    obtain ⟨x, rfl, hx⟩ := h r (hr r (List.mem_cons_self ..))
    obtain ⟨l, rfl, hl⟩ := rows_ofP h rest (fun q hq => hr q (List.mem_cons_of_mem _ hq))
    exact ⟨x :: l, rfl, by simpa using ⟨hx, hl⟩⟩
def laidL : List (String × DataW Unit) := [("veilstone/terms.needs", Rows.laid_veilstone_terms_needs), ("veilstone/terms.uses", Rows.laid_veilstone_terms_uses)]
theorem gNeeds : Tryd.prog.globalNamed "veilstone/terms.needs" = some 2 := by kernel_rfl
theorem gUses : Tryd.prog.globalNamed "veilstone/terms.uses" = some 0 := by kernel_rfl
theorem tNeeds : (Tryd.prog.globals[(2 : Nat)]?).map (·.type) = some 103 := by kernel_rfl
theorem tUses : (Tryd.prog.globals[(0 : Nat)]?).map (·.type) = some 70 := by kernel_rfl
def FT : List TypeId := [103, 102, 70, 69, 3, 4]
theorem fl : Fl Tryd.prog (· ∈ FT) := fl_of (by kernel_rfl)
theorem ng_of_laid {W : World} (h : laidMetH Tryd.prog laidL W) : ∀ ρ : Env, ρ.S = below W → ∀ id o, getH NG id = some o → RO W ρ id o := by
  rw [MakeChecks.laidMetH_plain _ _ _ (by kernel_rfl)] at h
  obtain ⟨ps, ⟨g0, t0, cs0, f0, p0, q0, hg0, ht0, hv0, hd0, ⟨g1, t1, cs1, f1, p1, q1, hg1, ht1, hv1, hd1, _, _⟩, _⟩, _, _⟩ := h
  obtain rfl := Option.some.inj (gNeeds.symm.trans hg0)
  obtain rfl := Option.some.inj (gUses.symm.trans hg1)
  obtain rfl := Option.some.inj (tNeeds.symm.trans ht0)
  obtain rfl := Option.some.inj (tUses.symm.trans ht1)
  have v0 := view_of_laid (z := 4) (rows := needs.map needR) fl hg0 (by decide) hv0 hd0 (by intro r hr; obtain ⟨x, _, rfl⟩ := List.mem_map.1 hr; rfl) (by kernel_rfl)
  have v1 := view_of_laid (z := 7) (rows := uses.map useR) fl hg1 (by decide) hv1 hd1 (by intro r hr; obtain ⟨x, _, rfl⟩ := List.mem_map.1 hr; rfl) (by kernel_rfl)
  intro ρ hS id o ho
  rw [← hS] at v0 v1
  simp only [NG, getH] at ho
  split at ho
  · injection ho with ho; subst ho; exact v0
  · split at ho
    · injection ho with ho; subst ho; exact v1
    · cases ho
end Go.Proofs.YtnemengadjimcaaDoor
