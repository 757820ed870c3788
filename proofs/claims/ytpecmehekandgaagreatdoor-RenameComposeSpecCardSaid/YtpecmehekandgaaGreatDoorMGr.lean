/-
  Terms: the vocabulary, plainly: whose names it holds. Terms: tidying keeps a concept valid and adds no names. Terms: what a valid concept and a valid axiom are; tidying keeps axioms valid. Terms: order, repetition and grouping of parts do not change the canonical form (plainly). Terms: the reference's order, Strings, Size and Compare. The walk through the reference's keyword.
  Conditions: none.
-/
import Derived.Test.YtpecmehekandgaaGreatDoorMAq
import Derived.Test.YtpecmehekandgaaGreatDoorMAo
import Derived.Test.YtpecmehekandgaaGreatDoorMSyb
import Derived.Test.YtpecmehekandgaaGreatDoorMG2
set_option linter.unnecessarySimpa false
set_option linter.unusedSectionVars false
set_option linter.unusedSimpArgs false
set_option linter.unusedVariables false
namespace Go.Proofs.YtpecmehekandgaaGreatDoor
open Go.Proofs
def hasK (k : Int) (c : Cn) (s : List UInt8) : Prop := ∃ n ∈ nodes c, n.kind = k ∧ n.name = s
end Go.Proofs.YtpecmehekandgaaGreatDoor
namespace Go.Proofs.YtpecmehekandgaaGreatDoor
open Go.Proofs
def Okn (c : Cn) : Prop := ∀ x ∈ nodes c, fieldsE x = 0
def NamesIn (t c : Cn) : Prop := ∀ k s, k ≠ 1 → k ≠ 5 → hasK k t s → hasK k c s
structure Keep (c t : Cn) : Prop where
  ok : Okn t
  dep : depthF t ≤ depthF c
  nam : NamesIn t c
  bare : bareF t = true → bareF c = true
structure Part (c m : Cn) : Prop where
  ok : Okn m
  dep : depthF m + 1 ≤ depthF c
  nam : NamesIn m c
  bare : bareF m = true → bareF c = true
theorem Part.keep {c m : Cn} (h : Part c m) : Keep c m := ⟨h.ok, by have := h.dep; omega, h.nam, h.bare⟩
end Go.Proofs.YtpecmehekandgaaGreatDoor
namespace Go.Proofs.YtpecmehekandgaaGreatDoor
open Go.Proofs
end Go.Proofs.YtpecmehekandgaaGreatDoor
namespace Go.Proofs.YtpecmehekandgaaGreatDoor
open Go.Proofs
end Go.Proofs.YtpecmehekandgaaGreatDoor
namespace Go.Proofs.YtpecmehekandgaaGreatDoor
open Go.Proofs
set_option maxRecDepth 10000
attribute [local irreducible] SemVC CallVC Tri Stuck YVC GenP GenVC
end Go.Proofs.YtpecmehekandgaaGreatDoor
namespace Go.Proofs.YtpecmehekandgaaGreatDoor
open Go.Proofs
set_option maxRecDepth 10000
attribute [local irreducible] SemVC CallVC Tri Stuck
set_option maxHeartbeats 2000000 in
theorem rkeyword_spec (s : List UInt8) : Tri Tryz.prog 117 [.d (.str s)] [] (fun r => r = .d (.bool (kwF s))) := by
  refine tri_of_body hty Tryz.func117 rfl (kp [0, 2, 3, 4]) [] _ _ _ (by simp [Tryz.f117]) (by simp) ?_
  ((conv => whnf); repeat' ((first | (intro hq; try simp only [lnS] at hq) | refine sJ ?_ | refine .intro _ (.intro rfl ?_) | (refine .intro (show (_ : Nat) < List.length _ from by first | omega | (simp only [lnS]; omega) | simp) ?_) | refine draw_rule hty (by kernel_rfl) (by kernel_rfl) ?_ | ((first | refine brB_dec ?_ ?_ | refine brB_ndec ?_ ?_) <;> intro hb <;> (first | contradiction | ((try simp only [lnS] at hb); try (exfalso; omega)))) | (refine brB_split ?_ ?_ <;> intro hb <;> (first | contradiction | exact bT hb (by assumption) | exact bF hb (by assumption) | skip))) <;> (conv => whnf)))
  all_goals first | (rename_i hb; subst hb; rfl) | skip
  have : kwF s = false := by simp [kwF, kws, *]
  rw [this]; rfl
end Go.Proofs.YtpecmehekandgaaGreatDoor
