/-
  LedgerCheckSpec: for every input the call returns true, and what was handed in reads as it did.
  Conditions: the package-level variables hold what the program's text lays.
-/
import Derived.Test.YtdjfkmkdkclahaaGreatDoorCards
import Derived.Test.YtdjfkmkdkclahaaGreatDoorTie
import Derived.Test.YtdjfkmkdkclahaaGreatDoorVSzf
import Derived.Test.YtdjfkmkdkclahaaGreatDoorVOz1
import Derived.Test.YtdjfkmkdkclahaaGreatDoorVKl1f
import Derived.ProofKit
import Derived.LaidMore
import Derived.OpenShut
import Derived.Stop.Joined
import Derived.SevenTiedAt
set_option linter.unnecessarySimpa false
set_option linter.unusedSectionVars false
set_option linter.unusedSimpArgs false
set_option linter.unusedVariables false
namespace Go.Proofs.YtdjfkmkdkclahaaGreatDoor
open Go.ChangeShapes Go.WideShapes Go.ChangeAt Go.RowKit
theorem mD (os:Os) (args:Array Value):laidMetH Tryz.prog mN ((World.doorLaid Tryz.prog 400 os).forCall (λ_ _=>0) ⟨#[],args,[]⟩).memory:=
 laidMetH_of_parts3 (fuel:=8) (laidMet_of_run' 8 (by kernel_rfl) (by kernel_rfl)) (by kernel_rfl) (by kernel_rfl)
def lX:Array Value:= #[.agg #[.string ⟨#[]⟩, .int .i64 0, .slice none 0 0]]
set_option maxRecDepth 100000 in
theorem jU (os:Os) (started:os.Started) (H:Type) (enc:TypeId×Value->H):
  ReturnsInHanded {} Tryz.checked os 3 .any (λw args=>(Rows.ledgerCheckSpecSpec.pre enc Tryz.prog Tryz.f3 [] false w args/\laidMetH Tryz.prog mN w)/\sizedMet enc Tryz.prog Tryz.f3 (OpenSpec.ofChange Rows.ledgerCheckSpecSpec) false w args)
   (Rows.ledgerCheckSpecSpec.post enc Tryz.prog Tryz.f3 false true false false):=by
 refine returnsInHanded_of_change_and (C:=Tryz.checked) (X:= λw _=>laidMetH Tryz.prog mN w) (λ_ _ _ hh h=>h.of_heap hh) nD started (by kernel_rfl) Tryz.func3
  (ChangeSpec.witness_shaped (enc:=enc) (C:=Tryz.checked) (os:=os) (X:= λw _=>laidMetH Tryz.prog mN w) false (World.doorLaid Tryz.prog 400 os) lX 8 rfl (World.shaped_of_RefB (by kernel_rfl) (by kernel_rfl)) (by kernel_rfl) (by kernel_rfl) (by kernel_rfl) (mD os _)) ?_
 intro W base args ds gs before hval hW _ hz hL _
 refine gP (P:=Tryz.prog) (hp:=[]) clL laid jB u4 ?_ ?_ rfl ?_ ?_ W base args ds gs before hval hW hz gN
 ·intro t ht
  rw [bU]at ht
  simp at ht
  subst ht
  exact of_decide_eq_true (by kernel_rfl)
 ·intro t ht
  rw [bU]at ht
  simp at ht
  subst ht
  exact⟨by kernel_rfl,of_decide_eq_true (by kernel_rfl)⟩
 ·intro ds hl
  rw [bU]at hl
  match ds,hl with
  | [d0],_=>rfl
 ·intro xs ha
  rw [bU]at ha
  cases ha with
  |cons h0 ha0=>
   cases ha0 with
   |nil=>
    obtain⟨x0,e0⟩:=aQz h0
    rw [e0]
    exact yT x0
theorem lZ:Rows.LedgerCheckSpecSaid:=
 OpenClaim.holds_of_wide 3 Tryz.f3 rfl rfl rfl rfl rfl rfl rfl ⟨rfl,rfl,rfl,rfl,rfl⟩ rfl rfl rfl rfl rfl fA Tryz.func3 jV
  mB lY
  (λos started H enc _=>jU os started H enc)
theorem ledgerCheckSpec_holds:Rows.LedgerCheckSpecCardSaid:=
 Claim7.holds_tied_plain_at .later [] [.data, .data, .data, .data, .data] true (true, "31d9d1ab998f585711b33df6a7b44aa3e07876cb3d679fc4da0c86cc0ca0dc2b") true
  lZ (λ_ h=>by cases h) nC (λ_ h=>by cases h) ledgerCheckSpec_row_tie rfl ⟨rfl,rfl⟩ mA rfl
  (λf fn hf hfn => by
   obtain rfl:f=3:=Option.some.inj (fA.symm.trans hf) |>.symm
   obtain rfl:fn=Tryz.f3:=(Option.some.inj (Tryz.func3.symm.trans hfn)).symm
   exact ⟨kQ, λj t ht => by
    rw [bU]at ht
    have hm:t∈[(24:Nat)]:=by simpa using Array.mem_of_getElem? ht
    exact(show Tryz.prog.wantsStandIn t=false by simpa using List.all_eq_true.1 kP t hm)⟩)
  mC
end Go.Proofs.YtdjfkmkdkclahaaGreatDoor
