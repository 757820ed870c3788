/-
  LedgerAddSpec: for every input the call returns true, and what was handed in reads as it did.
  Conditions: the package-level variables hold what the program's text lays.
-/
import Derived.Test.YtdjfkmkdkclahaaGreatDoorCards
import Derived.Test.YtdjfkmkdkclahaaGreatDoorTie
import Derived.Test.YtdjfkmkdkclahaaGreatDoorVSzf
import Derived.Test.YtdjfkmkdkclahaaGreatDoorVOz2
import Derived.Test.YtdjfkmkdkclahaaGreatDoorVKl2f
import Derived.ProofKit
import Derived.LaidMore
import Derived.OpenShut
import Derived.Stop.Joined
import Derived.SevenTiedAt
set_option linter.unnecessarySimpa false
set_option linter.unusedSectionVars false
set_option linter.unusedSimpArgs false
set_option linter.unusedVariables false
namespace Go.Proofs.YtdjfkmkdkclahaaGreatDoor
open Go.ChangeShapes Go.WideShapes Go.ChangeAt Go.RowKit
theorem rO (os:Os) (args:Array Value):laidMetH Tryz.prog mN ((World.doorLaid Tryz.prog 400 os).forCall (λ_ _=>0) ⟨#[],args,[]⟩).memory:=
 laidMetH_of_parts3 (fuel:=8) (laidMet_of_run' 8 (by kernel_rfl) (by kernel_rfl)) (by kernel_rfl) (by kernel_rfl)
def rI:Array Value:= #[.agg #[.string ⟨#[]⟩, .int .i64 0, .slice none 0 0], .agg #[.slice none 0 0]]
set_option maxRecDepth 100000 in
theorem mL (os:Os) (started:os.Started) (H:Type) (enc:TypeId×Value->H):
  ReturnsInHanded {} Tryz.checked os 4 .any (λw args=>(Rows.ledgerAddSpecSpec.pre enc Tryz.prog Tryz.f4 [] false w args/\laidMetH Tryz.prog mN w)/\sizedMet enc Tryz.prog Tryz.f4 (OpenSpec.ofChange Rows.ledgerAddSpecSpec) false w args)
   (Rows.ledgerAddSpecSpec.post enc Tryz.prog Tryz.f4 false true false false):=by
 refine returnsInHanded_of_change_and (C:=Tryz.checked) (X:= λw _=>laidMetH Tryz.prog mN w) (λ_ _ _ hh h=>h.of_heap hh) tB started (by kernel_rfl) Tryz.func4
  (ChangeSpec.witness_shaped (enc:=enc) (C:=Tryz.checked) (os:=os) (X:= λw _=>laidMetH Tryz.prog mN w) false (World.doorLaid Tryz.prog 400 os) rI 8 rfl (World.shaped_of_RefB (by kernel_rfl) (by kernel_rfl)) (by kernel_rfl) (by kernel_rfl) (by kernel_rfl) (rO os _)) ?_
 intro W base args ds gs before hval hW _ hz hL _
 refine gP (P:=Tryz.prog) (hp:=[]) clL laid kT u4 ?_ ?_ rfl ?_ ?_ W base args ds gs before hval hW hz gN
 ·intro t ht
  rw [cB]at ht
  simp at ht
  repeat' (rcases ht with rfl|ht)
  all_goals exact of_decide_eq_true (by kernel_rfl)
 ·intro t ht
  rw [cB]at ht
  simp at ht
  repeat' (rcases ht with rfl|ht)
  all_goals exact⟨by kernel_rfl,of_decide_eq_true (by kernel_rfl)⟩
 ·intro ds hl
  rw [cB]at hl
  match ds,hl with
  | [d0,d1],_=>rfl
 ·intro xs ha
  rw [cB]at ha
  cases ha with
  |cons h0 ha0=>
   cases ha0 with
   |cons h1 ha1=>
    cases ha1 with
    |nil=>
     obtain⟨x0,e0⟩:=aQz h0
     obtain⟨x1,e1⟩:=aQ3 h1
     rw [e0,e1]
     exact aD0 x0 x1
theorem rK:Rows.LedgerAddSpecSaid:=
 OpenClaim.holds_of_wide 4 Tryz.f4 rfl rfl rfl rfl rfl rfl rfl ⟨rfl,rfl,rfl,rfl,rfl⟩ rfl rfl rfl rfl rfl gA Tryz.func4 mM
  rM rJ
  (λos started H enc _=>mL os started H enc)
theorem ledgerAddSpec_holds:Rows.LedgerAddSpecCardSaid:=
 Claim7.holds_tied_plain_at .later [] [.data, .data, .data, .data, .data] true (true, "31d9d1ab998f585711b33df6a7b44aa3e07876cb3d679fc4da0c86cc0ca0dc2b") true
  rK (λ_ h=>by cases h) tA (λ_ h=>by cases h) ledgerAddSpec_row_tie rfl ⟨rfl,rfl⟩ rL rfl
  (λf fn hf hfn => by
   obtain rfl:f=4:=Option.some.inj (gA.symm.trans hf) |>.symm
   obtain rfl:fn=Tryz.f4:=(Option.some.inj (Tryz.func4.symm.trans hfn)).symm
   exact ⟨pE, λj t ht => by
    rw [cB]at ht
    have hm:t∈[(24:Nat),35]:=by simpa using Array.mem_of_getElem? ht
    exact(show Tryz.prog.wantsStandIn t=false by simpa using List.all_eq_true.1 pD t hm)⟩)
  rN
end Go.Proofs.YtdjfkmkdkclahaaGreatDoor
