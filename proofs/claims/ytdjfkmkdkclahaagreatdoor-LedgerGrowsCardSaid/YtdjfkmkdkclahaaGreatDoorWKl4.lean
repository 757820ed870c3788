/-
  LedgerGrows: for every input the call returns true, and what was handed in reads as it did.
  Conditions: the package-level variables hold what the program's text lays.
-/
import Derived.Test.YtdjfkmkdkclahaaGreatDoorCards
import Derived.Test.YtdjfkmkdkclahaaGreatDoorTie
import Derived.Test.YtdjfkmkdkclahaaGreatDoorWNq
import Derived.Test.YtdjfkmkdkclahaaGreatDoorWNu
import Derived.Test.YtdjfkmkdkclahaaGreatDoorWKl4f
import Derived.ProofKit
import Derived.LaidMore
import Derived.OpenShut
import Derived.Stop.Joined
import Derived.SevenTiedAt
set_option linter.unnecessarySimpa false
set_option linter.unusedSectionVars false
set_option linter.unusedSimpArgs false
set_option linter.unusedVariables false
namespace Go.Proofs.YtdjfkmkdkclahaaGreatDoor
open Go.ChangeShapes Go.WideShapes Go.ChangeAt Go.RowKit
theorem oE (os:Os) (args:Array Value):laidMetH Tryz.prog xQ ((World.doorLaid Tryz.prog 400 os).forCall (λ_ _=>0) ⟨#[],args,[]⟩).memory:=
 laidMetH_of_parts3 (fuel:=8) (laidMet_of_run' 8 (by kernel_rfl) (by kernel_rfl)) (by kernel_rfl) (by kernel_rfl)
def nY:Array Value:= #[.slice none 0 0]
set_option maxRecDepth 100000 in
theorem lX (os:Os) (started:os.Started) (H:Type) (enc:TypeId×Value->H):
  ReturnsInHanded {} Tryz.checked os 6 .any (λw args=>(Rows.ledgerGrowsSpec.pre enc Tryz.prog Tryz.f6 [] false w args/\laidMetH Tryz.prog xQ w)/\sizedMet enc Tryz.prog Tryz.f6 (OpenSpec.ofChange Rows.ledgerGrowsSpec) false w args)
   (Rows.ledgerGrowsSpec.post enc Tryz.prog Tryz.f6 false true false false):=by
 refine returnsInHanded_of_change_and (C:=Tryz.checked) (X:= λw _=>laidMetH Tryz.prog xQ w) (λ_ _ _ hh h=>h.of_heap hh) pY started (by kernel_rfl) Tryz.func6
  (ChangeSpec.witness_shaped (enc:=enc) (C:=Tryz.checked) (os:=os) (X:= λw _=>laidMetH Tryz.prog xQ w) false (World.doorLaid Tryz.prog 400 os) nY 8 rfl (World.shaped_of_RefB (by kernel_rfl) (by kernel_rfl)) (by kernel_rfl) (by kernel_rfl) (by kernel_rfl) (oE os _)) ?_
 intro W base args ds gs before hval hW _ hz hL _
 refine nR (P:=Tryz.prog) (hp:=[]) clL laid kU u4 ?_ ?_ rfl ?_ ?_ W base args ds gs before hval hW hz nQ
 ·intro t ht
  rw [bY]at ht
  simp at ht
  subst ht
  exact of_decide_eq_true (by kernel_rfl)
 ·intro t ht
  rw [bY]at ht
  simp at ht
  subst ht
  exact⟨by kernel_rfl,of_decide_eq_true (by kernel_rfl)⟩
 ·intro ds hl
  rw [bY]at hl
  match ds,hl with
  | [d0],_=>rfl
 ·intro xs ha
  rw [bY]at ha
  cases ha with
  |cons h0 ha0=>
   cases ha0 with
   |nil=>
    obtain⟨x0,e0⟩:=aFn h0
    rw [e0]
    exact aA4 x0
theorem oA:Rows.LedgerGrowsSaid:=
 OpenClaim.holds_of_wide 6 Tryz.f6 rfl rfl rfl rfl rfl rfl rfl ⟨rfl,rfl,rfl,rfl,rfl⟩ rfl rfl rfl rfl rfl fW Tryz.func6 lY
  oC nZ
  (λos started H enc _=>lX os started H enc)
theorem ledgerGrows_holds:Rows.LedgerGrowsCardSaid:=
 Claim7.holds_tied_plain_at .later [] [.data, .data, .data, .data, .data] true (true, "31d9d1ab998f585711b33df6a7b44aa3e07876cb3d679fc4da0c86cc0ca0dc2b") true
  oA (λ_ h=>by cases h) pW (λ_ h=>by cases h) ledgerGrows_row_tie rfl ⟨rfl,rfl⟩ oB rfl
  (λf fn hf hfn => by
   obtain rfl:f=6:=Option.some.inj (fW.symm.trans hf) |>.symm
   obtain rfl:fn=Tryz.f6:=(Option.some.inj (Tryz.func6.symm.trans hfn)).symm
   exact ⟨nE, λj t ht => by
    rw [bY]at ht
    have hm:t∈[(51:Nat)]:=by simpa using Array.mem_of_getElem? ht
    exact(show Tryz.prog.wantsStandIn t=false by simpa using List.all_eq_true.1 nD t hm)⟩)
  oD
end Go.Proofs.YtdjfkmkdkclahaaGreatDoor
