/-
  LedgerBytesSpec: for every input the call returns true, and what was handed in reads as it did.
  Conditions: the package-level variables hold what the program's text lays.
-/
import Derived.Test.YtdjfkmkdkclahaaGreatDoorCards
import Derived.Test.YtdjfkmkdkclahaaGreatDoorTie
import Derived.Test.YtdjfkmkdkclahaaGreatDoorVSzf
import Derived.Test.YtdjfkmkdkclahaaGreatDoorVOz3
import Derived.Test.YtdjfkmkdkclahaaGreatDoorVKl3f
import Derived.ProofKit
import Derived.LaidMore
import Derived.OpenShut
import Derived.Stop.Joined
import Derived.SevenTiedAt
set_option linter.unnecessarySimpa false
set_option linter.unusedSectionVars false
set_option linter.unusedSimpArgs false
set_option linter.unusedVariables false
namespace Go.Proofs.YtdjfkmkdkclahaaGreatDoor
open Go.ChangeShapes Go.WideShapes Go.ChangeAt Go.RowKit
theorem mK (os:Os) (args:Array Value):laidMetH Tryz.prog mN ((World.doorLaid Tryz.prog 400 os).forCall (λ_ _=>0) ⟨#[],args,[]⟩).memory:=
 laidMetH_of_parts3 (fuel:=8) (laidMet_of_run' 8 (by kernel_rfl) (by kernel_rfl)) (by kernel_rfl) (by kernel_rfl)
def mE:Array Value:= #[.string ⟨#[]⟩, .int .i64 0, .agg #[.int .i64 0, .slice none 0 0], .int .i64 0, .int .u8 0, .slice none 0 0]
set_option maxRecDepth 100000 in
theorem jW (os:Os) (started:os.Started) (H:Type) (enc:TypeId×Value->H):
  ReturnsInHanded {} Tryz.checked os 5 .any (λw args=>(Rows.ledgerBytesSpecSpec.pre enc Tryz.prog Tryz.f5 [] false w args/\laidMetH Tryz.prog mN w)/\sizedMet enc Tryz.prog Tryz.f5 (OpenSpec.ofChange Rows.ledgerBytesSpecSpec) false w args)
   (Rows.ledgerBytesSpecSpec.post enc Tryz.prog Tryz.f5 false true false false):=by
 refine returnsInHanded_of_change_and (C:=Tryz.checked) (X:= λw _=>laidMetH Tryz.prog mN w) (λ_ _ _ hh h=>h.of_heap hh) oD started (by kernel_rfl) Tryz.func5
  (ChangeSpec.witness_shaped (enc:=enc) (C:=Tryz.checked) (os:=os) (X:= λw _=>laidMetH Tryz.prog mN w) false (World.doorLaid Tryz.prog 400 os) mE 8 rfl (World.shaped_of_RefB (by kernel_rfl) (by kernel_rfl)) (by kernel_rfl) (by kernel_rfl) (by kernel_rfl) (mK os _)) ?_
 intro W base args ds gs before hval hW _ hz hL _
 refine gP (P:=Tryz.prog) (hp:=[]) clL laid jC u4 ?_ ?_ rfl ?_ ?_ W base args ds gs before hval hW hz gN
 ·intro t ht
  rw [bV]at ht
  simp at ht
  repeat' (rcases ht with rfl|ht)
  all_goals exact of_decide_eq_true (by kernel_rfl)
 ·intro t ht
  rw [bV]at ht
  simp at ht
  repeat' (rcases ht with rfl|ht)
  all_goals exact⟨by kernel_rfl,of_decide_eq_true (by kernel_rfl)⟩
 ·intro ds hl
  rw [bV]at hl
  match ds,hl with
  | [d0,d1,d2,d3,d4,d5],_=>rfl
 ·intro xs ha
  rw [bV]at ha
  cases ha with
  |cons h0 ha0=>
   cases ha0 with
   |cons h1 ha1=>
    cases ha1 with
    |cons h2 ha2=>
     cases ha2 with
     |cons h3 ha3=>
      cases ha3 with
      |cons h4 ha4=>
       cases ha4 with
       |cons h5 ha5=>
        cases ha5 with
        |nil=>
         obtain⟨x0,e0⟩:=aV7 h0
         obtain⟨x1,e1⟩:=aV9 h1
         obtain⟨x2,e2⟩:=aT8 h2
         obtain⟨x3,e3⟩:=aV9 h3
         obtain⟨x4,e4⟩:=aWy h4
         obtain⟨x5,e5⟩:=aN9 h5
         rw [e0,e1,e2,e3,e4,e5]
         exact yU x0 x1 x2 x3 x4 x5
theorem mG:Rows.LedgerBytesSpecSaid:=
 OpenClaim.holds_of_wide 5 Tryz.f5 rfl rfl rfl rfl rfl rfl rfl ⟨rfl,rfl,rfl,rfl,rfl⟩ rfl rfl rfl rfl rfl fB Tryz.func5 jX
  mI mF
  (λos started H enc _=>jW os started H enc)
theorem ledgerBytesSpec_holds:Rows.LedgerBytesSpecCardSaid:=
 Claim7.holds_tied_plain_at .later [] [.data, .data, .data, .data, .data] true (true, "31d9d1ab998f585711b33df6a7b44aa3e07876cb3d679fc4da0c86cc0ca0dc2b") true
  mG (λ_ h=>by cases h) oC (λ_ h=>by cases h) ledgerBytesSpec_row_tie rfl ⟨rfl,rfl⟩ mH rfl
  (λf fn hf hfn => by
   obtain rfl:f=5:=Option.some.inj (fB.symm.trans hf) |>.symm
   obtain rfl:fn=Tryz.f5:=(Option.some.inj (Tryz.func5.symm.trans hfn)).symm
   exact ⟨kS, λj t ht => by
    rw [bV]at ht
    have hm:t∈[(9:Nat),3,42,3,5,43]:=by simpa using Array.mem_of_getElem? ht
    exact(show Tryz.prog.wantsStandIn t=false by simpa using List.all_eq_true.1 kR t hm)⟩)
  mJ
end Go.Proofs.YtdjfkmkdkclahaaGreatDoor
