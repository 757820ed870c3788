/-
  LedgerRoundTrip: for every input the call returns true, and what was handed in reads as it did.
  Conditions: the package-level variables hold what the program's text lays.
-/
import Derived.Test.YtdjfkmkdkclahaaGreatDoorCards
import Derived.Test.YtdjfkmkdkclahaaGreatDoorTie
import Derived.Test.YtdjfkmkdkclahaaGreatDoorWNq
import Derived.Test.YtdjfkmkdkclahaaGreatDoorWNt
import Derived.Test.YtdjfkmkdkclahaaGreatDoorWKl6f
import Derived.ProofKit
import Derived.LaidMore
import Derived.OpenShut
import Derived.Stop.Joined
import Derived.SevenTiedAt
set_option linter.unnecessarySimpa false
set_option linter.unusedSectionVars false
set_option linter.unusedSimpArgs false
set_option linter.unusedVariables false
namespace Go.Proofs.YtdjfkmkdkclahaaGreatDoor
open Go.ChangeShapes Go.WideShapes Go.ChangeAt Go.RowKit
theorem jJ (os:Os) (args:Array Value):laidMetH Tryz.prog xQ ((World.doorLaid Tryz.prog 400 os).forCall (λ_ _=>0) ⟨#[],args,[]⟩).memory:=
 laidMetH_of_parts3 (fuel:=8) (laidMet_of_run' 8 (by kernel_rfl) (by kernel_rfl)) (by kernel_rfl) (by kernel_rfl)
def jD:Array Value:= #[.string ⟨#[]⟩, .int .i64 0, .agg #[.int .i64 0, .slice none 0 0], .slice none 0 0]
set_option maxRecDepth 100000 in
theorem gS (os:Os) (started:os.Started) (H:Type) (enc:TypeId×Value->H):
  ReturnsInHanded {} Tryz.checked os 8 .any (λw args=>(Rows.ledgerRoundTripSpec.pre enc Tryz.prog Tryz.f8 [] false w args/\laidMetH Tryz.prog xQ w)/\sizedMet enc Tryz.prog Tryz.f8 (OpenSpec.ofChange Rows.ledgerRoundTripSpec) false w args)
   (Rows.ledgerRoundTripSpec.post enc Tryz.prog Tryz.f8 false true false false):=by
 refine returnsInHanded_of_change_and (C:=Tryz.checked) (X:= λw _=>laidMetH Tryz.prog xQ w) (λ_ _ _ hh h=>h.of_heap hh) jU started (by kernel_rfl) Tryz.func8
  (ChangeSpec.witness_shaped (enc:=enc) (C:=Tryz.checked) (os:=os) (X:= λw _=>laidMetH Tryz.prog xQ w) false (World.doorLaid Tryz.prog 400 os) jD 8 rfl (World.shaped_of_RefB (by kernel_rfl) (by kernel_rfl)) (by kernel_rfl) (by kernel_rfl) (by kernel_rfl) (jJ os _)) ?_
 intro W base args ds gs before hval hW _ hz hL _
 refine nR (P:=Tryz.prog) (hp:=[]) clL laid gH u4 ?_ ?_ rfl ?_ ?_ W base args ds gs before hval hW hz nQ
 ·intro t ht
  rw [bK]at ht
  simp at ht
  rcases ht with rfl|rfl|rfl|rfl
  all_goals exact of_decide_eq_true (by kernel_rfl)
 ·intro t ht
  rw [bK]at ht
  simp at ht
  rcases ht with rfl|rfl|rfl|rfl
  all_goals exact⟨by kernel_rfl,of_decide_eq_true (by kernel_rfl)⟩
 ·intro ds hl
  rw [bK]at hl
  match ds,hl with
  | [d0,d1,d2,d3],_=>rfl
 ·intro xs ha
  rw [bK]at ha
  cases ha with
  |cons h0 ha0=>
   cases ha0 with
   |cons h1 ha1=>
    cases ha1 with
    |cons h2 ha2=>
     cases ha2 with
     |cons h3 ha3=>
      cases ha3 with
      |nil=>
       obtain⟨x0,e0⟩:=aMc h0
       obtain⟨x1,e1⟩:=aO1 h1
       obtain⟨x2,e2⟩:=aKi h2
       obtain⟨x3,e3⟩:=aFo h3
       rw [e0,e1,e2,e3]
       exact aA3 x0 x1 x2 x3
theorem jF:Rows.LedgerRoundTripSaid:=
 OpenClaim.holds_of_wide 8 Tryz.f8 rfl rfl rfl rfl rfl rfl rfl ⟨rfl,rfl,rfl,rfl,rfl⟩ rfl rfl rfl rfl rfl dY Tryz.func8 gT
  jH jE
  (λos started H enc _=>gS os started H enc)
theorem ledgerRoundTrip_holds:Rows.LedgerRoundTripCardSaid:=
 Claim7.holds_tied_plain_at .later [] [.data, .data, .data, .data, .data] true (true, "31d9d1ab998f585711b33df6a7b44aa3e07876cb3d679fc4da0c86cc0ca0dc2b") true
  jF (λ_ h=>by cases h) jT (λ_ h=>by cases h) ledgerRoundTrip_row_tie rfl ⟨rfl,rfl⟩ jG rfl
  (λf fn hf hfn => by
   obtain rfl:f=8:=Option.some.inj (dY.symm.trans hf) |>.symm
   obtain rfl:fn=Tryz.f8:=(Option.some.inj (Tryz.func8.symm.trans hfn)).symm
   exact ⟨iE, λj t ht => by
    rw [bK]at ht
    have hm:t∈[(9:Nat),3,42,43]:=by simpa using Array.mem_of_getElem? ht
    exact(show Tryz.prog.wantsStandIn t=false by simpa using List.all_eq_true.1 iD t hm)⟩)
  jI
end Go.Proofs.YtdjfkmkdkclahaaGreatDoor
