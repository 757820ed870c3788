/-
  LedgerNames: for every input the call returns true, and what was handed in reads as it did.
  Conditions: the package-level variables hold what the program's text lays.
-/
import Derived.Test.YtdjfkmkdkclahaaGreatDoorCards
import Derived.Test.YtdjfkmkdkclahaaGreatDoorTie
import Derived.Test.YtdjfkmkdkclahaaGreatDoorWSzf
import Derived.Test.YtdjfkmkdkclahaaGreatDoorWOz5
import Derived.Test.YtdjfkmkdkclahaaGreatDoorWKl5f
import Derived.ProofKit
import Derived.LaidMore
import Derived.OpenShut
import Derived.Stop.Joined
import Derived.SevenTiedAt
set_option linter.unnecessarySimpa false
set_option linter.unusedSectionVars false
set_option linter.unusedSimpArgs false
set_option linter.unusedVariables false
namespace Go.Proofs.YtdjfkmkdkclahaaGreatDoor
open Go.ChangeShapes Go.WideShapes Go.ChangeAt Go.RowKit
theorem nP (os:Os) (args:Array Value):laidMetH Tryz.prog aIt ((World.doorLaid Tryz.prog 400 os).forCall (λ_ _=>0) ⟨#[],args,[]⟩).memory:=
 laidMetH_of_parts3 (fuel:=8) (laidMet_of_run' 8 (by kernel_rfl) (by kernel_rfl)) (by kernel_rfl) (by kernel_rfl)
def nJ:Array Value:= #[.slice none 0 0, .agg #[.slice none 0 0], .agg #[.int .u8 0, .int .u8 0, .int .u8 0, .int .u8 0], .int .i64 0]
set_option maxRecDepth 100000 in
theorem lF (os:Os) (started:os.Started) (H:Type) (enc:TypeId×Value->H):
  ReturnsInHanded {} Tryz.checked os 7 .any (λw args=>(Rows.ledgerNamesSpec.pre enc Tryz.prog Tryz.f7 [] false w args/\laidMetH Tryz.prog aIt w)/\sizedMet enc Tryz.prog Tryz.f7 (OpenSpec.ofChange Rows.ledgerNamesSpec) false w args)
   (Rows.ledgerNamesSpec.post enc Tryz.prog Tryz.f7 false true false false):=by
 refine returnsInHanded_of_change_and (C:=Tryz.checked) (X:= λw _=>laidMetH Tryz.prog aIt w) (λ_ _ _ hh h=>h.of_heap hh) pQ started (by kernel_rfl) Tryz.func7
  (ChangeSpec.witness_shaped (enc:=enc) (C:=Tryz.checked) (os:=os) (X:= λw _=>laidMetH Tryz.prog aIt w) false (World.doorLaid Tryz.prog 400 os) nJ 8 rfl (World.shaped_of_RefB (by kernel_rfl) (by kernel_rfl)) (by kernel_rfl) (by kernel_rfl) (by kernel_rfl) (nP os _)) ?_
 intro W base args ds gs before hval hW _ hz hL _
 refine yG (P:=Tryz.prog) (hp:=[]) clL laid kK u4 ?_ ?_ rfl ?_ ?_ W base args ds gs before hval hW hz xX
 ·intro t ht
  rw [bZ]at ht
  simp at ht
  repeat' (rcases ht with rfl|ht)
  all_goals exact of_decide_eq_true (by kernel_rfl)
 ·intro t ht
  rw [bZ]at ht
  simp at ht
  repeat' (rcases ht with rfl|ht)
  all_goals exact⟨by kernel_rfl,of_decide_eq_true (by kernel_rfl)⟩
 ·intro ds hl
  rw [bZ]at hl
  match ds,hl with
  | [d0,d1,d2,d3],_=>rfl
 ·intro xs ha
  rw [bZ]at ha
  cases ha with
  |cons h0 ha0=>
   cases ha0 with
   |cons h1 ha1=>
    cases ha1 with
    |cons h2 ha2=>
     cases ha2 with
     |cons h3 ha3=>
      cases ha3 with
      |nil=>
       obtain⟨x0,e0⟩:=aGz h0
       obtain⟨x1,e1⟩:=aJg h1
       obtain⟨w2,x2,y2,z2,e2⟩:=aNw h2
       obtain⟨x3,e3⟩:=aPe h3
       rw [e0,e1,e2,e3]
       exact aAe x0 x1 w2 x2 y2 z2 x3
theorem nL:Rows.LedgerNamesSaid:=
 OpenClaim.holds_of_wide 7 Tryz.f7 rfl rfl rfl rfl rfl rfl rfl ⟨rfl,rfl,rfl,rfl,rfl⟩ rfl rfl rfl rfl rfl gP Tryz.func7 lG
  nN nK
  (λos started H enc _=>lF os started H enc)
theorem ledgerNames_holds:Rows.LedgerNamesCardSaid:=
 Claim7.holds_tied_plain_at .later [] [.data, .data, .data, .data, .data] true (true, "31d9d1ab998f585711b33df6a7b44aa3e07876cb3d679fc4da0c86cc0ca0dc2b") true
  nL (λ_ h=>by cases h) pP (λ_ h=>by cases h) ledgerNames_row_tie rfl ⟨rfl,rfl⟩ nM rfl
  (λf fn hf hfn => by
   obtain rfl:f=7:=Option.some.inj (gP.symm.trans hf) |>.symm
   obtain rfl:fn=Tryz.f7:=(Option.some.inj (Tryz.func7.symm.trans hfn)).symm
   exact ⟨mJ, λj t ht => by
    rw [bZ]at ht
    have hm:t∈[(51:Nat),35,57,3]:=by simpa using Array.mem_of_getElem? ht
    exact(show Tryz.prog.wantsStandIn t=false by simpa using List.all_eq_true.1 mI t hm)⟩)
  nO
end Go.Proofs.YtdjfkmkdkclahaaGreatDoor
