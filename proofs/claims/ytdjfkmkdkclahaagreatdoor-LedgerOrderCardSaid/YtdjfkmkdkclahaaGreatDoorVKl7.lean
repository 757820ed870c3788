/-
  LedgerOrder: for every input the call returns true, and what was handed in reads as it did.
  Conditions: the package-level variables hold what the program's text lays.
-/
import Derived.Test.YtdjfkmkdkclahaaGreatDoorCards
import Derived.Test.YtdjfkmkdkclahaaGreatDoorTie
import Derived.Test.YtdjfkmkdkclahaaGreatDoorVSzf
import Derived.Test.YtdjfkmkdkclahaaGreatDoorVOz7
import Derived.Test.YtdjfkmkdkclahaaGreatDoorVKl7f
import Derived.ProofKit
import Derived.LaidMore
import Derived.OpenShut
import Derived.Stop.Joined
import Derived.SevenTiedAt
set_option linter.unnecessarySimpa false
set_option linter.unusedSectionVars false
set_option linter.unusedSimpArgs false
set_option linter.unusedVariables false
namespace Go.Proofs.YtdjfkmkdkclahaaGreatDoor
open Go.ChangeShapes Go.WideShapes Go.ChangeAt Go.RowKit
theorem vD (os:Os) (args:Array Value):laidMetH Tryz.prog mN ((World.doorLaid Tryz.prog 400 os).forCall (λ_ _=>0) ⟨#[],args,[]⟩).memory:=
 laidMetH_of_parts3 (fuel:=8) (laidMet_of_run' 8 (by kernel_rfl) (by kernel_rfl)) (by kernel_rfl) (by kernel_rfl)
def uX:Array Value:= #[.slice none 0 0, .slice none 0 0, .agg #[.int .i64 0, .int .i64 0]]
set_option maxRecDepth 100000 in
theorem qM (os:Os) (started:os.Started) (H:Type) (enc:TypeId×Value->H):
  ReturnsInHanded {} Tryz.checked os 9 .any (λw args=>(Rows.ledgerOrderSpec.pre enc Tryz.prog Tryz.f9 [] false w args/\laidMetH Tryz.prog mN w)/\sizedMet enc Tryz.prog Tryz.f9 (OpenSpec.ofChange Rows.ledgerOrderSpec) false w args)
   (Rows.ledgerOrderSpec.post enc Tryz.prog Tryz.f9 false true false false):=by
 refine returnsInHanded_of_change_and (C:=Tryz.checked) (X:= λw _=>laidMetH Tryz.prog mN w) (λ_ _ _ hh h=>h.of_heap hh) xU started (by kernel_rfl) Tryz.func9
  (ChangeSpec.witness_shaped (enc:=enc) (C:=Tryz.checked) (os:=os) (X:= λw _=>laidMetH Tryz.prog mN w) false (World.doorLaid Tryz.prog 400 os) uX 8 rfl (World.shaped_of_RefB (by kernel_rfl) (by kernel_rfl)) (by kernel_rfl) (by kernel_rfl) (by kernel_rfl) (vD os _)) ?_
 intro W base args ds gs before hval hW _ hz hL _
 refine gP (P:=Tryz.prog) (hp:=[]) clL laid nB u4 ?_ ?_ rfl ?_ ?_ W base args ds gs before hval hW hz gN
 ·intro t ht
  rw [cL]at ht
  simp at ht
  repeat' (rcases ht with rfl|ht)
  all_goals exact of_decide_eq_true (by kernel_rfl)
 ·intro t ht
  rw [cL]at ht
  simp at ht
  repeat' (rcases ht with rfl|ht)
  all_goals exact⟨by kernel_rfl,of_decide_eq_true (by kernel_rfl)⟩
 ·intro ds hl
  rw [cL]at hl
  match ds,hl with
  | [d0,d1,d2],_=>rfl
 ·intro xs ha
  rw [cL]at ha
  cases ha with
  |cons h0 ha0=>
   cases ha0 with
   |cons h1 ha1=>
    cases ha1 with
    |cons h2 ha2=>
     cases ha2 with
     |nil=>
      obtain⟨x0,e0⟩:=aFn h0
      obtain⟨x1,e1⟩:=aFn h1
      obtain⟨x2,y2,e2⟩:=aV8 h2
      rw [e0,e1,e2]
      exact aGi x0 x1 x2 y2
theorem uZ:Rows.LedgerOrderSaid:=
 OpenClaim.holds_of_wide 9 Tryz.f9 rfl rfl rfl rfl rfl rfl rfl ⟨rfl,rfl,rfl,rfl,rfl⟩ rfl rfl rfl rfl rfl iL Tryz.func9 qN
  vB uY
  (λos started H enc _=>qM os started H enc)
theorem ledgerOrder_holds:Rows.LedgerOrderCardSaid:=
 Claim7.holds_tied_plain_at .later [] [.data, .data, .data, .data, .data] true (true, "31d9d1ab998f585711b33df6a7b44aa3e07876cb3d679fc4da0c86cc0ca0dc2b") true
  uZ (λ_ h=>by cases h) xT (λ_ h=>by cases h) ledgerOrder_row_tie rfl ⟨rfl,rfl⟩ vA rfl
  (λf fn hf hfn => by
   obtain rfl:f=9:=Option.some.inj (iL.symm.trans hf) |>.symm
   obtain rfl:fn=Tryz.f9:=(Option.some.inj (Tryz.func9.symm.trans hfn)).symm
   exact ⟨sZ, λj t ht => by
    rw [cL]at ht
    have hm:t∈[(51:Nat),51,65]:=by simpa using Array.mem_of_getElem? ht
    exact(show Tryz.prog.wantsStandIn t=false by simpa using List.all_eq_true.1 sX t hm)⟩)
  vC
end Go.Proofs.YtdjfkmkdkclahaaGreatDoor
