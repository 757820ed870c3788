/-
  ObjectsIdentify: for every input the call returns true, and what was handed in reads as it did.
  Conditions: the package-level variables hold what the program's text lays.
-/
import Derived.Test.YtbobcfjlbcgchaaGreatDoorCards
import Derived.Test.YtbobcfjlbcgchaaGreatDoorTie
import Derived.Test.YtbobcfjlbcgchaaGreatDoorVOh
import Derived.Test.YtbobcfjlbcgchaaGreatDoorVYo
import Derived.Test.YtbobcfjlbcgchaaGreatDoorVKo7f
import Derived.ProofKit
import Derived.LaidMore
import Derived.OpenShut
import Derived.Stop.Joined
import Derived.SevenTiedAt
set_option linter.unnecessarySimpa false
set_option linter.unusedSectionVars false
set_option linter.unusedSimpArgs false
set_option linter.unusedVariables false
namespace Go.Proofs.YtbobcfjlbcgchaaGreatDoor
open Go.ChangeShapes Go.WideShapes Go.ChangeAt Go.RowKit
theorem nY (os:Os) (args:Array Value):laidMetH Tryz.prog aN7 ((World.doorLaid Tryz.prog 400 os).forCall (λ_ _=>0) ⟨#[],args,[]⟩).memory:=
 laidMetH_of_parts3 (fuel:=8) (laidMet_of_run' 8 (by kernel_rfl) (by kernel_rfl)) (by kernel_rfl) (by kernel_rfl)
def nS:Array Value:= #[.slice none 0 0, .int .i64 0]
set_option maxRecDepth 100000 in
theorem lI (os:Os) (started:os.Started) (H:Type) (enc:TypeId×Value->H):
  ReturnsInHanded {} Tryz.checked os 4 .any (λw args=>(Rows.objectsIdentifySpec.pre enc Tryz.prog Tryz.f4 [] false w args/\laidMetH Tryz.prog aN7 w)/\sizedMet enc Tryz.prog Tryz.f4 (OpenSpec.ofChange Rows.objectsIdentifySpec) false w args)
   (Rows.objectsIdentifySpec.post enc Tryz.prog Tryz.f4 false true false false):=by
 refine returnsInHanded_of_change_and (C:=Tryz.checked) (X:= λw _=>laidMetH Tryz.prog aN7 w) (λ_ _ _ hh h=>h.of_heap hh) oN started (by kernel_rfl) Tryz.func4
  (ChangeSpec.witness_shaped (enc:=enc) (C:=Tryz.checked) (os:=os) (X:= λw _=>laidMetH Tryz.prog aN7 w) false (World.doorLaid Tryz.prog 400 os) nS 8 rfl (World.shaped_of_RefB (by kernel_rfl) (by kernel_rfl)) (by kernel_rfl) (by kernel_rfl) (by kernel_rfl) (nY os _)) ?_
 intro W base args ds gs before hval hW _ hz hL _
 refine aD4 (P:=Tryz.prog) (hp:=NK) clY laid kP u4 ?_ ?_ rfl ?_ ?_ W base args ds gs before hval hW hz (aJb hL)
 ·intro t ht
  rw [cG]at ht
  simp at ht
  rcases ht with rfl|rfl
  all_goals exact of_decide_eq_true (by kernel_rfl)
 ·intro t ht
  rw [cG]at ht
  simp at ht
  rcases ht with rfl|rfl
  all_goals exact⟨by kernel_rfl,of_decide_eq_true (by kernel_rfl)⟩
 ·intro ds hl
  rw [cG]at hl
  match ds,hl with
  | [d0,d1],_=>rfl
 ·intro xs ha
  rw [cG]at ha
  cases ha with
  |cons h0 ha0=>
   cases ha0 with
   |cons h1 ha1=>
    cases ha1 with
    |nil=>
     obtain⟨x0,e0,n0,s0⟩:=aTz h0
     obtain⟨x1,e1⟩:=aXv h1
     rw [e0,e1]
     exact aBj x0 x1 s0
theorem nU:Rows.ObjectsIdentifySaid:=
 OpenClaim.holds_of_wide 4 Tryz.f4 rfl rfl rfl rfl rfl rfl rfl ⟨rfl,rfl,rfl,rfl,rfl⟩ rfl rfl rfl rfl rfl gE Tryz.func4 lJ
  nW nT
  (λos started H enc _=>lI os started H enc)
theorem objectsIdentify_holds:Rows.ObjectsIdentifyCardSaid:=
 Claim7.holds_tied_plain_at .later [] [.data, .data, .data] true (true, "a6364876bb5dc560b7634f0dfb672e8647d26b77dbad6064847dba9e515b1f15") false
  nU (λ_ h=>by cases h) oM (λ_ h=>by cases h) objectsIdentify_row_tie rfl ⟨rfl,rfl⟩ nV rfl
  (λf fn hf hfn => by
   obtain rfl:f=4:=Option.some.inj (gE.symm.trans hf) |>.symm
   obtain rfl:fn=Tryz.f4:=(Option.some.inj (Tryz.func4.symm.trans hfn)).symm
   exact ⟨mH, λj t ht => by
    rw [cG]at ht
    have hm:t∈[(22:Nat),3]:=by simpa using Array.mem_of_getElem? ht
    exact(show Tryz.prog.wantsStandIn t=false by simpa using List.all_eq_true.1 mG t hm)⟩)
  nX
end Go.Proofs.YtbobcfjlbcgchaaGreatDoor
