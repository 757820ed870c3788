/-
  ObjectsRoundTrips: for every input the call returns true, and what was handed in reads as it did.
  Conditions: the package-level variables hold what the program's text lays.
-/
import Derived.Test.YtleihcnongldbaaGreatDoorCards
import Derived.Test.YtleihcnongldbaaGreatDoorTie
import Derived.Test.YtleihcnongldbaaGreatDoorVOu
import Derived.Test.YtleihcnongldbaaGreatDoorVUg
import Derived.Test.YtleihcnongldbaaGreatDoorVKo3f
import Derived.ProofKit
import Derived.LaidMore
import Derived.OpenShut
import Derived.Stop.Joined
import Derived.SevenTiedAt
set_option linter.unnecessarySimpa false
set_option linter.unusedSectionVars false
set_option linter.unusedSimpArgs false
set_option linter.unusedVariables false
namespace Go.Proofs.YtleihcnongldbaaGreatDoor
open Go.ChangeShapes Go.WideShapes Go.ChangeAt Go.RowKit
theorem jV (os:Os) (args:Array Value):laidMetH Tryz.prog aFf ((World.doorLaid Tryz.prog 400 os).forCall (λ_ _=>0) ⟨#[],args,[]⟩).memory:=
 laidMetH_of_parts3 (fuel:=8) (laidMet_of_run' 8 (by kernel_rfl) (by kernel_rfl)) (by kernel_rfl) (by kernel_rfl)
def jO:Array Value:= #[.slice none 0 0, .agg #[.int .i64 0, .slice none 0 0, .int .u8 0, .int .u8 0, .int .u8 0, .int .u8 0, .int .u8 0, .int .u8 0, .int .u8 0, .int .u8 0, .int .u8 0, .int .u8 0, .int .u8 0, .int .u8 0, .int .u8 0, .int .u8 0, .int .u8 0, .int .u8 0, .int .u8 0, .int .u8 0, .int .u8 0, .int .u8 0, .int .u8 0, .int .u8 0, .int .u8 0, .int .u8 0, .int .u8 0, .int .u8 0, .int .u8 0, .int .u8 0, .int .u8 0, .int .u8 0, .int .u8 0, .int .u8 0, .string ⟨#[]⟩], .agg #[.slice none 0 0, .slice none 0 0], .agg #[.string ⟨#[]⟩, .int .u8 0, .int .u8 0, .int .u8 0, .int .u8 0, .int .u8 0, .int .u8 0, .int .u8 0, .int .u8 0, .int .u8 0, .int .u8 0, .int .u8 0, .int .u8 0, .int .u8 0, .int .u8 0, .int .u8 0, .int .u8 0, .int .u8 0, .int .u8 0, .int .u8 0, .int .u8 0, .int .u8 0, .int .u8 0, .int .u8 0, .int .u8 0, .int .u8 0, .int .u8 0, .int .u8 0, .int .u8 0, .int .u8 0, .int .u8 0, .int .u8 0, .int .u8 0, .slice none 0 0, .int .u8 0, .int .u8 0, .int .u8 0, .int .u8 0, .int .u8 0, .int .u8 0, .int .u8 0, .int .u8 0, .int .u8 0, .int .u8 0, .int .u8 0, .int .u8 0, .int .u8 0, .int .u8 0, .int .u8 0, .int .u8 0, .int .u8 0, .int .u8 0, .int .u8 0, .int .u8 0, .int .u8 0, .int .u8 0, .int .u8 0, .int .u8 0, .int .u8 0, .int .u8 0, .int .u8 0, .int .u8 0, .int .u8 0, .int .u8 0, .int .u8 0, .int .u8 0, .int .i64 0, .slice none 0 0, .slice none 0 0], .int .i64 0, .slice none 0 0]
set_option maxRecDepth 100000 in
theorem iD (os:Os) (started:os.Started) (H:Type) (enc:TypeId×Value->H):
  ReturnsInHanded {} Tryz.checked os 5 .any (λw args=>(Rows.objectsRoundTripsSpec.pre enc Tryz.prog Tryz.f5 [] false w args/\laidMetH Tryz.prog aFf w)/\sizedMet enc Tryz.prog Tryz.f5 (OpenSpec.ofChange Rows.objectsRoundTripsSpec) false w args)
   (Rows.objectsRoundTripsSpec.post enc Tryz.prog Tryz.f5 false true false false):=by
 refine returnsInHanded_of_change_and (C:=Tryz.checked) (X:= λw _=>laidMetH Tryz.prog aFf w) (λ_ _ _ hh h=>h.of_heap hh) kN started (by kernel_rfl) Tryz.func5
  (ChangeSpec.witness_shaped (enc:=enc) (C:=Tryz.checked) (os:=os) (X:= λw _=>laidMetH Tryz.prog aFf w) false (World.doorLaid Tryz.prog 400 os) jO 8 rfl (World.shaped_of_RefB (by kernel_rfl) (by kernel_rfl)) (by kernel_rfl) (by kernel_rfl) (by kernel_rfl) (jV os _)) ?_
 intro W base args ds gs before hval hW _ hz hL _
 refine zH (P:=Tryz.prog) (hp:=NG) clY laid hG u4 ?_ ?_ rfl ?_ ?_ W base args ds gs before hval hW hz (aD1 hL)
 ·intro t ht
  rw [bL]at ht
  simp at ht
  rcases ht with rfl|rfl|rfl|rfl|rfl|rfl
  all_goals exact of_decide_eq_true (by kernel_rfl)
 ·intro t ht
  rw [bL]at ht
  simp at ht
  rcases ht with rfl|rfl|rfl|rfl|rfl|rfl
  all_goals exact⟨by kernel_rfl,of_decide_eq_true (by kernel_rfl)⟩
 ·intro ds hl
  rw [bL]at hl
  match ds,hl with
  | [d0,d1,d2,d3,d4,d5],_=>rfl
 ·intro xs ha
  rw [bL]at ha
  cases ha with
  |cons h0 ha0=>
   cases ha0 with
   |cons h1 ha1=>
    cases ha1 with
    |cons h2 ha2=>
     cases ha2 with
     |cons h3 ha3=>
      cases ha3 with
      |cons h4 ha4=>
       cases ha4 with
       |cons h5 ha5=>
        cases ha5 with
        |nil=>
         obtain⟨x0,e0,n0,s0⟩:=aLo h0
         obtain⟨x1,e1⟩:=aDr h1
         obtain⟨x2,e2⟩:=aG9 h2
         obtain⟨x3,e3,s3,t3⟩:=aNi h3
         obtain⟨x4,e4⟩:=aP8 h4
         obtain⟨x5,e5⟩:=aGa h5
         rw [e0,e1,e2,e3,e4,e5]
         exact rY x0 x1 x2 x3 x4 x5 s0 s3 t3
theorem jR:Rows.ObjectsRoundTripsSaid:=
 OpenClaim.holds_of_wide 5 Tryz.f5 rfl rfl rfl rfl rfl rfl rfl ⟨rfl,rfl,rfl,rfl,rfl⟩ rfl rfl rfl rfl rfl dW Tryz.func5 iE
  jT jP
  (λos started H enc _=>iD os started H enc)
theorem objectsRoundTrips_holds:Rows.ObjectsRoundTripsCardSaid:=
 Claim7.holds_tied_plain_at .later [] [.data, .data] true (true, "6fbfa86e64c2ef3b537080d27e0690663e2a0ac49f25dbb572f2e77077de1d8f") false
  jR (λ_ h=>by cases h) kM (λ_ h=>by cases h) objectsRoundTrips_row_tie rfl ⟨rfl,rfl⟩ jS rfl
  (λf fn hf hfn => by
   obtain rfl:f=5:=Option.some.inj (dW.symm.trans hf) |>.symm
   obtain rfl:fn=Tryz.f5:=(Option.some.inj (Tryz.func5.symm.trans hfn)).symm
   exact ⟨iT, λj t ht => by
    rw [bL]at ht
    have hm:t∈[(39:Nat),53,25,44,3,26]:=by simpa using Array.mem_of_getElem? ht
    exact(show Tryz.prog.wantsStandIn t=false by simpa using List.all_eq_true.1 iS t hm)⟩)
  jU
end Go.Proofs.YtleihcnongldbaaGreatDoor
