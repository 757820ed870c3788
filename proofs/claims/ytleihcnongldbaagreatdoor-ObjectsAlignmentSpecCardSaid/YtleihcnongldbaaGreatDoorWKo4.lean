/-
  ObjectsAlignmentSpec: for every input the call returns true, and what was handed in reads as it did.
  Conditions: the package-level variables hold what the program's text lays.
-/
import Derived.Test.YtleihcnongldbaaGreatDoorCards
import Derived.Test.YtleihcnongldbaaGreatDoorTie
import Derived.Test.YtleihcnongldbaaGreatDoorWSyc
import Derived.Test.YtleihcnongldbaaGreatDoorWVh
import Derived.Test.YtleihcnongldbaaGreatDoorWKo4f
import Derived.ProofKit
import Derived.LaidMore
import Derived.OpenShut
import Derived.Stop.Joined
import Derived.SevenTiedAt
set_option linter.unnecessarySimpa false
set_option linter.unusedSectionVars false
set_option linter.unusedSimpArgs false
set_option linter.unusedVariables false
namespace Go.Proofs.YtleihcnongldbaaGreatDoor
open Go.ChangeShapes Go.WideShapes Go.ChangeAt Go.RowKit
theorem jR (os:Os) (args:Array Value):laidMetH Tryz.prog aBw ((World.doorLaid Tryz.prog 400 os).forCall (λ_ _=>0) ⟨#[],args,[]⟩).memory:=
 laidMetH_of_parts3 (fuel:=8) (laidMet_of_run' 8 (by kernel_rfl) (by kernel_rfl)) (by kernel_rfl) (by kernel_rfl)
def jL:Array Value:= #[.agg #[.string ⟨#[]⟩, .int .u8 0, .int .u8 0, .int .u8 0, .int .u8 0, .int .u8 0, .int .u8 0, .int .u8 0, .int .u8 0, .int .u8 0, .int .u8 0, .int .u8 0, .int .u8 0, .int .u8 0, .int .u8 0, .int .u8 0, .int .u8 0, .int .u8 0, .int .u8 0, .int .u8 0, .int .u8 0, .int .u8 0, .int .u8 0, .int .u8 0, .int .u8 0, .int .u8 0, .int .u8 0, .int .u8 0, .int .u8 0, .int .u8 0, .int .u8 0, .int .u8 0, .int .u8 0, .slice none 0 0, .int .u8 0, .int .u8 0, .int .u8 0, .int .u8 0, .int .u8 0, .int .u8 0, .int .u8 0, .int .u8 0, .int .u8 0, .int .u8 0, .int .u8 0, .int .u8 0, .int .u8 0, .int .u8 0, .int .u8 0, .int .u8 0, .int .u8 0, .int .u8 0, .int .u8 0, .int .u8 0, .int .u8 0, .int .u8 0, .int .u8 0, .int .u8 0, .int .u8 0, .int .u8 0, .int .u8 0, .int .u8 0, .int .u8 0, .int .u8 0, .int .u8 0, .int .u8 0, .int .i64 0, .slice none 0 0, .slice none 0 0], .slice none 0 0]
set_option maxRecDepth 100000 in
theorem iG (os:Os) (started:os.Started) (H:Type) (enc:TypeId×Value->H):
  ReturnsInHanded {} Tryz.checked os 4 .any (λw args=>(Rows.objectsAlignmentSpecSpec.pre enc Tryz.prog Tryz.f4 [] false w args/\laidMetH Tryz.prog aBw w)/\sizedMet enc Tryz.prog Tryz.f4 (OpenSpec.ofChange Rows.objectsAlignmentSpecSpec) false w args)
   (Rows.objectsAlignmentSpecSpec.post enc Tryz.prog Tryz.f4 false true false false):=by
 refine returnsInHanded_of_change_and (C:=Tryz.checked) (X:= λw _=>laidMetH Tryz.prog aBw w) (λ_ _ _ hh h=>h.of_heap hh) kM started (by kernel_rfl) Tryz.func4
  (ChangeSpec.witness_shaped (enc:=enc) (C:=Tryz.checked) (os:=os) (X:= λw _=>laidMetH Tryz.prog aBw w) false (World.doorLaid Tryz.prog 400 os) jL 8 rfl (World.shaped_of_RefB (by kernel_rfl) (by kernel_rfl)) (by kernel_rfl) (by kernel_rfl) (by kernel_rfl) (jR os _)) ?_
 intro W base args ds gs before hval hW _ hz hL _
 refine uQ (P:=Tryz.prog) (hp:=NG) clY laid gW u4 ?_ ?_ rfl ?_ ?_ W base args ds gs before hval hW hz (aA7 hL)
 ·intro t ht
  rw [bS]at ht
  simp at ht
  rcases ht with rfl|rfl
  all_goals exact of_decide_eq_true (by kernel_rfl)
 ·intro t ht
  rw [bS]at ht
  simp at ht
  rcases ht with rfl|rfl
  all_goals exact⟨by kernel_rfl,of_decide_eq_true (by kernel_rfl)⟩
 ·intro ds hl
  rw [bS]at hl
  match ds,hl with
  | [d0,d1],_=>rfl
 ·intro xs ha
  rw [bS]at ha
  cases ha with
  |cons h0 ha0=>
   cases ha0 with
   |cons h1 ha1=>
    cases ha1 with
    |nil=>
     obtain⟨x0,e0,s0,t0⟩:=aTj h0
     obtain⟨x1,e1⟩:=aDz h1
     rw [e0,e1]
     exact tH x0 x1 s0
theorem jN:Rows.ObjectsAlignmentSpecSaid:=
 OpenClaim.holds_of_wide 4 Tryz.f4 rfl rfl rfl rfl rfl rfl rfl ⟨rfl,rfl,rfl,rfl,rfl⟩ rfl rfl rfl rfl rfl eH Tryz.func4 iH
  jP jM
  (λos started H enc _=>iG os started H enc)
theorem objectsAlignmentSpec_holds:Rows.ObjectsAlignmentSpecCardSaid:=
 Claim7.holds_tied_plain_at .later [] [.data, .data] true (true, "6fbfa86e64c2ef3b537080d27e0690663e2a0ac49f25dbb572f2e77077de1d8f") false
  jN (λ_ h=>by cases h) kL (λ_ h=>by cases h) objectsAlignmentSpec_row_tie rfl ⟨rfl,rfl⟩ jO rfl
  (λf fn hf hfn => by
   obtain rfl:f=4:=Option.some.inj (eH.symm.trans hf) |>.symm
   obtain rfl:fn=Tryz.f4:=(Option.some.inj (Tryz.func4.symm.trans hfn)).symm
   exact ⟨iV, λj t ht => by
    rw [bS]at ht
    have hm:t∈[(44:Nat),26]:=by simpa using Array.mem_of_getElem? ht
    exact(show Tryz.prog.wantsStandIn t=false by simpa using List.all_eq_true.1 iU t hm)⟩)
  jQ
end Go.Proofs.YtleihcnongldbaaGreatDoor
