/-
  ObjectsCommitSpec: for every input the call returns true, and what was handed in reads as it did.
  Conditions: the package-level variables hold what the program's text lays.
-/
import Derived.Test.YtcomlapnibckmaaGreatDoorCards
import Derived.Test.YtcomlapnibckmaaGreatDoorTie
import Derived.Test.YtcomlapnibckmaaGreatDoorMOv
import Derived.Test.YtcomlapnibckmaaGreatDoorMKo1f
import Derived.ProofKit
import Derived.LaidMore
import Derived.OpenShut
import Derived.Stop.Joined
import Derived.SevenTiedAt
set_option linter.unnecessarySimpa false
set_option linter.unusedSectionVars false
set_option linter.unusedSimpArgs false
set_option linter.unusedVariables false
namespace Go.Proofs.YtcomlapnibckmaaGreatDoor
open Go.ChangeShapes Go.WideShapes Go.ChangeAt Go.RowKit
theorem gE (os:Os) (args:Array Value):laidMetH Tryz.prog aAa ((World.doorLaid Tryz.prog 400 os).forCall (λ_ _=>0) ⟨#[],args,[]⟩).memory:=
 laidMetH_of_parts3 (fuel:=8) (laidMet_of_run' 8 (by kernel_rfl) (by kernel_rfl)) (by kernel_rfl) (by kernel_rfl)
def fY:Array Value:= #[.agg #[.int .i64 0, .slice none 0 0, .int .u8 0, .int .u8 0, .int .u8 0, .int .u8 0, .int .u8 0, .int .u8 0, .int .u8 0, .int .u8 0, .int .u8 0, .int .u8 0, .int .u8 0, .int .u8 0, .int .u8 0, .int .u8 0, .int .u8 0, .int .u8 0, .int .u8 0, .int .u8 0, .int .u8 0, .int .u8 0, .int .u8 0, .int .u8 0, .int .u8 0, .int .u8 0, .int .u8 0, .int .u8 0, .int .u8 0, .int .u8 0, .int .u8 0, .int .u8 0, .int .u8 0, .int .u8 0, .string ⟨#[]⟩], .slice none 0 0]
set_option maxRecDepth 100000 in
theorem fB (os:Os) (started:os.Started) (H:Type) (enc:TypeId×Value->H):
  ReturnsInHanded {} Tryz.checked os 4 .any (λw args=>(Rows.objectsCommitSpecSpec.pre enc Tryz.prog Tryz.f4 [] false w args/\laidMetH Tryz.prog aAa w)/\sizedMet enc Tryz.prog Tryz.f4 (OpenSpec.ofChange Rows.objectsCommitSpecSpec) false w args)
   (Rows.objectsCommitSpecSpec.post enc Tryz.prog Tryz.f4 false true false false):=by
 refine returnsInHanded_of_change_and (C:=Tryz.checked) (X:= λw _=>laidMetH Tryz.prog aAa w) (λ_ _ _ hh h=>h.of_heap hh) gS started (by kernel_rfl) Tryz.func4
  (ChangeSpec.witness_shaped (enc:=enc) (C:=Tryz.checked) (os:=os) (X:= λw _=>laidMetH Tryz.prog aAa w) false (World.doorLaid Tryz.prog 400 os) fY 8 rfl (World.shaped_of_RefB (by kernel_rfl) (by kernel_rfl)) (by kernel_rfl) (by kernel_rfl) (by kernel_rfl) (gE os _)) ?_
 intro W base args ds gs before hval hW _ hz hL _
 refine sL (P:=Tryz.prog) (hp:=NG) clX laid eP u4 ?_ ?_ rfl ?_ ?_ W base args ds gs before hval hW hz (xB hL)
 ·intro t ht
  rw [bC]at ht
  simp at ht
  rcases ht with rfl|rfl
  all_goals exact of_decide_eq_true (by kernel_rfl)
 ·intro t ht
  rw [bC]at ht
  simp at ht
  rcases ht with rfl|rfl
  all_goals exact⟨by kernel_rfl,of_decide_eq_true (by kernel_rfl)⟩
 ·intro ds hl
  rw [bC]at hl
  match ds,hl with
  | [d0,d1],_=>rfl
 ·intro xs ha
  rw [bC]at ha
  cases ha with
  |cons h0 ha0=>
   cases ha0 with
   |cons h1 ha1=>
    cases ha1 with
    |nil=>
     obtain⟨x0,e0⟩:=xX h0
     obtain⟨x1,e1⟩:=aAx h1
     rw [e0,e1]
     exact nX x0 x1
theorem gA:Rows.ObjectsCommitSpecSaid:=
 OpenClaim.holds_of_wide 4 Tryz.f4 rfl rfl rfl rfl rfl rfl rfl ⟨rfl,rfl,rfl,rfl,rfl⟩ rfl rfl rfl rfl rfl cY Tryz.func4 fC
  gC fZ
  (λos started H enc _=>fB os started H enc)
theorem objectsCommitSpec_holds:Rows.ObjectsCommitSpecCardSaid:=
 Claim7.holds_tied_plain_at .later [] [.data, .data] true (true, "2668efe21ebd873a8eba6c47f906f8c957a91e54e0ef5dac25b42382f5ec5db2") false
  gA (λ_ h=>by cases h) gR (λ_ h=>by cases h) objectsCommitSpec_row_tie rfl ⟨rfl,rfl⟩ gB rfl
  (λf fn hf hfn => by
   obtain rfl:f=4:=Option.some.inj (cY.symm.trans hf) |>.symm
   obtain rfl:fn=Tryz.f4:=(Option.some.inj (Tryz.func4.symm.trans hfn)).symm
   exact ⟨fP, λj t ht => by
    rw [bC]at ht
    have hm:t∈[(41:Nat),26]:=by simpa using Array.mem_of_getElem? ht
    exact(show Tryz.prog.wantsStandIn t=false by simpa using List.all_eq_true.1 fO t hm)⟩)
  gD
end Go.Proofs.YtcomlapnibckmaaGreatDoor
