/-
  ObjectsCanonical: for every input the call returns true, and what was handed in reads as it did.
  Conditions: the package-level variables hold what the program's text lays.
-/
import Derived.Test.YtcomlapnibckmaaGreatDoorCards
import Derived.Test.YtcomlapnibckmaaGreatDoorTie
import Derived.Test.YtcomlapnibckmaaGreatDoorVOv
import Derived.Test.YtcomlapnibckmaaGreatDoorVQqj
import Derived.Test.YtcomlapnibckmaaGreatDoorVKo2f
import Derived.ProofKit
import Derived.LaidMore
import Derived.OpenShut
import Derived.Stop.Joined
import Derived.SevenTiedAt
set_option linter.unnecessarySimpa false
set_option linter.unusedSectionVars false
set_option linter.unusedSimpArgs false
set_option linter.unusedVariables false
namespace Go.Proofs.YtcomlapnibckmaaGreatDoor
open Go.ChangeShapes Go.WideShapes Go.ChangeAt Go.RowKit
theorem iG (os:Os) (args:Array Value):laidMetH Tryz.prog aBg ((World.doorLaid Tryz.prog 400 os).forCall (λ_ _=>0) ⟨#[],args,[]⟩).memory:=
 laidMetH_of_parts3 (fuel:=8) (laidMet_of_run' 8 (by kernel_rfl) (by kernel_rfl)) (by kernel_rfl) (by kernel_rfl)
def iA:Array Value:= #[.slice none 0 0]
set_option maxRecDepth 100000 in
theorem gJ (os:Os) (started:os.Started) (H:Type) (enc:TypeId×Value->H):
  ReturnsInHanded {} Tryz.checked os 7 .any (λw args=>(Rows.objectsCanonicalSpec.pre enc Tryz.prog Tryz.f7 [] false w args/\laidMetH Tryz.prog aBg w)/\sizedMet enc Tryz.prog Tryz.f7 (OpenSpec.ofChange Rows.objectsCanonicalSpec) false w args)
   (Rows.objectsCanonicalSpec.post enc Tryz.prog Tryz.f7 false true false false):=by
 refine returnsInHanded_of_change_and (C:=Tryz.checked) (X:= λw _=>laidMetH Tryz.prog aBg w) (λ_ _ _ hh h=>h.of_heap hh) jB started (by kernel_rfl) Tryz.func7
  (ChangeSpec.witness_shaped (enc:=enc) (C:=Tryz.checked) (os:=os) (X:= λw _=>laidMetH Tryz.prog aBg w) false (World.doorLaid Tryz.prog 400 os) iA 8 rfl (World.shaped_of_RefB (by kernel_rfl) (by kernel_rfl)) (by kernel_rfl) (by kernel_rfl) (by kernel_rfl) (iG os _)) ?_
 intro W base args ds gs before hval hW _ hz hL _
 refine uE (P:=Tryz.prog) (hp:=NG) clX laid fZ u4 ?_ ?_ rfl ?_ ?_ W base args ds gs before hval hW hz (zA hL)
 ·intro t ht
  rw [bI]at ht
  simp at ht
  subst ht
  exact of_decide_eq_true (by kernel_rfl)
 ·intro t ht
  rw [bI]at ht
  simp at ht
  subst ht
  exact⟨by kernel_rfl,of_decide_eq_true (by kernel_rfl)⟩
 ·intro ds hl
  rw [bI]at hl
  match ds,hl with
  | [d0],_=>rfl
 ·intro xs ha
  rw [bI]at ha
  cases ha with
  |cons h0 ha0=>
   cases ha0 with
   |nil=>
    obtain⟨x0,e0⟩:=aC3 h0
    rw [e0]
    exact pY x0
theorem iC:Rows.ObjectsCanonicalSaid:=
 OpenClaim.holds_of_wide 7 Tryz.f7 rfl rfl rfl rfl rfl rfl rfl ⟨rfl,rfl,rfl,rfl,rfl⟩ rfl rfl rfl rfl rfl dM Tryz.func7 gK
  iE iB
  (λos started H enc _=>gJ os started H enc)
theorem objectsCanonical_holds:Rows.ObjectsCanonicalCardSaid:=
 Claim7.holds_tied_plain_at .later [] [.data, .data] true (true, "2668efe21ebd873a8eba6c47f906f8c957a91e54e0ef5dac25b42382f5ec5db2") false
  iC (λ_ h=>by cases h) jA (λ_ h=>by cases h) objectsCanonical_row_tie rfl ⟨rfl,rfl⟩ iD rfl
  (λf fn hf hfn => by
   obtain rfl:f=7:=Option.some.inj (dM.symm.trans hf) |>.symm
   obtain rfl:fn=Tryz.f7:=(Option.some.inj (Tryz.func7.symm.trans hfn)).symm
   exact ⟨gX, λj t ht => by
    rw [bI]at ht
    have hm:t∈[(26:Nat)]:=by simpa using Array.mem_of_getElem? ht
    exact(show Tryz.prog.wantsStandIn t=false by simpa using List.all_eq_true.1 gW t hm)⟩)
  iF
end Go.Proofs.YtcomlapnibckmaaGreatDoor
