/-
  ObjectsAxiomsSpec: for every input the call returns true, and what was handed in reads as it did.
  Conditions: the package-level variables hold what the program's text lays.
-/
import Derived.Test.YtbobcfjlbcgchaaGreatDoorCards
import Derived.Test.YtbobcfjlbcgchaaGreatDoorTie
import Derived.Test.YtbobcfjlbcgchaaGreatDoorWVp
import Derived.Test.YtbobcfjlbcgchaaGreatDoorWYn
import Derived.Test.YtbobcfjlbcgchaaGreatDoorWKo6f
import Derived.ProofKit
import Derived.LaidMore
import Derived.OpenShut
import Derived.Stop.Joined
import Derived.SevenTiedAt
set_option linter.unnecessarySimpa false
set_option linter.unusedSectionVars false
set_option linter.unusedSimpArgs false
set_option linter.unusedVariables false
namespace Go.Proofs.YtbobcfjlbcgchaaGreatDoor
section
open Go.ChangeShapes Go.WideShapes Go.ChangeAt Go.RowKit
theorem nY (os:Os) (args:Array Value):laidMetH Tryz.prog aTf ((World.doorLaid Tryz.prog 400 os).forCall (λ_ _=>0) ⟨#[],args,[]⟩).memory:=
 laidMetH_of_parts3 (fuel:=8) (laidMet_of_run' 8 (by kernel_rfl) (by kernel_rfl)) (by kernel_rfl) (by kernel_rfl)
def nS:Array Value:= #[.slice none 0 0, .slice none 0 0]
set_option maxRecDepth 100000 in
theorem mD (os:Os) (started:os.Started) (H:Type) (enc:TypeId×Value->H):
  ReturnsInHanded {} Tryz.checked os 3 .any (λw args=>(Rows.objectsAxiomsSpecSpec.pre enc Tryz.prog Tryz.f3 [] false w args/\laidMetH Tryz.prog aTf w)/\sizedMet enc Tryz.prog Tryz.f3 (OpenSpec.ofChange Rows.objectsAxiomsSpecSpec) false w args)
   (Rows.objectsAxiomsSpecSpec.post enc Tryz.prog Tryz.f3 false true false false):=by
 refine returnsInHanded_of_change_and (C:=Tryz.checked) (X:= λw _=>laidMetH Tryz.prog aTf w) (λ_ _ _ g h=>h.of_heap g) oZ started (by kernel_rfl) Tryz.func3
  (ChangeSpec.witness_shaped (enc:=enc) (C:=Tryz.checked) (os:=os) (X:= λw _=>laidMetH Tryz.prog aTf w) false (World.doorLaid Tryz.prog 400 os) nS 8 rfl (World.shaped_of_RefB (by kernel_rfl) (by kernel_rfl)) (by kernel_rfl) (by kernel_rfl) (by kernel_rfl) (nY os _)) ?_
 intro W base args c k before b i _ hz m _
 refine aI3 (P:=Tryz.prog) (hp:=NK) clY laid lR u4 ?_ ?_ rfl ?_ ?_ W base args c k before b i hz (aP7 m)
 ·intro t a
  rw [bY]at a
  simp at a
  rcases a with rfl|rfl
  all_goals exact of_decide_eq_true (by kernel_rfl)
 ·intro t a
  rw [bY]at a
  simp at a
  rcases a with rfl|rfl
  all_goals exact⟨by kernel_rfl,of_decide_eq_true (by kernel_rfl)⟩
 ·intro c hl
  rw [bY]at hl
  match c,hl with
  | [d0,d1],_=>rfl
 ·intro xs d
  rw [bY]at d
  cases d with
  |cons h0 ha0=>
   cases ha0 with
   |cons h1 ha1=>
    cases ha1 with
    |nil=>
     obtain⟨j,f,n0,e⟩:=bAu h0
     obtain⟨l,e1⟩:=aUl h1
     rw [f,e1]
     exact aBq j l e
theorem nU:Rows.ObjectsAxiomsSpecSaid:=
 OpenClaim.holds_of_wide 3 Tryz.f3 rfl rfl rfl rfl rfl rfl rfl ⟨rfl,rfl,rfl,rfl,rfl⟩ rfl rfl rfl rfl rfl gS Tryz.func3 mE
  nW nT
  (λos a H enc _=>mD os a H enc)
theorem objectsAxiomsSpec_holds:Rows.ObjectsAxiomsSpecCardSaid:=
 Claim7.holds_tied_plain_at .later [] [.data, .data, .data] true (true, "a6364876bb5dc560b7634f0dfb672e8647d26b77dbad6064847dba9e515b1f15") false
  nU (λ_ h=>by cases h) oY (λ_ h=>by cases h) objectsAxiomsSpec_row_tie rfl ⟨rfl,rfl⟩ nV rfl
  (λf fn d a => by
   obtain rfl:f=3:=Option.some.inj (gS.symm.trans d) |>.symm
   obtain rfl:fn=Tryz.f3:=(Option.some.inj (Tryz.func3.symm.trans a)).symm
   exact ⟨nC, λj t b => by
    rw [bY]at b
    have c:t∈[(22:Nat),23]:=by simpa using Array.mem_of_getElem? b
    exact(show Tryz.prog.wantsStandIn t=false by simpa using List.all_eq_true.1 nB t c)⟩)
  nX
end
end Go.Proofs.YtbobcfjlbcgchaaGreatDoor
