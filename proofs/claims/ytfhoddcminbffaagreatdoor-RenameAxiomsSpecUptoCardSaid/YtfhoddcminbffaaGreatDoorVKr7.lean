/-
  RenameAxiomsSpec, where what it reads is of a bulk of at most 1048576: the call returns true, and what was handed in reads as it did.
  Conditions: the package-level variables hold what the program's text lays.
-/
import Derived.Test.YtfhoddcminbffaaGreatDoorCards
import Derived.Test.YtfhoddcminbffaaGreatDoorTie
import Derived.Test.YtfhoddcminbffaaGreatDoorVTcu
import Derived.Test.YtfhoddcminbffaaGreatDoorVRn7
import Derived.ProofKit
import Derived.LaidMore
import Derived.OpenShut
import Derived.Stop.Joined
import Derived.JoinedCond
import Derived.Deep.DeepHandedRow
import Derived.Deep.DeepWitnessRowRef
import Derived.SevenTiedAt
set_option linter.unnecessarySimpa false
set_option linter.unusedSectionVars false
set_option linter.unusedSimpArgs false
set_option linter.unusedVariables false
namespace Go.Proofs.YtfhoddcminbffaaGreatDoor
open Go.ChangeShapes Go.WideShapes Go.ChangeAt Go.RowKit
theorem lD:ownKnob Tryz.prog.godebug=none:=by kernel_rfl
theorem bP:Tryz.f3.params= #[22,23,3,9]:=by kernel_rfl
theorem iH:Tryz.f3.resultTypes= #[4]:=by kernel_rfl
theorem jS (os:Os) (args:Array Value):laidMetH Tryz.prog aKs ((World.doorLaid Tryz.prog 400 os).forCall (λ_ _=>0) ⟨#[],args,[]⟩).memory:=
 laidMetH_of_parts3 (fuel:=8) (laidMet_of_run' 8 (by kernel_rfl) (by kernel_rfl)) (by kernel_rfl) (by kernel_rfl)
def dH:Array Value:= #[.slice none 0 0, .slice none 0 0, .int .i64 0, .string ⟨#[]⟩]
theorem jJ (os:Os) {H:Type}(enc:TypeId×Value->H): ∃(d1 d2:List (DataW H)) (places:List MemPlace),DataW.whole enc Tryz.prog ((World.doorLaid Tryz.prog 400 os).forCall (λ_ _=>0) ⟨#[],dH,[]⟩).memory Tryz.f3.params.toList Rows.renameAxiomsSpecSpec.vars false dH.toList 8=some (d1,d2,places)/\Rows.uptoBulkAll (d1++d2)<=1048576:=
 ⟨[.nil, .nil, .lit (.int .i64 0), .lit (.string [])],[],[],by kernel_rfl,of_decide_eq_true (by kernel_rfl)⟩
set_option maxRecDepth 100000 in
theorem iZ (os:Os) (started:os.Started) (H:Type) (enc:TypeId×Value->H) (F:Stop.Interp):
  ReturnsInHanded {} Tryz.checked os 3 .any ((Rows.OpenSpec.upto Rows.renameAxiomsSpecSpec).preRow enc Tryz.prog Tryz.f3 Rows.renameAxiomsSpecUptoRow.domain false Rows.renameAxiomsSpecUptoRow.laid)
   (((Rows.OpenSpec.upto Rows.renameAxiomsSpecSpec).at F).post enc Tryz.prog Tryz.f3 false true false false):=by
 obtain⟨d1,d2,places,hx,hk⟩:=jJ os enc
 refine returnsInHanded_of_row (C:=Tryz.checked) (s:=Rows.OpenSpec.upto Rows.renameAxiomsSpecSpec) lD started (by kernel_rfl) Tryz.func3
  (witness_row_atRef (enc := enc) (C := Tryz.checked) false (World.doorLaid Tryz.prog 400 os) dH rfl (by kernel_rfl) (by kernel_rfl) (by kernel_rfl)
   (OpenSpec.preRow_of_cond 8 hx rfl (λk hk0=>by cases hk0;exact decide_eq_true hk) (by kernel_rfl) (jS os _))) ?_
 intro W base args ds gs before hval hW _ hcond hz hL _ _
 have hbk:Rows.uptoBulkAll (ds++gs)<=1048576:=of_decide_eq_true (hcond _ rfl)
 refine vV (P:=Tryz.prog) (B:=1048576) (s:=Rows.renameAxiomsSpecSpec) (hp:=NG) clR laid iH u4 ?_ ?_ rfl ?_ ?_ W base args ds gs before hval hW hbk hz (aCl hL)
 ·intro t ht
  rw [bP]at ht
  simp at ht
  rcases ht with rfl|rfl|rfl|rfl
  all_goals exact of_decide_eq_true (by kernel_rfl)
 ·intro t ht
  rw [bP]at ht
  simp at ht
  rcases ht with rfl|rfl|rfl|rfl
  all_goals exact⟨by kernel_rfl,of_decide_eq_true (by kernel_rfl)⟩
 ·intro ds hl
  rw [bP]at hl
  match ds,hl with
  | [d0,d1,d2,d3],_=>rfl
 ·intro xs ha
  rw [bP]at ha
  cases ha with
  |cons h0 b0 ha0=>
   cases ha0 with
   |cons h1 b1 ha1=>
    cases ha1 with
    |cons h2 b2 ha2=>
     cases ha2 with
     |cons h3 b3 ha3=>
      cases ha3 with
      |nil=>
       obtain⟨x0,e0,_⟩:=aIl h0
       obtain⟨x1,e1,s1⟩:=aIn h1 b1
       obtain⟨x2,e2⟩:=aIm h2
       obtain⟨x3,e3⟩:=aIk h3
       rw [e0,e1,e2,e3]
       exact aAf x0 x1 x2 x3 s1
theorem gY:Rows.RenameAxiomsSpecUptoSaid:=
 OpenClaim.holds_of_cond 3 Tryz.f3 rfl rfl rfl rfl rfl rfl rfl ⟨rfl,rfl,rfl,rfl,rfl⟩ rfl rfl rfl rfl rfl (by kernel_rfl) Tryz.func3 (by kernel_rfl)
  (of_decide_eq_true (by kernel_rfl)) (by unfold Func.isWrapper;first|(rw [if_pos (by decide+kernel)];kernel_rfl)|(rw [if_neg (by decide+kernel)];exact⟨rfl,rfl⟩))
  (λos started H enc _ F=>by rw [OpenClaim.pre_eq_preRow];exact iZ os started H enc F)
theorem renameAxiomsSpecUpto_holds:Rows.RenameAxiomsSpecUptoCardSaid:=
 Claim7.holds_tied_plain_at .later [] [.data, .data] true (true, "951fd097bab50bb4c0e1a5377a4206ab81a388c94cae41ec0d1ffa177a6fc68f") false
  gY (λ_ h=>by cases h) (by kernel_rfl) (λ_ h=>by cases h) renameAxiomsSpecUpto_row_tie rfl ⟨rfl,rfl⟩ (by kernel_rfl) rfl
  (λf fn hf hfn => by
   obtain rfl:f=3:=Option.some.inj ((show Tryz.prog.funcNamed "veilstone/veilstonelaw33.RenameAxiomsSpec" =some 3 by kernel_rfl).symm.trans hf) |>.symm
   obtain rfl:fn=Tryz.f3:=(Option.some.inj (Tryz.func3.symm.trans hfn)).symm
   exact ⟨by kernel_rfl, λj t ht => by
    rw [bP]at ht
    have hm:t∈[(22:Nat),23,3,9]:=by simpa using Array.mem_of_getElem? ht
    have hall:([(22:Nat),23,3,9].all λu=> !Tryz.prog.wantsStandIn u)=true:=by kernel_rfl
    exact(show Tryz.prog.wantsStandIn t=false by simpa using List.all_eq_true.1 hall t hm)⟩)
  (by kernel_rfl)
end Go.Proofs.YtfhoddcminbffaaGreatDoor
