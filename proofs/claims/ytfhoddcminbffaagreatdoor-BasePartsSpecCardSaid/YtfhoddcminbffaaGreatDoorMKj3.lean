/-
  BasePartsSpec: for every input the call returns true, and what was handed in reads as it did.
  Conditions: the package-level variables hold what the program's text lays.
-/
import Derived.Test.YtfhoddcminbffaaGreatDoorCards
import Derived.Test.YtfhoddcminbffaaGreatDoorTie
import Derived.Test.YtfhoddcminbffaaGreatDoorMTcs
import Derived.Test.YtfhoddcminbffaaGreatDoorMJlc
import Derived.ProofKit
import Derived.LaidMore
import Derived.OpenShut
import Derived.Stop.Joined
import Derived.SevenTiedAt
set_option linter.unnecessarySimpa false
set_option linter.unusedSectionVars false
set_option linter.unusedSimpArgs false
set_option linter.unusedVariables false
namespace Go.Proofs.YtfhoddcminbffaaGreatDoor
open Go.ChangeShapes Go.WideShapes Go.ChangeAt Go.RowKit
theorem rQ:ownKnob Tryz.prog.godebug=none:=by kernel_rfl
theorem cM:Tryz.f5.params= #[38,38,31,48]:=by kernel_rfl
theorem nA:Tryz.f5.resultTypes= #[4]:=by kernel_rfl
theorem qN (os:Os) (args:Array Value):laidMetH Tryz.prog rD ((World.doorLaid Tryz.prog 400 os).forCall (λ_ _=>0) ⟨#[],args,[]⟩).memory:=
 laidMetH_of_parts3 (fuel:=8) (laidMet_of_run' 8 (by kernel_rfl) (by kernel_rfl)) (by kernel_rfl) (by kernel_rfl)
def qL:Array Value:= #[.agg #[.slice none 0 0], .agg #[.slice none 0 0], .slice none 0 0, .agg #[.int .i64 0, .bool false, .int .i64 0, .string ⟨#[]⟩, .int .i64 0, .int .i64 0, .slice none 0 0, .int .i64 0, .string ⟨#[]⟩, .int .i64 0, .int .i64 0, .slice none 0 0, .slice none 0 0, .string ⟨#[]⟩, .string ⟨#[]⟩, .string ⟨#[]⟩]]
set_option maxRecDepth 100000 in
theorem oC (os:Os) (started:os.Started) (H:Type) (enc:TypeId×Value->H):
  ReturnsInHanded {} Tryz.checked os 5 .any (λw args=>(Rows.basePartsSpecSpec.pre enc Tryz.prog Tryz.f5 [] false w args/\laidMetH Tryz.prog rD w)/\sizedMet enc Tryz.prog Tryz.f5 (OpenSpec.ofChange Rows.basePartsSpecSpec) false w args)
   (Rows.basePartsSpecSpec.post enc Tryz.prog Tryz.f5 false true false false):=by
 refine returnsInHanded_of_change_and (C:=Tryz.checked) (X:= λw _=>laidMetH Tryz.prog rD w) (λ_ _ _ hh h=>h.of_heap hh) rQ started (by kernel_rfl) Tryz.func5
  (ChangeSpec.witness_shaped (enc:=enc) (C:=Tryz.checked) (os:=os) (X:= λw _=>laidMetH Tryz.prog rD w) false (World.doorLaid Tryz.prog 400 os) qL 8 rfl (World.shaped_of_RefB (by kernel_rfl) (by kernel_rfl)) (by kernel_rfl) (by kernel_rfl) (by kernel_rfl) (qN os _)) ?_
 intro W base args ds gs before hval hW _ hz hL _
 refine mN (P:=Tryz.prog) (hp:=NG) clS laid nA u4 ?_ ?_ rfl ?_ ?_ W base args ds gs before hval hW hz (qY hL)
 ·intro t ht
  rw [cM]at ht
  simp at ht
  rcases ht with rfl|rfl|rfl
  all_goals exact of_decide_eq_true (by kernel_rfl)
 ·intro t ht
  rw [cM]at ht
  simp at ht
  rcases ht with rfl|rfl|rfl
  all_goals exact⟨by kernel_rfl,of_decide_eq_true (by kernel_rfl)⟩
 ·intro ds hl
  rw [cM]at hl
  match ds,hl with
  | [d0,d1,d2,d3],_=>rfl
 ·intro xs ha
  rw [cM]at ha
  cases ha with
  |cons h0 ha0=>
   cases ha0 with
   |cons h1 ha1=>
    cases ha1 with
    |cons h2 ha2=>
     cases ha2 with
     |cons h3 ha3=>
      cases ha3 with
      |nil=>
       obtain⟨x0,e0,s0⟩:=tU h0
       obtain⟨x1,e1,s1⟩:=tU h1
       obtain⟨x2,e2,_⟩:=aQh h2
       obtain⟨x3,e3,s3⟩:=aU6 h3
       rw [e0,e1,e2,e3]
       exact xK x0 x1 x2 x3 s0 s1 s3
theorem qM:Rows.BasePartsSpecSaid:=
 OpenClaim.holds_of_wide 5 Tryz.f5 rfl rfl rfl rfl rfl rfl rfl ⟨rfl,rfl,rfl,rfl,rfl⟩ rfl rfl rfl rfl rfl (by kernel_rfl) Tryz.func5 (by kernel_rfl)
  (of_decide_eq_true (by kernel_rfl)) (by unfold Func.isWrapper;first|(rw [if_pos (by decide+kernel)];kernel_rfl)|(rw [if_neg (by decide+kernel)];exact⟨rfl,rfl⟩))
  (λos started H enc _=>oC os started H enc)
theorem basePartsSpec_holds:Rows.BasePartsSpecCardSaid:=
 Claim7.holds_tied_plain_at .later [] [.data, .data] true (true, "951fd097bab50bb4c0e1a5377a4206ab81a388c94cae41ec0d1ffa177a6fc68f") false
  qM (λ_ h=>by cases h) (by kernel_rfl) (λ_ h=>by cases h) basePartsSpec_row_tie rfl ⟨rfl,rfl⟩ (by kernel_rfl) rfl
  (λf fn hf hfn => by
   obtain rfl:f=5:=Option.some.inj ((show Tryz.prog.funcNamed "veilstone/veilstonelaw07.BasePartsSpec" =some 5 by kernel_rfl).symm.trans hf) |>.symm
   obtain rfl:fn=Tryz.f5:=(Option.some.inj (Tryz.func5.symm.trans hfn)).symm
   exact ⟨by kernel_rfl, λj t ht => by
    rw [cM]at ht
    have hm:t∈[(38:Nat),38,31,48]:=by simpa using Array.mem_of_getElem? ht
    have hall:([(38:Nat),38,31,48].all λu=> !Tryz.prog.wantsStandIn u)=true:=by kernel_rfl
    exact(show Tryz.prog.wantsStandIn t=false by simpa using List.all_eq_true.1 hall t hm)⟩)
  (by kernel_rfl)
end Go.Proofs.YtfhoddcminbffaaGreatDoor
