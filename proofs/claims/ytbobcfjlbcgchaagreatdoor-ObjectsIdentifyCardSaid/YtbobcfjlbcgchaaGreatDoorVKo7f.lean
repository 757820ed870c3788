/-
  ObjectsIdentify: what the program's text says of the function, fact by fact.
-/
import Derived.Test.YtbobcfjlbcgchaaGreatDoorCards
import Derived.Test.YtbobcfjlbcgchaaGreatDoorTie
import Derived.ProofKit
import Derived.JoinedOf
import Derived.LaidMore
import Derived.OpenShut
import Derived.Stop.Joined
import Derived.SevenTiedAt
set_option linter.unnecessarySimpa false
set_option linter.unusedSectionVars false
set_option linter.unusedSimpArgs false
set_option linter.unusedVariables false
namespace Go.Proofs.YtbobcfjlbcgchaaGreatDoor
open Go.ChangeShapes Go.WideShapes Go.ChangeAt Go.RowKit
theorem oN:ownKnob Tryz.prog.godebug=none:=by kernel_rfl
theorem cG:Tryz.f4.params= #[22,3]:=by kernel_rfl
theorem kP:Tryz.f4.resultTypes= #[4]:=by kernel_rfl
theorem qZ:(Rows.objectsIdentifyRow.wf (OpenSpec.ofChange Rows.objectsIdentifySpec))=true:=by kernel_rfl
theorem qY:(laidOutB Tryz.prog)=true:=by kernel_rfl
theorem qX:(mapsRowed Tryz.prog)=true:=by kernel_rfl
theorem qW:(Tryz.f4.params.all (Tryz.prog.readableRec ·))=true:=by kernel_rfl
theorem qV:(namedTie Tryz.prog Rows.objectsIdentifyRow.named Rows.objectsIdentifySpec.vars)=true:=by kernel_rfl
theorem qU:(Rows.objectsIdentifyRow.stops==[])=true:=by kernel_rfl
theorem qT:(Tryz.prog.stops==[])=true:=by kernel_rfl
theorem qS:(Rows.objectsIdentifyRow.knobs==[])=true:=by kernel_rfl
theorem qR:(Tryz.prog.stopKnobs==[])=true:=by kernel_rfl
theorem qQ:(Rows.objectsIdentifyRow.inPlace==Tryz.prog.inPlace 4)=true:=by kernel_rfl
theorem pK:(Rows.objectsIdentifyRow.unfollowed==Tryz.prog.unfollowed 4)=true:=by kernel_rfl
theorem pJ:(Rows.objectsIdentifyRow.recurses==Tryz.prog.recurses 4)=true:=by kernel_rfl
theorem pI:(Rows.objectsIdentifyRow.named==Tryz.prog.varsNamed 4)=true:=by kernel_rfl
theorem pH:(Rows.objectsIdentifyRow.maps==(Tryz.f4.params.toList++Rows.objectsIdentifySpec.plain.varTypes Tryz.prog).any (Tryz.prog.mapsRec ·))=true:=by kernel_rfl
theorem pG:(Rows.objectsIdentifyRow.ifaces==(Tryz.f4.params.toList++Rows.objectsIdentifySpec.plain.varTypes Tryz.prog).any (Tryz.prog.ifacesRec ·))=true:=by kernel_rfl
theorem pF:(Rows.objectsIdentifyRow.mapsOut==Tryz.prog.mapsAmong Tryz.f4.resultTypes.toList)=true:=by kernel_rfl
theorem pE:(Rows.objectsIdentifyRow.loops==(Tryz.f4.params.toList++Rows.objectsIdentifySpec.plain.varTypes Tryz.prog).any (Tryz.prog.loopsFrom ·))=true:=by kernel_rfl
theorem pD:(Rows.objectsIdentifyRow.wideKeys==(Tryz.f4.params.toList++Rows.objectsIdentifySpec.plain.varTypes Tryz.prog++Tryz.f4.resultTypes.toList).any (Tryz.prog.wideKeysFrom ·))=true:=by kernel_rfl
theorem pC:(Rows.objectsIdentifySpec.vars.all (Tryz.prog.varReadable ·))=true:=by kernel_rfl
theorem pB:(Tryz.f4.resultTypes.all (λt=>Tryz.prog.readableRec t && decide (t < Tryz.prog.types.size)))=true:=by kernel_rfl
theorem pA:(Rows.objectsIdentifyRow.ifacesOut==Tryz.f4.resultTypes.toList.any (Tryz.prog.ifacesRec ·))=true:=by kernel_rfl
theorem oZ:(Rows.objectsIdentifyRow.loopsOut==Tryz.f4.resultTypes.toList.any (Tryz.prog.loopsFrom ·))=true:=by kernel_rfl
theorem oY:(Rows.objectsIdentifyRow.plainKeys==Tryz.prog.plainKeys)=true:=by kernel_rfl
theorem oX:(Rows.objectsIdentifyRow.shortTexts.isNone)=true:=by kernel_rfl
theorem oW:(Tryz.prog.stopsHeard)=true:=by kernel_rfl
theorem oV:(Tryz.prog.mayEnter)=true:=by kernel_rfl
theorem oU:(Rows.objectsIdentifyRow.lifted==Tryz.prog.liftsFinal)=true:=by kernel_rfl
theorem oT:(Tryz.prog.make==some Rows.objectsIdentifyRow.make)=true:=by kernel_rfl
theorem oS:(Rows.objectsIdentifyRow.kinds==(if Rows.objectsIdentifyRow.domain.isEmpty then []else Tryz.f4.params.toList.map λt=>match Tryz.prog.underlying t with|some (.int k)=>some k|_=>none))=true:=by kernel_rfl
theorem oQ:(Rows.objectsIdentifyRow.pinned==Rows.objectsIdentifyRow.pinnedBy)=true:=by kernel_rfl
theorem oP:(Rows.objectsIdentifyRow.veiled==(Tryz.f4.params.toList++Rows.objectsIdentifySpec.plain.varTypes Tryz.prog++Tryz.f4.resultTypes.toList).any (Tryz.prog.veiledRec ·))=true:=by kernel_rfl
theorem oO:(Rows.objectsIdentifyRow.veiledFits Tryz.prog Tryz.f4.params.toList (Tryz.f4.params.toList++Rows.objectsIdentifySpec.plain.varTypes Tryz.prog++Tryz.f4.resultTypes.toList))=true:=by kernel_rfl
theorem pL {b0 b1 b2 b3 b4 b5 b6 b7 b8 b9 b10 b11 b12 b13 b14 b15 b16 b17 b18 b19 b20 b21 b22 b23 b24 b25 b26 b27 b28 b29 b30 b31:Bool}(h0:b0=true) (h1:b1=true) (h2:b2=true) (h3:b3=true) (h4:b4=true) (h5:b5=true) (h6:b6=true) (h7:b7=true) (h8:b8=true) (h9:b9=true) (h10:b10=true) (h11:b11=true) (h12:b12=true) (h13:b13=true) (h14:b14=true) (h15:b15=true) (h16:b16=true) (h17:b17=true) (h18:b18=true) (h19:b19=true) (h20:b20=true) (h21:b21=true) (h22:b22=true) (h23:b23=true) (h24:b24=true) (h25:b25=true) (h26:b26=true) (h27:b27=true) (h28:b28=true) (h29:b29=true) (h30:b30=true) (h31:b31=true):(b0 && b1 && b2 && b3 && b4 && b5 && b6 && b7 && b8 && b9 && b10 && b11 && b12 && b13 && b14 && b15 && b16 && b17 && b18 && b19 && b20 && b21 && b22 && b23 && b24 && b25 && b26 && b27 && b28 && b29 && b30 && b31)=true:=by
 subst h0 h1 h2 h3 h4 h5 h6 h7 h8 h9 h10 h11 h12 h13 h14 h15 h16 h17 h18 h19 h20 h21 h22 h23 h24 h25 h26 h27 h28 h29 h30 h31
 rfl
set_option maxRecDepth 100000 in
theorem lJ:joinedFacts Tryz.prog 4 Tryz.f4 Rows.objectsIdentifySpec Rows.objectsIdentifyRow=true:=by
 unfold joinedFacts
 exact pL qZ qY qX qW qV qU qT qS qR qQ pK pJ pI pH pG pF pE pD pC pB pA oZ oY oX oW oV oU oT oS oQ oP oO
theorem gE:Tryz.prog.funcNamed "veilstone/veilstonelaw28.ObjectsIdentify" =some 4:=by kernel_rfl
theorem nW:Tryz.f4.isInstance Tryz.prog Rows.objectsIdentifyRow.origin Rows.objectsIdentifyRow.targs:=of_decide_eq_true (by kernel_rfl)
theorem nT:Tryz.f4.isWrapper Tryz.prog Rows.objectsIdentifyRow.wrapper Rows.objectsIdentifyRow.mainSum:=by unfold Func.isWrapper;first|(rw [if_pos (by decide+kernel)];kernel_rfl)|(rw [if_neg (by decide+kernel)];exact⟨rfl,rfl⟩)
theorem oM:Rows.objectsIdentifyRow.wfByText (OpenSpec.ofChange Rows.objectsIdentifySpec)=true:=by kernel_rfl
theorem nV:Tryz.prog.mainIs=some (true, "a6364876bb5dc560b7634f0dfb672e8647d26b77dbad6064847dba9e515b1f15".toList):=by kernel_rfl
theorem mH:false=Tryz.prog.looks []:=by kernel_rfl
theorem nX:false=Rows.objectsIdentifyRow.goesBy Tryz.prog:=by kernel_rfl
theorem mG:([(22:Nat),3].all λu=> !Tryz.prog.wantsStandIn u)=true:=by kernel_rfl
end Go.Proofs.YtbobcfjlbcgchaaGreatDoor
