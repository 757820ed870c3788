/-
  ObjectsAlignmentSpec: what the program's text says of the function, fact by fact.
-/
import Derived.Test.YtleihcnongldbaaGreatDoorCards
import Derived.Test.YtleihcnongldbaaGreatDoorTie
import Derived.ProofKit
import Derived.JoinedOf
import Derived.LaidMore
import Derived.OpenShut
import Derived.Stop.Joined
import Derived.SevenTiedAt
set_option linter.unnecessarySimpa false
set_option linter.unusedSectionVars false
set_option linter.unusedSimpArgs false
set_option linter.unusedVariables false
namespace Go.Proofs.YtleihcnongldbaaGreatDoor
open Go.ChangeShapes Go.WideShapes Go.ChangeAt Go.RowKit
theorem kM:ownKnob Tryz.prog.godebug=none:=by kernel_rfl
theorem bS:Tryz.f4.params= #[44,26]:=by kernel_rfl
theorem gW:Tryz.f4.resultTypes= #[4]:=by kernel_rfl
theorem mI:(Rows.objectsAlignmentSpecRow.wf (OpenSpec.ofChange Rows.objectsAlignmentSpecSpec))=true:=by kernel_rfl
theorem mH:(laidOutB Tryz.prog)=true:=by kernel_rfl
theorem mG:(mapsRowed Tryz.prog)=true:=by kernel_rfl
theorem mF:(Tryz.f4.params.all (Tryz.prog.readableRec ·))=true:=by kernel_rfl
theorem mE:(namedTie Tryz.prog Rows.objectsAlignmentSpecRow.named Rows.objectsAlignmentSpecSpec.vars)=true:=by kernel_rfl
theorem mD:(Rows.objectsAlignmentSpecRow.stops==[])=true:=by kernel_rfl
theorem mC:(Tryz.prog.stops==[])=true:=by kernel_rfl
theorem mB:(Rows.objectsAlignmentSpecRow.knobs==[])=true:=by kernel_rfl
theorem mA:(Tryz.prog.stopKnobs==[])=true:=by kernel_rfl
theorem lZ:(Rows.objectsAlignmentSpecRow.inPlace==Tryz.prog.inPlace 4)=true:=by kernel_rfl
theorem lJ:(Rows.objectsAlignmentSpecRow.unfollowed==Tryz.prog.unfollowed 4)=true:=by kernel_rfl
theorem lI:(Rows.objectsAlignmentSpecRow.recurses==Tryz.prog.recurses 4)=true:=by kernel_rfl
theorem lH:(Rows.objectsAlignmentSpecRow.named==Tryz.prog.varsNamed 4)=true:=by kernel_rfl
theorem lG:(Rows.objectsAlignmentSpecRow.maps==(Tryz.f4.params.toList++Rows.objectsAlignmentSpecSpec.plain.varTypes Tryz.prog).any (Tryz.prog.mapsRec ·))=true:=by kernel_rfl
theorem lF:(Rows.objectsAlignmentSpecRow.ifaces==(Tryz.f4.params.toList++Rows.objectsAlignmentSpecSpec.plain.varTypes Tryz.prog).any (Tryz.prog.ifacesRec ·))=true:=by kernel_rfl
theorem lE:(Rows.objectsAlignmentSpecRow.mapsOut==Tryz.prog.mapsAmong Tryz.f4.resultTypes.toList)=true:=by kernel_rfl
theorem lD:(Rows.objectsAlignmentSpecRow.loops==(Tryz.f4.params.toList++Rows.objectsAlignmentSpecSpec.plain.varTypes Tryz.prog).any (Tryz.prog.loopsFrom ·))=true:=by kernel_rfl
theorem lC:(Rows.objectsAlignmentSpecRow.wideKeys==(Tryz.f4.params.toList++Rows.objectsAlignmentSpecSpec.plain.varTypes Tryz.prog++Tryz.f4.resultTypes.toList).any (Tryz.prog.wideKeysFrom ·))=true:=by kernel_rfl
theorem lB:(Rows.objectsAlignmentSpecSpec.vars.all (Tryz.prog.varReadable ·))=true:=by kernel_rfl
theorem lA:(Tryz.f4.resultTypes.all (λt=>Tryz.prog.readableRec t && decide (t < Tryz.prog.types.size)))=true:=by kernel_rfl
theorem kZ:(Rows.objectsAlignmentSpecRow.ifacesOut==Tryz.f4.resultTypes.toList.any (Tryz.prog.ifacesRec ·))=true:=by kernel_rfl
theorem kY:(Rows.objectsAlignmentSpecRow.loopsOut==Tryz.f4.resultTypes.toList.any (Tryz.prog.loopsFrom ·))=true:=by kernel_rfl
theorem kX:(Rows.objectsAlignmentSpecRow.plainKeys==Tryz.prog.plainKeys)=true:=by kernel_rfl
theorem kW:(Rows.objectsAlignmentSpecRow.shortTexts.isNone)=true:=by kernel_rfl
theorem kU:(Tryz.prog.stopsHeard)=true:=by kernel_rfl
theorem kT:(Tryz.prog.mayEnter)=true:=by kernel_rfl
theorem kS:(Rows.objectsAlignmentSpecRow.lifted==Tryz.prog.liftsFinal)=true:=by kernel_rfl
theorem kR:(Tryz.prog.make==some Rows.objectsAlignmentSpecRow.make)=true:=by kernel_rfl
theorem kQ:(Rows.objectsAlignmentSpecRow.kinds==(if Rows.objectsAlignmentSpecRow.domain.isEmpty then []else Tryz.f4.params.toList.map λt=>match Tryz.prog.underlying t with|some (.int k)=>some k|_=>none))=true:=by kernel_rfl
theorem kP:(Rows.objectsAlignmentSpecRow.pinned==Rows.objectsAlignmentSpecRow.pinnedBy)=true:=by kernel_rfl
theorem kO:(Rows.objectsAlignmentSpecRow.veiled==(Tryz.f4.params.toList++Rows.objectsAlignmentSpecSpec.plain.varTypes Tryz.prog++Tryz.f4.resultTypes.toList).any (Tryz.prog.veiledRec ·))=true:=by kernel_rfl
theorem kN:(Rows.objectsAlignmentSpecRow.veiledFits Tryz.prog Tryz.f4.params.toList (Tryz.f4.params.toList++Rows.objectsAlignmentSpecSpec.plain.varTypes Tryz.prog++Tryz.f4.resultTypes.toList))=true:=by kernel_rfl
theorem lK {b0 b1 b2 b3 b4 b5 b6 b7 b8 b9 b10 b11 b12 b13 b14 b15 b16 b17 b18 b19 b20 b21 b22 b23 b24 b25 b26 b27 b28 b29 b30 b31:Bool}(h0:b0=true) (h1:b1=true) (h2:b2=true) (h3:b3=true) (h4:b4=true) (h5:b5=true) (h6:b6=true) (h7:b7=true) (h8:b8=true) (h9:b9=true) (h10:b10=true) (h11:b11=true) (h12:b12=true) (h13:b13=true) (h14:b14=true) (h15:b15=true) (h16:b16=true) (h17:b17=true) (h18:b18=true) (h19:b19=true) (h20:b20=true) (h21:b21=true) (h22:b22=true) (h23:b23=true) (h24:b24=true) (h25:b25=true) (h26:b26=true) (h27:b27=true) (h28:b28=true) (h29:b29=true) (h30:b30=true) (h31:b31=true):(b0 && b1 && b2 && b3 && b4 && b5 && b6 && b7 && b8 && b9 && b10 && b11 && b12 && b13 && b14 && b15 && b16 && b17 && b18 && b19 && b20 && b21 && b22 && b23 && b24 && b25 && b26 && b27 && b28 && b29 && b30 && b31)=true:=by
 subst h0 h1 h2 h3 h4 h5 h6 h7 h8 h9 h10 h11 h12 h13 h14 h15 h16 h17 h18 h19 h20 h21 h22 h23 h24 h25 h26 h27 h28 h29 h30 h31
 rfl
set_option maxRecDepth 100000 in
theorem iH:joinedFacts Tryz.prog 4 Tryz.f4 Rows.objectsAlignmentSpecSpec Rows.objectsAlignmentSpecRow=true:=by
 unfold joinedFacts
 exact lK mI mH mG mF mE mD mC mB mA lZ lJ lI lH lG lF lE lD lC lB lA kZ kY kX kW kU kT kS kR kQ kP kO kN
theorem eH:Tryz.prog.funcNamed "veilstone/veilstonelaw28.ObjectsAlignmentSpec" =some 4:=by kernel_rfl
theorem jP:Tryz.f4.isInstance Tryz.prog Rows.objectsAlignmentSpecRow.origin Rows.objectsAlignmentSpecRow.targs:=of_decide_eq_true (by kernel_rfl)
theorem jM:Tryz.f4.isWrapper Tryz.prog Rows.objectsAlignmentSpecRow.wrapper Rows.objectsAlignmentSpecRow.mainSum:=by unfold Func.isWrapper;first|(rw [if_pos (by decide+kernel)];kernel_rfl)|(rw [if_neg (by decide+kernel)];exact⟨rfl,rfl⟩)
theorem kL:Rows.objectsAlignmentSpecRow.wfByText (OpenSpec.ofChange Rows.objectsAlignmentSpecSpec)=true:=by kernel_rfl
theorem jO:Tryz.prog.mainIs=some (true, "6fbfa86e64c2ef3b537080d27e0690663e2a0ac49f25dbb572f2e77077de1d8f".toList):=by kernel_rfl
theorem iV:false=Tryz.prog.looks []:=by kernel_rfl
theorem jQ:false=Rows.objectsAlignmentSpecRow.goesBy Tryz.prog:=by kernel_rfl
theorem iU:([(44:Nat),26].all λu=> !Tryz.prog.wantsStandIn u)=true:=by kernel_rfl
end Go.Proofs.YtleihcnongldbaaGreatDoor
