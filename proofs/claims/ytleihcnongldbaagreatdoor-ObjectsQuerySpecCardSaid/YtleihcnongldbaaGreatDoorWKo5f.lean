/-
  ObjectsQuerySpec: what the program's text says of the function, fact by fact.
-/
import Derived.Test.YtleihcnongldbaaGreatDoorCards
import Derived.Test.YtleihcnongldbaaGreatDoorTie
import Derived.ProofKit
import Derived.JoinedOf
import Derived.LaidMore
import Derived.OpenShut
import Derived.Stop.Joined
import Derived.SevenTiedAt
set_option linter.unnecessarySimpa false
set_option linter.unusedSectionVars false
set_option linter.unusedSimpArgs false
set_option linter.unusedVariables false
namespace Go.Proofs.YtleihcnongldbaaGreatDoor
open Go.ChangeShapes Go.WideShapes Go.ChangeAt Go.RowKit
theorem pB:ownKnob Tryz.prog.godebug=none:=by kernel_rfl
theorem cB:Tryz.f3.params= #[25,26]:=by kernel_rfl
theorem kK:Tryz.f3.resultTypes= #[4]:=by kernel_rfl
theorem qZ:(Rows.objectsQuerySpecRow.wf (OpenSpec.ofChange Rows.objectsQuerySpecSpec))=true:=by kernel_rfl
theorem qY:(laidOutB Tryz.prog)=true:=by kernel_rfl
theorem qX:(mapsRowed Tryz.prog)=true:=by kernel_rfl
theorem qW:(Tryz.f3.params.all (Tryz.prog.readableRec ·))=true:=by kernel_rfl
theorem qV:(namedTie Tryz.prog Rows.objectsQuerySpecRow.named Rows.objectsQuerySpecSpec.vars)=true:=by kernel_rfl
theorem qU:(Rows.objectsQuerySpecRow.stops==[])=true:=by kernel_rfl
theorem qT:(Tryz.prog.stops==[])=true:=by kernel_rfl
theorem qS:(Rows.objectsQuerySpecRow.knobs==[])=true:=by kernel_rfl
theorem qR:(Tryz.prog.stopKnobs==[])=true:=by kernel_rfl
theorem qQ:(Rows.objectsQuerySpecRow.inPlace==Tryz.prog.inPlace 3)=true:=by kernel_rfl
theorem pX:(Rows.objectsQuerySpecRow.unfollowed==Tryz.prog.unfollowed 3)=true:=by kernel_rfl
theorem pW:(Rows.objectsQuerySpecRow.recurses==Tryz.prog.recurses 3)=true:=by kernel_rfl
theorem pV:(Rows.objectsQuerySpecRow.named==Tryz.prog.varsNamed 3)=true:=by kernel_rfl
theorem pU:(Rows.objectsQuerySpecRow.maps==(Tryz.f3.params.toList++Rows.objectsQuerySpecSpec.plain.varTypes Tryz.prog).any (Tryz.prog.mapsRec ·))=true:=by kernel_rfl
theorem pT:(Rows.objectsQuerySpecRow.ifaces==(Tryz.f3.params.toList++Rows.objectsQuerySpecSpec.plain.varTypes Tryz.prog).any (Tryz.prog.ifacesRec ·))=true:=by kernel_rfl
theorem pS:(Rows.objectsQuerySpecRow.mapsOut==Tryz.prog.mapsAmong Tryz.f3.resultTypes.toList)=true:=by kernel_rfl
theorem pR:(Rows.objectsQuerySpecRow.loops==(Tryz.f3.params.toList++Rows.objectsQuerySpecSpec.plain.varTypes Tryz.prog).any (Tryz.prog.loopsFrom ·))=true:=by kernel_rfl
theorem pQ:(Rows.objectsQuerySpecRow.wideKeys==(Tryz.f3.params.toList++Rows.objectsQuerySpecSpec.plain.varTypes Tryz.prog++Tryz.f3.resultTypes.toList).any (Tryz.prog.wideKeysFrom ·))=true:=by kernel_rfl
theorem pP:(Rows.objectsQuerySpecSpec.vars.all (Tryz.prog.varReadable ·))=true:=by kernel_rfl
theorem pO:(Tryz.f3.resultTypes.all (λt=>Tryz.prog.readableRec t && decide (t < Tryz.prog.types.size)))=true:=by kernel_rfl
theorem pN:(Rows.objectsQuerySpecRow.ifacesOut==Tryz.f3.resultTypes.toList.any (Tryz.prog.ifacesRec ·))=true:=by kernel_rfl
theorem pM:(Rows.objectsQuerySpecRow.loopsOut==Tryz.f3.resultTypes.toList.any (Tryz.prog.loopsFrom ·))=true:=by kernel_rfl
theorem pL:(Rows.objectsQuerySpecRow.plainKeys==Tryz.prog.plainKeys)=true:=by kernel_rfl
theorem pK:(Rows.objectsQuerySpecRow.shortTexts.isNone)=true:=by kernel_rfl
theorem pJ:(Tryz.prog.stopsHeard)=true:=by kernel_rfl
theorem pI:(Tryz.prog.mayEnter)=true:=by kernel_rfl
theorem pH:(Rows.objectsQuerySpecRow.lifted==Tryz.prog.liftsFinal)=true:=by kernel_rfl
theorem pG:(Tryz.prog.make==some Rows.objectsQuerySpecRow.make)=true:=by kernel_rfl
theorem pF:(Rows.objectsQuerySpecRow.kinds==(if Rows.objectsQuerySpecRow.domain.isEmpty then []else Tryz.f3.params.toList.map λt=>match Tryz.prog.underlying t with|some (.int k)=>some k|_=>none))=true:=by kernel_rfl
theorem pE:(Rows.objectsQuerySpecRow.pinned==Rows.objectsQuerySpecRow.pinnedBy)=true:=by kernel_rfl
theorem pD:(Rows.objectsQuerySpecRow.veiled==(Tryz.f3.params.toList++Rows.objectsQuerySpecSpec.plain.varTypes Tryz.prog++Tryz.f3.resultTypes.toList).any (Tryz.prog.veiledRec ·))=true:=by kernel_rfl
theorem pC:(Rows.objectsQuerySpecRow.veiledFits Tryz.prog Tryz.f3.params.toList (Tryz.f3.params.toList++Rows.objectsQuerySpecSpec.plain.varTypes Tryz.prog++Tryz.f3.resultTypes.toList))=true:=by kernel_rfl
theorem pY {b0 b1 b2 b3 b4 b5 b6 b7 b8 b9 b10 b11 b12 b13 b14 b15 b16 b17 b18 b19 b20 b21 b22 b23 b24 b25 b26 b27 b28 b29 b30 b31:Bool}(h0:b0=true) (h1:b1=true) (h2:b2=true) (h3:b3=true) (h4:b4=true) (h5:b5=true) (h6:b6=true) (h7:b7=true) (h8:b8=true) (h9:b9=true) (h10:b10=true) (h11:b11=true) (h12:b12=true) (h13:b13=true) (h14:b14=true) (h15:b15=true) (h16:b16=true) (h17:b17=true) (h18:b18=true) (h19:b19=true) (h20:b20=true) (h21:b21=true) (h22:b22=true) (h23:b23=true) (h24:b24=true) (h25:b25=true) (h26:b26=true) (h27:b27=true) (h28:b28=true) (h29:b29=true) (h30:b30=true) (h31:b31=true):(b0 && b1 && b2 && b3 && b4 && b5 && b6 && b7 && b8 && b9 && b10 && b11 && b12 && b13 && b14 && b15 && b16 && b17 && b18 && b19 && b20 && b21 && b22 && b23 && b24 && b25 && b26 && b27 && b28 && b29 && b30 && b31)=true:=by
 subst h0 h1 h2 h3 h4 h5 h6 h7 h8 h9 h10 h11 h12 h13 h14 h15 h16 h17 h18 h19 h20 h21 h22 h23 h24 h25 h26 h27 h28 h29 h30 h31
 rfl
set_option maxRecDepth 100000 in
theorem lY:joinedFacts Tryz.prog 3 Tryz.f3 Rows.objectsQuerySpecSpec Rows.objectsQuerySpecRow=true:=by
 unfold joinedFacts
 exact pY qZ qY qX qW qV qU qT qS qR qQ pX pW pV pU pT pS pR pQ pP pO pN pM pL pK pJ pI pH pG pF pE pD pC
theorem fU:Tryz.prog.funcNamed "veilstone/veilstonelaw28.ObjectsQuerySpec" =some 3:=by kernel_rfl
theorem nY:Tryz.f3.isInstance Tryz.prog Rows.objectsQuerySpecRow.origin Rows.objectsQuerySpecRow.targs:=of_decide_eq_true (by kernel_rfl)
theorem nV:Tryz.f3.isWrapper Tryz.prog Rows.objectsQuerySpecRow.wrapper Rows.objectsQuerySpecRow.mainSum:=by unfold Func.isWrapper;first|(rw [if_pos (by decide+kernel)];kernel_rfl)|(rw [if_neg (by decide+kernel)];exact⟨rfl,rfl⟩)
theorem pA:Rows.objectsQuerySpecRow.wfByText (OpenSpec.ofChange Rows.objectsQuerySpecSpec)=true:=by kernel_rfl
theorem nX:Tryz.prog.mainIs=some (true, "6fbfa86e64c2ef3b537080d27e0690663e2a0ac49f25dbb572f2e77077de1d8f".toList):=by kernel_rfl
theorem mX:false=Tryz.prog.looks []:=by kernel_rfl
theorem nZ:false=Rows.objectsQuerySpecRow.goesBy Tryz.prog:=by kernel_rfl
theorem mW:([(25:Nat),26].all λu=> !Tryz.prog.wantsStandIn u)=true:=by kernel_rfl
end Go.Proofs.YtleihcnongldbaaGreatDoor
