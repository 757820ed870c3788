/-
  ObjectsAxiomsSpec: what the program's text says of the function, fact by fact.
-/
import Derived.Test.YtbobcfjlbcgchaaGreatDoorCards
import Derived.Test.YtbobcfjlbcgchaaGreatDoorTie
import Derived.ProofKit
import Derived.JoinedOf
import Derived.LaidMore
import Derived.OpenShut
import Derived.Stop.Joined
import Derived.SevenTiedAt
set_option linter.unnecessarySimpa false
set_option linter.unusedSectionVars false
set_option linter.unusedSimpArgs false
set_option linter.unusedVariables false
namespace Go.Proofs.YtbobcfjlbcgchaaGreatDoor
section
open Go.ChangeShapes Go.WideShapes Go.ChangeAt Go.RowKit
theorem oZ:ownKnob Tryz.prog.godebug=none:=by kernel_rfl
theorem bY:Tryz.f3.params= #[22,23]:=by kernel_rfl
theorem lR:Tryz.f3.resultTypes= #[4]:=by kernel_rfl
theorem sR:(Rows.objectsAxiomsSpecRow.wf (OpenSpec.ofChange Rows.objectsAxiomsSpecSpec))=true:=by kernel_rfl
theorem sQ:(laidOutB Tryz.prog)=true:=by kernel_rfl
theorem sP:(mapsRowed Tryz.prog)=true:=by kernel_rfl
theorem sO:(Tryz.f3.params.all (Tryz.prog.readableRec ·))=true:=by kernel_rfl
theorem sN:(namedTie Tryz.prog Rows.objectsAxiomsSpecRow.named Rows.objectsAxiomsSpecSpec.vars)=true:=by kernel_rfl
theorem sM:(Rows.objectsAxiomsSpecRow.stops==[])=true:=by kernel_rfl
theorem sL:(Tryz.prog.stops==[])=true:=by kernel_rfl
theorem sK:(Rows.objectsAxiomsSpecRow.knobs==[])=true:=by kernel_rfl
theorem sH:(Tryz.prog.stopKnobs==[])=true:=by kernel_rfl
theorem sG:(Rows.objectsAxiomsSpecRow.inPlace==Tryz.prog.inPlace 3)=true:=by kernel_rfl
theorem pW:(Rows.objectsAxiomsSpecRow.unfollowed==Tryz.prog.unfollowed 3)=true:=by kernel_rfl
theorem pV:(Rows.objectsAxiomsSpecRow.recurses==Tryz.prog.recurses 3)=true:=by kernel_rfl
theorem pU:(Rows.objectsAxiomsSpecRow.named==Tryz.prog.varsNamed 3)=true:=by kernel_rfl
theorem pT:(Rows.objectsAxiomsSpecRow.maps==(Tryz.f3.params.toList++Rows.objectsAxiomsSpecSpec.plain.varTypes Tryz.prog).any (Tryz.prog.mapsRec ·))=true:=by kernel_rfl
theorem pS:(Rows.objectsAxiomsSpecRow.ifaces==(Tryz.f3.params.toList++Rows.objectsAxiomsSpecSpec.plain.varTypes Tryz.prog).any (Tryz.prog.ifacesRec ·))=true:=by kernel_rfl
theorem pR:(Rows.objectsAxiomsSpecRow.mapsOut==Tryz.prog.mapsAmong Tryz.f3.resultTypes.toList)=true:=by kernel_rfl
theorem pQ:(Rows.objectsAxiomsSpecRow.loops==(Tryz.f3.params.toList++Rows.objectsAxiomsSpecSpec.plain.varTypes Tryz.prog).any (Tryz.prog.loopsFrom ·))=true:=by kernel_rfl
theorem pP:(Rows.objectsAxiomsSpecRow.wideKeys==(Tryz.f3.params.toList++Rows.objectsAxiomsSpecSpec.plain.varTypes Tryz.prog++Tryz.f3.resultTypes.toList).any (Tryz.prog.wideKeysFrom ·))=true:=by kernel_rfl
theorem pO:(Rows.objectsAxiomsSpecSpec.vars.all (Tryz.prog.varReadable ·))=true:=by kernel_rfl
theorem pN:(Tryz.f3.resultTypes.all (λt=>Tryz.prog.readableRec t && decide (t < Tryz.prog.types.size)))=true:=by kernel_rfl
theorem pM:(Rows.objectsAxiomsSpecRow.ifacesOut==Tryz.f3.resultTypes.toList.any (Tryz.prog.ifacesRec ·))=true:=by kernel_rfl
theorem pL:(Rows.objectsAxiomsSpecRow.loopsOut==Tryz.f3.resultTypes.toList.any (Tryz.prog.loopsFrom ·))=true:=by kernel_rfl
theorem pK:(Rows.objectsAxiomsSpecRow.plainKeys==Tryz.prog.plainKeys)=true:=by kernel_rfl
theorem pJ:(Rows.objectsAxiomsSpecRow.shortTexts.isNone)=true:=by kernel_rfl
theorem pI:(Tryz.prog.stopsHeard)=true:=by kernel_rfl
theorem pH:(Tryz.prog.mayEnter)=true:=by kernel_rfl
theorem pG:(Rows.objectsAxiomsSpecRow.lifted==Tryz.prog.liftsFinal)=true:=by kernel_rfl
theorem pE:(Tryz.prog.make==some Rows.objectsAxiomsSpecRow.make)=true:=by kernel_rfl
theorem pD:(Rows.objectsAxiomsSpecRow.kinds==(if Rows.objectsAxiomsSpecRow.domain.isEmpty then []else Tryz.f3.params.toList.map λt=>match Tryz.prog.underlying t with|some (.int k)=>some k|_=>none))=true:=by kernel_rfl
theorem pC:(Rows.objectsAxiomsSpecRow.pinned==Rows.objectsAxiomsSpecRow.pinnedBy)=true:=by kernel_rfl
theorem pB:(Rows.objectsAxiomsSpecRow.veiled==(Tryz.f3.params.toList++Rows.objectsAxiomsSpecSpec.plain.varTypes Tryz.prog++Tryz.f3.resultTypes.toList).any (Tryz.prog.veiledRec ·))=true:=by kernel_rfl
theorem pA:(Rows.objectsAxiomsSpecRow.veiledFits Tryz.prog Tryz.f3.params.toList (Tryz.f3.params.toList++Rows.objectsAxiomsSpecSpec.plain.varTypes Tryz.prog++Tryz.f3.resultTypes.toList))=true:=by kernel_rfl
theorem pX {b0 b1 b2 b3 b4 b5 b6 b7 b8 b9 b10 b11 b12 b13 b14 b15 b16 b17 b18 b19 b20 b21 b22 b23 b24 b25 b26 b27 b28 b29 b30 b31:Bool}(h0:b0=true) (h1:b1=true) (h2:b2=true) (h3:b3=true) (h4:b4=true) (h5:b5=true) (h6:b6=true) (h7:b7=true) (h8:b8=true) (h9:b9=true) (h10:b10=true) (h11:b11=true) (h12:b12=true) (h13:b13=true) (h14:b14=true) (h15:b15=true) (h16:b16=true) (h17:b17=true) (h18:b18=true) (h19:b19=true) (h20:b20=true) (h21:b21=true) (h22:b22=true) (h23:b23=true) (h24:b24=true) (h25:b25=true) (h26:b26=true) (h27:b27=true) (h28:b28=true) (h29:b29=true) (h30:b30=true) (h31:b31=true):(b0 && b1 && b2 && b3 && b4 && b5 && b6 && b7 && b8 && b9 && b10 && b11 && b12 && b13 && b14 && b15 && b16 && b17 && b18 && b19 && b20 && b21 && b22 && b23 && b24 && b25 && b26 && b27 && b28 && b29 && b30 && b31)=true:=by
 subst h0 h1 h2 h3 h4 h5 h6 h7 h8 h9 h10 h11 h12 h13 h14 h15 h16 h17 h18 h19 h20 h21 h22 h23 h24 h25 h26 h27 h28 h29 h30 h31
 rfl
set_option maxRecDepth 100000 in
theorem mE:joinedFacts Tryz.prog 3 Tryz.f3 Rows.objectsAxiomsSpecSpec Rows.objectsAxiomsSpecRow=true:=by
 unfold joinedFacts
 exact pX sR sQ sP sO sN sM sL sK sH sG pW pV pU pT pS pR pQ pP pO pN pM pL pK pJ pI pH pG pE pD pC pB pA
theorem gS:Tryz.prog.funcNamed "veilstone/veilstonelaw28.ObjectsAxiomsSpec" =some 3:=by kernel_rfl
theorem nW:Tryz.f3.isInstance Tryz.prog Rows.objectsAxiomsSpecRow.origin Rows.objectsAxiomsSpecRow.targs:=of_decide_eq_true (by kernel_rfl)
theorem nT:Tryz.f3.isWrapper Tryz.prog Rows.objectsAxiomsSpecRow.wrapper Rows.objectsAxiomsSpecRow.mainSum:=by unfold Func.isWrapper;first|(rw [if_pos (by decide+kernel)];kernel_rfl)|(rw [if_neg (by decide+kernel)];exact⟨rfl,rfl⟩)
theorem oY:Rows.objectsAxiomsSpecRow.wfByText (OpenSpec.ofChange Rows.objectsAxiomsSpecSpec)=true:=by kernel_rfl
theorem nV:Tryz.prog.mainIs=some (true, "a6364876bb5dc560b7634f0dfb672e8647d26b77dbad6064847dba9e515b1f15".toList):=by kernel_rfl
theorem nC:false=Tryz.prog.looks []:=by kernel_rfl
theorem nX:false=Rows.objectsAxiomsSpecRow.goesBy Tryz.prog:=by kernel_rfl
theorem nB:([(22:Nat),23].all λu=> !Tryz.prog.wantsStandIn u)=true:=by kernel_rfl
end
end Go.Proofs.YtbobcfjlbcgchaaGreatDoor
