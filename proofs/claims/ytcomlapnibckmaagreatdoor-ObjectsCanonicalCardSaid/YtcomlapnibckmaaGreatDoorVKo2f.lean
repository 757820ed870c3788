/-
  ObjectsCanonical: what the program's text says of the function, fact by fact.
-/
import Derived.Test.YtcomlapnibckmaaGreatDoorCards
import Derived.Test.YtcomlapnibckmaaGreatDoorTie
import Derived.ProofKit
import Derived.JoinedOf
import Derived.LaidMore
import Derived.OpenShut
import Derived.Stop.Joined
import Derived.SevenTiedAt
set_option linter.unnecessarySimpa false
set_option linter.unusedSectionVars false
set_option linter.unusedSimpArgs false
set_option linter.unusedVariables false
namespace Go.Proofs.YtcomlapnibckmaaGreatDoor
open Go.ChangeShapes Go.WideShapes Go.ChangeAt Go.RowKit
theorem jB:ownKnob Tryz.prog.godebug=none:=by kernel_rfl
theorem bI:Tryz.f7.params= #[26]:=by kernel_rfl
theorem fZ:Tryz.f7.resultTypes= #[4]:=by kernel_rfl
theorem lA:(Rows.objectsCanonicalRow.wf (OpenSpec.ofChange Rows.objectsCanonicalSpec))=true:=by kernel_rfl
theorem kZ:(laidOutB Tryz.prog)=true:=by kernel_rfl
theorem kY:(mapsRowed Tryz.prog)=true:=by kernel_rfl
theorem kX:(Tryz.f7.params.all (Tryz.prog.readableRec ·))=true:=by kernel_rfl
theorem kW:(namedTie Tryz.prog Rows.objectsCanonicalRow.named Rows.objectsCanonicalSpec.vars)=true:=by kernel_rfl
theorem kU:(Rows.objectsCanonicalRow.stops==[])=true:=by kernel_rfl
theorem kT:(Tryz.prog.stops==[])=true:=by kernel_rfl
theorem kS:(Rows.objectsCanonicalRow.knobs==[])=true:=by kernel_rfl
theorem kR:(Tryz.prog.stopKnobs==[])=true:=by kernel_rfl
theorem kP:(Rows.objectsCanonicalRow.inPlace==Tryz.prog.inPlace 7)=true:=by kernel_rfl
theorem jX:(Rows.objectsCanonicalRow.unfollowed==Tryz.prog.unfollowed 7)=true:=by kernel_rfl
theorem jW:(Rows.objectsCanonicalRow.recurses==Tryz.prog.recurses 7)=true:=by kernel_rfl
theorem jV:(Rows.objectsCanonicalRow.named==Tryz.prog.varsNamed 7)=true:=by kernel_rfl
theorem jU:(Rows.objectsCanonicalRow.maps==(Tryz.f7.params.toList++Rows.objectsCanonicalSpec.plain.varTypes Tryz.prog).any (Tryz.prog.mapsRec ·))=true:=by kernel_rfl
theorem jT:(Rows.objectsCanonicalRow.ifaces==(Tryz.f7.params.toList++Rows.objectsCanonicalSpec.plain.varTypes Tryz.prog).any (Tryz.prog.ifacesRec ·))=true:=by kernel_rfl
theorem jS:(Rows.objectsCanonicalRow.mapsOut==Tryz.prog.mapsAmong Tryz.f7.resultTypes.toList)=true:=by kernel_rfl
theorem jR:(Rows.objectsCanonicalRow.loops==(Tryz.f7.params.toList++Rows.objectsCanonicalSpec.plain.varTypes Tryz.prog).any (Tryz.prog.loopsFrom ·))=true:=by kernel_rfl
theorem jQ:(Rows.objectsCanonicalRow.wideKeys==(Tryz.f7.params.toList++Rows.objectsCanonicalSpec.plain.varTypes Tryz.prog++Tryz.f7.resultTypes.toList).any (Tryz.prog.wideKeysFrom ·))=true:=by kernel_rfl
theorem jP:(Rows.objectsCanonicalSpec.vars.all (Tryz.prog.varReadable ·))=true:=by kernel_rfl
theorem jO:(Tryz.f7.resultTypes.all (λt=>Tryz.prog.readableRec t && decide (t < Tryz.prog.types.size)))=true:=by kernel_rfl
theorem jN:(Rows.objectsCanonicalRow.ifacesOut==Tryz.f7.resultTypes.toList.any (Tryz.prog.ifacesRec ·))=true:=by kernel_rfl
theorem jM:(Rows.objectsCanonicalRow.loopsOut==Tryz.f7.resultTypes.toList.any (Tryz.prog.loopsFrom ·))=true:=by kernel_rfl
theorem jL:(Rows.objectsCanonicalRow.plainKeys==Tryz.prog.plainKeys)=true:=by kernel_rfl
theorem jK:(Rows.objectsCanonicalRow.shortTexts.isNone)=true:=by kernel_rfl
theorem jJ:(Tryz.prog.stopsHeard)=true:=by kernel_rfl
theorem jI:(Tryz.prog.mayEnter)=true:=by kernel_rfl
theorem jH:(Rows.objectsCanonicalRow.lifted==Tryz.prog.liftsFinal)=true:=by kernel_rfl
theorem jG:(Tryz.prog.make==some Rows.objectsCanonicalRow.make)=true:=by kernel_rfl
theorem jF:(Rows.objectsCanonicalRow.kinds==(if Rows.objectsCanonicalRow.domain.isEmpty then []else Tryz.f7.params.toList.map λt=>match Tryz.prog.underlying t with|some (.int k)=>some k|_=>none))=true:=by kernel_rfl
theorem jE:(Rows.objectsCanonicalRow.pinned==Rows.objectsCanonicalRow.pinnedBy)=true:=by kernel_rfl
theorem jD:(Rows.objectsCanonicalRow.veiled==(Tryz.f7.params.toList++Rows.objectsCanonicalSpec.plain.varTypes Tryz.prog++Tryz.f7.resultTypes.toList).any (Tryz.prog.veiledRec ·))=true:=by kernel_rfl
theorem jC:(Rows.objectsCanonicalRow.veiledFits Tryz.prog Tryz.f7.params.toList (Tryz.f7.params.toList++Rows.objectsCanonicalSpec.plain.varTypes Tryz.prog++Tryz.f7.resultTypes.toList))=true:=by kernel_rfl
theorem jY {b0 b1 b2 b3 b4 b5 b6 b7 b8 b9 b10 b11 b12 b13 b14 b15 b16 b17 b18 b19 b20 b21 b22 b23 b24 b25 b26 b27 b28 b29 b30 b31:Bool}(h0:b0=true) (h1:b1=true) (h2:b2=true) (h3:b3=true) (h4:b4=true) (h5:b5=true) (h6:b6=true) (h7:b7=true) (h8:b8=true) (h9:b9=true) (h10:b10=true) (h11:b11=true) (h12:b12=true) (h13:b13=true) (h14:b14=true) (h15:b15=true) (h16:b16=true) (h17:b17=true) (h18:b18=true) (h19:b19=true) (h20:b20=true) (h21:b21=true) (h22:b22=true) (h23:b23=true) (h24:b24=true) (h25:b25=true) (h26:b26=true) (h27:b27=true) (h28:b28=true) (h29:b29=true) (h30:b30=true) (h31:b31=true):(b0 && b1 && b2 && b3 && b4 && b5 && b6 && b7 && b8 && b9 && b10 && b11 && b12 && b13 && b14 && b15 && b16 && b17 && b18 && b19 && b20 && b21 && b22 && b23 && b24 && b25 && b26 && b27 && b28 && b29 && b30 && b31)=true:=by
 subst h0 h1 h2 h3 h4 h5 h6 h7 h8 h9 h10 h11 h12 h13 h14 h15 h16 h17 h18 h19 h20 h21 h22 h23 h24 h25 h26 h27 h28 h29 h30 h31
 rfl
set_option maxRecDepth 100000 in
theorem gK:joinedFacts Tryz.prog 7 Tryz.f7 Rows.objectsCanonicalSpec Rows.objectsCanonicalRow=true:=by
 unfold joinedFacts
 exact jY lA kZ kY kX kW kU kT kS kR kP jX jW jV jU jT jS jR jQ jP jO jN jM jL jK jJ jI jH jG jF jE jD jC
theorem dM:Tryz.prog.funcNamed "veilstone/veilstonelaw28.ObjectsCanonical" =some 7:=by kernel_rfl
theorem iE:Tryz.f7.isInstance Tryz.prog Rows.objectsCanonicalRow.origin Rows.objectsCanonicalRow.targs:=of_decide_eq_true (by kernel_rfl)
theorem iB:Tryz.f7.isWrapper Tryz.prog Rows.objectsCanonicalRow.wrapper Rows.objectsCanonicalRow.mainSum:=by unfold Func.isWrapper;first|(rw [if_pos (by decide+kernel)];kernel_rfl)|(rw [if_neg (by decide+kernel)];exact⟨rfl,rfl⟩)
theorem jA:Rows.objectsCanonicalRow.wfByText (OpenSpec.ofChange Rows.objectsCanonicalSpec)=true:=by kernel_rfl
theorem iD:Tryz.prog.mainIs=some (true, "2668efe21ebd873a8eba6c47f906f8c957a91e54e0ef5dac25b42382f5ec5db2".toList):=by kernel_rfl
theorem gX:false=Tryz.prog.looks []:=by kernel_rfl
theorem iF:false=Rows.objectsCanonicalRow.goesBy Tryz.prog:=by kernel_rfl
theorem gW:([(26:Nat)].all λu=> !Tryz.prog.wantsStandIn u)=true:=by kernel_rfl
end Go.Proofs.YtcomlapnibckmaaGreatDoor
