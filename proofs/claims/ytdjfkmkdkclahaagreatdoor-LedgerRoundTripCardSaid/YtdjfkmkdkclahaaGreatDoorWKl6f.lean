/-
  LedgerRoundTrip: what the program's text says of the function, fact by fact.
-/
import Derived.Test.YtdjfkmkdkclahaaGreatDoorCards
import Derived.Test.YtdjfkmkdkclahaaGreatDoorTie
import Derived.ProofKit
import Derived.JoinedOf
import Derived.LaidMore
import Derived.OpenShut
import Derived.Stop.Joined
import Derived.SevenTiedAt
set_option linter.unnecessarySimpa false
set_option linter.unusedSectionVars false
set_option linter.unusedSimpArgs false
set_option linter.unusedVariables false
namespace Go.Proofs.YtdjfkmkdkclahaaGreatDoor
open Go.ChangeShapes Go.WideShapes Go.ChangeAt Go.RowKit
theorem jU:ownKnob Tryz.prog.godebug=none:=by kernel_rfl
theorem bK:Tryz.f8.params= #[9,3,42,43]:=by kernel_rfl
theorem gH:Tryz.f8.resultTypes= #[4]:=by kernel_rfl
theorem lW:(Rows.ledgerRoundTripRow.wf (OpenSpec.ofChange Rows.ledgerRoundTripSpec))=true:=by kernel_rfl
theorem lV:(laidOutB Tryz.prog)=true:=by kernel_rfl
theorem lU:(mapsRowed Tryz.prog)=true:=by kernel_rfl
theorem lT:(Tryz.f8.params.all (Tryz.prog.readableRec ·))=true:=by kernel_rfl
theorem lS:(namedTie Tryz.prog Rows.ledgerRoundTripRow.named Rows.ledgerRoundTripSpec.vars)=true:=by kernel_rfl
theorem lR:(Rows.ledgerRoundTripRow.stops==[])=true:=by kernel_rfl
theorem lQ:(Tryz.prog.stops==[])=true:=by kernel_rfl
theorem lP:(Rows.ledgerRoundTripRow.knobs==[])=true:=by kernel_rfl
theorem lO:(Tryz.prog.stopKnobs==[])=true:=by kernel_rfl
theorem lN:(Rows.ledgerRoundTripRow.inPlace==Tryz.prog.inPlace 8)=true:=by kernel_rfl
theorem kS:(Rows.ledgerRoundTripRow.unfollowed==Tryz.prog.unfollowed 8)=true:=by kernel_rfl
theorem kR:(Rows.ledgerRoundTripRow.recurses==Tryz.prog.recurses 8)=true:=by kernel_rfl
theorem kQ:(Rows.ledgerRoundTripRow.named==Tryz.prog.varsNamed 8)=true:=by kernel_rfl
theorem kP:(Rows.ledgerRoundTripRow.maps==(Tryz.f8.params.toList++Rows.ledgerRoundTripSpec.plain.varTypes Tryz.prog).any (Tryz.prog.mapsRec ·))=true:=by kernel_rfl
theorem kO:(Rows.ledgerRoundTripRow.ifaces==(Tryz.f8.params.toList++Rows.ledgerRoundTripSpec.plain.varTypes Tryz.prog).any (Tryz.prog.ifacesRec ·))=true:=by kernel_rfl
theorem kN:(Rows.ledgerRoundTripRow.mapsOut==Tryz.prog.mapsAmong Tryz.f8.resultTypes.toList)=true:=by kernel_rfl
theorem kM:(Rows.ledgerRoundTripRow.loops==(Tryz.f8.params.toList++Rows.ledgerRoundTripSpec.plain.varTypes Tryz.prog).any (Tryz.prog.loopsFrom ·))=true:=by kernel_rfl
theorem kL:(Rows.ledgerRoundTripRow.wideKeys==(Tryz.f8.params.toList++Rows.ledgerRoundTripSpec.plain.varTypes Tryz.prog++Tryz.f8.resultTypes.toList).any (Tryz.prog.wideKeysFrom ·))=true:=by kernel_rfl
theorem kK:(Rows.ledgerRoundTripSpec.vars.all (Tryz.prog.varReadable ·))=true:=by kernel_rfl
theorem kJ:(Tryz.f8.resultTypes.all (λt=>Tryz.prog.readableRec t && decide (t < Tryz.prog.types.size)))=true:=by kernel_rfl
theorem kI:(Rows.ledgerRoundTripRow.ifacesOut==Tryz.f8.resultTypes.toList.any (Tryz.prog.ifacesRec ·))=true:=by kernel_rfl
theorem kH:(Rows.ledgerRoundTripRow.loopsOut==Tryz.f8.resultTypes.toList.any (Tryz.prog.loopsFrom ·))=true:=by kernel_rfl
theorem kG:(Rows.ledgerRoundTripRow.plainKeys==Tryz.prog.plainKeys)=true:=by kernel_rfl
theorem kF:(Rows.ledgerRoundTripRow.shortTexts.isNone)=true:=by kernel_rfl
theorem kE:(Tryz.prog.stopsHeard)=true:=by kernel_rfl
theorem kC:(Tryz.prog.mayEnter)=true:=by kernel_rfl
theorem kA:(Rows.ledgerRoundTripRow.lifted==Tryz.prog.liftsFinal)=true:=by kernel_rfl
theorem jZ:(Tryz.prog.make==some Rows.ledgerRoundTripRow.make)=true:=by kernel_rfl
theorem jY:(Rows.ledgerRoundTripRow.kinds==(if Rows.ledgerRoundTripRow.domain.isEmpty then []else Tryz.f8.params.toList.map λt=>match Tryz.prog.underlying t with|some (.int k)=>some k|_=>none))=true:=by kernel_rfl
theorem jX:(Rows.ledgerRoundTripRow.pinned==Rows.ledgerRoundTripRow.pinnedBy)=true:=by kernel_rfl
theorem jW:(Rows.ledgerRoundTripRow.veiled==(Tryz.f8.params.toList++Rows.ledgerRoundTripSpec.plain.varTypes Tryz.prog++Tryz.f8.resultTypes.toList).any (Tryz.prog.veiledRec ·))=true:=by kernel_rfl
theorem jV:(Rows.ledgerRoundTripRow.veiledFits Tryz.prog Tryz.f8.params.toList (Tryz.f8.params.toList++Rows.ledgerRoundTripSpec.plain.varTypes Tryz.prog++Tryz.f8.resultTypes.toList))=true:=by kernel_rfl
theorem kT {b0 b1 b2 b3 b4 b5 b6 b7 b8 b9 b10 b11 b12 b13 b14 b15 b16 b17 b18 b19 b20 b21 b22 b23 b24 b25 b26 b27 b28 b29 b30 b31:Bool}(h0:b0=true) (h1:b1=true) (h2:b2=true) (h3:b3=true) (h4:b4=true) (h5:b5=true) (h6:b6=true) (h7:b7=true) (h8:b8=true) (h9:b9=true) (h10:b10=true) (h11:b11=true) (h12:b12=true) (h13:b13=true) (h14:b14=true) (h15:b15=true) (h16:b16=true) (h17:b17=true) (h18:b18=true) (h19:b19=true) (h20:b20=true) (h21:b21=true) (h22:b22=true) (h23:b23=true) (h24:b24=true) (h25:b25=true) (h26:b26=true) (h27:b27=true) (h28:b28=true) (h29:b29=true) (h30:b30=true) (h31:b31=true):(b0 && b1 && b2 && b3 && b4 && b5 && b6 && b7 && b8 && b9 && b10 && b11 && b12 && b13 && b14 && b15 && b16 && b17 && b18 && b19 && b20 && b21 && b22 && b23 && b24 && b25 && b26 && b27 && b28 && b29 && b30 && b31)=true:=by
 subst h0 h1 h2 h3 h4 h5 h6 h7 h8 h9 h10 h11 h12 h13 h14 h15 h16 h17 h18 h19 h20 h21 h22 h23 h24 h25 h26 h27 h28 h29 h30 h31
 rfl
set_option maxRecDepth 100000 in
theorem gT:joinedFacts Tryz.prog 8 Tryz.f8 Rows.ledgerRoundTripSpec Rows.ledgerRoundTripRow=true:=by
 unfold joinedFacts
 exact kT lW lV lU lT lS lR lQ lP lO lN kS kR kQ kP kO kN kM kL kK kJ kI kH kG kF kE kC kA jZ jY jX jW jV
theorem dY:Tryz.prog.funcNamed "veilstone/veilstonelaw38.LedgerRoundTrip" =some 8:=by kernel_rfl
theorem jH:Tryz.f8.isInstance Tryz.prog Rows.ledgerRoundTripRow.origin Rows.ledgerRoundTripRow.targs:=of_decide_eq_true (by kernel_rfl)
theorem jE:Tryz.f8.isWrapper Tryz.prog Rows.ledgerRoundTripRow.wrapper Rows.ledgerRoundTripRow.mainSum:=by unfold Func.isWrapper;first|(rw [if_pos (by decide+kernel)];kernel_rfl)|(rw [if_neg (by decide+kernel)];exact⟨rfl,rfl⟩)
theorem jT:Rows.ledgerRoundTripRow.wfByText (OpenSpec.ofChange Rows.ledgerRoundTripSpec)=true:=by kernel_rfl
theorem jG:Tryz.prog.mainIs=some (true, "31d9d1ab998f585711b33df6a7b44aa3e07876cb3d679fc4da0c86cc0ca0dc2b".toList):=by kernel_rfl
theorem iE:true=Tryz.prog.looks []:=by kernel_rfl
theorem jI:false=Rows.ledgerRoundTripRow.goesBy Tryz.prog:=by kernel_rfl
theorem iD:([(9:Nat),3,42,43].all λu=> !Tryz.prog.wantsStandIn u)=true:=by kernel_rfl
end Go.Proofs.YtdjfkmkdkclahaaGreatDoor
