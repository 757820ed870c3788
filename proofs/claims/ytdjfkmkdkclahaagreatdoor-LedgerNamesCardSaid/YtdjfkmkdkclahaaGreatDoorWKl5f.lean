/-
  LedgerNames: what the program's text says of the function, fact by fact.
-/
import Derived.Test.YtdjfkmkdkclahaaGreatDoorCards
import Derived.Test.YtdjfkmkdkclahaaGreatDoorTie
import Derived.ProofKit
import Derived.JoinedOf
import Derived.LaidMore
import Derived.OpenShut
import Derived.Stop.Joined
import Derived.SevenTiedAt
set_option linter.unnecessarySimpa false
set_option linter.unusedSectionVars false
set_option linter.unusedSimpArgs false
set_option linter.unusedVariables false
namespace Go.Proofs.YtdjfkmkdkclahaaGreatDoor
open Go.ChangeShapes Go.WideShapes Go.ChangeAt Go.RowKit
theorem pQ:ownKnob Tryz.prog.godebug=none:=by kernel_rfl
theorem bZ:Tryz.f7.params= #[51,35,57,3]:=by kernel_rfl
theorem kK:Tryz.f7.resultTypes= #[4]:=by kernel_rfl
theorem sU:(Rows.ledgerNamesRow.wf (OpenSpec.ofChange Rows.ledgerNamesSpec))=true:=by kernel_rfl
theorem sT:(laidOutB Tryz.prog)=true:=by kernel_rfl
theorem sS:(mapsRowed Tryz.prog)=true:=by kernel_rfl
theorem sR:(Tryz.f7.params.all (Tryz.prog.readableRec ·))=true:=by kernel_rfl
theorem sQ:(namedTie Tryz.prog Rows.ledgerNamesRow.named Rows.ledgerNamesSpec.vars)=true:=by kernel_rfl
theorem sP:(Rows.ledgerNamesRow.stops==[])=true:=by kernel_rfl
theorem sO:(Tryz.prog.stops==[])=true:=by kernel_rfl
theorem sN:(Rows.ledgerNamesRow.knobs==[])=true:=by kernel_rfl
theorem sM:(Tryz.prog.stopKnobs==[])=true:=by kernel_rfl
theorem sL:(Rows.ledgerNamesRow.inPlace==Tryz.prog.inPlace 7)=true:=by kernel_rfl
theorem qR:(Rows.ledgerNamesRow.unfollowed==Tryz.prog.unfollowed 7)=true:=by kernel_rfl
theorem qQ:(Rows.ledgerNamesRow.recurses==Tryz.prog.recurses 7)=true:=by kernel_rfl
theorem qP:(Rows.ledgerNamesRow.named==Tryz.prog.varsNamed 7)=true:=by kernel_rfl
theorem qN:(Rows.ledgerNamesRow.maps==(Tryz.f7.params.toList++Rows.ledgerNamesSpec.plain.varTypes Tryz.prog).any (Tryz.prog.mapsRec ·))=true:=by kernel_rfl
theorem qM:(Rows.ledgerNamesRow.ifaces==(Tryz.f7.params.toList++Rows.ledgerNamesSpec.plain.varTypes Tryz.prog).any (Tryz.prog.ifacesRec ·))=true:=by kernel_rfl
theorem qL:(Rows.ledgerNamesRow.mapsOut==Tryz.prog.mapsAmong Tryz.f7.resultTypes.toList)=true:=by kernel_rfl
theorem qK:(Rows.ledgerNamesRow.loops==(Tryz.f7.params.toList++Rows.ledgerNamesSpec.plain.varTypes Tryz.prog).any (Tryz.prog.loopsFrom ·))=true:=by kernel_rfl
theorem qJ:(Rows.ledgerNamesRow.wideKeys==(Tryz.f7.params.toList++Rows.ledgerNamesSpec.plain.varTypes Tryz.prog++Tryz.f7.resultTypes.toList).any (Tryz.prog.wideKeysFrom ·))=true:=by kernel_rfl
theorem qI:(Rows.ledgerNamesSpec.vars.all (Tryz.prog.varReadable ·))=true:=by kernel_rfl
theorem qH:(Tryz.f7.resultTypes.all (λt=>Tryz.prog.readableRec t && decide (t < Tryz.prog.types.size)))=true:=by kernel_rfl
theorem qF:(Rows.ledgerNamesRow.ifacesOut==Tryz.f7.resultTypes.toList.any (Tryz.prog.ifacesRec ·))=true:=by kernel_rfl
theorem qD:(Rows.ledgerNamesRow.loopsOut==Tryz.f7.resultTypes.toList.any (Tryz.prog.loopsFrom ·))=true:=by kernel_rfl
theorem qC:(Rows.ledgerNamesRow.plainKeys==Tryz.prog.plainKeys)=true:=by kernel_rfl
theorem qA:(Rows.ledgerNamesRow.shortTexts.isNone)=true:=by kernel_rfl
theorem pZ:(Tryz.prog.stopsHeard)=true:=by kernel_rfl
theorem pY:(Tryz.prog.mayEnter)=true:=by kernel_rfl
theorem pW:(Rows.ledgerNamesRow.lifted==Tryz.prog.liftsFinal)=true:=by kernel_rfl
theorem pV:(Tryz.prog.make==some Rows.ledgerNamesRow.make)=true:=by kernel_rfl
theorem pU:(Rows.ledgerNamesRow.kinds==(if Rows.ledgerNamesRow.domain.isEmpty then []else Tryz.f7.params.toList.map λt=>match Tryz.prog.underlying t with|some (.int k)=>some k|_=>none))=true:=by kernel_rfl
theorem pT:(Rows.ledgerNamesRow.pinned==Rows.ledgerNamesRow.pinnedBy)=true:=by kernel_rfl
theorem pS:(Rows.ledgerNamesRow.veiled==(Tryz.f7.params.toList++Rows.ledgerNamesSpec.plain.varTypes Tryz.prog++Tryz.f7.resultTypes.toList).any (Tryz.prog.veiledRec ·))=true:=by kernel_rfl
theorem pR:(Rows.ledgerNamesRow.veiledFits Tryz.prog Tryz.f7.params.toList (Tryz.f7.params.toList++Rows.ledgerNamesSpec.plain.varTypes Tryz.prog++Tryz.f7.resultTypes.toList))=true:=by kernel_rfl
theorem qS {b0 b1 b2 b3 b4 b5 b6 b7 b8 b9 b10 b11 b12 b13 b14 b15 b16 b17 b18 b19 b20 b21 b22 b23 b24 b25 b26 b27 b28 b29 b30 b31:Bool}(h0:b0=true) (h1:b1=true) (h2:b2=true) (h3:b3=true) (h4:b4=true) (h5:b5=true) (h6:b6=true) (h7:b7=true) (h8:b8=true) (h9:b9=true) (h10:b10=true) (h11:b11=true) (h12:b12=true) (h13:b13=true) (h14:b14=true) (h15:b15=true) (h16:b16=true) (h17:b17=true) (h18:b18=true) (h19:b19=true) (h20:b20=true) (h21:b21=true) (h22:b22=true) (h23:b23=true) (h24:b24=true) (h25:b25=true) (h26:b26=true) (h27:b27=true) (h28:b28=true) (h29:b29=true) (h30:b30=true) (h31:b31=true):(b0 && b1 && b2 && b3 && b4 && b5 && b6 && b7 && b8 && b9 && b10 && b11 && b12 && b13 && b14 && b15 && b16 && b17 && b18 && b19 && b20 && b21 && b22 && b23 && b24 && b25 && b26 && b27 && b28 && b29 && b30 && b31)=true:=by
 subst h0 h1 h2 h3 h4 h5 h6 h7 h8 h9 h10 h11 h12 h13 h14 h15 h16 h17 h18 h19 h20 h21 h22 h23 h24 h25 h26 h27 h28 h29 h30 h31
 rfl
set_option maxRecDepth 100000 in
theorem lG:joinedFacts Tryz.prog 7 Tryz.f7 Rows.ledgerNamesSpec Rows.ledgerNamesRow=true:=by
 unfold joinedFacts
 exact qS sU sT sS sR sQ sP sO sN sM sL qR qQ qP qN qM qL qK qJ qI qH qF qD qC qA pZ pY pW pV pU pT pS pR
theorem gP:Tryz.prog.funcNamed "veilstone/veilstonelaw38.LedgerNames" =some 7:=by kernel_rfl
theorem nN:Tryz.f7.isInstance Tryz.prog Rows.ledgerNamesRow.origin Rows.ledgerNamesRow.targs:=of_decide_eq_true (by kernel_rfl)
theorem nK:Tryz.f7.isWrapper Tryz.prog Rows.ledgerNamesRow.wrapper Rows.ledgerNamesRow.mainSum:=by unfold Func.isWrapper;first|(rw [if_pos (by decide+kernel)];kernel_rfl)|(rw [if_neg (by decide+kernel)];exact⟨rfl,rfl⟩)
theorem pP:Rows.ledgerNamesRow.wfByText (OpenSpec.ofChange Rows.ledgerNamesSpec)=true:=by kernel_rfl
theorem nM:Tryz.prog.mainIs=some (true, "31d9d1ab998f585711b33df6a7b44aa3e07876cb3d679fc4da0c86cc0ca0dc2b".toList):=by kernel_rfl
theorem mJ:true=Tryz.prog.looks []:=by kernel_rfl
theorem nO:false=Rows.ledgerNamesRow.goesBy Tryz.prog:=by kernel_rfl
theorem mI:([(51:Nat),35,57,3].all λu=> !Tryz.prog.wantsStandIn u)=true:=by kernel_rfl
end Go.Proofs.YtdjfkmkdkclahaaGreatDoor
