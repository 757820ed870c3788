/-
  LedgerGrows: what the program's text says of the function, fact by fact.
-/
import Derived.Test.YtdjfkmkdkclahaaGreatDoorCards
import Derived.Test.YtdjfkmkdkclahaaGreatDoorTie
import Derived.ProofKit
import Derived.JoinedOf
import Derived.LaidMore
import Derived.OpenShut
import Derived.Stop.Joined
import Derived.SevenTiedAt
set_option linter.unnecessarySimpa false
set_option linter.unusedSectionVars false
set_option linter.unusedSimpArgs false
set_option linter.unusedVariables false
namespace Go.Proofs.YtdjfkmkdkclahaaGreatDoor
open Go.ChangeShapes Go.WideShapes Go.ChangeAt Go.RowKit
theorem pY:ownKnob Tryz.prog.godebug=none:=by kernel_rfl
theorem bY:Tryz.f6.params= #[51]:=by kernel_rfl
theorem kU:Tryz.f6.resultTypes= #[4]:=by kernel_rfl
theorem sV:(Rows.ledgerGrowsRow.wf (OpenSpec.ofChange Rows.ledgerGrowsSpec))=true:=by kernel_rfl
theorem sU:(laidOutB Tryz.prog)=true:=by kernel_rfl
theorem sT:(mapsRowed Tryz.prog)=true:=by kernel_rfl
theorem sS:(Tryz.f6.params.all (Tryz.prog.readableRec ·))=true:=by kernel_rfl
theorem sR:(namedTie Tryz.prog Rows.ledgerGrowsRow.named Rows.ledgerGrowsSpec.vars)=true:=by kernel_rfl
theorem sQ:(Rows.ledgerGrowsRow.stops==[])=true:=by kernel_rfl
theorem sP:(Tryz.prog.stops==[])=true:=by kernel_rfl
theorem sO:(Rows.ledgerGrowsRow.knobs==[])=true:=by kernel_rfl
theorem sN:(Tryz.prog.stopKnobs==[])=true:=by kernel_rfl
theorem sM:(Rows.ledgerGrowsRow.inPlace==Tryz.prog.inPlace 6)=true:=by kernel_rfl
theorem qV:(Rows.ledgerGrowsRow.unfollowed==Tryz.prog.unfollowed 6)=true:=by kernel_rfl
theorem qU:(Rows.ledgerGrowsRow.recurses==Tryz.prog.recurses 6)=true:=by kernel_rfl
theorem qT:(Rows.ledgerGrowsRow.named==Tryz.prog.varsNamed 6)=true:=by kernel_rfl
theorem qS:(Rows.ledgerGrowsRow.maps==(Tryz.f6.params.toList++Rows.ledgerGrowsSpec.plain.varTypes Tryz.prog).any (Tryz.prog.mapsRec ·))=true:=by kernel_rfl
theorem qR:(Rows.ledgerGrowsRow.ifaces==(Tryz.f6.params.toList++Rows.ledgerGrowsSpec.plain.varTypes Tryz.prog).any (Tryz.prog.ifacesRec ·))=true:=by kernel_rfl
theorem qQ:(Rows.ledgerGrowsRow.mapsOut==Tryz.prog.mapsAmong Tryz.f6.resultTypes.toList)=true:=by kernel_rfl
theorem qP:(Rows.ledgerGrowsRow.loops==(Tryz.f6.params.toList++Rows.ledgerGrowsSpec.plain.varTypes Tryz.prog).any (Tryz.prog.loopsFrom ·))=true:=by kernel_rfl
theorem qO:(Rows.ledgerGrowsRow.wideKeys==(Tryz.f6.params.toList++Rows.ledgerGrowsSpec.plain.varTypes Tryz.prog++Tryz.f6.resultTypes.toList).any (Tryz.prog.wideKeysFrom ·))=true:=by kernel_rfl
theorem qN:(Rows.ledgerGrowsSpec.vars.all (Tryz.prog.varReadable ·))=true:=by kernel_rfl
theorem qM:(Tryz.f6.resultTypes.all (λt=>Tryz.prog.readableRec t && decide (t < Tryz.prog.types.size)))=true:=by kernel_rfl
theorem qL:(Rows.ledgerGrowsRow.ifacesOut==Tryz.f6.resultTypes.toList.any (Tryz.prog.ifacesRec ·))=true:=by kernel_rfl
theorem qK:(Rows.ledgerGrowsRow.loopsOut==Tryz.f6.resultTypes.toList.any (Tryz.prog.loopsFrom ·))=true:=by kernel_rfl
theorem qJ:(Rows.ledgerGrowsRow.plainKeys==Tryz.prog.plainKeys)=true:=by kernel_rfl
theorem qI:(Rows.ledgerGrowsRow.shortTexts.isNone)=true:=by kernel_rfl
theorem qH:(Tryz.prog.stopsHeard)=true:=by kernel_rfl
theorem qG:(Tryz.prog.mayEnter)=true:=by kernel_rfl
theorem qF:(Rows.ledgerGrowsRow.lifted==Tryz.prog.liftsFinal)=true:=by kernel_rfl
theorem qD:(Tryz.prog.make==some Rows.ledgerGrowsRow.make)=true:=by kernel_rfl
theorem qC:(Rows.ledgerGrowsRow.kinds==(if Rows.ledgerGrowsRow.domain.isEmpty then []else Tryz.f6.params.toList.map λt=>match Tryz.prog.underlying t with|some (.int k)=>some k|_=>none))=true:=by kernel_rfl
theorem qB:(Rows.ledgerGrowsRow.pinned==Rows.ledgerGrowsRow.pinnedBy)=true:=by kernel_rfl
theorem qA:(Rows.ledgerGrowsRow.veiled==(Tryz.f6.params.toList++Rows.ledgerGrowsSpec.plain.varTypes Tryz.prog++Tryz.f6.resultTypes.toList).any (Tryz.prog.veiledRec ·))=true:=by kernel_rfl
theorem pZ:(Rows.ledgerGrowsRow.veiledFits Tryz.prog Tryz.f6.params.toList (Tryz.f6.params.toList++Rows.ledgerGrowsSpec.plain.varTypes Tryz.prog++Tryz.f6.resultTypes.toList))=true:=by kernel_rfl
theorem qW {b0 b1 b2 b3 b4 b5 b6 b7 b8 b9 b10 b11 b12 b13 b14 b15 b16 b17 b18 b19 b20 b21 b22 b23 b24 b25 b26 b27 b28 b29 b30 b31:Bool}(h0:b0=true) (h1:b1=true) (h2:b2=true) (h3:b3=true) (h4:b4=true) (h5:b5=true) (h6:b6=true) (h7:b7=true) (h8:b8=true) (h9:b9=true) (h10:b10=true) (h11:b11=true) (h12:b12=true) (h13:b13=true) (h14:b14=true) (h15:b15=true) (h16:b16=true) (h17:b17=true) (h18:b18=true) (h19:b19=true) (h20:b20=true) (h21:b21=true) (h22:b22=true) (h23:b23=true) (h24:b24=true) (h25:b25=true) (h26:b26=true) (h27:b27=true) (h28:b28=true) (h29:b29=true) (h30:b30=true) (h31:b31=true):(b0 && b1 && b2 && b3 && b4 && b5 && b6 && b7 && b8 && b9 && b10 && b11 && b12 && b13 && b14 && b15 && b16 && b17 && b18 && b19 && b20 && b21 && b22 && b23 && b24 && b25 && b26 && b27 && b28 && b29 && b30 && b31)=true:=by
 subst h0 h1 h2 h3 h4 h5 h6 h7 h8 h9 h10 h11 h12 h13 h14 h15 h16 h17 h18 h19 h20 h21 h22 h23 h24 h25 h26 h27 h28 h29 h30 h31
 rfl
set_option maxRecDepth 100000 in
theorem lY:joinedFacts Tryz.prog 6 Tryz.f6 Rows.ledgerGrowsSpec Rows.ledgerGrowsRow=true:=by
 unfold joinedFacts
 exact qW sV sU sT sS sR sQ sP sO sN sM qV qU qT qS qR qQ qP qO qN qM qL qK qJ qI qH qG qF qD qC qB qA pZ
theorem fW:Tryz.prog.funcNamed "veilstone/veilstonelaw38.LedgerGrows" =some 6:=by kernel_rfl
theorem oC:Tryz.f6.isInstance Tryz.prog Rows.ledgerGrowsRow.origin Rows.ledgerGrowsRow.targs:=of_decide_eq_true (by kernel_rfl)
theorem nZ:Tryz.f6.isWrapper Tryz.prog Rows.ledgerGrowsRow.wrapper Rows.ledgerGrowsRow.mainSum:=by unfold Func.isWrapper;first|(rw [if_pos (by decide+kernel)];kernel_rfl)|(rw [if_neg (by decide+kernel)];exact⟨rfl,rfl⟩)
theorem pW:Rows.ledgerGrowsRow.wfByText (OpenSpec.ofChange Rows.ledgerGrowsSpec)=true:=by kernel_rfl
theorem oB:Tryz.prog.mainIs=some (true, "31d9d1ab998f585711b33df6a7b44aa3e07876cb3d679fc4da0c86cc0ca0dc2b".toList):=by kernel_rfl
theorem nE:true=Tryz.prog.looks []:=by kernel_rfl
theorem oD:false=Rows.ledgerGrowsRow.goesBy Tryz.prog:=by kernel_rfl
theorem nD:([(51:Nat)].all λu=> !Tryz.prog.wantsStandIn u)=true:=by kernel_rfl
end Go.Proofs.YtdjfkmkdkclahaaGreatDoor
