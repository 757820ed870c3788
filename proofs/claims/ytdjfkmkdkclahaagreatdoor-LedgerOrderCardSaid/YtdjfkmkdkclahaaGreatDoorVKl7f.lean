/-
  LedgerOrder: what the program's text says of the function, fact by fact.
-/
import Derived.Test.YtdjfkmkdkclahaaGreatDoorCards
import Derived.Test.YtdjfkmkdkclahaaGreatDoorTie
import Derived.ProofKit
import Derived.JoinedOf
import Derived.LaidMore
import Derived.OpenShut
import Derived.Stop.Joined
import Derived.SevenTiedAt
set_option linter.unnecessarySimpa false
set_option linter.unusedSectionVars false
set_option linter.unusedSimpArgs false
set_option linter.unusedVariables false
namespace Go.Proofs.YtdjfkmkdkclahaaGreatDoor
open Go.ChangeShapes Go.WideShapes Go.ChangeAt Go.RowKit
theorem xU:ownKnob Tryz.prog.godebug=none:=by kernel_rfl
theorem cL:Tryz.f9.params= #[51,51,65]:=by kernel_rfl
theorem nB:Tryz.f9.resultTypes= #[4]:=by kernel_rfl
theorem aAr:(Rows.ledgerOrderRow.wf (OpenSpec.ofChange Rows.ledgerOrderSpec))=true:=by kernel_rfl
theorem aAq:(laidOutB Tryz.prog)=true:=by kernel_rfl
theorem aAp:(mapsRowed Tryz.prog)=true:=by kernel_rfl
theorem aAo:(Tryz.f9.params.all (Tryz.prog.readableRec ·))=true:=by kernel_rfl
theorem aAn:(namedTie Tryz.prog Rows.ledgerOrderRow.named Rows.ledgerOrderSpec.vars)=true:=by kernel_rfl
theorem aAm:(Rows.ledgerOrderRow.stops==[])=true:=by kernel_rfl
theorem aAl:(Tryz.prog.stops==[])=true:=by kernel_rfl
theorem aAk:(Rows.ledgerOrderRow.knobs==[])=true:=by kernel_rfl
theorem aAj:(Tryz.prog.stopKnobs==[])=true:=by kernel_rfl
theorem aAi:(Rows.ledgerOrderRow.inPlace==Tryz.prog.inPlace 9)=true:=by kernel_rfl
theorem yQ:(Rows.ledgerOrderRow.unfollowed==Tryz.prog.unfollowed 9)=true:=by kernel_rfl
theorem yP:(Rows.ledgerOrderRow.recurses==Tryz.prog.recurses 9)=true:=by kernel_rfl
theorem yO:(Rows.ledgerOrderRow.named==Tryz.prog.varsNamed 9)=true:=by kernel_rfl
theorem yN:(Rows.ledgerOrderRow.maps==(Tryz.f9.params.toList++Rows.ledgerOrderSpec.plain.varTypes Tryz.prog).any (Tryz.prog.mapsRec ·))=true:=by kernel_rfl
theorem yM:(Rows.ledgerOrderRow.ifaces==(Tryz.f9.params.toList++Rows.ledgerOrderSpec.plain.varTypes Tryz.prog).any (Tryz.prog.ifacesRec ·))=true:=by kernel_rfl
theorem yL:(Rows.ledgerOrderRow.mapsOut==Tryz.prog.mapsAmong Tryz.f9.resultTypes.toList)=true:=by kernel_rfl
theorem yK:(Rows.ledgerOrderRow.loops==(Tryz.f9.params.toList++Rows.ledgerOrderSpec.plain.varTypes Tryz.prog).any (Tryz.prog.loopsFrom ·))=true:=by kernel_rfl
theorem yJ:(Rows.ledgerOrderRow.wideKeys==(Tryz.f9.params.toList++Rows.ledgerOrderSpec.plain.varTypes Tryz.prog++Tryz.f9.resultTypes.toList).any (Tryz.prog.wideKeysFrom ·))=true:=by kernel_rfl
theorem yI:(Rows.ledgerOrderSpec.vars.all (Tryz.prog.varReadable ·))=true:=by kernel_rfl
theorem yH:(Tryz.f9.resultTypes.all (λt=>Tryz.prog.readableRec t && decide (t < Tryz.prog.types.size)))=true:=by kernel_rfl
theorem yG:(Rows.ledgerOrderRow.ifacesOut==Tryz.f9.resultTypes.toList.any (Tryz.prog.ifacesRec ·))=true:=by kernel_rfl
theorem yF:(Rows.ledgerOrderRow.loopsOut==Tryz.f9.resultTypes.toList.any (Tryz.prog.loopsFrom ·))=true:=by kernel_rfl
theorem yE:(Rows.ledgerOrderRow.plainKeys==Tryz.prog.plainKeys)=true:=by kernel_rfl
theorem yD:(Rows.ledgerOrderRow.shortTexts.isNone)=true:=by kernel_rfl
theorem yC:(Tryz.prog.stopsHeard)=true:=by kernel_rfl
theorem yB:(Tryz.prog.mayEnter)=true:=by kernel_rfl
theorem yA:(Rows.ledgerOrderRow.lifted==Tryz.prog.liftsFinal)=true:=by kernel_rfl
theorem xZ:(Tryz.prog.make==some Rows.ledgerOrderRow.make)=true:=by kernel_rfl
theorem xY:(Rows.ledgerOrderRow.kinds==(if Rows.ledgerOrderRow.domain.isEmpty then []else Tryz.f9.params.toList.map λt=>match Tryz.prog.underlying t with|some (.int k)=>some k|_=>none))=true:=by kernel_rfl
theorem xX:(Rows.ledgerOrderRow.pinned==Rows.ledgerOrderRow.pinnedBy)=true:=by kernel_rfl
theorem xW:(Rows.ledgerOrderRow.veiled==(Tryz.f9.params.toList++Rows.ledgerOrderSpec.plain.varTypes Tryz.prog++Tryz.f9.resultTypes.toList).any (Tryz.prog.veiledRec ·))=true:=by kernel_rfl
theorem xV:(Rows.ledgerOrderRow.veiledFits Tryz.prog Tryz.f9.params.toList (Tryz.f9.params.toList++Rows.ledgerOrderSpec.plain.varTypes Tryz.prog++Tryz.f9.resultTypes.toList))=true:=by kernel_rfl
theorem yR {b0 b1 b2 b3 b4 b5 b6 b7 b8 b9 b10 b11 b12 b13 b14 b15 b16 b17 b18 b19 b20 b21 b22 b23 b24 b25 b26 b27 b28 b29 b30 b31:Bool}(h0:b0=true) (h1:b1=true) (h2:b2=true) (h3:b3=true) (h4:b4=true) (h5:b5=true) (h6:b6=true) (h7:b7=true) (h8:b8=true) (h9:b9=true) (h10:b10=true) (h11:b11=true) (h12:b12=true) (h13:b13=true) (h14:b14=true) (h15:b15=true) (h16:b16=true) (h17:b17=true) (h18:b18=true) (h19:b19=true) (h20:b20=true) (h21:b21=true) (h22:b22=true) (h23:b23=true) (h24:b24=true) (h25:b25=true) (h26:b26=true) (h27:b27=true) (h28:b28=true) (h29:b29=true) (h30:b30=true) (h31:b31=true):(b0 && b1 && b2 && b3 && b4 && b5 && b6 && b7 && b8 && b9 && b10 && b11 && b12 && b13 && b14 && b15 && b16 && b17 && b18 && b19 && b20 && b21 && b22 && b23 && b24 && b25 && b26 && b27 && b28 && b29 && b30 && b31)=true:=by
 subst h0 h1 h2 h3 h4 h5 h6 h7 h8 h9 h10 h11 h12 h13 h14 h15 h16 h17 h18 h19 h20 h21 h22 h23 h24 h25 h26 h27 h28 h29 h30 h31
 rfl
set_option maxRecDepth 100000 in
theorem qN:joinedFacts Tryz.prog 9 Tryz.f9 Rows.ledgerOrderSpec Rows.ledgerOrderRow=true:=by
 unfold joinedFacts
 exact yR aAr aAq aAp aAo aAn aAm aAl aAk aAj aAi yQ yP yO yN yM yL yK yJ yI yH yG yF yE yD yC yB yA xZ xY xX xW xV
theorem iL:Tryz.prog.funcNamed "veilstone/veilstonelaw38.LedgerOrder" =some 9:=by kernel_rfl
theorem vB:Tryz.f9.isInstance Tryz.prog Rows.ledgerOrderRow.origin Rows.ledgerOrderRow.targs:=of_decide_eq_true (by kernel_rfl)
theorem uY:Tryz.f9.isWrapper Tryz.prog Rows.ledgerOrderRow.wrapper Rows.ledgerOrderRow.mainSum:=by unfold Func.isWrapper;first|(rw [if_pos (by decide+kernel)];kernel_rfl)|(rw [if_neg (by decide+kernel)];exact⟨rfl,rfl⟩)
theorem xT:Rows.ledgerOrderRow.wfByText (OpenSpec.ofChange Rows.ledgerOrderSpec)=true:=by kernel_rfl
theorem vA:Tryz.prog.mainIs=some (true, "31d9d1ab998f585711b33df6a7b44aa3e07876cb3d679fc4da0c86cc0ca0dc2b".toList):=by kernel_rfl
theorem sZ:true=Tryz.prog.looks []:=by kernel_rfl
theorem vC:false=Rows.ledgerOrderRow.goesBy Tryz.prog:=by kernel_rfl
theorem sX:([(51:Nat),51,65].all λu=> !Tryz.prog.wantsStandIn u)=true:=by kernel_rfl
end Go.Proofs.YtdjfkmkdkclahaaGreatDoor
