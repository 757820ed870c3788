/-
  LedgerBytesSpec: what the program's text says of the function, fact by fact.
-/
import Derived.Test.YtdjfkmkdkclahaaGreatDoorCards
import Derived.Test.YtdjfkmkdkclahaaGreatDoorTie
import Derived.ProofKit
import Derived.JoinedOf
import Derived.LaidMore
import Derived.OpenShut
import Derived.Stop.Joined
import Derived.SevenTiedAt
set_option linter.unnecessarySimpa false
set_option linter.unusedSectionVars false
set_option linter.unusedSimpArgs false
set_option linter.unusedVariables false
namespace Go.Proofs.YtdjfkmkdkclahaaGreatDoor
open Go.ChangeShapes Go.WideShapes Go.ChangeAt Go.RowKit
theorem oD:ownKnob Tryz.prog.godebug=none:=by kernel_rfl
theorem bV:Tryz.f5.params= #[9,3,42,3,5,43]:=by kernel_rfl
theorem jC:Tryz.f5.resultTypes= #[4]:=by kernel_rfl
theorem rH:(Rows.ledgerBytesSpecRow.wf (OpenSpec.ofChange Rows.ledgerBytesSpecSpec))=true:=by kernel_rfl
theorem rG:(laidOutB Tryz.prog)=true:=by kernel_rfl
theorem rF:(mapsRowed Tryz.prog)=true:=by kernel_rfl
theorem rE:(Tryz.f5.params.all (Tryz.prog.readableRec ·))=true:=by kernel_rfl
theorem rD:(namedTie Tryz.prog Rows.ledgerBytesSpecRow.named Rows.ledgerBytesSpecSpec.vars)=true:=by kernel_rfl
theorem rC:(Rows.ledgerBytesSpecRow.stops==[])=true:=by kernel_rfl
theorem rB:(Tryz.prog.stops==[])=true:=by kernel_rfl
theorem rA:(Rows.ledgerBytesSpecRow.knobs==[])=true:=by kernel_rfl
theorem qZ:(Tryz.prog.stopKnobs==[])=true:=by kernel_rfl
theorem qY:(Rows.ledgerBytesSpecRow.inPlace==Tryz.prog.inPlace 5)=true:=by kernel_rfl
theorem pB:(Rows.ledgerBytesSpecRow.unfollowed==Tryz.prog.unfollowed 5)=true:=by kernel_rfl
theorem pA:(Rows.ledgerBytesSpecRow.recurses==Tryz.prog.recurses 5)=true:=by kernel_rfl
theorem oZ:(Rows.ledgerBytesSpecRow.named==Tryz.prog.varsNamed 5)=true:=by kernel_rfl
theorem oX:(Rows.ledgerBytesSpecRow.maps==(Tryz.f5.params.toList++Rows.ledgerBytesSpecSpec.plain.varTypes Tryz.prog).any (Tryz.prog.mapsRec ·))=true:=by kernel_rfl
theorem oW:(Rows.ledgerBytesSpecRow.ifaces==(Tryz.f5.params.toList++Rows.ledgerBytesSpecSpec.plain.varTypes Tryz.prog).any (Tryz.prog.ifacesRec ·))=true:=by kernel_rfl
theorem oV:(Rows.ledgerBytesSpecRow.mapsOut==Tryz.prog.mapsAmong Tryz.f5.resultTypes.toList)=true:=by kernel_rfl
theorem oU:(Rows.ledgerBytesSpecRow.loops==(Tryz.f5.params.toList++Rows.ledgerBytesSpecSpec.plain.varTypes Tryz.prog).any (Tryz.prog.loopsFrom ·))=true:=by kernel_rfl
theorem oT:(Rows.ledgerBytesSpecRow.wideKeys==(Tryz.f5.params.toList++Rows.ledgerBytesSpecSpec.plain.varTypes Tryz.prog++Tryz.f5.resultTypes.toList).any (Tryz.prog.wideKeysFrom ·))=true:=by kernel_rfl
theorem oS:(Rows.ledgerBytesSpecSpec.vars.all (Tryz.prog.varReadable ·))=true:=by kernel_rfl
theorem oQ:(Tryz.f5.resultTypes.all (λt=>Tryz.prog.readableRec t && decide (t < Tryz.prog.types.size)))=true:=by kernel_rfl
theorem oP:(Rows.ledgerBytesSpecRow.ifacesOut==Tryz.f5.resultTypes.toList.any (Tryz.prog.ifacesRec ·))=true:=by kernel_rfl
theorem oO:(Rows.ledgerBytesSpecRow.loopsOut==Tryz.f5.resultTypes.toList.any (Tryz.prog.loopsFrom ·))=true:=by kernel_rfl
theorem oN:(Rows.ledgerBytesSpecRow.plainKeys==Tryz.prog.plainKeys)=true:=by kernel_rfl
theorem oM:(Rows.ledgerBytesSpecRow.shortTexts.isNone)=true:=by kernel_rfl
theorem oL:(Tryz.prog.stopsHeard)=true:=by kernel_rfl
theorem oK:(Tryz.prog.mayEnter)=true:=by kernel_rfl
theorem oJ:(Rows.ledgerBytesSpecRow.lifted==Tryz.prog.liftsFinal)=true:=by kernel_rfl
theorem oI:(Tryz.prog.make==some Rows.ledgerBytesSpecRow.make)=true:=by kernel_rfl
theorem oH:(Rows.ledgerBytesSpecRow.kinds==(if Rows.ledgerBytesSpecRow.domain.isEmpty then []else Tryz.f5.params.toList.map λt=>match Tryz.prog.underlying t with|some (.int k)=>some k|_=>none))=true:=by kernel_rfl
theorem oG:(Rows.ledgerBytesSpecRow.pinned==Rows.ledgerBytesSpecRow.pinnedBy)=true:=by kernel_rfl
theorem oF:(Rows.ledgerBytesSpecRow.veiled==(Tryz.f5.params.toList++Rows.ledgerBytesSpecSpec.plain.varTypes Tryz.prog++Tryz.f5.resultTypes.toList).any (Tryz.prog.veiledRec ·))=true:=by kernel_rfl
theorem oE:(Rows.ledgerBytesSpecRow.veiledFits Tryz.prog Tryz.f5.params.toList (Tryz.f5.params.toList++Rows.ledgerBytesSpecSpec.plain.varTypes Tryz.prog++Tryz.f5.resultTypes.toList))=true:=by kernel_rfl
theorem pC {b0 b1 b2 b3 b4 b5 b6 b7 b8 b9 b10 b11 b12 b13 b14 b15 b16 b17 b18 b19 b20 b21 b22 b23 b24 b25 b26 b27 b28 b29 b30 b31:Bool}(h0:b0=true) (h1:b1=true) (h2:b2=true) (h3:b3=true) (h4:b4=true) (h5:b5=true) (h6:b6=true) (h7:b7=true) (h8:b8=true) (h9:b9=true) (h10:b10=true) (h11:b11=true) (h12:b12=true) (h13:b13=true) (h14:b14=true) (h15:b15=true) (h16:b16=true) (h17:b17=true) (h18:b18=true) (h19:b19=true) (h20:b20=true) (h21:b21=true) (h22:b22=true) (h23:b23=true) (h24:b24=true) (h25:b25=true) (h26:b26=true) (h27:b27=true) (h28:b28=true) (h29:b29=true) (h30:b30=true) (h31:b31=true):(b0 && b1 && b2 && b3 && b4 && b5 && b6 && b7 && b8 && b9 && b10 && b11 && b12 && b13 && b14 && b15 && b16 && b17 && b18 && b19 && b20 && b21 && b22 && b23 && b24 && b25 && b26 && b27 && b28 && b29 && b30 && b31)=true:=by
 subst h0 h1 h2 h3 h4 h5 h6 h7 h8 h9 h10 h11 h12 h13 h14 h15 h16 h17 h18 h19 h20 h21 h22 h23 h24 h25 h26 h27 h28 h29 h30 h31
 rfl
set_option maxRecDepth 100000 in
theorem jX:joinedFacts Tryz.prog 5 Tryz.f5 Rows.ledgerBytesSpecSpec Rows.ledgerBytesSpecRow=true:=by
 unfold joinedFacts
 exact pC rH rG rF rE rD rC rB rA qZ qY pB pA oZ oX oW oV oU oT oS oQ oP oO oN oM oL oK oJ oI oH oG oF oE
theorem fB:Tryz.prog.funcNamed "veilstone/veilstonelaw38.LedgerBytesSpec" =some 5:=by kernel_rfl
theorem mI:Tryz.f5.isInstance Tryz.prog Rows.ledgerBytesSpecRow.origin Rows.ledgerBytesSpecRow.targs:=of_decide_eq_true (by kernel_rfl)
theorem mF:Tryz.f5.isWrapper Tryz.prog Rows.ledgerBytesSpecRow.wrapper Rows.ledgerBytesSpecRow.mainSum:=by unfold Func.isWrapper;first|(rw [if_pos (by decide+kernel)];kernel_rfl)|(rw [if_neg (by decide+kernel)];exact⟨rfl,rfl⟩)
theorem oC:Rows.ledgerBytesSpecRow.wfByText (OpenSpec.ofChange Rows.ledgerBytesSpecSpec)=true:=by kernel_rfl
theorem mH:Tryz.prog.mainIs=some (true, "31d9d1ab998f585711b33df6a7b44aa3e07876cb3d679fc4da0c86cc0ca0dc2b".toList):=by kernel_rfl
theorem kS:true=Tryz.prog.looks []:=by kernel_rfl
theorem mJ:false=Rows.ledgerBytesSpecRow.goesBy Tryz.prog:=by kernel_rfl
theorem kR:([(9:Nat),3,42,3,5,43].all λu=> !Tryz.prog.wantsStandIn u)=true:=by kernel_rfl
end Go.Proofs.YtdjfkmkdkclahaaGreatDoor
