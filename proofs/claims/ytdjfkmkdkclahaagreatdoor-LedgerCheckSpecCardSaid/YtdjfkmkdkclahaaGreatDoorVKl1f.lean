/-
  LedgerCheckSpec: what the program's text says of the function, fact by fact.
-/
import Derived.Test.YtdjfkmkdkclahaaGreatDoorCards
import Derived.Test.YtdjfkmkdkclahaaGreatDoorTie
import Derived.ProofKit
import Derived.JoinedOf
import Derived.LaidMore
import Derived.OpenShut
import Derived.Stop.Joined
import Derived.SevenTiedAt
set_option linter.unnecessarySimpa false
set_option linter.unusedSectionVars false
set_option linter.unusedSimpArgs false
set_option linter.unusedVariables false
namespace Go.Proofs.YtdjfkmkdkclahaaGreatDoor
open Go.ChangeShapes Go.WideShapes Go.ChangeAt Go.RowKit
theorem nD:ownKnob Tryz.prog.godebug=none:=by kernel_rfl
theorem bU:Tryz.f3.params= #[24]:=by kernel_rfl
theorem jB:Tryz.f3.resultTypes= #[4]:=by kernel_rfl
theorem qX:(Rows.ledgerCheckSpecRow.wf (OpenSpec.ofChange Rows.ledgerCheckSpecSpec))=true:=by kernel_rfl
theorem qW:(laidOutB Tryz.prog)=true:=by kernel_rfl
theorem qV:(mapsRowed Tryz.prog)=true:=by kernel_rfl
theorem qU:(Tryz.f3.params.all (Tryz.prog.readableRec ·))=true:=by kernel_rfl
theorem qT:(namedTie Tryz.prog Rows.ledgerCheckSpecRow.named Rows.ledgerCheckSpecSpec.vars)=true:=by kernel_rfl
theorem qS:(Rows.ledgerCheckSpecRow.stops==[])=true:=by kernel_rfl
theorem qR:(Tryz.prog.stops==[])=true:=by kernel_rfl
theorem qQ:(Rows.ledgerCheckSpecRow.knobs==[])=true:=by kernel_rfl
theorem qP:(Tryz.prog.stopKnobs==[])=true:=by kernel_rfl
theorem qO:(Rows.ledgerCheckSpecRow.inPlace==Tryz.prog.inPlace 3)=true:=by kernel_rfl
theorem oA:(Rows.ledgerCheckSpecRow.unfollowed==Tryz.prog.unfollowed 3)=true:=by kernel_rfl
theorem nZ:(Rows.ledgerCheckSpecRow.recurses==Tryz.prog.recurses 3)=true:=by kernel_rfl
theorem nY:(Rows.ledgerCheckSpecRow.named==Tryz.prog.varsNamed 3)=true:=by kernel_rfl
theorem nX:(Rows.ledgerCheckSpecRow.maps==(Tryz.f3.params.toList++Rows.ledgerCheckSpecSpec.plain.varTypes Tryz.prog).any (Tryz.prog.mapsRec ·))=true:=by kernel_rfl
theorem nW:(Rows.ledgerCheckSpecRow.ifaces==(Tryz.f3.params.toList++Rows.ledgerCheckSpecSpec.plain.varTypes Tryz.prog).any (Tryz.prog.ifacesRec ·))=true:=by kernel_rfl
theorem nV:(Rows.ledgerCheckSpecRow.mapsOut==Tryz.prog.mapsAmong Tryz.f3.resultTypes.toList)=true:=by kernel_rfl
theorem nU:(Rows.ledgerCheckSpecRow.loops==(Tryz.f3.params.toList++Rows.ledgerCheckSpecSpec.plain.varTypes Tryz.prog).any (Tryz.prog.loopsFrom ·))=true:=by kernel_rfl
theorem nT:(Rows.ledgerCheckSpecRow.wideKeys==(Tryz.f3.params.toList++Rows.ledgerCheckSpecSpec.plain.varTypes Tryz.prog++Tryz.f3.resultTypes.toList).any (Tryz.prog.wideKeysFrom ·))=true:=by kernel_rfl
theorem nS:(Rows.ledgerCheckSpecSpec.vars.all (Tryz.prog.varReadable ·))=true:=by kernel_rfl
theorem nQ:(Tryz.f3.resultTypes.all (λt=>Tryz.prog.readableRec t && decide (t < Tryz.prog.types.size)))=true:=by kernel_rfl
theorem nP:(Rows.ledgerCheckSpecRow.ifacesOut==Tryz.f3.resultTypes.toList.any (Tryz.prog.ifacesRec ·))=true:=by kernel_rfl
theorem nO:(Rows.ledgerCheckSpecRow.loopsOut==Tryz.f3.resultTypes.toList.any (Tryz.prog.loopsFrom ·))=true:=by kernel_rfl
theorem nN:(Rows.ledgerCheckSpecRow.plainKeys==Tryz.prog.plainKeys)=true:=by kernel_rfl
theorem nM:(Rows.ledgerCheckSpecRow.shortTexts.isNone)=true:=by kernel_rfl
theorem nL:(Tryz.prog.stopsHeard)=true:=by kernel_rfl
theorem nK:(Tryz.prog.mayEnter)=true:=by kernel_rfl
theorem nJ:(Rows.ledgerCheckSpecRow.lifted==Tryz.prog.liftsFinal)=true:=by kernel_rfl
theorem nI:(Tryz.prog.make==some Rows.ledgerCheckSpecRow.make)=true:=by kernel_rfl
theorem nH:(Rows.ledgerCheckSpecRow.kinds==(if Rows.ledgerCheckSpecRow.domain.isEmpty then []else Tryz.f3.params.toList.map λt=>match Tryz.prog.underlying t with|some (.int k)=>some k|_=>none))=true:=by kernel_rfl
theorem nG:(Rows.ledgerCheckSpecRow.pinned==Rows.ledgerCheckSpecRow.pinnedBy)=true:=by kernel_rfl
theorem nF:(Rows.ledgerCheckSpecRow.veiled==(Tryz.f3.params.toList++Rows.ledgerCheckSpecSpec.plain.varTypes Tryz.prog++Tryz.f3.resultTypes.toList).any (Tryz.prog.veiledRec ·))=true:=by kernel_rfl
theorem nE:(Rows.ledgerCheckSpecRow.veiledFits Tryz.prog Tryz.f3.params.toList (Tryz.f3.params.toList++Rows.ledgerCheckSpecSpec.plain.varTypes Tryz.prog++Tryz.f3.resultTypes.toList))=true:=by kernel_rfl
theorem oB {b0 b1 b2 b3 b4 b5 b6 b7 b8 b9 b10 b11 b12 b13 b14 b15 b16 b17 b18 b19 b20 b21 b22 b23 b24 b25 b26 b27 b28 b29 b30 b31:Bool}(h0:b0=true) (h1:b1=true) (h2:b2=true) (h3:b3=true) (h4:b4=true) (h5:b5=true) (h6:b6=true) (h7:b7=true) (h8:b8=true) (h9:b9=true) (h10:b10=true) (h11:b11=true) (h12:b12=true) (h13:b13=true) (h14:b14=true) (h15:b15=true) (h16:b16=true) (h17:b17=true) (h18:b18=true) (h19:b19=true) (h20:b20=true) (h21:b21=true) (h22:b22=true) (h23:b23=true) (h24:b24=true) (h25:b25=true) (h26:b26=true) (h27:b27=true) (h28:b28=true) (h29:b29=true) (h30:b30=true) (h31:b31=true):(b0 && b1 && b2 && b3 && b4 && b5 && b6 && b7 && b8 && b9 && b10 && b11 && b12 && b13 && b14 && b15 && b16 && b17 && b18 && b19 && b20 && b21 && b22 && b23 && b24 && b25 && b26 && b27 && b28 && b29 && b30 && b31)=true:=by
 subst h0 h1 h2 h3 h4 h5 h6 h7 h8 h9 h10 h11 h12 h13 h14 h15 h16 h17 h18 h19 h20 h21 h22 h23 h24 h25 h26 h27 h28 h29 h30 h31
 rfl
set_option maxRecDepth 100000 in
theorem jV:joinedFacts Tryz.prog 3 Tryz.f3 Rows.ledgerCheckSpecSpec Rows.ledgerCheckSpecRow=true:=by
 unfold joinedFacts
 exact oB qX qW qV qU qT qS qR qQ qP qO oA nZ nY nX nW nV nU nT nS nQ nP nO nN nM nL nK nJ nI nH nG nF nE
theorem fA:Tryz.prog.funcNamed "veilstone/veilstonelaw38.LedgerCheckSpec" =some 3:=by kernel_rfl
theorem mB:Tryz.f3.isInstance Tryz.prog Rows.ledgerCheckSpecRow.origin Rows.ledgerCheckSpecRow.targs:=of_decide_eq_true (by kernel_rfl)
theorem lY:Tryz.f3.isWrapper Tryz.prog Rows.ledgerCheckSpecRow.wrapper Rows.ledgerCheckSpecRow.mainSum:=by unfold Func.isWrapper;first|(rw [if_pos (by decide+kernel)];kernel_rfl)|(rw [if_neg (by decide+kernel)];exact⟨rfl,rfl⟩)
theorem nC:Rows.ledgerCheckSpecRow.wfByText (OpenSpec.ofChange Rows.ledgerCheckSpecSpec)=true:=by kernel_rfl
theorem mA:Tryz.prog.mainIs=some (true, "31d9d1ab998f585711b33df6a7b44aa3e07876cb3d679fc4da0c86cc0ca0dc2b".toList):=by kernel_rfl
theorem kQ:true=Tryz.prog.looks []:=by kernel_rfl
theorem mC:false=Rows.ledgerCheckSpecRow.goesBy Tryz.prog:=by kernel_rfl
theorem kP:([(24:Nat)].all λu=> !Tryz.prog.wantsStandIn u)=true:=by kernel_rfl
end Go.Proofs.YtdjfkmkdkclahaaGreatDoor
