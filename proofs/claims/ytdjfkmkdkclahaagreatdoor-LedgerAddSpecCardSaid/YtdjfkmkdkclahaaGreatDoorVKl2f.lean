/-
  LedgerAddSpec: what the program's text says of the function, fact by fact.
-/
import Derived.Test.YtdjfkmkdkclahaaGreatDoorCards
import Derived.Test.YtdjfkmkdkclahaaGreatDoorTie
import Derived.ProofKit
import Derived.JoinedOf
import Derived.LaidMore
import Derived.OpenShut
import Derived.Stop.Joined
import Derived.SevenTiedAt
set_option linter.unnecessarySimpa false
set_option linter.unusedSectionVars false
set_option linter.unusedSimpArgs false
set_option linter.unusedVariables false
namespace Go.Proofs.YtdjfkmkdkclahaaGreatDoor
open Go.ChangeShapes Go.WideShapes Go.ChangeAt Go.RowKit
theorem tB:ownKnob Tryz.prog.godebug=none:=by kernel_rfl
theorem cB:Tryz.f4.params= #[24,35]:=by kernel_rfl
theorem kT:Tryz.f4.resultTypes= #[4]:=by kernel_rfl
theorem vN:(Rows.ledgerAddSpecRow.wf (OpenSpec.ofChange Rows.ledgerAddSpecSpec))=true:=by kernel_rfl
theorem vM:(laidOutB Tryz.prog)=true:=by kernel_rfl
theorem vL:(mapsRowed Tryz.prog)=true:=by kernel_rfl
theorem vK:(Tryz.f4.params.all (Tryz.prog.readableRec ·))=true:=by kernel_rfl
theorem vJ:(namedTie Tryz.prog Rows.ledgerAddSpecRow.named Rows.ledgerAddSpecSpec.vars)=true:=by kernel_rfl
theorem vI:(Rows.ledgerAddSpecRow.stops==[])=true:=by kernel_rfl
theorem vH:(Tryz.prog.stops==[])=true:=by kernel_rfl
theorem vG:(Rows.ledgerAddSpecRow.knobs==[])=true:=by kernel_rfl
theorem vF:(Tryz.prog.stopKnobs==[])=true:=by kernel_rfl
theorem vE:(Rows.ledgerAddSpecRow.inPlace==Tryz.prog.inPlace 4)=true:=by kernel_rfl
theorem uA:(Rows.ledgerAddSpecRow.unfollowed==Tryz.prog.unfollowed 4)=true:=by kernel_rfl
theorem tZ:(Rows.ledgerAddSpecRow.recurses==Tryz.prog.recurses 4)=true:=by kernel_rfl
theorem tY:(Rows.ledgerAddSpecRow.named==Tryz.prog.varsNamed 4)=true:=by kernel_rfl
theorem tX:(Rows.ledgerAddSpecRow.maps==(Tryz.f4.params.toList++Rows.ledgerAddSpecSpec.plain.varTypes Tryz.prog).any (Tryz.prog.mapsRec ·))=true:=by kernel_rfl
theorem tW:(Rows.ledgerAddSpecRow.ifaces==(Tryz.f4.params.toList++Rows.ledgerAddSpecSpec.plain.varTypes Tryz.prog).any (Tryz.prog.ifacesRec ·))=true:=by kernel_rfl
theorem tV:(Rows.ledgerAddSpecRow.mapsOut==Tryz.prog.mapsAmong Tryz.f4.resultTypes.toList)=true:=by kernel_rfl
theorem tU:(Rows.ledgerAddSpecRow.loops==(Tryz.f4.params.toList++Rows.ledgerAddSpecSpec.plain.varTypes Tryz.prog).any (Tryz.prog.loopsFrom ·))=true:=by kernel_rfl
theorem tT:(Rows.ledgerAddSpecRow.wideKeys==(Tryz.f4.params.toList++Rows.ledgerAddSpecSpec.plain.varTypes Tryz.prog++Tryz.f4.resultTypes.toList).any (Tryz.prog.wideKeysFrom ·))=true:=by kernel_rfl
theorem tS:(Rows.ledgerAddSpecSpec.vars.all (Tryz.prog.varReadable ·))=true:=by kernel_rfl
theorem tR:(Tryz.f4.resultTypes.all (λt=>Tryz.prog.readableRec t && decide (t < Tryz.prog.types.size)))=true:=by kernel_rfl
theorem tQ:(Rows.ledgerAddSpecRow.ifacesOut==Tryz.f4.resultTypes.toList.any (Tryz.prog.ifacesRec ·))=true:=by kernel_rfl
theorem tP:(Rows.ledgerAddSpecRow.loopsOut==Tryz.f4.resultTypes.toList.any (Tryz.prog.loopsFrom ·))=true:=by kernel_rfl
theorem tO:(Rows.ledgerAddSpecRow.plainKeys==Tryz.prog.plainKeys)=true:=by kernel_rfl
theorem tN:(Rows.ledgerAddSpecRow.shortTexts.isNone)=true:=by kernel_rfl
theorem tM:(Tryz.prog.stopsHeard)=true:=by kernel_rfl
theorem tL:(Tryz.prog.mayEnter)=true:=by kernel_rfl
theorem tK:(Rows.ledgerAddSpecRow.lifted==Tryz.prog.liftsFinal)=true:=by kernel_rfl
theorem tH:(Tryz.prog.make==some Rows.ledgerAddSpecRow.make)=true:=by kernel_rfl
theorem tG:(Rows.ledgerAddSpecRow.kinds==(if Rows.ledgerAddSpecRow.domain.isEmpty then []else Tryz.f4.params.toList.map λt=>match Tryz.prog.underlying t with|some (.int k)=>some k|_=>none))=true:=by kernel_rfl
theorem tE:(Rows.ledgerAddSpecRow.pinned==Rows.ledgerAddSpecRow.pinnedBy)=true:=by kernel_rfl
theorem tD:(Rows.ledgerAddSpecRow.veiled==(Tryz.f4.params.toList++Rows.ledgerAddSpecSpec.plain.varTypes Tryz.prog++Tryz.f4.resultTypes.toList).any (Tryz.prog.veiledRec ·))=true:=by kernel_rfl
theorem tC:(Rows.ledgerAddSpecRow.veiledFits Tryz.prog Tryz.f4.params.toList (Tryz.f4.params.toList++Rows.ledgerAddSpecSpec.plain.varTypes Tryz.prog++Tryz.f4.resultTypes.toList))=true:=by kernel_rfl
theorem uB {b0 b1 b2 b3 b4 b5 b6 b7 b8 b9 b10 b11 b12 b13 b14 b15 b16 b17 b18 b19 b20 b21 b22 b23 b24 b25 b26 b27 b28 b29 b30 b31:Bool}(h0:b0=true) (h1:b1=true) (h2:b2=true) (h3:b3=true) (h4:b4=true) (h5:b5=true) (h6:b6=true) (h7:b7=true) (h8:b8=true) (h9:b9=true) (h10:b10=true) (h11:b11=true) (h12:b12=true) (h13:b13=true) (h14:b14=true) (h15:b15=true) (h16:b16=true) (h17:b17=true) (h18:b18=true) (h19:b19=true) (h20:b20=true) (h21:b21=true) (h22:b22=true) (h23:b23=true) (h24:b24=true) (h25:b25=true) (h26:b26=true) (h27:b27=true) (h28:b28=true) (h29:b29=true) (h30:b30=true) (h31:b31=true):(b0 && b1 && b2 && b3 && b4 && b5 && b6 && b7 && b8 && b9 && b10 && b11 && b12 && b13 && b14 && b15 && b16 && b17 && b18 && b19 && b20 && b21 && b22 && b23 && b24 && b25 && b26 && b27 && b28 && b29 && b30 && b31)=true:=by
 subst h0 h1 h2 h3 h4 h5 h6 h7 h8 h9 h10 h11 h12 h13 h14 h15 h16 h17 h18 h19 h20 h21 h22 h23 h24 h25 h26 h27 h28 h29 h30 h31
 rfl
set_option maxRecDepth 100000 in
theorem mM:joinedFacts Tryz.prog 4 Tryz.f4 Rows.ledgerAddSpecSpec Rows.ledgerAddSpecRow=true:=by
 unfold joinedFacts
 exact uB vN vM vL vK vJ vI vH vG vF vE uA tZ tY tX tW tV tU tT tS tR tQ tP tO tN tM tL tK tH tG tE tD tC
theorem gA:Tryz.prog.funcNamed "veilstone/veilstonelaw38.LedgerAddSpec" =some 4:=by kernel_rfl
theorem rM:Tryz.f4.isInstance Tryz.prog Rows.ledgerAddSpecRow.origin Rows.ledgerAddSpecRow.targs:=of_decide_eq_true (by kernel_rfl)
theorem rJ:Tryz.f4.isWrapper Tryz.prog Rows.ledgerAddSpecRow.wrapper Rows.ledgerAddSpecRow.mainSum:=by unfold Func.isWrapper;first|(rw [if_pos (by decide+kernel)];kernel_rfl)|(rw [if_neg (by decide+kernel)];exact⟨rfl,rfl⟩)
theorem tA:Rows.ledgerAddSpecRow.wfByText (OpenSpec.ofChange Rows.ledgerAddSpecSpec)=true:=by kernel_rfl
theorem rL:Tryz.prog.mainIs=some (true, "31d9d1ab998f585711b33df6a7b44aa3e07876cb3d679fc4da0c86cc0ca0dc2b".toList):=by kernel_rfl
theorem pE:true=Tryz.prog.looks []:=by kernel_rfl
theorem rN:false=Rows.ledgerAddSpecRow.goesBy Tryz.prog:=by kernel_rfl
theorem pD:([(24:Nat),35].all λu=> !Tryz.prog.wantsStandIn u)=true:=by kernel_rfl
end Go.Proofs.YtdjfkmkdkclahaaGreatDoor
