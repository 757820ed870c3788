/-
  Base: the types that come in, at the laws on New, on Union, Minus and Common, and on Open, Keep, Find.
  Conditions: none.
-/
import Derived.Test.YtfhoddcminbffaaGreatDoorMTcq
set_option linter.unnecessarySimpa false
set_option linter.unusedSectionVars false
set_option linter.unusedSimpArgs false
set_option linter.unusedVariables false
namespace Go.Proofs.YtfhoddcminbffaaGreatDoor
open Go.Proofs Go.RowKit
set_option maxRecDepth 100000
def TS:List TypeId:=38::31::TT
theorem clS:Cl Tryz.prog (· ∈TS):=aTy (by kernel_rfl)
end Go.Proofs.YtfhoddcminbffaaGreatDoor
