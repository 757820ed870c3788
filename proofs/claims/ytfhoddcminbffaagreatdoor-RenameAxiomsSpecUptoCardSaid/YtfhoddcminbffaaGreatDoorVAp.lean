/-
  The keys of a set of strings, collected and sorted: maps.Keys, slices.AppendSeq, slices.Collect, slices.Sorted.
  Conditions: none.
-/
import Derived.Test.YtfhoddcminbffaaGreatDoorVAo
import Derived.Test.YtfhoddcminbffaaGreatDoorVA1
import Derived.Test.YtfhoddcminbffaaGreatDoorVSw
import Derived.Sort.KeysCollected
set_option linter.unnecessarySimpa false
set_option linter.unusedSectionVars false
set_option linter.unusedSimpArgs false
set_option linter.unusedVariables false
namespace Go.Proofs.YtfhoddcminbffaaGreatDoor
open Go.Proofs
set_option maxRecDepth 10000
attribute [local irreducible] aV aM Tri aI YVC dQ bN
theorem mT:fN []=[]:=rfl
theorem kB (k:Nat) (s:SV) (r:Fr):fN ((k,s)::r)=s.ids++fN r:=rfl
theorem pU:iL []=[]:=rfl
theorem mS (k:Nat) (o:HObj) (r:Hp):iL ((k,o)::r)=(k::o.ids)++iL r:=rfl
theorem aJs (v:Value):(ofV v).ids=[]:=by
 unfold ofV
 split<;>(try split)<;>rfl
end Go.Proofs.YtfhoddcminbffaaGreatDoor
