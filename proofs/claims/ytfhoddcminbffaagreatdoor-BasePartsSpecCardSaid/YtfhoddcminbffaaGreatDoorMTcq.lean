/-
  Base: the types that come in.
  Conditions: none.
-/
import Derived.Test.YtfhoddcminbffaaGreatDoorMPh
import Derived.Test.YtfhoddcminbffaaGreatDoorMAk
set_option linter.unnecessarySimpa false
set_option linter.unusedSectionVars false
set_option linter.unusedSimpArgs false
set_option linter.unusedVariables false
namespace Go.Proofs.YtfhoddcminbffaaGreatDoor
open Go.Proofs Go.RowKit
set_option maxRecDepth 100000
theorem aT5:aEh Tryz.prog 38=some [23]:=by kernel_rfl
theorem aT4:Tryz.prog.underlying 31=some (.slice 3):=by kernel_rfl
theorem aW7:Tryz.prog.cellsOf 3=1:=by kernel_rfl
theorem tU {n:Nat}{ds:List D}(h:TyD Tryz.prog n 38 ds): ∃l:List Ax,wS Tryz.prog 38 ds= .d (.agg [.sl 16 (l.map axR)])/\ ∀x∈l,SzAx x:=by
 rw [aGe aT5]
 obtain⟨m,rfl,a1,b1,rfl,h1,rfl⟩:=qU aT5 h
 obtain⟨k,rfl,rows,rfl,hn,hr⟩:=lV aEg h1
 obtain⟨l,rfl,hl⟩:=tK (f:=axR) (Q:=SzAx) (λr hr=>aSj hr) rows hr
 exact⟨l,rfl,hl⟩
theorem aQh {n:Nat}{ds:List D}(h:TyD Tryz.prog n 31 ds): ∃w:List Int,wS Tryz.prog 31 ds= .d (.sl 1 (w.map jZ))/\w.length<=140737488351232:=by
 obtain⟨m,rfl,rows,rfl,hn,hr⟩:=lV aT4 h
 obtain⟨w,rfl⟩:=aEw (f:=jZ) (λr hr=>by obtain⟨z,rfl,_⟩:=uB u3 hr;exact⟨z,rfl⟩) rows hr
 exact⟨w,by simp only [wS,aT4,aW7],by rw [List.length_map]at hn;exact hn⟩
end Go.Proofs.YtfhoddcminbffaaGreatDoor
