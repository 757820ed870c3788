/-
  The library's functions as they lie in this program: its numbers of functions and types.
  Conditions: none.
-/
import Derived.Shelf.SlGeneric
import Derived.Shelf.SlSortCmp.NoneTotal
import Derived.Ground.SlsfProg
import Derived.Shelf.Sort.Plain
import Derived.Ground.NamesProg
import Derived.Shelf.Spec.SlicesGrow
import Derived.Ground.Names8Prog
import Derived.Test.YtfhoddcminbffaaGreatDoorProg
set_option linter.unnecessarySimpa false
set_option linter.unusedSectionVars false
set_option linter.unusedSimpArgs false
set_option linter.unusedVariables false
namespace Go.Proofs
open Go.Shelf
def Tryz.sortTree_ren:Go.Shelf.Ren:=⟨λ| 6=>163| 15=>191| 14=>190| 28=>205| 29=>206| 20=>197| 21=>198| 22=>199| 23=>200| 24=>201| 25=>202| 26=>203| 27=>204| 46=>220| 47=>221| 48=>222| 49=>223| 50=>224| 57=>230|n=>n,λ| 22=>150| 24=>152| 25=>191| 3=>3| 39=>198| 0=>0| 53=>215| 55=>217| 4=>4| 46=>209| 45=>208| 50=>50| 5=>5| 9=>9| 66=>225| 70=>144| 76=>234| 77=>235|n=>n,λ| n=>n⟩
theorem Tryz.sortTree : Go.Proofs.SlLaysF0.n6 Tryz.prog Tryz.sortTree_ren := {
 mixed:=by kernel_rfl
 f6:=⟨Tryz.f163.name,by decide,Tryz.func163.trans (congrArg some (by kernel_rfl))⟩
 f14:=⟨Tryz.f190.name,by decide,Tryz.func190.trans (congrArg some (by kernel_rfl))⟩
 f15:=Tryz.func191.trans (congrArg some (by kernel_rfl))
 f20:=⟨Tryz.f197.name,by decide,Tryz.func197.trans (congrArg some (by kernel_rfl))⟩
 f21:=⟨Tryz.f198.name,by decide,Tryz.func198.trans (congrArg some (by kernel_rfl))⟩
 f22:=⟨Tryz.f199.name,by decide,Tryz.func199.trans (congrArg some (by kernel_rfl))⟩
 f23:=⟨Tryz.f200.name,by decide,Tryz.func200.trans (congrArg some (by kernel_rfl))⟩
 f24:=⟨Tryz.f201.name,by decide,Tryz.func201.trans (congrArg some (by kernel_rfl))⟩
 f25:=⟨Tryz.f202.name,by decide,Tryz.func202.trans (congrArg some (by kernel_rfl))⟩
 f26:=⟨Tryz.f203.name,by decide,Tryz.func203.trans (congrArg some (by kernel_rfl))⟩
 f27:=⟨Tryz.f204.name,by decide,Tryz.func204.trans (congrArg some (by kernel_rfl))⟩
 f28:=Tryz.func205.trans (congrArg some (by kernel_rfl))
 f29:=Tryz.func206.trans (congrArg some (by kernel_rfl))
 f46:=⟨Tryz.f220.name,by decide,Tryz.func220.trans (congrArg some (by kernel_rfl))⟩
 f47:=Tryz.func221.trans (congrArg some (by kernel_rfl))
 f48:=Tryz.func222.trans (congrArg some (by kernel_rfl))
 f49:=⟨Tryz.f223.name,by decide,Tryz.func223.trans (congrArg some (by kernel_rfl))⟩
 f50:=⟨Tryz.f224.name,by decide,Tryz.func224.trans (congrArg some (by kernel_rfl))⟩
 f57:=⟨Tryz.f230.name,by decide,Tryz.func230.trans (congrArg some (by kernel_rfl))⟩
 t0:=Tryz.underlying0
 a0:=Tryz.isAgg0
 z0:=Tryz.sizeOf0
 v0:=Tryz.zeroValue0
 t3:=Tryz.underlying3
 a3:=Tryz.isAgg3
 z3:=Tryz.sizeOf3
 v3:=Tryz.zeroValue3
 t4:=Tryz.underlying4
 a4:=Tryz.isAgg4
 z4:=Tryz.sizeOf4
 v4:=Tryz.zeroValue4
 t5:=Tryz.underlying5
 a5:=Tryz.isAgg5
 z5:=Tryz.sizeOf5
 v5:=Tryz.zeroValue5
 t9:=Tryz.underlying9
 a9:=Tryz.isAgg9
 z9:=Tryz.sizeOf9
 v9:=Tryz.zeroValue9
 t22:=Tryz.underlying150
 a22:=Tryz.isAgg150
 z22:=Tryz.sizeOf150
 v22:=Tryz.zeroValue150
 t25:=Tryz.underlying191
 a25:=Tryz.isAgg191
 z25:=Tryz.sizeOf191
 v25:=Tryz.zeroValue191
 t39:=Tryz.underlying198
 a39:=Tryz.isAgg198
 z39:=Tryz.sizeOf198
 v39:=Tryz.zeroValue198
 t45:=Tryz.underlying208
 a45:=Tryz.isAgg208
 z45:=Tryz.sizeOf208
 v45:=Tryz.zeroValue208
 t46:=Tryz.underlying209
 a46:=Tryz.isAgg209
 z46:=Tryz.sizeOf209
 v46:=Tryz.zeroValue209
 t50:=Tryz.underlying50
 a50:=Tryz.isAgg50
 z50:=Tryz.sizeOf50
 v50:=Tryz.zeroValue50
 t53:=Tryz.underlying215
 a53:=Tryz.isAgg215
 z53:=Tryz.sizeOf215
 v53:=Tryz.zeroValue215
 t55:=Tryz.underlying217
 a55:=Tryz.isAgg217
 z55:=Tryz.sizeOf217
 v55:=Tryz.zeroValue217
 t66:=Tryz.underlying225
 a66:=Tryz.isAgg225
 z66:=Tryz.sizeOf225
 v66:=Tryz.zeroValue225
 t70:=Tryz.underlying144
 a70:=Tryz.isAgg144
 z70:=Tryz.sizeOf144
 v70:=Tryz.zeroValue144
 t76:=Tryz.underlying234
 a76:=Tryz.isAgg234
 z76:=Tryz.sizeOf234
 v76:=Tryz.zeroValue234
 t77:=Tryz.underlying235
 a77:=Tryz.isAgg235
 z77:=Tryz.sizeOf235
 v77:=Tryz.zeroValue235 }
def Tryz.growRn_ren:Go.Shelf.Ren:=⟨λ| 4=>121|n=>n,λ| 22=>22| 25=>68| 3=>3| 4=>4| 9=>9| 20=>20| 0=>0|n=>n,λ| n=>n⟩
theorem Tryz.growRn : Go.Proofs.Lays8.n4 Tryz.prog Tryz.growRn_ren := {
 mixed:=by kernel_rfl
 f4:=⟨Tryz.f121.name,by decide,Tryz.func121.trans (congrArg some (by kernel_rfl))⟩
 t0:=Tryz.underlying0
 a0:=Tryz.isAgg0
 z0:=Tryz.sizeOf0
 v0:=Tryz.zeroValue0
 t3:=Tryz.underlying3
 a3:=Tryz.isAgg3
 z3:=Tryz.sizeOf3
 v3:=Tryz.zeroValue3
 t4:=Tryz.underlying4
 a4:=Tryz.isAgg4
 z4:=Tryz.sizeOf4
 v4:=Tryz.zeroValue4
 t9:=Tryz.underlying9
 a9:=Tryz.isAgg9
 z9:=Tryz.sizeOf9
 v9:=Tryz.zeroValue9
 t20:=Tryz.underlying20
 a20:=Tryz.isAgg20
 z20:=Tryz.sizeOf20
 v20:=Tryz.zeroValue20
 t22:=Tryz.underlying22
 a22:=Tryz.isAgg22
 z22:=Tryz.sizeOf22
 v22:=Tryz.zeroValue22 }
end Go.Proofs
