/-
  The library's functions as they lie in this program: its numbers of functions and types.
  Conditions: none.
-/
import Derived.Shelf.SlGeneric
import Derived.Shelf.SlSortCmp.NoneTotal
import Derived.Ground.SlsfProg
import Derived.Shelf.Sort.Plain
import Derived.Ground.NamesProg
import Derived.Test.YtcomlapnibckmaaGreatDoorProg
set_option linter.unnecessarySimpa false
set_option linter.unusedSectionVars false
set_option linter.unusedSimpArgs false
set_option linter.unusedVariables false
namespace Go.Proofs
open Go.Shelf
def Tryz.sortStr_ren:Go.Shelf.Ren:=⟨λ| 190=>127| 125=>185| 258=>184| 128=>240| 129=>241| 302=>231| 303=>232| 304=>233| 305=>234| 306=>235| 307=>236| 308=>237| 309=>238| 310=>239| 333=>272| 329=>273| 330=>274| 334=>275| 335=>276| 336=>258| 344=>287|n=>n,λ| 31=>22| 9=>9| 3=>3| 46=>63| 0=>0| 51=>191| 53=>92| 4=>4| 183=>257| 182=>256| 131=>261| 5=>5| 218=>297| 222=>248| 228=>304| 229=>305|n=>n,λ| n=>n⟩
theorem Tryz.sortStr : Go.Proofs.Lays.n190 Tryz.prog Tryz.sortStr_ren := {
 mixed:=by kernel_rfl
 f125:=Tryz.func185.trans (congrArg some (by kernel_rfl))
 f128:=Tryz.func240.trans (congrArg some (by kernel_rfl))
 f129:=Tryz.func241.trans (congrArg some (by kernel_rfl))
 f190:=Tryz.func127.trans (congrArg some (by kernel_rfl))
 f258:=Tryz.func184.trans (congrArg some (by kernel_rfl))
 f302:=Tryz.func231.trans (congrArg some (by kernel_rfl))
 f303:=Tryz.func232.trans (congrArg some (by kernel_rfl))
 f304:=Tryz.func233.trans (congrArg some (by kernel_rfl))
 f305:=Tryz.func234.trans (congrArg some (by kernel_rfl))
 f306:=Tryz.func235.trans (congrArg some (by kernel_rfl))
 f307:=Tryz.func236.trans (congrArg some (by kernel_rfl))
 f308:=Tryz.func237.trans (congrArg some (by kernel_rfl))
 f309:=Tryz.func238.trans (congrArg some (by kernel_rfl))
 f310:=Tryz.func239.trans (congrArg some (by kernel_rfl))
 f329:=Tryz.func273.trans (congrArg some (by kernel_rfl))
 f330:=Tryz.func274.trans (congrArg some (by kernel_rfl))
 f333:=Tryz.func272.trans (congrArg some (by kernel_rfl))
 f334:=Tryz.func275.trans (congrArg some (by kernel_rfl))
 f335:=Tryz.func276.trans (congrArg some (by kernel_rfl))
 f336:=Tryz.func258.trans (congrArg some (by kernel_rfl))
 f344:=Tryz.func287.trans (congrArg some (by kernel_rfl))
 t0:=Tryz.underlying0
 a0:=Tryz.isAgg0
 z0:=Tryz.sizeOf0
 v0:=Tryz.zeroValue0
 t3:=Tryz.underlying3
 a3:=Tryz.isAgg3
 z3:=Tryz.sizeOf3
 v3:=Tryz.zeroValue3
 t4:=Tryz.underlying4
 a4:=Tryz.isAgg4
 z4:=Tryz.sizeOf4
 v4:=Tryz.zeroValue4
 t5:=Tryz.underlying5
 a5:=Tryz.isAgg5
 z5:=Tryz.sizeOf5
 v5:=Tryz.zeroValue5
 t9:=Tryz.underlying9
 a9:=Tryz.isAgg9
 z9:=Tryz.sizeOf9
 v9:=Tryz.zeroValue9
 t31:=Tryz.underlying22
 a31:=Tryz.isAgg22
 z31:=Tryz.sizeOf22
 v31:=Tryz.zeroValue22
 t46:=Tryz.underlying63
 a46:=Tryz.isAgg63
 z46:=Tryz.sizeOf63
 v46:=Tryz.zeroValue63
 t51:=Tryz.underlying191
 a51:=Tryz.isAgg191
 z51:=Tryz.sizeOf191
 v51:=Tryz.zeroValue191
 t53:=Tryz.underlying92
 a53:=Tryz.isAgg92
 z53:=Tryz.sizeOf92
 v53:=Tryz.zeroValue92
 t131:=Tryz.underlying261
 a131:=Tryz.isAgg261
 z131:=Tryz.sizeOf261
 v131:=Tryz.zeroValue261
 t182:=Tryz.underlying256
 a182:=Tryz.isAgg256
 z182:=Tryz.sizeOf256
 v182:=Tryz.zeroValue256
 t183:=Tryz.underlying257
 a183:=Tryz.isAgg257
 z183:=Tryz.sizeOf257
 v183:=Tryz.zeroValue257
 t218:=Tryz.underlying297
 a218:=Tryz.isAgg297
 z218:=Tryz.sizeOf297
 v218:=Tryz.zeroValue297
 t222:=Tryz.underlying248
 a222:=Tryz.isAgg248
 z222:=Tryz.sizeOf248
 v222:=Tryz.zeroValue248
 t228:=Tryz.underlying304
 a228:=Tryz.isAgg304
 z228:=Tryz.sizeOf304
 v228:=Tryz.zeroValue304
 t229:=Tryz.underlying305
 a229:=Tryz.isAgg305
 z229:=Tryz.sizeOf305
 v229:=Tryz.zeroValue305 }
end Go.Proofs
