/-
  The library's functions as they lie in this program: its numbers of functions and types.
  Conditions: none.
-/
import Derived.Shelf.SlGeneric
import Derived.Shelf.Sort.Plain
import Derived.Ground.NamesProg
import Derived.Test.YtleihcnongldbaaGreatDoorProg
set_option linter.unnecessarySimpa false
set_option linter.unusedSectionVars false
set_option linter.unusedSimpArgs false
set_option linter.unusedVariables false
namespace Go.Proofs
open Go.Shelf
def Tryz.sortStr_ren:Go.Shelf.Ren:=⟨λ| 190=>108| 125=>149| 258=>148| 128=>181| 129=>182| 302=>172| 303=>173| 304=>174| 305=>175| 306=>176| 307=>177| 308=>178| 309=>179| 310=>180| 333=>195| 329=>196| 330=>197| 334=>198| 335=>199| 336=>200| 344=>204|n=>n,λ| 31=>22| 9=>9| 3=>3| 46=>62| 0=>0| 51=>209| 53=>77| 4=>4| 183=>202| 182=>201| 131=>206| 5=>5| 218=>218| 222=>193| 228=>223| 229=>224|n=>n,λ| n=>n⟩
theorem Tryz.sortStr : Go.Proofs.Lays.n190 Tryz.prog Tryz.sortStr_ren := {
 mixed:=by kernel_rfl
 f125:=Tryz.func149.trans (congrArg some (by kernel_rfl))
 f128:=Tryz.func181.trans (congrArg some (by kernel_rfl))
 f129:=Tryz.func182.trans (congrArg some (by kernel_rfl))
 f190:=Tryz.func108.trans (congrArg some (by kernel_rfl))
 f258:=Tryz.func148.trans (congrArg some (by kernel_rfl))
 f302:=Tryz.func172.trans (congrArg some (by kernel_rfl))
 f303:=Tryz.func173.trans (congrArg some (by kernel_rfl))
 f304:=Tryz.func174.trans (congrArg some (by kernel_rfl))
 f305:=Tryz.func175.trans (congrArg some (by kernel_rfl))
 f306:=Tryz.func176.trans (congrArg some (by kernel_rfl))
 f307:=Tryz.func177.trans (congrArg some (by kernel_rfl))
 f308:=Tryz.func178.trans (congrArg some (by kernel_rfl))
 f309:=Tryz.func179.trans (congrArg some (by kernel_rfl))
 f310:=Tryz.func180.trans (congrArg some (by kernel_rfl))
 f329:=Tryz.func196.trans (congrArg some (by kernel_rfl))
 f330:=Tryz.func197.trans (congrArg some (by kernel_rfl))
 f333:=Tryz.func195.trans (congrArg some (by kernel_rfl))
 f334:=Tryz.func198.trans (congrArg some (by kernel_rfl))
 f335:=Tryz.func199.trans (congrArg some (by kernel_rfl))
 f336:=Tryz.func200.trans (congrArg some (by kernel_rfl))
 f344:=Tryz.func204.trans (congrArg some (by kernel_rfl))
 t0:=Tryz.underlying0
 a0:=Tryz.isAgg0
 z0:=Tryz.sizeOf0
 v0:=Tryz.zeroValue0
 t3:=Tryz.underlying3
 a3:=Tryz.isAgg3
 z3:=Tryz.sizeOf3
 v3:=Tryz.zeroValue3
 t4:=Tryz.underlying4
 a4:=Tryz.isAgg4
 z4:=Tryz.sizeOf4
 v4:=Tryz.zeroValue4
 t5:=Tryz.underlying5
 a5:=Tryz.isAgg5
 z5:=Tryz.sizeOf5
 v5:=Tryz.zeroValue5
 t9:=Tryz.underlying9
 a9:=Tryz.isAgg9
 z9:=Tryz.sizeOf9
 v9:=Tryz.zeroValue9
 t31:=Tryz.underlying22
 a31:=Tryz.isAgg22
 z31:=Tryz.sizeOf22
 v31:=Tryz.zeroValue22
 t46:=Tryz.underlying62
 a46:=Tryz.isAgg62
 z46:=Tryz.sizeOf62
 v46:=Tryz.zeroValue62
 t51:=Tryz.underlying209
 a51:=Tryz.isAgg209
 z51:=Tryz.sizeOf209
 v51:=Tryz.zeroValue209
 t53:=Tryz.underlying77
 a53:=Tryz.isAgg77
 z53:=Tryz.sizeOf77
 v53:=Tryz.zeroValue77
 t131:=Tryz.underlying206
 a131:=Tryz.isAgg206
 z131:=Tryz.sizeOf206
 v131:=Tryz.zeroValue206
 t182:=Tryz.underlying201
 a182:=Tryz.isAgg201
 z182:=Tryz.sizeOf201
 v182:=Tryz.zeroValue201
 t183:=Tryz.underlying202
 a183:=Tryz.isAgg202
 z183:=Tryz.sizeOf202
 v183:=Tryz.zeroValue202
 t218:=Tryz.underlying218
 a218:=Tryz.isAgg218
 z218:=Tryz.sizeOf218
 v218:=Tryz.zeroValue218
 t222:=Tryz.underlying193
 a222:=Tryz.isAgg193
 z222:=Tryz.sizeOf193
 v222:=Tryz.zeroValue193
 t228:=Tryz.underlying223
 a228:=Tryz.isAgg223
 z228:=Tryz.sizeOf223
 v228:=Tryz.zeroValue223
 t229:=Tryz.underlying224
 a229:=Tryz.isAgg224
 z229:=Tryz.sizeOf224
 v229:=Tryz.zeroValue224 }
end Go.Proofs
