/-
  The library's functions as they lie in this program: its numbers of functions and types.
  Conditions: none.
-/
import Derived.Shelf.SlGeneric
import Derived.Shelf.SlSortCmp.NoneTotal
import Derived.Ground.SlsfProg
import Derived.Shelf.Sort.Plain
import Derived.Ground.NamesProg
import Derived.Test.YtdjfkmkdkclahaaGreatDoorProg
set_option linter.unnecessarySimpa false
set_option linter.unusedSectionVars false
set_option linter.unusedSimpArgs false
set_option linter.unusedVariables false
namespace Go.Proofs
open Go.Shelf
def Tryz.sortAt_ren:Go.Shelf.Ren:=⟨λ| 6=>166| 15=>104| 14=>207| 28=>156| 29=>157| 20=>230| 21=>231| 22=>232| 23=>233| 24=>234| 25=>235| 26=>236| 27=>237| 46=>245| 47=>193| 48=>194| 49=>246| 50=>247| 57=>250|n=>n,λ| 22=>33| 24=>60| 25=>188| 3=>3| 39=>121| 0=>0| 53=>180| 55=>117| 4=>4| 46=>174| 45=>173| 50=>38| 5=>5| 9=>9| 66=>207| 70=>202| 76=>226| 77=>227|n=>n,λ| n=>n⟩
theorem Tryz.sortAt : Go.Proofs.SlLaysF0.n6 Tryz.prog Tryz.sortAt_ren := {
 mixed:=by kernel_rfl
 f6:=⟨Tryz.f166.name,by decide,Tryz.func166.trans (congrArg some (by kernel_rfl))⟩
 f14:=⟨Tryz.f207.name,by decide,Tryz.func207.trans (congrArg some (by kernel_rfl))⟩
 f15:=Tryz.func104.trans (congrArg some (by kernel_rfl))
 f20:=⟨Tryz.f230.name,by decide,Tryz.func230.trans (congrArg some (by kernel_rfl))⟩
 f21:=⟨Tryz.f231.name,by decide,Tryz.func231.trans (congrArg some (by kernel_rfl))⟩
 f22:=⟨Tryz.f232.name,by decide,Tryz.func232.trans (congrArg some (by kernel_rfl))⟩
 f23:=⟨Tryz.f233.name,by decide,Tryz.func233.trans (congrArg some (by kernel_rfl))⟩
 f24:=⟨Tryz.f234.name,by decide,Tryz.func234.trans (congrArg some (by kernel_rfl))⟩
 f25:=⟨Tryz.f235.name,by decide,Tryz.func235.trans (congrArg some (by kernel_rfl))⟩
 f26:=⟨Tryz.f236.name,by decide,Tryz.func236.trans (congrArg some (by kernel_rfl))⟩
 f27:=⟨Tryz.f237.name,by decide,Tryz.func237.trans (congrArg some (by kernel_rfl))⟩
 f28:=Tryz.func156.trans (congrArg some (by kernel_rfl))
 f29:=Tryz.func157.trans (congrArg some (by kernel_rfl))
 f46:=⟨Tryz.f245.name,by decide,Tryz.func245.trans (congrArg some (by kernel_rfl))⟩
 f47:=Tryz.func193.trans (congrArg some (by kernel_rfl))
 f48:=Tryz.func194.trans (congrArg some (by kernel_rfl))
 f49:=⟨Tryz.f246.name,by decide,Tryz.func246.trans (congrArg some (by kernel_rfl))⟩
 f50:=⟨Tryz.f247.name,by decide,Tryz.func247.trans (congrArg some (by kernel_rfl))⟩
 f57:=⟨Tryz.f250.name,by decide,Tryz.func250.trans (congrArg some (by kernel_rfl))⟩
 t0:=Tryz.underlying0
 a0:=Tryz.isAgg0
 z0:=Tryz.sizeOf0
 v0:=Tryz.zeroValue0
 t3:=Tryz.underlying3
 a3:=Tryz.isAgg3
 z3:=Tryz.sizeOf3
 v3:=Tryz.zeroValue3
 t4:=Tryz.underlying4
 a4:=Tryz.isAgg4
 z4:=Tryz.sizeOf4
 v4:=Tryz.zeroValue4
 t5:=Tryz.underlying5
 a5:=Tryz.isAgg5
 z5:=Tryz.sizeOf5
 v5:=Tryz.zeroValue5
 t9:=Tryz.underlying9
 a9:=Tryz.isAgg9
 z9:=Tryz.sizeOf9
 v9:=Tryz.zeroValue9
 t22:=Tryz.underlying33
 a22:=Tryz.isAgg33
 z22:=Tryz.sizeOf33
 v22:=Tryz.zeroValue33
 t25:=Tryz.underlying188
 a25:=Tryz.isAgg188
 z25:=Tryz.sizeOf188
 v25:=Tryz.zeroValue188
 t39:=Tryz.underlying121
 a39:=Tryz.isAgg121
 z39:=Tryz.sizeOf121
 v39:=Tryz.zeroValue121
 t45:=Tryz.underlying173
 a45:=Tryz.isAgg173
 z45:=Tryz.sizeOf173
 v45:=Tryz.zeroValue173
 t46:=Tryz.underlying174
 a46:=Tryz.isAgg174
 z46:=Tryz.sizeOf174
 v46:=Tryz.zeroValue174
 t50:=Tryz.underlying38
 a50:=Tryz.isAgg38
 z50:=Tryz.sizeOf38
 v50:=Tryz.zeroValue38
 t53:=Tryz.underlying180
 a53:=Tryz.isAgg180
 z53:=Tryz.sizeOf180
 v53:=Tryz.zeroValue180
 t55:=Tryz.underlying117
 a55:=Tryz.isAgg117
 z55:=Tryz.sizeOf117
 v55:=Tryz.zeroValue117
 t66:=Tryz.underlying207
 a66:=Tryz.isAgg207
 z66:=Tryz.sizeOf207
 v66:=Tryz.zeroValue207
 t70:=Tryz.underlying202
 a70:=Tryz.isAgg202
 z70:=Tryz.sizeOf202
 v70:=Tryz.zeroValue202
 t76:=Tryz.underlying226
 a76:=Tryz.isAgg226
 z76:=Tryz.sizeOf226
 v76:=Tryz.zeroValue226
 t77:=Tryz.underlying227
 a77:=Tryz.isAgg227
 z77:=Tryz.sizeOf227
 v77:=Tryz.zeroValue227 }
def Tryz.sortStr_ren:Go.Shelf.Ren:=⟨λ| 190=>67| 125=>104| 258=>103| 128=>156| 129=>157| 302=>147| 303=>148| 304=>149| 305=>150| 306=>151| 307=>152| 308=>153| 309=>154| 310=>155| 333=>192| 329=>193| 330=>194| 334=>195| 335=>196| 336=>197| 344=>223|n=>n,λ| 31=>54| 9=>9| 3=>3| 46=>121| 0=>0| 51=>180| 53=>117| 4=>4| 183=>174| 182=>173| 131=>38| 5=>5| 218=>207| 222=>202| 228=>226| 229=>227|n=>n,λ| n=>n⟩
theorem Tryz.sortStr : Go.Proofs.Lays.n190 Tryz.prog Tryz.sortStr_ren := {
 mixed:=by kernel_rfl
 f125:=Tryz.func104.trans (congrArg some (by kernel_rfl))
 f128:=Tryz.func156.trans (congrArg some (by kernel_rfl))
 f129:=Tryz.func157.trans (congrArg some (by kernel_rfl))
 f190:=Tryz.func67.trans (congrArg some (by kernel_rfl))
 f258:=Tryz.func103.trans (congrArg some (by kernel_rfl))
 f302:=Tryz.func147.trans (congrArg some (by kernel_rfl))
 f303:=Tryz.func148.trans (congrArg some (by kernel_rfl))
 f304:=Tryz.func149.trans (congrArg some (by kernel_rfl))
 f305:=Tryz.func150.trans (congrArg some (by kernel_rfl))
 f306:=Tryz.func151.trans (congrArg some (by kernel_rfl))
 f307:=Tryz.func152.trans (congrArg some (by kernel_rfl))
 f308:=Tryz.func153.trans (congrArg some (by kernel_rfl))
 f309:=Tryz.func154.trans (congrArg some (by kernel_rfl))
 f310:=Tryz.func155.trans (congrArg some (by kernel_rfl))
 f329:=Tryz.func193.trans (congrArg some (by kernel_rfl))
 f330:=Tryz.func194.trans (congrArg some (by kernel_rfl))
 f333:=Tryz.func192.trans (congrArg some (by kernel_rfl))
 f334:=Tryz.func195.trans (congrArg some (by kernel_rfl))
 f335:=Tryz.func196.trans (congrArg some (by kernel_rfl))
 f336:=Tryz.func197.trans (congrArg some (by kernel_rfl))
 f344:=Tryz.func223.trans (congrArg some (by kernel_rfl))
 t0:=Tryz.underlying0
 a0:=Tryz.isAgg0
 z0:=Tryz.sizeOf0
 v0:=Tryz.zeroValue0
 t3:=Tryz.underlying3
 a3:=Tryz.isAgg3
 z3:=Tryz.sizeOf3
 v3:=Tryz.zeroValue3
 t4:=Tryz.underlying4
 a4:=Tryz.isAgg4
 z4:=Tryz.sizeOf4
 v4:=Tryz.zeroValue4
 t5:=Tryz.underlying5
 a5:=Tryz.isAgg5
 z5:=Tryz.sizeOf5
 v5:=Tryz.zeroValue5
 t9:=Tryz.underlying9
 a9:=Tryz.isAgg9
 z9:=Tryz.sizeOf9
 v9:=Tryz.zeroValue9
 t31:=Tryz.underlying54
 a31:=Tryz.isAgg54
 z31:=Tryz.sizeOf54
 v31:=Tryz.zeroValue54
 t46:=Tryz.underlying121
 a46:=Tryz.isAgg121
 z46:=Tryz.sizeOf121
 v46:=Tryz.zeroValue121
 t51:=Tryz.underlying180
 a51:=Tryz.isAgg180
 z51:=Tryz.sizeOf180
 v51:=Tryz.zeroValue180
 t53:=Tryz.underlying117
 a53:=Tryz.isAgg117
 z53:=Tryz.sizeOf117
 v53:=Tryz.zeroValue117
 t131:=Tryz.underlying38
 a131:=Tryz.isAgg38
 z131:=Tryz.sizeOf38
 v131:=Tryz.zeroValue38
 t182:=Tryz.underlying173
 a182:=Tryz.isAgg173
 z182:=Tryz.sizeOf173
 v182:=Tryz.zeroValue173
 t183:=Tryz.underlying174
 a183:=Tryz.isAgg174
 z183:=Tryz.sizeOf174
 v183:=Tryz.zeroValue174
 t218:=Tryz.underlying207
 a218:=Tryz.isAgg207
 z218:=Tryz.sizeOf207
 v218:=Tryz.zeroValue207
 t222:=Tryz.underlying202
 a222:=Tryz.isAgg202
 z222:=Tryz.sizeOf202
 v222:=Tryz.zeroValue202
 t228:=Tryz.underlying226
 a228:=Tryz.isAgg226
 z228:=Tryz.sizeOf226
 v228:=Tryz.zeroValue226
 t229:=Tryz.underlying227
 a229:=Tryz.isAgg227
 z229:=Tryz.sizeOf227
 v229:=Tryz.zeroValue227 }
end Go.Proofs
