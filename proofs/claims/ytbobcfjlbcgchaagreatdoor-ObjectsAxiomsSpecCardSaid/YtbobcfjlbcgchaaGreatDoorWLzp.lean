/-
  The library's functions as they lie in this program: its numbers of functions and types.
  Conditions: none.
-/
import Derived.Shelf.SlGeneric
import Derived.Shelf.SlSortCmp.NoneTotal
import Derived.Ground.SlsfProg
import Derived.Shelf.Sort.Plain
import Derived.Ground.NamesProg
import Derived.Test.YtbobcfjlbcgchaaGreatDoorProg
set_option linter.unnecessarySimpa false
set_option linter.unusedSectionVars false
set_option linter.unusedSimpArgs false
set_option linter.unusedVariables false
namespace Go.Proofs
section
open Go.Shelf
def Tryz.sortTree_ren:Go.Shelf.Ren:=⟨λ| 6=>174| 15=>211| 14=>210| 28=>232| 29=>233| 20=>224| 21=>225| 22=>226| 23=>227| 24=>228| 25=>229| 26=>230| 27=>231| 46=>244| 47=>245| 48=>246| 49=>247| 50=>248| 57=>256|n=>n,λ| 22=>174| 24=>176| 25=>230| 3=>3| 39=>42| 0=>0| 53=>126| 55=>101| 4=>4| 46=>263| 45=>262| 50=>212| 5=>5| 9=>9| 66=>275| 70=>197| 76=>283| 77=>284|n=>n,λ| n=>n⟩
theorem Tryz.sortTree : Go.Proofs.SlLaysF0.n6 Tryz.prog Tryz.sortTree_ren := {
 mixed:=by kernel_rfl
 f6:=⟨Tryz.f174.name,by decide,Tryz.func174.trans (congrArg some (by kernel_rfl))⟩
 f14:=⟨Tryz.f210.name,by decide,Tryz.func210.trans (congrArg some (by kernel_rfl))⟩
 f15:=Tryz.func211.trans (congrArg some (by kernel_rfl))
 f20:=⟨Tryz.f224.name,by decide,Tryz.func224.trans (congrArg some (by kernel_rfl))⟩
 f21:=⟨Tryz.f225.name,by decide,Tryz.func225.trans (congrArg some (by kernel_rfl))⟩
 f22:=⟨Tryz.f226.name,by decide,Tryz.func226.trans (congrArg some (by kernel_rfl))⟩
 f23:=⟨Tryz.f227.name,by decide,Tryz.func227.trans (congrArg some (by kernel_rfl))⟩
 f24:=⟨Tryz.f228.name,by decide,Tryz.func228.trans (congrArg some (by kernel_rfl))⟩
 f25:=⟨Tryz.f229.name,by decide,Tryz.func229.trans (congrArg some (by kernel_rfl))⟩
 f26:=⟨Tryz.f230.name,by decide,Tryz.func230.trans (congrArg some (by kernel_rfl))⟩
 f27:=⟨Tryz.f231.name,by decide,Tryz.func231.trans (congrArg some (by kernel_rfl))⟩
 f28:=Tryz.func232.trans (congrArg some (by kernel_rfl))
 f29:=Tryz.func233.trans (congrArg some (by kernel_rfl))
 f46:=⟨Tryz.f244.name,by decide,Tryz.func244.trans (congrArg some (by kernel_rfl))⟩
 f47:=Tryz.func245.trans (congrArg some (by kernel_rfl))
 f48:=Tryz.func246.trans (congrArg some (by kernel_rfl))
 f49:=⟨Tryz.f247.name,by decide,Tryz.func247.trans (congrArg some (by kernel_rfl))⟩
 f50:=⟨Tryz.f248.name,by decide,Tryz.func248.trans (congrArg some (by kernel_rfl))⟩
 f57:=⟨Tryz.f256.name,by decide,Tryz.func256.trans (congrArg some (by kernel_rfl))⟩
 t0:=Tryz.underlying0
 a0:=Tryz.isAgg0
 z0:=Tryz.sizeOf0
 v0:=Tryz.zeroValue0
 t3:=Tryz.underlying3
 a3:=Tryz.isAgg3
 z3:=Tryz.sizeOf3
 v3:=Tryz.zeroValue3
 t4:=Tryz.underlying4
 a4:=Tryz.isAgg4
 z4:=Tryz.sizeOf4
 v4:=Tryz.zeroValue4
 t5:=Tryz.underlying5
 a5:=Tryz.isAgg5
 z5:=Tryz.sizeOf5
 v5:=Tryz.zeroValue5
 t9:=Tryz.underlying9
 a9:=Tryz.isAgg9
 z9:=Tryz.sizeOf9
 v9:=Tryz.zeroValue9
 t22:=Tryz.underlying174
 a22:=Tryz.isAgg174
 z22:=Tryz.sizeOf174
 v22:=Tryz.zeroValue174
 t25:=Tryz.underlying230
 a25:=Tryz.isAgg230
 z25:=Tryz.sizeOf230
 v25:=Tryz.zeroValue230
 t39:=Tryz.underlying42
 a39:=Tryz.isAgg42
 z39:=Tryz.sizeOf42
 v39:=Tryz.zeroValue42
 t45:=Tryz.underlying262
 a45:=Tryz.isAgg262
 z45:=Tryz.sizeOf262
 v45:=Tryz.zeroValue262
 t46:=Tryz.underlying263
 a46:=Tryz.isAgg263
 z46:=Tryz.sizeOf263
 v46:=Tryz.zeroValue263
 t50:=Tryz.underlying212
 a50:=Tryz.isAgg212
 z50:=Tryz.sizeOf212
 v50:=Tryz.zeroValue212
 t53:=Tryz.underlying126
 a53:=Tryz.isAgg126
 z53:=Tryz.sizeOf126
 v53:=Tryz.zeroValue126
 t55:=Tryz.underlying101
 a55:=Tryz.isAgg101
 z55:=Tryz.sizeOf101
 v55:=Tryz.zeroValue101
 t66:=Tryz.underlying275
 a66:=Tryz.isAgg275
 z66:=Tryz.sizeOf275
 v66:=Tryz.zeroValue275
 t70:=Tryz.underlying197
 a70:=Tryz.isAgg197
 z70:=Tryz.sizeOf197
 v70:=Tryz.zeroValue197
 t76:=Tryz.underlying283
 a76:=Tryz.isAgg283
 z76:=Tryz.sizeOf283
 v76:=Tryz.zeroValue283
 t77:=Tryz.underlying284
 a77:=Tryz.isAgg284
 z77:=Tryz.sizeOf284
 v77:=Tryz.zeroValue284 }
def Tryz.sortStr_ren:Go.Shelf.Ren:=⟨λ| 190=>189| 125=>211| 258=>216| 128=>232| 129=>233| 302=>235| 303=>236| 304=>237| 305=>238| 306=>239| 307=>240| 308=>207| 309=>241| 310=>242| 333=>249| 329=>245| 330=>246| 334=>250| 335=>251| 336=>179| 344=>257|n=>n,λ| 31=>46| 9=>9| 3=>3| 46=>42| 0=>0| 51=>126| 53=>101| 4=>4| 183=>263| 182=>262| 131=>212| 5=>5| 218=>275| 222=>197| 228=>283| 229=>284|n=>n,λ| n=>n⟩
theorem Tryz.sortStr : Go.Proofs.Lays.n190 Tryz.prog Tryz.sortStr_ren := {
 mixed:=by kernel_rfl
 f125:=Tryz.func211.trans (congrArg some (by kernel_rfl))
 f128:=Tryz.func232.trans (congrArg some (by kernel_rfl))
 f129:=Tryz.func233.trans (congrArg some (by kernel_rfl))
 f190:=Tryz.func189.trans (congrArg some (by kernel_rfl))
 f258:=Tryz.func216.trans (congrArg some (by kernel_rfl))
 f302:=Tryz.func235.trans (congrArg some (by kernel_rfl))
 f303:=Tryz.func236.trans (congrArg some (by kernel_rfl))
 f304:=Tryz.func237.trans (congrArg some (by kernel_rfl))
 f305:=Tryz.func238.trans (congrArg some (by kernel_rfl))
 f306:=Tryz.func239.trans (congrArg some (by kernel_rfl))
 f307:=Tryz.func240.trans (congrArg some (by kernel_rfl))
 f308:=Tryz.func207.trans (congrArg some (by kernel_rfl))
 f309:=Tryz.func241.trans (congrArg some (by kernel_rfl))
 f310:=Tryz.func242.trans (congrArg some (by kernel_rfl))
 f329:=Tryz.func245.trans (congrArg some (by kernel_rfl))
 f330:=Tryz.func246.trans (congrArg some (by kernel_rfl))
 f333:=Tryz.func249.trans (congrArg some (by kernel_rfl))
 f334:=Tryz.func250.trans (congrArg some (by kernel_rfl))
 f335:=Tryz.func251.trans (congrArg some (by kernel_rfl))
 f336:=Tryz.func179.trans (congrArg some (by kernel_rfl))
 f344:=Tryz.func257.trans (congrArg some (by kernel_rfl))
 t0:=Tryz.underlying0
 a0:=Tryz.isAgg0
 z0:=Tryz.sizeOf0
 v0:=Tryz.zeroValue0
 t3:=Tryz.underlying3
 a3:=Tryz.isAgg3
 z3:=Tryz.sizeOf3
 v3:=Tryz.zeroValue3
 t4:=Tryz.underlying4
 a4:=Tryz.isAgg4
 z4:=Tryz.sizeOf4
 v4:=Tryz.zeroValue4
 t5:=Tryz.underlying5
 a5:=Tryz.isAgg5
 z5:=Tryz.sizeOf5
 v5:=Tryz.zeroValue5
 t9:=Tryz.underlying9
 a9:=Tryz.isAgg9
 z9:=Tryz.sizeOf9
 v9:=Tryz.zeroValue9
 t31:=Tryz.underlying46
 a31:=Tryz.isAgg46
 z31:=Tryz.sizeOf46
 v31:=Tryz.zeroValue46
 t46:=Tryz.underlying42
 a46:=Tryz.isAgg42
 z46:=Tryz.sizeOf42
 v46:=Tryz.zeroValue42
 t51:=Tryz.underlying126
 a51:=Tryz.isAgg126
 z51:=Tryz.sizeOf126
 v51:=Tryz.zeroValue126
 t53:=Tryz.underlying101
 a53:=Tryz.isAgg101
 z53:=Tryz.sizeOf101
 v53:=Tryz.zeroValue101
 t131:=Tryz.underlying212
 a131:=Tryz.isAgg212
 z131:=Tryz.sizeOf212
 v131:=Tryz.zeroValue212
 t182:=Tryz.underlying262
 a182:=Tryz.isAgg262
 z182:=Tryz.sizeOf262
 v182:=Tryz.zeroValue262
 t183:=Tryz.underlying263
 a183:=Tryz.isAgg263
 z183:=Tryz.sizeOf263
 v183:=Tryz.zeroValue263
 t218:=Tryz.underlying275
 a218:=Tryz.isAgg275
 z218:=Tryz.sizeOf275
 v218:=Tryz.zeroValue275
 t222:=Tryz.underlying197
 a222:=Tryz.isAgg197
 z222:=Tryz.sizeOf197
 v222:=Tryz.zeroValue197
 t228:=Tryz.underlying283
 a228:=Tryz.isAgg283
 z228:=Tryz.sizeOf283
 v228:=Tryz.zeroValue283
 t229:=Tryz.underlying284
 a229:=Tryz.isAgg284
 z229:=Tryz.sizeOf284
 v229:=Tryz.zeroValue284 }
end
end Go.Proofs
