/-
  The library's functions as they lie in this program: its numbers of functions and types.
  Conditions: none.
-/
import Derived.Shelf.SlGeneric
import Derived.Shelf.SlSortCmp.NoneTotal
import Derived.Ground.SlsfProg
import Derived.Shelf.Sort.Plain
import Derived.Ground.NamesProg
import Derived.Shelf.Spec.SlicesGrow
import Derived.Ground.Names8Prog
import Derived.Test.YtnemengadjimcaaGreatDoorProg
set_option linter.unnecessarySimpa false
set_option linter.unusedSectionVars false
set_option linter.unusedSimpArgs false
set_option linter.unusedVariables false
namespace Go.Proofs
open Go.Shelf
def Tryz.sortTree_ren : Go.Shelf.Ren := ⟨fun | 6 => 161 | 15 => 190 | 14 => 189 | 28 => 208 | 29 => 209 | 20 => 200 | 21 => 201 | 22 => 202 | 23 => 203 | 24 => 204 | 25 => 205 | 26 => 206 | 27 => 207 | 46 => 220 | 47 => 221 | 48 => 222 | 49 => 223 | 50 => 224 | 57 => 233 | n => n, fun | 22 => 144 | 24 => 146 | 25 => 190 | 3 => 3 | 39 => 56 | 0 => 0 | 53 => 220 | 55 => 222 | 4 => 4 | 46 => 214 | 45 => 213 | 50 => 52 | 5 => 5 | 9 => 9 | 66 => 229 | 70 => 177 | 76 => 238 | 77 => 239 | n => n, fun | n => n⟩
theorem Tryz.sortTree : Go.Proofs.SlLaysF0.n6 Tryz.prog Tryz.sortTree_ren := {
 mixed := by kernel_rfl
 f6 := ⟨Tryz.f161.name, by decide, Tryz.func161.trans (congrArg some (by kernel_rfl))⟩
 f14 := ⟨Tryz.f189.name, by decide, Tryz.func189.trans (congrArg some (by kernel_rfl))⟩
 f15 := Tryz.func190.trans (congrArg some (by kernel_rfl))
 f20 := ⟨Tryz.f200.name, by decide, Tryz.func200.trans (congrArg some (by kernel_rfl))⟩
 f21 := ⟨Tryz.f201.name, by decide, Tryz.func201.trans (congrArg some (by kernel_rfl))⟩
 f22 := ⟨Tryz.f202.name, by decide, Tryz.func202.trans (congrArg some (by kernel_rfl))⟩
 f23 := ⟨Tryz.f203.name, by decide, Tryz.func203.trans (congrArg some (by kernel_rfl))⟩
 f24 := ⟨Tryz.f204.name, by decide, Tryz.func204.trans (congrArg some (by kernel_rfl))⟩
 f25 := ⟨Tryz.f205.name, by decide, Tryz.func205.trans (congrArg some (by kernel_rfl))⟩
 f26 := ⟨Tryz.f206.name, by decide, Tryz.func206.trans (congrArg some (by kernel_rfl))⟩
 f27 := ⟨Tryz.f207.name, by decide, Tryz.func207.trans (congrArg some (by kernel_rfl))⟩
 f28 := Tryz.func208.trans (congrArg some (by kernel_rfl))
 f29 := Tryz.func209.trans (congrArg some (by kernel_rfl))
 f46 := ⟨Tryz.f220.name, by decide, Tryz.func220.trans (congrArg some (by kernel_rfl))⟩
 f47 := Tryz.func221.trans (congrArg some (by kernel_rfl))
 f48 := Tryz.func222.trans (congrArg some (by kernel_rfl))
 f49 := ⟨Tryz.f223.name, by decide, Tryz.func223.trans (congrArg some (by kernel_rfl))⟩
 f50 := ⟨Tryz.f224.name, by decide, Tryz.func224.trans (congrArg some (by kernel_rfl))⟩
 f57 := ⟨Tryz.f233.name, by decide, Tryz.func233.trans (congrArg some (by kernel_rfl))⟩
 t0 := Tryz.underlying0
 a0 := Tryz.isAgg0
 z0 := Tryz.sizeOf0
 v0 := Tryz.zeroValue0
 t3 := Tryz.underlying3
 a3 := Tryz.isAgg3
 z3 := Tryz.sizeOf3
 v3 := Tryz.zeroValue3
 t4 := Tryz.underlying4
 a4 := Tryz.isAgg4
 z4 := Tryz.sizeOf4
 v4 := Tryz.zeroValue4
 t5 := Tryz.underlying5
 a5 := Tryz.isAgg5
 z5 := Tryz.sizeOf5
 v5 := Tryz.zeroValue5
 t9 := Tryz.underlying9
 a9 := Tryz.isAgg9
 z9 := Tryz.sizeOf9
 v9 := Tryz.zeroValue9
 t22 := Tryz.underlying144
 a22 := Tryz.isAgg144
 z22 := Tryz.sizeOf144
 v22 := Tryz.zeroValue144
 t25 := Tryz.underlying190
 a25 := Tryz.isAgg190
 z25 := Tryz.sizeOf190
 v25 := Tryz.zeroValue190
 t39 := Tryz.underlying56
 a39 := Tryz.isAgg56
 z39 := Tryz.sizeOf56
 v39 := Tryz.zeroValue56
 t45 := Tryz.underlying213
 a45 := Tryz.isAgg213
 z45 := Tryz.sizeOf213
 v45 := Tryz.zeroValue213
 t46 := Tryz.underlying214
 a46 := Tryz.isAgg214
 z46 := Tryz.sizeOf214
 v46 := Tryz.zeroValue214
 t50 := Tryz.underlying52
 a50 := Tryz.isAgg52
 z50 := Tryz.sizeOf52
 v50 := Tryz.zeroValue52
 t53 := Tryz.underlying220
 a53 := Tryz.isAgg220
 z53 := Tryz.sizeOf220
 v53 := Tryz.zeroValue220
 t55 := Tryz.underlying222
 a55 := Tryz.isAgg222
 z55 := Tryz.sizeOf222
 v55 := Tryz.zeroValue222
 t66 := Tryz.underlying229
 a66 := Tryz.isAgg229
 z66 := Tryz.sizeOf229
 v66 := Tryz.zeroValue229
 t70 := Tryz.underlying177
 a70 := Tryz.isAgg177
 z70 := Tryz.sizeOf177
 v70 := Tryz.zeroValue177
 t76 := Tryz.underlying238
 a76 := Tryz.isAgg238
 z76 := Tryz.sizeOf238
 v76 := Tryz.zeroValue238
 t77 := Tryz.underlying239
 a77 := Tryz.isAgg239
 z77 := Tryz.sizeOf239
 v77 := Tryz.zeroValue239 }
def Tryz.sortStr_ren : Go.Shelf.Ren := ⟨fun | 190 => 168 | 125 => 190 | 258 => 192 | 128 => 208 | 129 => 209 | 302 => 210 | 303 => 211 | 304 => 212 | 305 => 213 | 306 => 214 | 307 => 215 | 308 => 171 | 309 => 216 | 310 => 217 | 333 => 225 | 329 => 221 | 330 => 222 | 334 => 226 | 335 => 227 | 336 => 165 | 344 => 234 | n => n, fun | 31 => 32 | 9 => 9 | 3 => 3 | 46 => 56 | 0 => 0 | 51 => 220 | 53 => 222 | 4 => 4 | 183 => 214 | 182 => 213 | 131 => 52 | 5 => 5 | 218 => 229 | 222 => 177 | 228 => 238 | 229 => 239 | n => n, fun | n => n⟩
theorem Tryz.sortStr : Go.Proofs.Lays.n190 Tryz.prog Tryz.sortStr_ren := {
 mixed := by kernel_rfl
 f125 := Tryz.func190.trans (congrArg some (by kernel_rfl))
 f128 := Tryz.func208.trans (congrArg some (by kernel_rfl))
 f129 := Tryz.func209.trans (congrArg some (by kernel_rfl))
 f190 := Tryz.func168.trans (congrArg some (by kernel_rfl))
 f258 := Tryz.func192.trans (congrArg some (by kernel_rfl))
 f302 := Tryz.func210.trans (congrArg some (by kernel_rfl))
 f303 := Tryz.func211.trans (congrArg some (by kernel_rfl))
 f304 := Tryz.func212.trans (congrArg some (by kernel_rfl))
 f305 := Tryz.func213.trans (congrArg some (by kernel_rfl))
 f306 := Tryz.func214.trans (congrArg some (by kernel_rfl))
 f307 := Tryz.func215.trans (congrArg some (by kernel_rfl))
 f308 := Tryz.func171.trans (congrArg some (by kernel_rfl))
 f309 := Tryz.func216.trans (congrArg some (by kernel_rfl))
 f310 := Tryz.func217.trans (congrArg some (by kernel_rfl))
 f329 := Tryz.func221.trans (congrArg some (by kernel_rfl))
 f330 := Tryz.func222.trans (congrArg some (by kernel_rfl))
 f333 := Tryz.func225.trans (congrArg some (by kernel_rfl))
 f334 := Tryz.func226.trans (congrArg some (by kernel_rfl))
 f335 := Tryz.func227.trans (congrArg some (by kernel_rfl))
 f336 := Tryz.func165.trans (congrArg some (by kernel_rfl))
 f344 := Tryz.func234.trans (congrArg some (by kernel_rfl))
 t0 := Tryz.underlying0
 a0 := Tryz.isAgg0
 z0 := Tryz.sizeOf0
 v0 := Tryz.zeroValue0
 t3 := Tryz.underlying3
 a3 := Tryz.isAgg3
 z3 := Tryz.sizeOf3
 v3 := Tryz.zeroValue3
 t4 := Tryz.underlying4
 a4 := Tryz.isAgg4
 z4 := Tryz.sizeOf4
 v4 := Tryz.zeroValue4
 t5 := Tryz.underlying5
 a5 := Tryz.isAgg5
 z5 := Tryz.sizeOf5
 v5 := Tryz.zeroValue5
 t9 := Tryz.underlying9
 a9 := Tryz.isAgg9
 z9 := Tryz.sizeOf9
 v9 := Tryz.zeroValue9
 t31 := Tryz.underlying32
 a31 := Tryz.isAgg32
 z31 := Tryz.sizeOf32
 v31 := Tryz.zeroValue32
 t46 := Tryz.underlying56
 a46 := Tryz.isAgg56
 z46 := Tryz.sizeOf56
 v46 := Tryz.zeroValue56
 t51 := Tryz.underlying220
 a51 := Tryz.isAgg220
 z51 := Tryz.sizeOf220
 v51 := Tryz.zeroValue220
 t53 := Tryz.underlying222
 a53 := Tryz.isAgg222
 z53 := Tryz.sizeOf222
 v53 := Tryz.zeroValue222
 t131 := Tryz.underlying52
 a131 := Tryz.isAgg52
 z131 := Tryz.sizeOf52
 v131 := Tryz.zeroValue52
 t182 := Tryz.underlying213
 a182 := Tryz.isAgg213
 z182 := Tryz.sizeOf213
 v182 := Tryz.zeroValue213
 t183 := Tryz.underlying214
 a183 := Tryz.isAgg214
 z183 := Tryz.sizeOf214
 v183 := Tryz.zeroValue214
 t218 := Tryz.underlying229
 a218 := Tryz.isAgg229
 z218 := Tryz.sizeOf229
 v218 := Tryz.zeroValue229
 t222 := Tryz.underlying177
 a222 := Tryz.isAgg177
 z222 := Tryz.sizeOf177
 v222 := Tryz.zeroValue177
 t228 := Tryz.underlying238
 a228 := Tryz.isAgg238
 z228 := Tryz.sizeOf238
 v228 := Tryz.zeroValue238
 t229 := Tryz.underlying239
 a229 := Tryz.isAgg239
 z229 := Tryz.sizeOf239
 v229 := Tryz.zeroValue239 }
def Tryz.growAx_ren : Go.Shelf.Ren := ⟨fun | 4 => 128 | n => n, fun | 22 => 23 | 25 => 49 | 3 => 3 | 4 => 4 | 9 => 9 | 20 => 20 | 0 => 0 | n => n, fun | n => n⟩
theorem Tryz.growAx : Go.Proofs.Lays8.n4 Tryz.prog Tryz.growAx_ren := {
 mixed := by kernel_rfl
 f4 := ⟨Tryz.f128.name, by decide, Tryz.func128.trans (congrArg some (by kernel_rfl))⟩
 t0 := Tryz.underlying0
 a0 := Tryz.isAgg0
 z0 := Tryz.sizeOf0
 v0 := Tryz.zeroValue0
 t3 := Tryz.underlying3
 a3 := Tryz.isAgg3
 z3 := Tryz.sizeOf3
 v3 := Tryz.zeroValue3
 t4 := Tryz.underlying4
 a4 := Tryz.isAgg4
 z4 := Tryz.sizeOf4
 v4 := Tryz.zeroValue4
 t9 := Tryz.underlying9
 a9 := Tryz.isAgg9
 z9 := Tryz.sizeOf9
 v9 := Tryz.zeroValue9
 t20 := Tryz.underlying20
 a20 := Tryz.isAgg20
 z20 := Tryz.sizeOf20
 v20 := Tryz.zeroValue20
 t22 := Tryz.underlying23
 a22 := Tryz.isAgg23
 z22 := Tryz.sizeOf23
 v22 := Tryz.zeroValue23 }
end Go.Proofs
