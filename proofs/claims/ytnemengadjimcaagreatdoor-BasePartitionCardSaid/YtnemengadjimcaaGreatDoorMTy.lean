/-
  The types of the program in short: for each its shape, its cells, its bytes and its zero value.
  Conditions: none.
-/
import Derived.Test.YtnemengadjimcaaGreatDoorMSs
import Derived.Test.YtnemengadjimcaaGreatDoorProg
import Derived.KernelRfl
set_option linter.unusedSectionVars false
set_option linter.unusedSimpArgs false
set_option linter.unusedVariables false
namespace Go.Proofs.YtnemengadjimcaaGreatDoor
open Go.Proofs
set_option maxRecDepth 100000
theorem T3 : tiOf Tryz.prog 3 = some ⟨.int .i64, 1, 8, [.int .i64 0]⟩ := by kernel_rfl
theorem T4 : tiOf Tryz.prog 4 = some ⟨.bool, 1, 1, [.bool false]⟩ := by kernel_rfl
theorem T5 : tiOf Tryz.prog 5 = some ⟨.int .u8, 1, 1, [.int .u8 0]⟩ := by kernel_rfl
theorem T9 : tiOf Tryz.prog 9 = some ⟨.string, 1, 16, [.str []]⟩ := by kernel_rfl
theorem T20 : tiOf Tryz.prog 20 = some ⟨.other, 1, 16, [.lit .nilIface]⟩ := by kernel_rfl
theorem T23 : tiOf Tryz.prog 23 = some ⟨.slice 49, 1, 24, [.nil]⟩ := by kernel_rfl
theorem T26 : tiOf Tryz.prog 26 = some ⟨.int .i64, 1, 8, [.int .i64 0]⟩ := by kernel_rfl
theorem T31 : tiOf Tryz.prog 31 = some ⟨.slice 3, 1, 24, [.nil]⟩ := by kernel_rfl
theorem T32 : tiOf Tryz.prog 32 = some ⟨.slice 9, 1, 24, [.nil]⟩ := by kernel_rfl
theorem T38 : tiOf Tryz.prog 38 = some ⟨.struct [(23, 0)], 1, 24, [.nil]⟩ := by kernel_rfl
theorem T45 : tiOf Tryz.prog 45 = some ⟨.slice 47, 1, 24, [.nil]⟩ := by kernel_rfl
theorem T47 : tiOf Tryz.prog 47 = some ⟨.struct [(3, 0), (9, 1), (3, 2), (3, 3), (45, 4)], 5, 64, [.int .i64 0, .str [], .int .i64 0, .int .i64 0, .nil]⟩ := by kernel_rfl
theorem T49 : tiOf Tryz.prog 49 = some ⟨.struct [(3, 0), (4, 1), (47, 2), (47, 7), (32, 12), (9, 13), (9, 14), (9, 15)], 16, 216, [.int .i64 0, .bool false, .int .i64 0, .str [], .int .i64 0, .int .i64 0, .nil, .int .i64 0, .str [], .int .i64 0, .int .i64 0, .nil, .nil, .str [], .str [], .str []]⟩ := by kernel_rfl
theorem T54 : tiOf Tryz.prog 54 = some ⟨.other, 1, 8, [.lit .nilFunc]⟩ := by kernel_rfl
theorem T56 : tiOf Tryz.prog 56 = some ⟨.int .u64, 1, 8, [.int .u64 0]⟩ := by kernel_rfl
theorem T61 : tiOf Tryz.prog 61 = some ⟨.int .u16, 1, 2, [.int .u16 0]⟩ := by kernel_rfl
theorem T83 : tiOf Tryz.prog 83 = some ⟨.other, 1, 8, [.lit .nilFunc]⟩ := by kernel_rfl
theorem T85 : tiOf Tryz.prog 85 = some ⟨.slice 23, 1, 24, [.nil]⟩ := by kernel_rfl
theorem T89 : tiOf Tryz.prog 89 = some ⟨.struct [(49, 0)], 16, 216, [.int .i64 0, .bool false, .int .i64 0, .str [], .int .i64 0, .int .i64 0, .nil, .int .i64 0, .str [], .int .i64 0, .int .i64 0, .nil, .nil, .str [], .str [], .str []]⟩ := by kernel_rfl
theorem T90 : tiOf Tryz.prog 90 = some ⟨.other, 1, 8, [.lit .nilFunc]⟩ := by kernel_rfl
theorem T92 : tiOf Tryz.prog 92 = some ⟨.other, 1, 8, [.lit .nilFunc]⟩ := by kernel_rfl
theorem T94 : tiOf Tryz.prog 94 = some ⟨.struct [(4, 0), (4, 1), (4, 2), (4, 3), (4, 4), (3, 5), (3, 6)], 7, 24, [.bool false, .bool false, .bool false, .bool false, .bool false, .int .i64 0, .int .i64 0]⟩ := by kernel_rfl
theorem T95 : tiOf Tryz.prog 95 = some ⟨.array 10 94, 70, 240, [.bool false, .bool false, .bool false, .bool false, .bool false, .int .i64 0, .int .i64 0, .bool false, .bool false, .bool false, .bool false, .bool false, .int .i64 0, .int .i64 0, .bool false, .bool false, .bool false, .bool false, .bool false, .int .i64 0, .int .i64 0, .bool false, .bool false, .bool false, .bool false, .bool false, .int .i64 0, .int .i64 0, .bool false, .bool false, .bool false, .bool false, .bool false, .int .i64 0, .int .i64 0, .bool false, .bool false, .bool false, .bool false, .bool false, .int .i64 0, .int .i64 0, .bool false, .bool false, .bool false, .bool false, .bool false, .int .i64 0, .int .i64 0, .bool false, .bool false, .bool false, .bool false, .bool false, .int .i64 0, .int .i64 0, .bool false, .bool false, .bool false, .bool false, .bool false, .int .i64 0, .int .i64 0, .bool false, .bool false, .bool false, .bool false, .bool false, .int .i64 0, .int .i64 0]⟩ := by kernel_rfl
theorem T110 : tiOf Tryz.prog 110 = some ⟨.other, 1, 8, [.lit .nilFunc]⟩ := by kernel_rfl
theorem T113 : tiOf Tryz.prog 113 = some ⟨.slice 158, 1, 24, [.nil]⟩ := by kernel_rfl
theorem T115 : tiOf Tryz.prog 115 = some ⟨.struct [(32, 0), (113, 1)], 2, 48, [.nil, .nil]⟩ := by kernel_rfl
theorem T117 : tiOf Tryz.prog 117 = some ⟨.other, 1, 8, [.lit (.map none)]⟩ := by kernel_rfl
theorem T124 : tiOf Tryz.prog 124 = some ⟨.other, 1, 8, [.lit .nilFunc]⟩ := by kernel_rfl
theorem T144 : tiOf Tryz.prog 144 = some ⟨.slice 146, 1, 24, [.nil]⟩ := by kernel_rfl
theorem T146 : tiOf Tryz.prog 146 = some ⟨.struct [(47, 0), (3, 5), (144, 6)], 7, 96, [.int .i64 0, .str [], .int .i64 0, .int .i64 0, .nil, .int .i64 0, .nil]⟩ := by kernel_rfl
theorem T154 : tiOf Tryz.prog 154 = some ⟨.other, 1, 8, [.lit .nilFunc]⟩ := by kernel_rfl
theorem T155 : tiOf Tryz.prog 155 = some ⟨.other, 1, 8, [.lit .nilFunc]⟩ := by kernel_rfl
theorem T157 : tiOf Tryz.prog 157 = some ⟨.other, 1, 8, [.lit (.map none)]⟩ := by kernel_rfl
theorem T158 : tiOf Tryz.prog 158 = some ⟨.slice 162, 1, 24, [.nil]⟩ := by kernel_rfl
theorem T162 : tiOf Tryz.prog 162 = some ⟨.struct [(3, 0), (4, 1)], 2, 16, [.int .i64 0, .bool false]⟩ := by kernel_rfl
theorem T163 : tiOf Tryz.prog 163 = some ⟨.other, 1, 8, [.lit .nilFunc]⟩ := by kernel_rfl
theorem T166 : tiOf Tryz.prog 166 = some ⟨.struct [(3, 0), (4, 1), (3, 2), (3, 3)], 4, 32, [.int .i64 0, .bool false, .int .i64 0, .int .i64 0]⟩ := by kernel_rfl
theorem T167 : tiOf Tryz.prog 167 = some ⟨.slice 166, 1, 24, [.nil]⟩ := by kernel_rfl
theorem T168 : tiOf Tryz.prog 168 = some ⟨.slice 169, 1, 24, [.nil]⟩ := by kernel_rfl
theorem T169 : tiOf Tryz.prog 169 = some ⟨.array 2 4, 2, 2, [.bool false, .bool false]⟩ := by kernel_rfl
theorem T177 : tiOf Tryz.prog 177 = some ⟨.pointer 3, 1, 8, [.lit (.pointer none)]⟩ := by kernel_rfl
theorem T178 : tiOf Tryz.prog 178 = some ⟨.other, 1, 8, [.lit .nilFunc]⟩ := by kernel_rfl
theorem T179 : tiOf Tryz.prog 179 = some ⟨.other, 1, 8, [.lit .nilFunc]⟩ := by kernel_rfl
theorem T190 : tiOf Tryz.prog 190 = some ⟨.other, 1, 8, [.lit .nilFunc]⟩ := by kernel_rfl
theorem T192 : tiOf Tryz.prog 192 = some ⟨.other, 1, 8, [.lit .nilFunc]⟩ := by kernel_rfl
theorem T200 : tiOf Tryz.prog 200 = some ⟨.struct [(3, 0), (3, 1), (3, 2), (4, 3)], 4, 32, [.int .i64 0, .int .i64 0, .int .i64 0, .bool false]⟩ := by kernel_rfl
theorem T201 : tiOf Tryz.prog 201 = some ⟨.array 8 200, 32, 256, [.int .i64 0, .int .i64 0, .int .i64 0, .bool false, .int .i64 0, .int .i64 0, .int .i64 0, .bool false, .int .i64 0, .int .i64 0, .int .i64 0, .bool false, .int .i64 0, .int .i64 0, .int .i64 0, .bool false, .int .i64 0, .int .i64 0, .int .i64 0, .bool false, .int .i64 0, .int .i64 0, .int .i64 0, .bool false, .int .i64 0, .int .i64 0, .int .i64 0, .bool false, .int .i64 0, .int .i64 0, .int .i64 0, .bool false]⟩ := by kernel_rfl
theorem T213 : tiOf Tryz.prog 213 = some ⟨.int .i64, 1, 8, [.int .i64 0]⟩ := by kernel_rfl
theorem T220 : tiOf Tryz.prog 220 = some ⟨.int .u32, 1, 4, [.int .u32 0]⟩ := by kernel_rfl
theorem T222 : tiOf Tryz.prog 222 = some ⟨.int .u64, 1, 8, [.int .u64 0]⟩ := by kernel_rfl
theorem T228 : tiOf Tryz.prog 228 = some ⟨.slice 5, 1, 24, [.nil]⟩ := by kernel_rfl
theorem T229 : tiOf Tryz.prog 229 = some ⟨.int .u64, 1, 8, [.int .u64 0]⟩ := by kernel_rfl
theorem T238 : tiOf Tryz.prog 238 = some ⟨.pointer 229, 1, 8, [.lit (.pointer none)]⟩ := by kernel_rfl
def tab : List (Nat × TI) := [
 (3, ⟨.int .i64, 1, 8, [.int .i64 0]⟩),
 (4, ⟨.bool, 1, 1, [.bool false]⟩),
 (5, ⟨.int .u8, 1, 1, [.int .u8 0]⟩),
 (9, ⟨.string, 1, 16, [.str []]⟩),
 (20, ⟨.other, 1, 16, [.lit .nilIface]⟩),
 (23, ⟨.slice 49, 1, 24, [.nil]⟩),
 (26, ⟨.int .i64, 1, 8, [.int .i64 0]⟩),
 (31, ⟨.slice 3, 1, 24, [.nil]⟩),
 (32, ⟨.slice 9, 1, 24, [.nil]⟩),
 (38, ⟨.struct [(23, 0)], 1, 24, [.nil]⟩),
 (45, ⟨.slice 47, 1, 24, [.nil]⟩),
 (47, ⟨.struct [(3, 0), (9, 1), (3, 2), (3, 3), (45, 4)], 5, 64, [.int .i64 0, .str [], .int .i64 0, .int .i64 0, .nil]⟩),
 (49, ⟨.struct [(3, 0), (4, 1), (47, 2), (47, 7), (32, 12), (9, 13), (9, 14), (9, 15)], 16, 216, [.int .i64 0, .bool false, .int .i64 0, .str [], .int .i64 0, .int .i64 0, .nil, .int .i64 0, .str [], .int .i64 0, .int .i64 0, .nil, .nil, .str [], .str [], .str []]⟩),
 (54, ⟨.other, 1, 8, [.lit .nilFunc]⟩),
 (56, ⟨.int .u64, 1, 8, [.int .u64 0]⟩),
 (61, ⟨.int .u16, 1, 2, [.int .u16 0]⟩),
 (83, ⟨.other, 1, 8, [.lit .nilFunc]⟩),
 (85, ⟨.slice 23, 1, 24, [.nil]⟩),
 (89, ⟨.struct [(49, 0)], 16, 216, [.int .i64 0, .bool false, .int .i64 0, .str [], .int .i64 0, .int .i64 0, .nil, .int .i64 0, .str [], .int .i64 0, .int .i64 0, .nil, .nil, .str [], .str [], .str []]⟩),
 (90, ⟨.other, 1, 8, [.lit .nilFunc]⟩),
 (92, ⟨.other, 1, 8, [.lit .nilFunc]⟩),
 (94, ⟨.struct [(4, 0), (4, 1), (4, 2), (4, 3), (4, 4), (3, 5), (3, 6)], 7, 24, [.bool false, .bool false, .bool false, .bool false, .bool false, .int .i64 0, .int .i64 0]⟩),
 (95, ⟨.array 10 94, 70, 240, [.bool false, .bool false, .bool false, .bool false, .bool false, .int .i64 0, .int .i64 0, .bool false, .bool false, .bool false, .bool false, .bool false, .int .i64 0, .int .i64 0, .bool false, .bool false, .bool false, .bool false, .bool false, .int .i64 0, .int .i64 0, .bool false, .bool false, .bool false, .bool false, .bool false, .int .i64 0, .int .i64 0, .bool false, .bool false, .bool false, .bool false, .bool false, .int .i64 0, .int .i64 0, .bool false, .bool false, .bool false, .bool false, .bool false, .int .i64 0, .int .i64 0, .bool false, .bool false, .bool false, .bool false, .bool false, .int .i64 0, .int .i64 0, .bool false, .bool false, .bool false, .bool false, .bool false, .int .i64 0, .int .i64 0, .bool false, .bool false, .bool false, .bool false, .bool false, .int .i64 0, .int .i64 0, .bool false, .bool false, .bool false, .bool false, .bool false, .int .i64 0, .int .i64 0]⟩),
 (110, ⟨.other, 1, 8, [.lit .nilFunc]⟩),
 (113, ⟨.slice 158, 1, 24, [.nil]⟩),
 (115, ⟨.struct [(32, 0), (113, 1)], 2, 48, [.nil, .nil]⟩),
 (117, ⟨.other, 1, 8, [.lit (.map none)]⟩),
 (124, ⟨.other, 1, 8, [.lit .nilFunc]⟩),
 (144, ⟨.slice 146, 1, 24, [.nil]⟩),
 (146, ⟨.struct [(47, 0), (3, 5), (144, 6)], 7, 96, [.int .i64 0, .str [], .int .i64 0, .int .i64 0, .nil, .int .i64 0, .nil]⟩),
 (154, ⟨.other, 1, 8, [.lit .nilFunc]⟩),
 (155, ⟨.other, 1, 8, [.lit .nilFunc]⟩),
 (157, ⟨.other, 1, 8, [.lit (.map none)]⟩),
 (158, ⟨.slice 162, 1, 24, [.nil]⟩),
 (162, ⟨.struct [(3, 0), (4, 1)], 2, 16, [.int .i64 0, .bool false]⟩),
 (163, ⟨.other, 1, 8, [.lit .nilFunc]⟩),
 (166, ⟨.struct [(3, 0), (4, 1), (3, 2), (3, 3)], 4, 32, [.int .i64 0, .bool false, .int .i64 0, .int .i64 0]⟩),
 (167, ⟨.slice 166, 1, 24, [.nil]⟩),
 (168, ⟨.slice 169, 1, 24, [.nil]⟩),
 (169, ⟨.array 2 4, 2, 2, [.bool false, .bool false]⟩),
 (177, ⟨.pointer 3, 1, 8, [.lit (.pointer none)]⟩),
 (178, ⟨.other, 1, 8, [.lit .nilFunc]⟩),
 (179, ⟨.other, 1, 8, [.lit .nilFunc]⟩),
 (190, ⟨.other, 1, 8, [.lit .nilFunc]⟩),
 (192, ⟨.other, 1, 8, [.lit .nilFunc]⟩),
 (200, ⟨.struct [(3, 0), (3, 1), (3, 2), (4, 3)], 4, 32, [.int .i64 0, .int .i64 0, .int .i64 0, .bool false]⟩),
 (201, ⟨.array 8 200, 32, 256, [.int .i64 0, .int .i64 0, .int .i64 0, .bool false, .int .i64 0, .int .i64 0, .int .i64 0, .bool false, .int .i64 0, .int .i64 0, .int .i64 0, .bool false, .int .i64 0, .int .i64 0, .int .i64 0, .bool false, .int .i64 0, .int .i64 0, .int .i64 0, .bool false, .int .i64 0, .int .i64 0, .int .i64 0, .bool false, .int .i64 0, .int .i64 0, .int .i64 0, .bool false, .int .i64 0, .int .i64 0, .int .i64 0, .bool false]⟩),
 (213, ⟨.int .i64, 1, 8, [.int .i64 0]⟩),
 (220, ⟨.int .u32, 1, 4, [.int .u32 0]⟩),
 (222, ⟨.int .u64, 1, 8, [.int .u64 0]⟩),
 (228, ⟨.slice 5, 1, 24, [.nil]⟩),
 (229, ⟨.int .u64, 1, 8, [.int .u64 0]⟩),
 (238, ⟨.pointer 229, 1, 8, [.lit (.pointer none)]⟩)]
def ty : TypeId → Option TI := getT tab
theorem hty : TyOK Tryz.prog ty := tyOK_of ⟨T3, T4, T5, T9, T20, T23, T26, T31, T32, T38, T45, T47, T49, T54, T56, T61, T83, T85, T89, T90, T92, T94, T95, T110, T113, T115, T117, T124, T144, T146, T154, T155, T157, T158, T162, T163, T166, T167, T168, T169, T177, T178, T179, T190, T192, T200, T201, T213, T220, T222, T228, T229, T238, trivial⟩
end Go.Proofs.YtnemengadjimcaaGreatDoor
