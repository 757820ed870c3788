/-
  The types of the program in short: for each its shape, its cells, its bytes and its zero value.
  Conditions: none.
-/
import Derived.Test.YtpecmehekandgaaGreatDoorMSs
import Derived.Test.YtpecmehekandgaaGreatDoorProg
import Derived.KernelRfl
set_option linter.unusedSectionVars false
set_option linter.unusedSimpArgs false
set_option linter.unusedVariables false
namespace Go.Proofs.YtpecmehekandgaaGreatDoor
open Go.Proofs
set_option maxRecDepth 100000
theorem T2 : tiOf Tryz.prog 2 = some ⟨.int .i64, 1, 8, [.int .i64 0]⟩ := by kernel_rfl
theorem T3 : tiOf Tryz.prog 3 = some ⟨.int .i64, 1, 8, [.int .i64 0]⟩ := by kernel_rfl
theorem T4 : tiOf Tryz.prog 4 = some ⟨.bool, 1, 1, [.bool false]⟩ := by kernel_rfl
theorem T5 : tiOf Tryz.prog 5 = some ⟨.int .u8, 1, 1, [.int .u8 0]⟩ := by kernel_rfl
theorem T6 : tiOf Tryz.prog 6 = some ⟨.int .u8, 1, 1, [.int .u8 0]⟩ := by kernel_rfl
theorem T8 : tiOf Tryz.prog 8 = some ⟨.struct [(2, 0), (3, 1), (4, 2), (6, 3)], 4, 24, [.int .i64 0, .int .i64 0, .bool false, .int .u8 0]⟩ := by kernel_rfl
theorem T9 : tiOf Tryz.prog 9 = some ⟨.string, 1, 16, [.str []]⟩ := by kernel_rfl
theorem T10 : tiOf Tryz.prog 10 = some ⟨.string, 1, 16, [.str []]⟩ := by kernel_rfl
theorem T11 : tiOf Tryz.prog 11 = some ⟨.string, 1, 16, [.str []]⟩ := by kernel_rfl
theorem T12 : tiOf Tryz.prog 12 = some ⟨.int .u64, 1, 8, [.int .u64 0]⟩ := by kernel_rfl
theorem T14 : tiOf Tryz.prog 14 = some ⟨.struct [(9, 0), (12, 1)], 2, 24, [.str [], .int .u64 0]⟩ := by kernel_rfl
theorem T15 : tiOf Tryz.prog 15 = some ⟨.pointer 182, 1, 8, [.lit (.pointer none)]⟩ := by kernel_rfl
theorem T16 : tiOf Tryz.prog 16 = some ⟨.pointer 185, 1, 8, [.lit (.pointer none)]⟩ := by kernel_rfl
theorem T17 : tiOf Tryz.prog 17 = some ⟨.pointer 194, 1, 8, [.lit (.pointer none)]⟩ := by kernel_rfl
theorem T19 : tiOf Tryz.prog 19 = some ⟨.struct [(17, 0)], 1, 8, [.lit (.pointer none)]⟩ := by kernel_rfl
theorem T20 : tiOf Tryz.prog 20 = some ⟨.other, 1, 16, [.lit .nilIface]⟩ := by kernel_rfl
theorem T22 : tiOf Tryz.prog 22 = some ⟨.slice 54, 1, 24, [.nil]⟩ := by kernel_rfl
theorem T23 : tiOf Tryz.prog 23 = some ⟨.slice 34, 1, 24, [.nil]⟩ := by kernel_rfl
theorem T26 : tiOf Tryz.prog 26 = some ⟨.int .i64, 1, 8, [.int .i64 0]⟩ := by kernel_rfl
theorem T29 : tiOf Tryz.prog 29 = some ⟨.slice 31, 1, 24, [.nil]⟩ := by kernel_rfl
theorem T31 : tiOf Tryz.prog 31 = some ⟨.struct [(3, 0), (9, 1), (3, 2), (3, 3), (29, 4)], 5, 64, [.int .i64 0, .str [], .int .i64 0, .int .i64 0, .nil]⟩ := by kernel_rfl
theorem T32 : tiOf Tryz.prog 32 = some ⟨.slice 9, 1, 24, [.nil]⟩ := by kernel_rfl
theorem T34 : tiOf Tryz.prog 34 = some ⟨.struct [(3, 0), (4, 1), (31, 2), (31, 7), (32, 12), (9, 13), (9, 14), (9, 15)], 16, 216, [.int .i64 0, .bool false, .int .i64 0, .str [], .int .i64 0, .int .i64 0, .nil, .int .i64 0, .str [], .int .i64 0, .int .i64 0, .nil, .nil, .str [], .str [], .str []]⟩ := by kernel_rfl
theorem T42 : tiOf Tryz.prog 42 = some ⟨.slice 3, 1, 24, [.nil]⟩ := by kernel_rfl
theorem T49 : tiOf Tryz.prog 49 = some ⟨.struct [(32, 0), (32, 1), (32, 2), (32, 3)], 4, 96, [.nil, .nil, .nil, .nil]⟩ := by kernel_rfl
theorem T52 : tiOf Tryz.prog 52 = some ⟨.slice 32, 1, 24, [.nil]⟩ := by kernel_rfl
theorem T54 : tiOf Tryz.prog 54 = some ⟨.struct [(3, 0), (9, 1), (9, 2)], 3, 40, [.int .i64 0, .str [], .str []]⟩ := by kernel_rfl
theorem T57 : tiOf Tryz.prog 57 = some ⟨.other, 1, 8, [.lit .nilFunc]⟩ := by kernel_rfl
theorem T61 : tiOf Tryz.prog 61 = some ⟨.struct [(4, 0), (4, 1), (4, 2), (4, 3), (4, 4), (3, 5), (3, 6)], 7, 24, [.bool false, .bool false, .bool false, .bool false, .bool false, .int .i64 0, .int .i64 0]⟩ := by kernel_rfl
theorem T62 : tiOf Tryz.prog 62 = some ⟨.array 10 61, 70, 240, [.bool false, .bool false, .bool false, .bool false, .bool false, .int .i64 0, .int .i64 0, .bool false, .bool false, .bool false, .bool false, .bool false, .int .i64 0, .int .i64 0, .bool false, .bool false, .bool false, .bool false, .bool false, .int .i64 0, .int .i64 0, .bool false, .bool false, .bool false, .bool false, .bool false, .int .i64 0, .int .i64 0, .bool false, .bool false, .bool false, .bool false, .bool false, .int .i64 0, .int .i64 0, .bool false, .bool false, .bool false, .bool false, .bool false, .int .i64 0, .int .i64 0, .bool false, .bool false, .bool false, .bool false, .bool false, .int .i64 0, .int .i64 0, .bool false, .bool false, .bool false, .bool false, .bool false, .int .i64 0, .int .i64 0, .bool false, .bool false, .bool false, .bool false, .bool false, .int .i64 0, .int .i64 0, .bool false, .bool false, .bool false, .bool false, .bool false, .int .i64 0, .int .i64 0]⟩ := by kernel_rfl
theorem T68 : tiOf Tryz.prog 68 = some ⟨.struct [(23, 0)], 1, 24, [.nil]⟩ := by kernel_rfl
theorem T71 : tiOf Tryz.prog 71 = some ⟨.other, 1, 8, [.lit .nilFunc]⟩ := by kernel_rfl
theorem T72 : tiOf Tryz.prog 72 = some ⟨.other, 1, 8, [.lit (.map none)]⟩ := by kernel_rfl
theorem T75 : tiOf Tryz.prog 75 = some ⟨.struct [(3, 0), (9, 1)], 2, 24, [.int .i64 0, .str []]⟩ := by kernel_rfl
theorem T77 : tiOf Tryz.prog 77 = some ⟨.other, 1, 8, [.lit .nilFunc]⟩ := by kernel_rfl
theorem T78 : tiOf Tryz.prog 78 = some ⟨.other, 1, 8, [.lit .nilFunc]⟩ := by kernel_rfl
theorem T80 : tiOf Tryz.prog 80 = some ⟨.other, 1, 8, [.lit (.map none)]⟩ := by kernel_rfl
theorem T81 : tiOf Tryz.prog 81 = some ⟨.other, 1, 8, [.lit (.map none)]⟩ := by kernel_rfl
theorem T82 : tiOf Tryz.prog 82 = some ⟨.other, 1, 8, [.lit .nilFunc]⟩ := by kernel_rfl
theorem T83 : tiOf Tryz.prog 83 = some ⟨.other, 1, 8, [.lit .nilFunc]⟩ := by kernel_rfl
theorem T87 : tiOf Tryz.prog 87 = some ⟨.other, 1, 8, [.lit .nilFunc]⟩ := by kernel_rfl
theorem T88 : tiOf Tryz.prog 88 = some ⟨.other, 1, 8, [.lit .nilFunc]⟩ := by kernel_rfl
theorem T93 : tiOf Tryz.prog 93 = some ⟨.other, 1, 8, [.lit .nilFunc]⟩ := by kernel_rfl
theorem T94 : tiOf Tryz.prog 94 = some ⟨.other, 1, 8, [.lit (.map none)]⟩ := by kernel_rfl
theorem T96 : tiOf Tryz.prog 96 = some ⟨.other, 1, 8, [.lit .nilFunc]⟩ := by kernel_rfl
theorem T98 : tiOf Tryz.prog 98 = some ⟨.slice 100, 1, 24, [.nil]⟩ := by kernel_rfl
theorem T100 : tiOf Tryz.prog 100 = some ⟨.struct [(31, 0), (3, 5), (98, 6)], 7, 96, [.int .i64 0, .str [], .int .i64 0, .int .i64 0, .nil, .int .i64 0, .nil]⟩ := by kernel_rfl
theorem T106 : tiOf Tryz.prog 106 = some ⟨.slice 22, 1, 24, [.nil]⟩ := by kernel_rfl
theorem T118 : tiOf Tryz.prog 118 = some ⟨.pointer 3, 1, 8, [.lit (.pointer none)]⟩ := by kernel_rfl
theorem T121 : tiOf Tryz.prog 121 = some ⟨.other, 1, 8, [.lit .nilFunc]⟩ := by kernel_rfl
theorem T123 : tiOf Tryz.prog 123 = some ⟨.other, 1, 8, [.lit .nilFunc]⟩ := by kernel_rfl
theorem T133 : tiOf Tryz.prog 133 = some ⟨.int .u64, 1, 8, [.int .u64 0]⟩ := by kernel_rfl
theorem T137 : tiOf Tryz.prog 137 = some ⟨.struct [(3, 0), (3, 1), (3, 2), (4, 3)], 4, 32, [.int .i64 0, .int .i64 0, .int .i64 0, .bool false]⟩ := by kernel_rfl
theorem T138 : tiOf Tryz.prog 138 = some ⟨.array 8 137, 32, 256, [.int .i64 0, .int .i64 0, .int .i64 0, .bool false, .int .i64 0, .int .i64 0, .int .i64 0, .bool false, .int .i64 0, .int .i64 0, .int .i64 0, .bool false, .int .i64 0, .int .i64 0, .int .i64 0, .bool false, .int .i64 0, .int .i64 0, .int .i64 0, .bool false, .int .i64 0, .int .i64 0, .int .i64 0, .bool false, .int .i64 0, .int .i64 0, .int .i64 0, .bool false, .int .i64 0, .int .i64 0, .int .i64 0, .bool false]⟩ := by kernel_rfl
theorem T147 : tiOf Tryz.prog 147 = some ⟨.int .i64, 1, 8, [.int .i64 0]⟩ := by kernel_rfl
theorem T155 : tiOf Tryz.prog 155 = some ⟨.int .u32, 1, 4, [.int .u32 0]⟩ := by kernel_rfl
theorem T157 : tiOf Tryz.prog 157 = some ⟨.int .u64, 1, 8, [.int .u64 0]⟩ := by kernel_rfl
theorem T164 : tiOf Tryz.prog 164 = some ⟨.int .u64, 1, 8, [.int .u64 0]⟩ := by kernel_rfl
theorem T169 : tiOf Tryz.prog 169 = some ⟨.slice 5, 1, 24, [.nil]⟩ := by kernel_rfl
theorem T172 : tiOf Tryz.prog 172 = some ⟨.pointer 164, 1, 8, [.lit (.pointer none)]⟩ := by kernel_rfl
theorem T182 : tiOf Tryz.prog 182 = some ⟨.struct [(17, 0), (17, 1), (17, 2), (9, 3)], 4, 40, [.lit (.pointer none), .lit (.pointer none), .lit (.pointer none), .str []]⟩ := by kernel_rfl
theorem T183 : tiOf Tryz.prog 183 = some ⟨.array 0 16, 0, 0, []⟩ := by kernel_rfl
theorem T185 : tiOf Tryz.prog 185 = some ⟨.struct [(183, 0)], 0, 0, []⟩ := by kernel_rfl
theorem T187 : tiOf Tryz.prog 187 = some ⟨.int .u8, 1, 1, [.int .u8 0]⟩ := by kernel_rfl
theorem T188 : tiOf Tryz.prog 188 = some ⟨.int .u8, 1, 1, [.int .u8 0]⟩ := by kernel_rfl
theorem T189 : tiOf Tryz.prog 189 = some ⟨.other, 1, 8, [.lit .nilFunc]⟩ := by kernel_rfl
theorem T190 : tiOf Tryz.prog 190 = some ⟨.pointer 5, 1, 8, [.lit (.pointer none)]⟩ := by kernel_rfl
theorem T191 : tiOf Tryz.prog 191 = some ⟨.int .i32, 1, 4, [.int .i32 0]⟩ := by kernel_rfl
theorem T192 : tiOf Tryz.prog 192 = some ⟨.int .i32, 1, 4, [.int .i32 0]⟩ := by kernel_rfl
theorem T194 : tiOf Tryz.prog 194 = some ⟨.struct [(12, 0), (12, 1), (155, 2), (187, 3), (5, 4), (5, 5), (188, 6), (189, 7), (190, 8), (191, 9), (192, 10)], 11, 48, [.int .u64 0, .int .u64 0, .int .u32 0, .int .u8 0, .int .u8 0, .int .u8 0, .int .u8 0, .lit .nilFunc, .lit (.pointer none), .int .i32 0, .int .i32 0]⟩ := by kernel_rfl
def tab : List (Nat × TI) := [
  (2, ⟨.int .i64, 1, 8, [.int .i64 0]⟩),
  (3, ⟨.int .i64, 1, 8, [.int .i64 0]⟩),
  (4, ⟨.bool, 1, 1, [.bool false]⟩),
  (5, ⟨.int .u8, 1, 1, [.int .u8 0]⟩),
  (6, ⟨.int .u8, 1, 1, [.int .u8 0]⟩),
  (8, ⟨.struct [(2, 0), (3, 1), (4, 2), (6, 3)], 4, 24, [.int .i64 0, .int .i64 0, .bool false, .int .u8 0]⟩),
  (9, ⟨.string, 1, 16, [.str []]⟩),
  (10, ⟨.string, 1, 16, [.str []]⟩),
  (11, ⟨.string, 1, 16, [.str []]⟩),
  (12, ⟨.int .u64, 1, 8, [.int .u64 0]⟩),
  (14, ⟨.struct [(9, 0), (12, 1)], 2, 24, [.str [], .int .u64 0]⟩),
  (15, ⟨.pointer 182, 1, 8, [.lit (.pointer none)]⟩),
  (16, ⟨.pointer 185, 1, 8, [.lit (.pointer none)]⟩),
  (17, ⟨.pointer 194, 1, 8, [.lit (.pointer none)]⟩),
  (19, ⟨.struct [(17, 0)], 1, 8, [.lit (.pointer none)]⟩),
  (20, ⟨.other, 1, 16, [.lit .nilIface]⟩),
  (22, ⟨.slice 54, 1, 24, [.nil]⟩),
  (23, ⟨.slice 34, 1, 24, [.nil]⟩),
  (26, ⟨.int .i64, 1, 8, [.int .i64 0]⟩),
  (29, ⟨.slice 31, 1, 24, [.nil]⟩),
  (31, ⟨.struct [(3, 0), (9, 1), (3, 2), (3, 3), (29, 4)], 5, 64, [.int .i64 0, .str [], .int .i64 0, .int .i64 0, .nil]⟩),
  (32, ⟨.slice 9, 1, 24, [.nil]⟩),
  (34, ⟨.struct [(3, 0), (4, 1), (31, 2), (31, 7), (32, 12), (9, 13), (9, 14), (9, 15)], 16, 216, [.int .i64 0, .bool false, .int .i64 0, .str [], .int .i64 0, .int .i64 0, .nil, .int .i64 0, .str [], .int .i64 0, .int .i64 0, .nil, .nil, .str [], .str [], .str []]⟩),
  (42, ⟨.slice 3, 1, 24, [.nil]⟩),
  (49, ⟨.struct [(32, 0), (32, 1), (32, 2), (32, 3)], 4, 96, [.nil, .nil, .nil, .nil]⟩),
  (52, ⟨.slice 32, 1, 24, [.nil]⟩),
  (54, ⟨.struct [(3, 0), (9, 1), (9, 2)], 3, 40, [.int .i64 0, .str [], .str []]⟩),
  (57, ⟨.other, 1, 8, [.lit .nilFunc]⟩),
  (61, ⟨.struct [(4, 0), (4, 1), (4, 2), (4, 3), (4, 4), (3, 5), (3, 6)], 7, 24, [.bool false, .bool false, .bool false, .bool false, .bool false, .int .i64 0, .int .i64 0]⟩),
  (62, ⟨.array 10 61, 70, 240, [.bool false, .bool false, .bool false, .bool false, .bool false, .int .i64 0, .int .i64 0, .bool false, .bool false, .bool false, .bool false, .bool false, .int .i64 0, .int .i64 0, .bool false, .bool false, .bool false, .bool false, .bool false, .int .i64 0, .int .i64 0, .bool false, .bool false, .bool false, .bool false, .bool false, .int .i64 0, .int .i64 0, .bool false, .bool false, .bool false, .bool false, .bool false, .int .i64 0, .int .i64 0, .bool false, .bool false, .bool false, .bool false, .bool false, .int .i64 0, .int .i64 0, .bool false, .bool false, .bool false, .bool false, .bool false, .int .i64 0, .int .i64 0, .bool false, .bool false, .bool false, .bool false, .bool false, .int .i64 0, .int .i64 0, .bool false, .bool false, .bool false, .bool false, .bool false, .int .i64 0, .int .i64 0, .bool false, .bool false, .bool false, .bool false, .bool false, .int .i64 0, .int .i64 0]⟩),
  (68, ⟨.struct [(23, 0)], 1, 24, [.nil]⟩),
  (71, ⟨.other, 1, 8, [.lit .nilFunc]⟩),
  (72, ⟨.other, 1, 8, [.lit (.map none)]⟩),
  (75, ⟨.struct [(3, 0), (9, 1)], 2, 24, [.int .i64 0, .str []]⟩),
  (77, ⟨.other, 1, 8, [.lit .nilFunc]⟩),
  (78, ⟨.other, 1, 8, [.lit .nilFunc]⟩),
  (80, ⟨.other, 1, 8, [.lit (.map none)]⟩),
  (81, ⟨.other, 1, 8, [.lit (.map none)]⟩),
  (82, ⟨.other, 1, 8, [.lit .nilFunc]⟩),
  (83, ⟨.other, 1, 8, [.lit .nilFunc]⟩),
  (87, ⟨.other, 1, 8, [.lit .nilFunc]⟩),
  (88, ⟨.other, 1, 8, [.lit .nilFunc]⟩),
  (93, ⟨.other, 1, 8, [.lit .nilFunc]⟩),
  (94, ⟨.other, 1, 8, [.lit (.map none)]⟩),
  (96, ⟨.other, 1, 8, [.lit .nilFunc]⟩),
  (98, ⟨.slice 100, 1, 24, [.nil]⟩),
  (100, ⟨.struct [(31, 0), (3, 5), (98, 6)], 7, 96, [.int .i64 0, .str [], .int .i64 0, .int .i64 0, .nil, .int .i64 0, .nil]⟩),
  (106, ⟨.slice 22, 1, 24, [.nil]⟩),
  (118, ⟨.pointer 3, 1, 8, [.lit (.pointer none)]⟩),
  (121, ⟨.other, 1, 8, [.lit .nilFunc]⟩),
  (123, ⟨.other, 1, 8, [.lit .nilFunc]⟩),
  (133, ⟨.int .u64, 1, 8, [.int .u64 0]⟩),
  (137, ⟨.struct [(3, 0), (3, 1), (3, 2), (4, 3)], 4, 32, [.int .i64 0, .int .i64 0, .int .i64 0, .bool false]⟩),
  (138, ⟨.array 8 137, 32, 256, [.int .i64 0, .int .i64 0, .int .i64 0, .bool false, .int .i64 0, .int .i64 0, .int .i64 0, .bool false, .int .i64 0, .int .i64 0, .int .i64 0, .bool false, .int .i64 0, .int .i64 0, .int .i64 0, .bool false, .int .i64 0, .int .i64 0, .int .i64 0, .bool false, .int .i64 0, .int .i64 0, .int .i64 0, .bool false, .int .i64 0, .int .i64 0, .int .i64 0, .bool false, .int .i64 0, .int .i64 0, .int .i64 0, .bool false]⟩),
  (147, ⟨.int .i64, 1, 8, [.int .i64 0]⟩),
  (155, ⟨.int .u32, 1, 4, [.int .u32 0]⟩),
  (157, ⟨.int .u64, 1, 8, [.int .u64 0]⟩),
  (164, ⟨.int .u64, 1, 8, [.int .u64 0]⟩),
  (169, ⟨.slice 5, 1, 24, [.nil]⟩),
  (172, ⟨.pointer 164, 1, 8, [.lit (.pointer none)]⟩),
  (182, ⟨.struct [(17, 0), (17, 1), (17, 2), (9, 3)], 4, 40, [.lit (.pointer none), .lit (.pointer none), .lit (.pointer none), .str []]⟩),
  (183, ⟨.array 0 16, 0, 0, []⟩),
  (185, ⟨.struct [(183, 0)], 0, 0, []⟩),
  (187, ⟨.int .u8, 1, 1, [.int .u8 0]⟩),
  (188, ⟨.int .u8, 1, 1, [.int .u8 0]⟩),
  (189, ⟨.other, 1, 8, [.lit .nilFunc]⟩),
  (190, ⟨.pointer 5, 1, 8, [.lit (.pointer none)]⟩),
  (191, ⟨.int .i32, 1, 4, [.int .i32 0]⟩),
  (192, ⟨.int .i32, 1, 4, [.int .i32 0]⟩),
  (194, ⟨.struct [(12, 0), (12, 1), (155, 2), (187, 3), (5, 4), (5, 5), (188, 6), (189, 7), (190, 8), (191, 9), (192, 10)], 11, 48, [.int .u64 0, .int .u64 0, .int .u32 0, .int .u8 0, .int .u8 0, .int .u8 0, .int .u8 0, .lit .nilFunc, .lit (.pointer none), .int .i32 0, .int .i32 0]⟩)]
def ty : TypeId → Option TI := getT tab
theorem hty : TyOK Tryz.prog ty := tyOK_of ⟨T2, T3, T4, T5, T6, T8, T9, T10, T11, T12, T14, T15, T16, T17, T19, T20, T22, T23, T26, T29, T31, T32, T34, T42, T49, T52, T54, T57, T61, T62, T68, T71, T72, T75, T77, T78, T80, T81, T82, T83, T87, T88, T93, T94, T96, T98, T100, T106, T118, T121, T123, T133, T137, T138, T147, T155, T157, T164, T169, T172, T182, T183, T185, T187, T188, T189, T190, T191, T192, T194, trivial⟩
end Go.Proofs.YtpecmehekandgaaGreatDoor
