/-
  The types of the program in short: for each its shape, its cells, its bytes and its zero value.
  Conditions: none.
-/
import Derived.Test.YtepebjhnefhciaaSs
import Derived.Test.YtepebjhnefhciaaProg
import Derived.KernelRfl
namespace Go.Proofs.Ytepebjhnefhciaa
open Go.Proofs
set_option maxRecDepth 100000

theorem T1 : tiOf Try.prog 1 = some ⟨.other, 1, 8, [.lit .nilFunc]⟩ := by kernel_rfl
theorem T2 : tiOf Try.prog 2 = some ⟨.int .i64, 1, 8, [.int .i64 0]⟩ := by kernel_rfl
theorem T3 : tiOf Try.prog 3 = some ⟨.int .i64, 1, 8, [.int .i64 0]⟩ := by kernel_rfl
theorem T4 : tiOf Try.prog 4 = some ⟨.bool, 1, 1, [.bool false]⟩ := by kernel_rfl
theorem T5 : tiOf Try.prog 5 = some ⟨.int .u8, 1, 1, [.int .u8 0]⟩ := by kernel_rfl
theorem T6 : tiOf Try.prog 6 = some ⟨.int .u8, 1, 1, [.int .u8 0]⟩ := by kernel_rfl
theorem T7 : tiOf Try.prog 7 = some ⟨.struct [(2, 0), (3, 1), (4, 2), (6, 3)], 4, 24, [.int .i64 0, .int .i64 0, .bool false, .int .u8 0]⟩ := by kernel_rfl
theorem T8 : tiOf Try.prog 8 = some ⟨.struct [(2, 0), (3, 1), (4, 2), (6, 3)], 4, 24, [.int .i64 0, .int .i64 0, .bool false, .int .u8 0]⟩ := by kernel_rfl
theorem T9 : tiOf Try.prog 9 = some ⟨.string, 1, 16, [.str []]⟩ := by kernel_rfl
theorem T10 : tiOf Try.prog 10 = some ⟨.string, 1, 16, [.str []]⟩ := by kernel_rfl
theorem T11 : tiOf Try.prog 11 = some ⟨.string, 1, 16, [.str []]⟩ := by kernel_rfl
theorem T12 : tiOf Try.prog 12 = some ⟨.int .u64, 1, 8, [.int .u64 0]⟩ := by kernel_rfl
theorem T13 : tiOf Try.prog 13 = some ⟨.struct [(9, 0), (12, 1)], 2, 24, [.str [], .int .u64 0]⟩ := by kernel_rfl
theorem T14 : tiOf Try.prog 14 = some ⟨.struct [(9, 0), (12, 1)], 2, 24, [.str [], .int .u64 0]⟩ := by kernel_rfl
theorem T15 : tiOf Try.prog 15 = some ⟨.pointer 60, 1, 8, [.lit (.pointer none)]⟩ := by kernel_rfl
theorem T16 : tiOf Try.prog 16 = some ⟨.pointer 63, 1, 8, [.lit (.pointer none)]⟩ := by kernel_rfl
theorem T17 : tiOf Try.prog 17 = some ⟨.pointer 73, 1, 8, [.lit (.pointer none)]⟩ := by kernel_rfl
theorem T18 : tiOf Try.prog 18 = some ⟨.struct [(17, 0)], 1, 8, [.lit (.pointer none)]⟩ := by kernel_rfl
theorem T19 : tiOf Try.prog 19 = some ⟨.struct [(17, 0)], 1, 8, [.lit (.pointer none)]⟩ := by kernel_rfl
theorem T20 : tiOf Try.prog 20 = some ⟨.other, 1, 16, [.lit .nilIface]⟩ := by kernel_rfl
theorem T21 : tiOf Try.prog 21 = some ⟨.int .i32, 1, 4, [.int .i32 0]⟩ := by kernel_rfl
theorem T22 : tiOf Try.prog 22 = some ⟨.slice 5, 1, 24, [.nil]⟩ := by kernel_rfl
theorem T23 : tiOf Try.prog 23 = some ⟨.other, 1, 8, [.lit .nilFunc]⟩ := by kernel_rfl
theorem T24 : tiOf Try.prog 24 = some ⟨.slice 35, 1, 24, [.nil]⟩ := by kernel_rfl
theorem T25 : tiOf Try.prog 25 = some ⟨.slice 39, 1, 24, [.nil]⟩ := by kernel_rfl
theorem T26 : tiOf Try.prog 26 = some ⟨.int .i64, 1, 8, [.int .i64 0]⟩ := by kernel_rfl
theorem T28 : tiOf Try.prog 28 = some ⟨.other, 1, 8, [.lit .nilFunc]⟩ := by kernel_rfl
theorem T29 : tiOf Try.prog 29 = some ⟨.other, 1, 8, [.lit .nilFunc]⟩ := by kernel_rfl
theorem T30 : tiOf Try.prog 30 = some ⟨.other, 1, 8, [.lit .nilFunc]⟩ := by kernel_rfl
theorem T31 : tiOf Try.prog 31 = some ⟨.other, 1, 8, [.lit .nilFunc]⟩ := by kernel_rfl
theorem T32 : tiOf Try.prog 32 = some ⟨.other, 1, 8, [.lit .nilFunc]⟩ := by kernel_rfl
theorem T33 : tiOf Try.prog 33 = some ⟨.other, 1, 8, [.lit .nilFunc]⟩ := by kernel_rfl
theorem T34 : tiOf Try.prog 34 = some ⟨.struct [(3, 0), (9, 1), (3, 2)], 3, 32, [.int .i64 0, .str [], .int .i64 0]⟩ := by kernel_rfl
theorem T35 : tiOf Try.prog 35 = some ⟨.struct [(3, 0), (9, 1), (3, 2)], 3, 32, [.int .i64 0, .str [], .int .i64 0]⟩ := by kernel_rfl
theorem T37 : tiOf Try.prog 37 = some ⟨.other, 1, 8, [.lit .nilFunc]⟩ := by kernel_rfl
theorem T38 : tiOf Try.prog 38 = some ⟨.struct [(3, 0), (26, 1)], 2, 16, [.int .i64 0, .int .i64 0]⟩ := by kernel_rfl
theorem T39 : tiOf Try.prog 39 = some ⟨.struct [(3, 0), (26, 1)], 2, 16, [.int .i64 0, .int .i64 0]⟩ := by kernel_rfl
theorem T40 : tiOf Try.prog 40 = some ⟨.other, 1, 8, [.lit .nilFunc]⟩ := by kernel_rfl
theorem T42 : tiOf Try.prog 42 = some ⟨.other, 1, 8, [.lit .nilFunc]⟩ := by kernel_rfl
theorem T43 : tiOf Try.prog 43 = some ⟨.other, 1, 8, [.lit .nilFunc]⟩ := by kernel_rfl
theorem T44 : tiOf Try.prog 44 = some ⟨.other, 1, 8, [.lit .nilFunc]⟩ := by kernel_rfl
theorem T45 : tiOf Try.prog 45 = some ⟨.slice 9, 1, 24, [.nil]⟩ := by kernel_rfl
theorem T46 : tiOf Try.prog 46 = some ⟨.slice 3, 1, 24, [.nil]⟩ := by kernel_rfl
theorem T47 : tiOf Try.prog 47 = some ⟨.array 256 5, 256, 256, List.replicate 256 (.int .u8 0)⟩ := by kernel_rfl
theorem T48 : tiOf Try.prog 48 = some ⟨.other, 1, 8, [.lit .nilFunc]⟩ := by kernel_rfl
theorem T50 : tiOf Try.prog 50 = some ⟨.other, 1, 8, [.lit .nilFunc]⟩ := by kernel_rfl
theorem T51 : tiOf Try.prog 51 = some ⟨.pointer 47, 1, 8, [.lit (.pointer none)]⟩ := by kernel_rfl
theorem T52 : tiOf Try.prog 52 = some ⟨.other, 1, 8, [.lit .nilFunc]⟩ := by kernel_rfl
theorem T54 : tiOf Try.prog 54 = some ⟨.other, 1, 8, [.lit .nilFunc]⟩ := by kernel_rfl
theorem T55 : tiOf Try.prog 55 = some ⟨.other, 1, 8, [.lit .nilFunc]⟩ := by kernel_rfl
theorem T56 : tiOf Try.prog 56 = some ⟨.other, 1, 8, [.lit .nilFunc]⟩ := by kernel_rfl
theorem T57 : tiOf Try.prog 57 = some ⟨.other, 1, 8, [.lit .nilFunc]⟩ := by kernel_rfl
theorem T58 : tiOf Try.prog 58 = some ⟨.other, 1, 8, [.lit .nilFunc]⟩ := by kernel_rfl
theorem T59 : tiOf Try.prog 59 = some ⟨.struct [(17, 0), (17, 1), (17, 2), (9, 3)], 4, 40, [.lit (.pointer none), .lit (.pointer none), .lit (.pointer none), .str []]⟩ := by kernel_rfl
theorem T60 : tiOf Try.prog 60 = some ⟨.struct [(17, 0), (17, 1), (17, 2), (9, 3)], 4, 40, [.lit (.pointer none), .lit (.pointer none), .lit (.pointer none), .str []]⟩ := by kernel_rfl
theorem T61 : tiOf Try.prog 61 = some ⟨.array 0 16, 0, 0, []⟩ := by kernel_rfl
theorem T62 : tiOf Try.prog 62 = some ⟨.struct [(61, 0)], 0, 0, []⟩ := by kernel_rfl
theorem T63 : tiOf Try.prog 63 = some ⟨.struct [(61, 0)], 0, 0, []⟩ := by kernel_rfl
theorem T64 : tiOf Try.prog 64 = some ⟨.other, 1, 8, [.lit .nilFunc]⟩ := by kernel_rfl
theorem T65 : tiOf Try.prog 65 = some ⟨.int .u32, 1, 4, [.int .u32 0]⟩ := by kernel_rfl
theorem T66 : tiOf Try.prog 66 = some ⟨.int .u8, 1, 1, [.int .u8 0]⟩ := by kernel_rfl
theorem T67 : tiOf Try.prog 67 = some ⟨.int .u8, 1, 1, [.int .u8 0]⟩ := by kernel_rfl
theorem T68 : tiOf Try.prog 68 = some ⟨.other, 1, 8, [.lit .nilFunc]⟩ := by kernel_rfl
theorem T69 : tiOf Try.prog 69 = some ⟨.pointer 5, 1, 8, [.lit (.pointer none)]⟩ := by kernel_rfl
theorem T70 : tiOf Try.prog 70 = some ⟨.int .i32, 1, 4, [.int .i32 0]⟩ := by kernel_rfl
theorem T71 : tiOf Try.prog 71 = some ⟨.int .i32, 1, 4, [.int .i32 0]⟩ := by kernel_rfl
theorem T72 : tiOf Try.prog 72 = some ⟨.struct [(12, 0), (12, 1), (65, 2), (66, 3), (5, 4), (5, 5), (67, 6), (68, 7), (69, 8), (70, 9), (71, 10)], 11, 48, [.int .u64 0, .int .u64 0, .int .u32 0, .int .u8 0, .int .u8 0, .int .u8 0, .int .u8 0, .lit .nilFunc, .lit (.pointer none), .int .i32 0, .int .i32 0]⟩ := by kernel_rfl
theorem T73 : tiOf Try.prog 73 = some ⟨.struct [(12, 0), (12, 1), (65, 2), (66, 3), (5, 4), (5, 5), (67, 6), (68, 7), (69, 8), (70, 9), (71, 10)], 11, 48, [.int .u64 0, .int .u64 0, .int .u32 0, .int .u8 0, .int .u8 0, .int .u8 0, .int .u8 0, .lit .nilFunc, .lit (.pointer none), .int .i32 0, .int .i32 0]⟩ := by kernel_rfl
theorem T74 : tiOf Try.prog 74 = some ⟨.other, 1, 8, [.lit (.pointer none)]⟩ := by kernel_rfl

def tab : List (Nat × TI) := [(1, ⟨.other, 1, 8, [.lit .nilFunc]⟩),
  (2, ⟨.int .i64, 1, 8, [.int .i64 0]⟩),
  (3, ⟨.int .i64, 1, 8, [.int .i64 0]⟩),
  (4, ⟨.bool, 1, 1, [.bool false]⟩),
  (5, ⟨.int .u8, 1, 1, [.int .u8 0]⟩),
  (6, ⟨.int .u8, 1, 1, [.int .u8 0]⟩),
  (7, ⟨.struct [(2, 0), (3, 1), (4, 2), (6, 3)], 4, 24, [.int .i64 0, .int .i64 0, .bool false, .int .u8 0]⟩),
  (8, ⟨.struct [(2, 0), (3, 1), (4, 2), (6, 3)], 4, 24, [.int .i64 0, .int .i64 0, .bool false, .int .u8 0]⟩),
  (9, ⟨.string, 1, 16, [.str []]⟩),
  (10, ⟨.string, 1, 16, [.str []]⟩),
  (11, ⟨.string, 1, 16, [.str []]⟩),
  (12, ⟨.int .u64, 1, 8, [.int .u64 0]⟩),
  (13, ⟨.struct [(9, 0), (12, 1)], 2, 24, [.str [], .int .u64 0]⟩),
  (14, ⟨.struct [(9, 0), (12, 1)], 2, 24, [.str [], .int .u64 0]⟩),
  (15, ⟨.pointer 60, 1, 8, [.lit (.pointer none)]⟩),
  (16, ⟨.pointer 63, 1, 8, [.lit (.pointer none)]⟩),
  (17, ⟨.pointer 73, 1, 8, [.lit (.pointer none)]⟩),
  (18, ⟨.struct [(17, 0)], 1, 8, [.lit (.pointer none)]⟩),
  (19, ⟨.struct [(17, 0)], 1, 8, [.lit (.pointer none)]⟩),
  (20, ⟨.other, 1, 16, [.lit .nilIface]⟩),
  (21, ⟨.int .i32, 1, 4, [.int .i32 0]⟩),
  (22, ⟨.slice 5, 1, 24, [.nil]⟩),
  (23, ⟨.other, 1, 8, [.lit .nilFunc]⟩),
  (24, ⟨.slice 35, 1, 24, [.nil]⟩),
  (25, ⟨.slice 39, 1, 24, [.nil]⟩),
  (26, ⟨.int .i64, 1, 8, [.int .i64 0]⟩),
  (28, ⟨.other, 1, 8, [.lit .nilFunc]⟩),
  (29, ⟨.other, 1, 8, [.lit .nilFunc]⟩),
  (30, ⟨.other, 1, 8, [.lit .nilFunc]⟩),
  (31, ⟨.other, 1, 8, [.lit .nilFunc]⟩),
  (32, ⟨.other, 1, 8, [.lit .nilFunc]⟩),
  (33, ⟨.other, 1, 8, [.lit .nilFunc]⟩),
  (34, ⟨.struct [(3, 0), (9, 1), (3, 2)], 3, 32, [.int .i64 0, .str [], .int .i64 0]⟩),
  (35, ⟨.struct [(3, 0), (9, 1), (3, 2)], 3, 32, [.int .i64 0, .str [], .int .i64 0]⟩),
  (37, ⟨.other, 1, 8, [.lit .nilFunc]⟩),
  (38, ⟨.struct [(3, 0), (26, 1)], 2, 16, [.int .i64 0, .int .i64 0]⟩),
  (39, ⟨.struct [(3, 0), (26, 1)], 2, 16, [.int .i64 0, .int .i64 0]⟩),
  (40, ⟨.other, 1, 8, [.lit .nilFunc]⟩),
  (42, ⟨.other, 1, 8, [.lit .nilFunc]⟩),
  (43, ⟨.other, 1, 8, [.lit .nilFunc]⟩),
  (44, ⟨.other, 1, 8, [.lit .nilFunc]⟩),
  (45, ⟨.slice 9, 1, 24, [.nil]⟩),
  (46, ⟨.slice 3, 1, 24, [.nil]⟩),
  (47, ⟨.array 256 5, 256, 256, List.replicate 256 (.int .u8 0)⟩),
  (48, ⟨.other, 1, 8, [.lit .nilFunc]⟩),
  (50, ⟨.other, 1, 8, [.lit .nilFunc]⟩),
  (51, ⟨.pointer 47, 1, 8, [.lit (.pointer none)]⟩),
  (52, ⟨.other, 1, 8, [.lit .nilFunc]⟩),
  (54, ⟨.other, 1, 8, [.lit .nilFunc]⟩),
  (55, ⟨.other, 1, 8, [.lit .nilFunc]⟩),
  (56, ⟨.other, 1, 8, [.lit .nilFunc]⟩),
  (57, ⟨.other, 1, 8, [.lit .nilFunc]⟩),
  (58, ⟨.other, 1, 8, [.lit .nilFunc]⟩),
  (59, ⟨.struct [(17, 0), (17, 1), (17, 2), (9, 3)], 4, 40, [.lit (.pointer none), .lit (.pointer none), .lit (.pointer none), .str []]⟩),
  (60, ⟨.struct [(17, 0), (17, 1), (17, 2), (9, 3)], 4, 40, [.lit (.pointer none), .lit (.pointer none), .lit (.pointer none), .str []]⟩),
  (61, ⟨.array 0 16, 0, 0, []⟩),
  (62, ⟨.struct [(61, 0)], 0, 0, []⟩),
  (63, ⟨.struct [(61, 0)], 0, 0, []⟩),
  (64, ⟨.other, 1, 8, [.lit .nilFunc]⟩),
  (65, ⟨.int .u32, 1, 4, [.int .u32 0]⟩),
  (66, ⟨.int .u8, 1, 1, [.int .u8 0]⟩),
  (67, ⟨.int .u8, 1, 1, [.int .u8 0]⟩),
  (68, ⟨.other, 1, 8, [.lit .nilFunc]⟩),
  (69, ⟨.pointer 5, 1, 8, [.lit (.pointer none)]⟩),
  (70, ⟨.int .i32, 1, 4, [.int .i32 0]⟩),
  (71, ⟨.int .i32, 1, 4, [.int .i32 0]⟩),
  (72, ⟨.struct [(12, 0), (12, 1), (65, 2), (66, 3), (5, 4), (5, 5), (67, 6), (68, 7), (69, 8), (70, 9), (71, 10)], 11, 48, [.int .u64 0, .int .u64 0, .int .u32 0, .int .u8 0, .int .u8 0, .int .u8 0, .int .u8 0, .lit .nilFunc, .lit (.pointer none), .int .i32 0, .int .i32 0]⟩),
  (73, ⟨.struct [(12, 0), (12, 1), (65, 2), (66, 3), (5, 4), (5, 5), (67, 6), (68, 7), (69, 8), (70, 9), (71, 10)], 11, 48, [.int .u64 0, .int .u64 0, .int .u32 0, .int .u8 0, .int .u8 0, .int .u8 0, .int .u8 0, .lit .nilFunc, .lit (.pointer none), .int .i32 0, .int .i32 0]⟩),
  (74, ⟨.other, 1, 8, [.lit (.pointer none)]⟩)]
def ty : TypeId → Option TI := getT tab
theorem hty : TyOK Try.prog ty := tyOK_of ⟨T1, T2, T3, T4, T5, T6, T7, T8, T9, T10, T11, T12, T13, T14, T15, T16, T17, T18, T19, T20, T21, T22, T23, T24, T25, T26, T28, T29, T30, T31, T32, T33, T34, T35, T37, T38, T39, T40, T42, T43, T44, T45, T46, T47, T48, T50, T51, T52, T54, T55, T56, T57, T58, T59, T60, T61, T62, T63, T64, T65, T66, T67, T68, T69, T70, T71, T72, T73, T74, trivial⟩

end Go.Proofs.Ytepebjhnefhciaa
