/-
  The types of the program in short: for each its shape, its cells, its bytes and its zero value.
  Conditions: none.
-/
import Derived.Test.YtljlhoekpjkgoaaSs
import Derived.Test.YtljlhoekpjkgoaaProg
import Derived.KernelRfl
namespace Go.Proofs.Ytljlhoekpjkgoaa
open Go.Proofs
set_option maxRecDepth 100000

theorem T1 : tiOf Try.prog 1 = some ⟨.other, 1, 8, [.lit .nilFunc]⟩ := by kernel_rfl
theorem T2 : tiOf Try.prog 2 = some ⟨.int .i64, 1, 8, [.int .i64 0]⟩ := by kernel_rfl
theorem T3 : tiOf Try.prog 3 = some ⟨.int .i64, 1, 8, [.int .i64 0]⟩ := by kernel_rfl
theorem T4 : tiOf Try.prog 4 = some ⟨.bool, 1, 1, [.bool false]⟩ := by kernel_rfl
theorem T5 : tiOf Try.prog 5 = some ⟨.int .u8, 1, 1, [.int .u8 0]⟩ := by kernel_rfl
theorem T6 : tiOf Try.prog 6 = some ⟨.int .u8, 1, 1, [.int .u8 0]⟩ := by kernel_rfl
theorem T7 : tiOf Try.prog 7 = some ⟨.struct [(2, 0), (3, 1), (4, 2), (6, 3)], 4, 24, [.int .i64 0, .int .i64 0, .bool false, .int .u8 0]⟩ := by kernel_rfl
theorem T8 : tiOf Try.prog 8 = some ⟨.struct [(2, 0), (3, 1), (4, 2), (6, 3)], 4, 24, [.int .i64 0, .int .i64 0, .bool false, .int .u8 0]⟩ := by kernel_rfl
theorem T9 : tiOf Try.prog 9 = some ⟨.string, 1, 16, [.str []]⟩ := by kernel_rfl
theorem T10 : tiOf Try.prog 10 = some ⟨.string, 1, 16, [.str []]⟩ := by kernel_rfl
theorem T11 : tiOf Try.prog 11 = some ⟨.string, 1, 16, [.str []]⟩ := by kernel_rfl
theorem T12 : tiOf Try.prog 12 = some ⟨.int .u64, 1, 8, [.int .u64 0]⟩ := by kernel_rfl
theorem T13 : tiOf Try.prog 13 = some ⟨.struct [(9, 0), (12, 1)], 2, 24, [.str [], .int .u64 0]⟩ := by kernel_rfl
theorem T14 : tiOf Try.prog 14 = some ⟨.struct [(9, 0), (12, 1)], 2, 24, [.str [], .int .u64 0]⟩ := by kernel_rfl
theorem T15 : tiOf Try.prog 15 = some ⟨.pointer 102, 1, 8, [.lit (.pointer none)]⟩ := by kernel_rfl
theorem T16 : tiOf Try.prog 16 = some ⟨.pointer 105, 1, 8, [.lit (.pointer none)]⟩ := by kernel_rfl
theorem T17 : tiOf Try.prog 17 = some ⟨.pointer 114, 1, 8, [.lit (.pointer none)]⟩ := by kernel_rfl
theorem T18 : tiOf Try.prog 18 = some ⟨.struct [(17, 0)], 1, 8, [.lit (.pointer none)]⟩ := by kernel_rfl
theorem T19 : tiOf Try.prog 19 = some ⟨.struct [(17, 0)], 1, 8, [.lit (.pointer none)]⟩ := by kernel_rfl
theorem T20 : tiOf Try.prog 20 = some ⟨.other, 1, 16, [.lit .nilIface]⟩ := by kernel_rfl
theorem T21 : tiOf Try.prog 21 = some ⟨.int .i32, 1, 4, [.int .i32 0]⟩ := by kernel_rfl
theorem T22 : tiOf Try.prog 22 = some ⟨.slice 35, 1, 24, [.nil]⟩ := by kernel_rfl
theorem T23 : tiOf Try.prog 23 = some ⟨.slice 40, 1, 24, [.nil]⟩ := by kernel_rfl
theorem T24 : tiOf Try.prog 24 = some ⟨.struct [(22, 0), (23, 1), (23, 2)], 3, 72, [.nil, .nil, .nil]⟩ := by kernel_rfl
theorem T25 : tiOf Try.prog 25 = some ⟨.struct [(22, 0), (23, 1), (23, 2)], 3, 72, [.nil, .nil, .nil]⟩ := by kernel_rfl
theorem T26 : tiOf Try.prog 26 = some ⟨.other, 1, 8, [.lit .nilFunc]⟩ := by kernel_rfl
theorem T27 : tiOf Try.prog 27 = some ⟨.other, 1, 8, [.lit .nilFunc]⟩ := by kernel_rfl
theorem T28 : tiOf Try.prog 28 = some ⟨.int .i64, 1, 8, [.int .i64 0]⟩ := by kernel_rfl
theorem T30 : tiOf Try.prog 30 = some ⟨.other, 1, 8, [.lit .nilFunc]⟩ := by kernel_rfl
theorem T31 : tiOf Try.prog 31 = some ⟨.slice 3, 1, 24, [.nil]⟩ := by kernel_rfl
theorem T32 : tiOf Try.prog 32 = some ⟨.array 32 5, 32, 32, [.int .u8 0, .int .u8 0, .int .u8 0, .int .u8 0, .int .u8 0, .int .u8 0, .int .u8 0, .int .u8 0, .int .u8 0, .int .u8 0, .int .u8 0, .int .u8 0, .int .u8 0, .int .u8 0, .int .u8 0, .int .u8 0, .int .u8 0, .int .u8 0, .int .u8 0, .int .u8 0, .int .u8 0, .int .u8 0, .int .u8 0, .int .u8 0, .int .u8 0, .int .u8 0, .int .u8 0, .int .u8 0, .int .u8 0, .int .u8 0, .int .u8 0, .int .u8 0]⟩ := by kernel_rfl
theorem T33 : tiOf Try.prog 33 = some ⟨.array 32 5, 32, 32, [.int .u8 0, .int .u8 0, .int .u8 0, .int .u8 0, .int .u8 0, .int .u8 0, .int .u8 0, .int .u8 0, .int .u8 0, .int .u8 0, .int .u8 0, .int .u8 0, .int .u8 0, .int .u8 0, .int .u8 0, .int .u8 0, .int .u8 0, .int .u8 0, .int .u8 0, .int .u8 0, .int .u8 0, .int .u8 0, .int .u8 0, .int .u8 0, .int .u8 0, .int .u8 0, .int .u8 0, .int .u8 0, .int .u8 0, .int .u8 0, .int .u8 0, .int .u8 0]⟩ := by kernel_rfl
theorem T34 : tiOf Try.prog 34 = some ⟨.struct [(3, 0), (31, 1), (33, 2), (9, 34)], 35, 80, [.int .i64 0, .nil, .int .u8 0, .int .u8 0, .int .u8 0, .int .u8 0, .int .u8 0, .int .u8 0, .int .u8 0, .int .u8 0, .int .u8 0, .int .u8 0, .int .u8 0, .int .u8 0, .int .u8 0, .int .u8 0, .int .u8 0, .int .u8 0, .int .u8 0, .int .u8 0, .int .u8 0, .int .u8 0, .int .u8 0, .int .u8 0, .int .u8 0, .int .u8 0, .int .u8 0, .int .u8 0, .int .u8 0, .int .u8 0, .int .u8 0, .int .u8 0, .int .u8 0, .int .u8 0, .str []]⟩ := by kernel_rfl
theorem T35 : tiOf Try.prog 35 = some ⟨.struct [(3, 0), (31, 1), (33, 2), (9, 34)], 35, 80, [.int .i64 0, .nil, .int .u8 0, .int .u8 0, .int .u8 0, .int .u8 0, .int .u8 0, .int .u8 0, .int .u8 0, .int .u8 0, .int .u8 0, .int .u8 0, .int .u8 0, .int .u8 0, .int .u8 0, .int .u8 0, .int .u8 0, .int .u8 0, .int .u8 0, .int .u8 0, .int .u8 0, .int .u8 0, .int .u8 0, .int .u8 0, .int .u8 0, .int .u8 0, .int .u8 0, .int .u8 0, .int .u8 0, .int .u8 0, .int .u8 0, .int .u8 0, .int .u8 0, .int .u8 0, .str []]⟩ := by kernel_rfl
theorem T36 : tiOf Try.prog 36 = some ⟨.other, 1, 8, [.lit .nilFunc]⟩ := by kernel_rfl
theorem T38 : tiOf Try.prog 38 = some ⟨.other, 1, 8, [.lit .nilFunc]⟩ := by kernel_rfl
theorem T39 : tiOf Try.prog 39 = some ⟨.struct [(9, 0), (3, 1)], 2, 24, [.str [], .int .i64 0]⟩ := by kernel_rfl
theorem T40 : tiOf Try.prog 40 = some ⟨.struct [(9, 0), (3, 1)], 2, 24, [.str [], .int .i64 0]⟩ := by kernel_rfl
theorem T41 : tiOf Try.prog 41 = some ⟨.other, 1, 8, [.lit .nilFunc]⟩ := by kernel_rfl
theorem T42 : tiOf Try.prog 42 = some ⟨.other, 1, 8, [.lit .nilFunc]⟩ := by kernel_rfl
theorem T44 : tiOf Try.prog 44 = some ⟨.other, 1, 8, [.lit .nilFunc]⟩ := by kernel_rfl
theorem T45 : tiOf Try.prog 45 = some ⟨.other, 1, 8, [.lit .nilFunc]⟩ := by kernel_rfl
theorem T46 : tiOf Try.prog 46 = some ⟨.other, 1, 8, [.lit .nilFunc]⟩ := by kernel_rfl
theorem T47 : tiOf Try.prog 47 = some ⟨.other, 1, 8, [.lit .nilFunc]⟩ := by kernel_rfl
theorem T49 : tiOf Try.prog 49 = some ⟨.other, 1, 8, [.lit .nilFunc]⟩ := by kernel_rfl
theorem T50 : tiOf Try.prog 50 = some ⟨.other, 1, 8, [.lit .nilFunc]⟩ := by kernel_rfl
theorem T51 : tiOf Try.prog 51 = some ⟨.other, 1, 8, [.lit .nilFunc]⟩ := by kernel_rfl
theorem T52 : tiOf Try.prog 52 = some ⟨.other, 1, 8, [.lit .nilFunc]⟩ := by kernel_rfl
theorem T53 : tiOf Try.prog 53 = some ⟨.other, 1, 8, [.lit .nilFunc]⟩ := by kernel_rfl
theorem T54 : tiOf Try.prog 54 = some ⟨.other, 1, 8, [.lit .nilFunc]⟩ := by kernel_rfl
theorem T55 : tiOf Try.prog 55 = some ⟨.other, 1, 8, [.lit .nilFunc]⟩ := by kernel_rfl
theorem T56 : tiOf Try.prog 56 = some ⟨.other, 1, 8, [.lit .nilFunc]⟩ := by kernel_rfl
theorem T57 : tiOf Try.prog 57 = some ⟨.other, 1, 8, [.lit .nilFunc]⟩ := by kernel_rfl
theorem T58 : tiOf Try.prog 58 = some ⟨.other, 1, 8, [.lit .nilFunc]⟩ := by kernel_rfl
theorem T59 : tiOf Try.prog 59 = some ⟨.other, 1, 8, [.lit .nilFunc]⟩ := by kernel_rfl
theorem T60 : tiOf Try.prog 60 = some ⟨.other, 1, 8, [.lit .nilFunc]⟩ := by kernel_rfl
theorem T61 : tiOf Try.prog 61 = some ⟨.other, 1, 8, [.lit .nilFunc]⟩ := by kernel_rfl
theorem T63 : tiOf Try.prog 63 = some ⟨.other, 1, 8, [.lit .nilFunc]⟩ := by kernel_rfl
theorem T64 : tiOf Try.prog 64 = some ⟨.other, 1, 8, [.lit .nilFunc]⟩ := by kernel_rfl
theorem T65 : tiOf Try.prog 65 = some ⟨.other, 1, 8, [.lit .nilFunc]⟩ := by kernel_rfl
theorem T66 : tiOf Try.prog 66 = some ⟨.other, 1, 8, [.lit .nilFunc]⟩ := by kernel_rfl
theorem T67 : tiOf Try.prog 67 = some ⟨.other, 1, 8, [.lit .nilFunc]⟩ := by kernel_rfl
theorem T68 : tiOf Try.prog 68 = some ⟨.other, 1, 8, [.lit .nilFunc]⟩ := by kernel_rfl
theorem T69 : tiOf Try.prog 69 = some ⟨.other, 1, 8, [.lit .nilFunc]⟩ := by kernel_rfl
theorem T70 : tiOf Try.prog 70 = some ⟨.other, 1, 8, [.lit .nilFunc]⟩ := by kernel_rfl
theorem T71 : tiOf Try.prog 71 = some ⟨.other, 1, 8, [.lit .nilFunc]⟩ := by kernel_rfl
theorem T72 : tiOf Try.prog 72 = some ⟨.slice 4, 1, 24, [.nil]⟩ := by kernel_rfl
theorem T73 : tiOf Try.prog 73 = some ⟨.other, 1, 8, [.lit .nilFunc]⟩ := by kernel_rfl
theorem T74 : tiOf Try.prog 74 = some ⟨.other, 1, 8, [.lit .nilFunc]⟩ := by kernel_rfl
theorem T75 : tiOf Try.prog 75 = some ⟨.other, 1, 8, [.lit .nilFunc]⟩ := by kernel_rfl
theorem T76 : tiOf Try.prog 76 = some ⟨.other, 1, 8, [.lit .nilFunc]⟩ := by kernel_rfl
theorem T77 : tiOf Try.prog 77 = some ⟨.other, 1, 8, [.lit .nilFunc]⟩ := by kernel_rfl
theorem T78 : tiOf Try.prog 78 = some ⟨.other, 1, 8, [.lit .nilFunc]⟩ := by kernel_rfl
theorem T79 : tiOf Try.prog 79 = some ⟨.other, 1, 8, [.lit .nilFunc]⟩ := by kernel_rfl
theorem T80 : tiOf Try.prog 80 = some ⟨.other, 1, 8, [.lit .nilFunc]⟩ := by kernel_rfl
theorem T81 : tiOf Try.prog 81 = some ⟨.other, 1, 8, [.lit .nilFunc]⟩ := by kernel_rfl
theorem T82 : tiOf Try.prog 82 = some ⟨.other, 1, 8, [.lit .nilFunc]⟩ := by kernel_rfl
theorem T83 : tiOf Try.prog 83 = some ⟨.other, 1, 8, [.lit .nilFunc]⟩ := by kernel_rfl
theorem T84 : tiOf Try.prog 84 = some ⟨.other, 1, 8, [.lit .nilFunc]⟩ := by kernel_rfl
theorem T85 : tiOf Try.prog 85 = some ⟨.other, 1, 8, [.lit .nilFunc]⟩ := by kernel_rfl
theorem T86 : tiOf Try.prog 86 = some ⟨.int .u64, 1, 8, [.int .u64 0]⟩ := by kernel_rfl
theorem T87 : tiOf Try.prog 87 = some ⟨.other, 1, 8, [.lit .nilFunc]⟩ := by kernel_rfl
theorem T88 : tiOf Try.prog 88 = some ⟨.other, 1, 8, [.lit .nilFunc]⟩ := by kernel_rfl
theorem T89 : tiOf Try.prog 89 = some ⟨.other, 1, 8, [.lit .nilFunc]⟩ := by kernel_rfl
theorem T91 : tiOf Try.prog 91 = some ⟨.other, 1, 8, [.lit .nilFunc]⟩ := by kernel_rfl
theorem T92 : tiOf Try.prog 92 = some ⟨.other, 1, 8, [.lit .nilFunc]⟩ := by kernel_rfl
theorem T93 : tiOf Try.prog 93 = some ⟨.slice 5, 1, 24, [.nil]⟩ := by kernel_rfl
theorem T94 : tiOf Try.prog 94 = some ⟨.other, 1, 8, [.lit .nilFunc]⟩ := by kernel_rfl
theorem T95 : tiOf Try.prog 95 = some ⟨.other, 1, 8, [.lit .nilFunc]⟩ := by kernel_rfl
theorem T96 : tiOf Try.prog 96 = some ⟨.other, 1, 8, [.lit .nilFunc]⟩ := by kernel_rfl
theorem T97 : tiOf Try.prog 97 = some ⟨.int .u32, 1, 4, [.int .u32 0]⟩ := by kernel_rfl
theorem T99 : tiOf Try.prog 99 = some ⟨.other, 1, 8, [.lit .nilFunc]⟩ := by kernel_rfl
theorem T100 : tiOf Try.prog 100 = some ⟨.other, 1, 8, [.lit .nilFunc]⟩ := by kernel_rfl
theorem T101 : tiOf Try.prog 101 = some ⟨.struct [(17, 0), (17, 1), (17, 2), (9, 3)], 4, 40, [.lit (.pointer none), .lit (.pointer none), .lit (.pointer none), .str []]⟩ := by kernel_rfl
theorem T102 : tiOf Try.prog 102 = some ⟨.struct [(17, 0), (17, 1), (17, 2), (9, 3)], 4, 40, [.lit (.pointer none), .lit (.pointer none), .lit (.pointer none), .str []]⟩ := by kernel_rfl
theorem T103 : tiOf Try.prog 103 = some ⟨.array 0 16, 0, 0, []⟩ := by kernel_rfl
theorem T104 : tiOf Try.prog 104 = some ⟨.struct [(103, 0)], 0, 0, []⟩ := by kernel_rfl
theorem T105 : tiOf Try.prog 105 = some ⟨.struct [(103, 0)], 0, 0, []⟩ := by kernel_rfl
theorem T106 : tiOf Try.prog 106 = some ⟨.other, 1, 8, [.lit .nilFunc]⟩ := by kernel_rfl
theorem T107 : tiOf Try.prog 107 = some ⟨.int .u8, 1, 1, [.int .u8 0]⟩ := by kernel_rfl
theorem T108 : tiOf Try.prog 108 = some ⟨.int .u8, 1, 1, [.int .u8 0]⟩ := by kernel_rfl
theorem T109 : tiOf Try.prog 109 = some ⟨.other, 1, 8, [.lit .nilFunc]⟩ := by kernel_rfl
theorem T110 : tiOf Try.prog 110 = some ⟨.pointer 5, 1, 8, [.lit (.pointer none)]⟩ := by kernel_rfl
theorem T111 : tiOf Try.prog 111 = some ⟨.int .i32, 1, 4, [.int .i32 0]⟩ := by kernel_rfl
theorem T112 : tiOf Try.prog 112 = some ⟨.int .i32, 1, 4, [.int .i32 0]⟩ := by kernel_rfl
theorem T113 : tiOf Try.prog 113 = some ⟨.struct [(12, 0), (12, 1), (97, 2), (107, 3), (5, 4), (5, 5), (108, 6), (109, 7), (110, 8), (111, 9), (112, 10)], 11, 48, [.int .u64 0, .int .u64 0, .int .u32 0, .int .u8 0, .int .u8 0, .int .u8 0, .int .u8 0, .lit .nilFunc, .lit (.pointer none), .int .i32 0, .int .i32 0]⟩ := by kernel_rfl
theorem T114 : tiOf Try.prog 114 = some ⟨.struct [(12, 0), (12, 1), (97, 2), (107, 3), (5, 4), (5, 5), (108, 6), (109, 7), (110, 8), (111, 9), (112, 10)], 11, 48, [.int .u64 0, .int .u64 0, .int .u32 0, .int .u8 0, .int .u8 0, .int .u8 0, .int .u8 0, .lit .nilFunc, .lit (.pointer none), .int .i32 0, .int .i32 0]⟩ := by kernel_rfl
theorem T115 : tiOf Try.prog 115 = some ⟨.other, 1, 8, [.lit (.pointer none)]⟩ := by kernel_rfl

def tab : List (Nat × TI) := [(1, ⟨.other, 1, 8, [.lit .nilFunc]⟩),
  (2, ⟨.int .i64, 1, 8, [.int .i64 0]⟩),
  (3, ⟨.int .i64, 1, 8, [.int .i64 0]⟩),
  (4, ⟨.bool, 1, 1, [.bool false]⟩),
  (5, ⟨.int .u8, 1, 1, [.int .u8 0]⟩),
  (6, ⟨.int .u8, 1, 1, [.int .u8 0]⟩),
  (7, ⟨.struct [(2, 0), (3, 1), (4, 2), (6, 3)], 4, 24, [.int .i64 0, .int .i64 0, .bool false, .int .u8 0]⟩),
  (8, ⟨.struct [(2, 0), (3, 1), (4, 2), (6, 3)], 4, 24, [.int .i64 0, .int .i64 0, .bool false, .int .u8 0]⟩),
  (9, ⟨.string, 1, 16, [.str []]⟩),
  (10, ⟨.string, 1, 16, [.str []]⟩),
  (11, ⟨.string, 1, 16, [.str []]⟩),
  (12, ⟨.int .u64, 1, 8, [.int .u64 0]⟩),
  (13, ⟨.struct [(9, 0), (12, 1)], 2, 24, [.str [], .int .u64 0]⟩),
  (14, ⟨.struct [(9, 0), (12, 1)], 2, 24, [.str [], .int .u64 0]⟩),
  (15, ⟨.pointer 102, 1, 8, [.lit (.pointer none)]⟩),
  (16, ⟨.pointer 105, 1, 8, [.lit (.pointer none)]⟩),
  (17, ⟨.pointer 114, 1, 8, [.lit (.pointer none)]⟩),
  (18, ⟨.struct [(17, 0)], 1, 8, [.lit (.pointer none)]⟩),
  (19, ⟨.struct [(17, 0)], 1, 8, [.lit (.pointer none)]⟩),
  (20, ⟨.other, 1, 16, [.lit .nilIface]⟩),
  (21, ⟨.int .i32, 1, 4, [.int .i32 0]⟩),
  (22, ⟨.slice 35, 1, 24, [.nil]⟩),
  (23, ⟨.slice 40, 1, 24, [.nil]⟩),
  (24, ⟨.struct [(22, 0), (23, 1), (23, 2)], 3, 72, [.nil, .nil, .nil]⟩),
  (25, ⟨.struct [(22, 0), (23, 1), (23, 2)], 3, 72, [.nil, .nil, .nil]⟩),
  (26, ⟨.other, 1, 8, [.lit .nilFunc]⟩),
  (27, ⟨.other, 1, 8, [.lit .nilFunc]⟩),
  (28, ⟨.int .i64, 1, 8, [.int .i64 0]⟩),
  (30, ⟨.other, 1, 8, [.lit .nilFunc]⟩),
  (31, ⟨.slice 3, 1, 24, [.nil]⟩),
  (32, ⟨.array 32 5, 32, 32, [.int .u8 0, .int .u8 0, .int .u8 0, .int .u8 0, .int .u8 0, .int .u8 0, .int .u8 0, .int .u8 0, .int .u8 0, .int .u8 0, .int .u8 0, .int .u8 0, .int .u8 0, .int .u8 0, .int .u8 0, .int .u8 0, .int .u8 0, .int .u8 0, .int .u8 0, .int .u8 0, .int .u8 0, .int .u8 0, .int .u8 0, .int .u8 0, .int .u8 0, .int .u8 0, .int .u8 0, .int .u8 0, .int .u8 0, .int .u8 0, .int .u8 0, .int .u8 0]⟩),
  (33, ⟨.array 32 5, 32, 32, [.int .u8 0, .int .u8 0, .int .u8 0, .int .u8 0, .int .u8 0, .int .u8 0, .int .u8 0, .int .u8 0, .int .u8 0, .int .u8 0, .int .u8 0, .int .u8 0, .int .u8 0, .int .u8 0, .int .u8 0, .int .u8 0, .int .u8 0, .int .u8 0, .int .u8 0, .int .u8 0, .int .u8 0, .int .u8 0, .int .u8 0, .int .u8 0, .int .u8 0, .int .u8 0, .int .u8 0, .int .u8 0, .int .u8 0, .int .u8 0, .int .u8 0, .int .u8 0]⟩),
  (34, ⟨.struct [(3, 0), (31, 1), (33, 2), (9, 34)], 35, 80, [.int .i64 0, .nil, .int .u8 0, .int .u8 0, .int .u8 0, .int .u8 0, .int .u8 0, .int .u8 0, .int .u8 0, .int .u8 0, .int .u8 0, .int .u8 0, .int .u8 0, .int .u8 0, .int .u8 0, .int .u8 0, .int .u8 0, .int .u8 0, .int .u8 0, .int .u8 0, .int .u8 0, .int .u8 0, .int .u8 0, .int .u8 0, .int .u8 0, .int .u8 0, .int .u8 0, .int .u8 0, .int .u8 0, .int .u8 0, .int .u8 0, .int .u8 0, .int .u8 0, .int .u8 0, .str []]⟩),
  (35, ⟨.struct [(3, 0), (31, 1), (33, 2), (9, 34)], 35, 80, [.int .i64 0, .nil, .int .u8 0, .int .u8 0, .int .u8 0, .int .u8 0, .int .u8 0, .int .u8 0, .int .u8 0, .int .u8 0, .int .u8 0, .int .u8 0, .int .u8 0, .int .u8 0, .int .u8 0, .int .u8 0, .int .u8 0, .int .u8 0, .int .u8 0, .int .u8 0, .int .u8 0, .int .u8 0, .int .u8 0, .int .u8 0, .int .u8 0, .int .u8 0, .int .u8 0, .int .u8 0, .int .u8 0, .int .u8 0, .int .u8 0, .int .u8 0, .int .u8 0, .int .u8 0, .str []]⟩),
  (36, ⟨.other, 1, 8, [.lit .nilFunc]⟩),
  (38, ⟨.other, 1, 8, [.lit .nilFunc]⟩),
  (39, ⟨.struct [(9, 0), (3, 1)], 2, 24, [.str [], .int .i64 0]⟩),
  (40, ⟨.struct [(9, 0), (3, 1)], 2, 24, [.str [], .int .i64 0]⟩),
  (41, ⟨.other, 1, 8, [.lit .nilFunc]⟩),
  (42, ⟨.other, 1, 8, [.lit .nilFunc]⟩),
  (44, ⟨.other, 1, 8, [.lit .nilFunc]⟩),
  (45, ⟨.other, 1, 8, [.lit .nilFunc]⟩),
  (46, ⟨.other, 1, 8, [.lit .nilFunc]⟩),
  (47, ⟨.other, 1, 8, [.lit .nilFunc]⟩),
  (49, ⟨.other, 1, 8, [.lit .nilFunc]⟩),
  (50, ⟨.other, 1, 8, [.lit .nilFunc]⟩),
  (51, ⟨.other, 1, 8, [.lit .nilFunc]⟩),
  (52, ⟨.other, 1, 8, [.lit .nilFunc]⟩),
  (53, ⟨.other, 1, 8, [.lit .nilFunc]⟩),
  (54, ⟨.other, 1, 8, [.lit .nilFunc]⟩),
  (55, ⟨.other, 1, 8, [.lit .nilFunc]⟩),
  (56, ⟨.other, 1, 8, [.lit .nilFunc]⟩),
  (57, ⟨.other, 1, 8, [.lit .nilFunc]⟩),
  (58, ⟨.other, 1, 8, [.lit .nilFunc]⟩),
  (59, ⟨.other, 1, 8, [.lit .nilFunc]⟩),
  (60, ⟨.other, 1, 8, [.lit .nilFunc]⟩),
  (61, ⟨.other, 1, 8, [.lit .nilFunc]⟩),
  (63, ⟨.other, 1, 8, [.lit .nilFunc]⟩),
  (64, ⟨.other, 1, 8, [.lit .nilFunc]⟩),
  (65, ⟨.other, 1, 8, [.lit .nilFunc]⟩),
  (66, ⟨.other, 1, 8, [.lit .nilFunc]⟩),
  (67, ⟨.other, 1, 8, [.lit .nilFunc]⟩),
  (68, ⟨.other, 1, 8, [.lit .nilFunc]⟩),
  (69, ⟨.other, 1, 8, [.lit .nilFunc]⟩),
  (70, ⟨.other, 1, 8, [.lit .nilFunc]⟩),
  (71, ⟨.other, 1, 8, [.lit .nilFunc]⟩),
  (72, ⟨.slice 4, 1, 24, [.nil]⟩),
  (73, ⟨.other, 1, 8, [.lit .nilFunc]⟩),
  (74, ⟨.other, 1, 8, [.lit .nilFunc]⟩),
  (75, ⟨.other, 1, 8, [.lit .nilFunc]⟩),
  (76, ⟨.other, 1, 8, [.lit .nilFunc]⟩),
  (77, ⟨.other, 1, 8, [.lit .nilFunc]⟩),
  (78, ⟨.other, 1, 8, [.lit .nilFunc]⟩),
  (79, ⟨.other, 1, 8, [.lit .nilFunc]⟩),
  (80, ⟨.other, 1, 8, [.lit .nilFunc]⟩),
  (81, ⟨.other, 1, 8, [.lit .nilFunc]⟩),
  (82, ⟨.other, 1, 8, [.lit .nilFunc]⟩),
  (83, ⟨.other, 1, 8, [.lit .nilFunc]⟩),
  (84, ⟨.other, 1, 8, [.lit .nilFunc]⟩),
  (85, ⟨.other, 1, 8, [.lit .nilFunc]⟩),
  (86, ⟨.int .u64, 1, 8, [.int .u64 0]⟩),
  (87, ⟨.other, 1, 8, [.lit .nilFunc]⟩),
  (88, ⟨.other, 1, 8, [.lit .nilFunc]⟩),
  (89, ⟨.other, 1, 8, [.lit .nilFunc]⟩),
  (91, ⟨.other, 1, 8, [.lit .nilFunc]⟩),
  (92, ⟨.other, 1, 8, [.lit .nilFunc]⟩),
  (93, ⟨.slice 5, 1, 24, [.nil]⟩),
  (94, ⟨.other, 1, 8, [.lit .nilFunc]⟩),
  (95, ⟨.other, 1, 8, [.lit .nilFunc]⟩),
  (96, ⟨.other, 1, 8, [.lit .nilFunc]⟩),
  (97, ⟨.int .u32, 1, 4, [.int .u32 0]⟩),
  (99, ⟨.other, 1, 8, [.lit .nilFunc]⟩),
  (100, ⟨.other, 1, 8, [.lit .nilFunc]⟩),
  (101, ⟨.struct [(17, 0), (17, 1), (17, 2), (9, 3)], 4, 40, [.lit (.pointer none), .lit (.pointer none), .lit (.pointer none), .str []]⟩),
  (102, ⟨.struct [(17, 0), (17, 1), (17, 2), (9, 3)], 4, 40, [.lit (.pointer none), .lit (.pointer none), .lit (.pointer none), .str []]⟩),
  (103, ⟨.array 0 16, 0, 0, []⟩),
  (104, ⟨.struct [(103, 0)], 0, 0, []⟩),
  (105, ⟨.struct [(103, 0)], 0, 0, []⟩),
  (106, ⟨.other, 1, 8, [.lit .nilFunc]⟩),
  (107, ⟨.int .u8, 1, 1, [.int .u8 0]⟩),
  (108, ⟨.int .u8, 1, 1, [.int .u8 0]⟩),
  (109, ⟨.other, 1, 8, [.lit .nilFunc]⟩),
  (110, ⟨.pointer 5, 1, 8, [.lit (.pointer none)]⟩),
  (111, ⟨.int .i32, 1, 4, [.int .i32 0]⟩),
  (112, ⟨.int .i32, 1, 4, [.int .i32 0]⟩),
  (113, ⟨.struct [(12, 0), (12, 1), (97, 2), (107, 3), (5, 4), (5, 5), (108, 6), (109, 7), (110, 8), (111, 9), (112, 10)], 11, 48, [.int .u64 0, .int .u64 0, .int .u32 0, .int .u8 0, .int .u8 0, .int .u8 0, .int .u8 0, .lit .nilFunc, .lit (.pointer none), .int .i32 0, .int .i32 0]⟩),
  (114, ⟨.struct [(12, 0), (12, 1), (97, 2), (107, 3), (5, 4), (5, 5), (108, 6), (109, 7), (110, 8), (111, 9), (112, 10)], 11, 48, [.int .u64 0, .int .u64 0, .int .u32 0, .int .u8 0, .int .u8 0, .int .u8 0, .int .u8 0, .lit .nilFunc, .lit (.pointer none), .int .i32 0, .int .i32 0]⟩),
  (115, ⟨.other, 1, 8, [.lit (.pointer none)]⟩)]
def ty : TypeId → Option TI := getT tab
theorem hty : TyOK Try.prog ty := tyOK_of ⟨T1, T2, T3, T4, T5, T6, T7, T8, T9, T10, T11, T12, T13, T14, T15, T16, T17, T18, T19, T20, T21, T22, T23, T24, T25, T26, T27, T28, T30, T31, T32, T33, T34, T35, T36, T38, T39, T40, T41, T42, T44, T45, T46, T47, T49, T50, T51, T52, T53, T54, T55, T56, T57, T58, T59, T60, T61, T63, T64, T65, T66, T67, T68, T69, T70, T71, T72, T73, T74, T75, T76, T77, T78, T79, T80, T81, T82, T83, T84, T85, T86, T87, T88, T89, T91, T92, T93, T94, T95, T96, T97, T99, T100, T101, T102, T103, T104, T105, T106, T107, T108, T109, T110, T111, T112, T113, T114, T115, trivial⟩

end Go.Proofs.Ytljlhoekpjkgoaa
