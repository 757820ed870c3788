/-
  The types of the program in short: for each its shape, its cells, its bytes and its zero value.
  Conditions: none.
-/
import Derived.Test.YtnemengadjimcaaDoorMSs
import Derived.Test.YtnemengadjimcaaDoorProg
import Derived.KernelRfl
set_option linter.unusedSectionVars false
set_option linter.unusedSimpArgs false
set_option linter.unusedVariables false
namespace Go.Proofs.YtnemengadjimcaaDoor
open Go.Proofs
set_option maxRecDepth 100000
theorem T1 : tiOf Tryd.prog 1 = some ⟨.other, 1, 8, [.lit .nilFunc]⟩ := by kernel_rfl
theorem T2 : tiOf Tryd.prog 2 = some ⟨.int .i64, 1, 8, [.int .i64 0]⟩ := by kernel_rfl
theorem T3 : tiOf Tryd.prog 3 = some ⟨.int .i64, 1, 8, [.int .i64 0]⟩ := by kernel_rfl
theorem T4 : tiOf Tryd.prog 4 = some ⟨.bool, 1, 1, [.bool false]⟩ := by kernel_rfl
theorem T5 : tiOf Tryd.prog 5 = some ⟨.int .u8, 1, 1, [.int .u8 0]⟩ := by kernel_rfl
theorem T6 : tiOf Tryd.prog 6 = some ⟨.int .u8, 1, 1, [.int .u8 0]⟩ := by kernel_rfl
theorem T7 : tiOf Tryd.prog 7 = some ⟨.struct [(2, 0), (3, 1), (4, 2), (6, 3)], 4, 24, [.int .i64 0, .int .i64 0, .bool false, .int .u8 0]⟩ := by kernel_rfl
theorem T8 : tiOf Tryd.prog 8 = some ⟨.struct [(2, 0), (3, 1), (4, 2), (6, 3)], 4, 24, [.int .i64 0, .int .i64 0, .bool false, .int .u8 0]⟩ := by kernel_rfl
theorem T9 : tiOf Tryd.prog 9 = some ⟨.string, 1, 16, [.str []]⟩ := by kernel_rfl
theorem T10 : tiOf Tryd.prog 10 = some ⟨.string, 1, 16, [.str []]⟩ := by kernel_rfl
theorem T11 : tiOf Tryd.prog 11 = some ⟨.string, 1, 16, [.str []]⟩ := by kernel_rfl
theorem T12 : tiOf Tryd.prog 12 = some ⟨.int .u64, 1, 8, [.int .u64 0]⟩ := by kernel_rfl
theorem T13 : tiOf Tryd.prog 13 = some ⟨.struct [(9, 0), (12, 1)], 2, 24, [.str [], .int .u64 0]⟩ := by kernel_rfl
theorem T14 : tiOf Tryd.prog 14 = some ⟨.struct [(9, 0), (12, 1)], 2, 24, [.str [], .int .u64 0]⟩ := by kernel_rfl
theorem T15 : tiOf Tryd.prog 15 = some ⟨.pointer 141, 1, 8, [.lit (.pointer none)]⟩ := by kernel_rfl
theorem T16 : tiOf Tryd.prog 16 = some ⟨.pointer 144, 1, 8, [.lit (.pointer none)]⟩ := by kernel_rfl
theorem T17 : tiOf Tryd.prog 17 = some ⟨.pointer 153, 1, 8, [.lit (.pointer none)]⟩ := by kernel_rfl
theorem T18 : tiOf Tryd.prog 18 = some ⟨.struct [(17, 0)], 1, 8, [.lit (.pointer none)]⟩ := by kernel_rfl
theorem T19 : tiOf Tryd.prog 19 = some ⟨.struct [(17, 0)], 1, 8, [.lit (.pointer none)]⟩ := by kernel_rfl
theorem T20 : tiOf Tryd.prog 20 = some ⟨.other, 1, 16, [.lit .nilIface]⟩ := by kernel_rfl
theorem T21 : tiOf Tryd.prog 21 = some ⟨.int .i32, 1, 4, [.int .i32 0]⟩ := by kernel_rfl
theorem T22 : tiOf Tryd.prog 22 = some ⟨.slice 45, 1, 24, [.nil]⟩ := by kernel_rfl
theorem T23 : tiOf Tryd.prog 23 = some ⟨.other, 1, 8, [.lit .nilFunc]⟩ := by kernel_rfl
theorem T24 : tiOf Tryd.prog 24 = some ⟨.other, 1, 8, [.lit .nilFunc]⟩ := by kernel_rfl
theorem T25 : tiOf Tryd.prog 25 = some ⟨.int .i64, 1, 8, [.int .i64 0]⟩ := by kernel_rfl
theorem T27 : tiOf Tryd.prog 27 = some ⟨.other, 1, 8, [.lit .nilFunc]⟩ := by kernel_rfl
theorem T28 : tiOf Tryd.prog 28 = some ⟨.other, 1, 8, [.lit .nilFunc]⟩ := by kernel_rfl
theorem T29 : tiOf Tryd.prog 29 = some ⟨.other, 1, 8, [.lit .nilFunc]⟩ := by kernel_rfl
theorem T30 : tiOf Tryd.prog 30 = some ⟨.other, 1, 8, [.lit .nilFunc]⟩ := by kernel_rfl
theorem T31 : tiOf Tryd.prog 31 = some ⟨.slice 33, 1, 24, [.nil]⟩ := by kernel_rfl
theorem T32 : tiOf Tryd.prog 32 = some ⟨.struct [(3, 0), (9, 1), (3, 2), (3, 3), (31, 4)], 5, 64, [.int .i64 0, .str [], .int .i64 0, .int .i64 0, .nil]⟩ := by kernel_rfl
theorem T33 : tiOf Tryd.prog 33 = some ⟨.struct [(3, 0), (9, 1), (3, 2), (3, 3), (31, 4)], 5, 64, [.int .i64 0, .str [], .int .i64 0, .int .i64 0, .nil]⟩ := by kernel_rfl
theorem T34 : tiOf Tryd.prog 34 = some ⟨.slice 9, 1, 24, [.nil]⟩ := by kernel_rfl
theorem T35 : tiOf Tryd.prog 35 = some ⟨.struct [(3, 0), (4, 1), (33, 2), (33, 7), (34, 12), (9, 13), (9, 14), (9, 15)], 16, 216, [.int .i64 0, .bool false, .int .i64 0, .str [], .int .i64 0, .int .i64 0, .nil, .int .i64 0, .str [], .int .i64 0, .int .i64 0, .nil, .nil, .str [], .str [], .str []]⟩ := by kernel_rfl
theorem T36 : tiOf Tryd.prog 36 = some ⟨.struct [(3, 0), (4, 1), (33, 2), (33, 7), (34, 12), (9, 13), (9, 14), (9, 15)], 16, 216, [.int .i64 0, .bool false, .int .i64 0, .str [], .int .i64 0, .int .i64 0, .nil, .int .i64 0, .str [], .int .i64 0, .int .i64 0, .nil, .nil, .str [], .str [], .str []]⟩ := by kernel_rfl
theorem T37 : tiOf Tryd.prog 37 = some ⟨.slice 36, 1, 24, [.nil]⟩ := by kernel_rfl
theorem T39 : tiOf Tryd.prog 39 = some ⟨.other, 1, 8, [.lit .nilFunc]⟩ := by kernel_rfl
theorem T40 : tiOf Tryd.prog 40 = some ⟨.other, 1, 8, [.lit .nilFunc]⟩ := by kernel_rfl
theorem T41 : tiOf Tryd.prog 41 = some ⟨.other, 1, 8, [.lit .nilFunc]⟩ := by kernel_rfl
theorem T42 : tiOf Tryd.prog 42 = some ⟨.other, 1, 8, [.lit .nilFunc]⟩ := by kernel_rfl
theorem T43 : tiOf Tryd.prog 43 = some ⟨.other, 1, 8, [.lit .nilFunc]⟩ := by kernel_rfl
theorem T44 : tiOf Tryd.prog 44 = some ⟨.struct [(3, 0), (9, 1), (9, 2)], 3, 40, [.int .i64 0, .str [], .str []]⟩ := by kernel_rfl
theorem T45 : tiOf Tryd.prog 45 = some ⟨.struct [(3, 0), (9, 1), (9, 2)], 3, 40, [.int .i64 0, .str [], .str []]⟩ := by kernel_rfl
theorem T46 : tiOf Tryd.prog 46 = some ⟨.other, 1, 8, [.lit .nilFunc]⟩ := by kernel_rfl
theorem T47 : tiOf Tryd.prog 47 = some ⟨.other, 1, 8, [.lit .nilFunc]⟩ := by kernel_rfl
theorem T48 : tiOf Tryd.prog 48 = some ⟨.other, 1, 8, [.lit .nilFunc]⟩ := by kernel_rfl
theorem T50 : tiOf Tryd.prog 50 = some ⟨.other, 1, 8, [.lit .nilFunc]⟩ := by kernel_rfl
theorem T51 : tiOf Tryd.prog 51 = some ⟨.other, 1, 8, [.lit .nilFunc]⟩ := by kernel_rfl
theorem T52 : tiOf Tryd.prog 52 = some ⟨.other, 1, 8, [.lit (.map none)]⟩ := by kernel_rfl
theorem T53 : tiOf Tryd.prog 53 = some ⟨.other, 1, 8, [.lit .nilFunc]⟩ := by kernel_rfl
theorem T54 : tiOf Tryd.prog 54 = some ⟨.struct [(3, 0), (9, 1)], 2, 24, [.int .i64 0, .str []]⟩ := by kernel_rfl
theorem T55 : tiOf Tryd.prog 55 = some ⟨.struct [(3, 0), (9, 1)], 2, 24, [.int .i64 0, .str []]⟩ := by kernel_rfl
theorem T56 : tiOf Tryd.prog 56 = some ⟨.other, 1, 8, [.lit (.map none)]⟩ := by kernel_rfl
theorem T58 : tiOf Tryd.prog 58 = some ⟨.other, 1, 8, [.lit .nilFunc]⟩ := by kernel_rfl
theorem T59 : tiOf Tryd.prog 59 = some ⟨.other, 1, 8, [.lit .nilFunc]⟩ := by kernel_rfl
theorem T60 : tiOf Tryd.prog 60 = some ⟨.other, 1, 8, [.lit .nilFunc]⟩ := by kernel_rfl
theorem T61 : tiOf Tryd.prog 61 = some ⟨.other, 1, 8, [.lit .nilFunc]⟩ := by kernel_rfl
theorem T62 : tiOf Tryd.prog 62 = some ⟨.slice 22, 1, 24, [.nil]⟩ := by kernel_rfl
theorem T63 : tiOf Tryd.prog 63 = some ⟨.other, 1, 8, [.lit .nilFunc]⟩ := by kernel_rfl
theorem T64 : tiOf Tryd.prog 64 = some ⟨.other, 1, 8, [.lit .nilFunc]⟩ := by kernel_rfl
theorem T65 : tiOf Tryd.prog 65 = some ⟨.other, 1, 8, [.lit .nilFunc]⟩ := by kernel_rfl
theorem T66 : tiOf Tryd.prog 66 = some ⟨.other, 1, 8, [.lit .nilFunc]⟩ := by kernel_rfl
theorem T67 : tiOf Tryd.prog 67 = some ⟨.other, 1, 8, [.lit .nilFunc]⟩ := by kernel_rfl
theorem T68 : tiOf Tryd.prog 68 = some ⟨.struct [(4, 0), (4, 1), (4, 2), (4, 3), (4, 4), (3, 5), (3, 6)], 7, 24, [.bool false, .bool false, .bool false, .bool false, .bool false, .int .i64 0, .int .i64 0]⟩ := by kernel_rfl
theorem T69 : tiOf Tryd.prog 69 = some ⟨.struct [(4, 0), (4, 1), (4, 2), (4, 3), (4, 4), (3, 5), (3, 6)], 7, 24, [.bool false, .bool false, .bool false, .bool false, .bool false, .int .i64 0, .int .i64 0]⟩ := by kernel_rfl
theorem T70 : tiOf Tryd.prog 70 = some ⟨.array 10 69, 70, 240, [.bool false, .bool false, .bool false, .bool false, .bool false, .int .i64 0, .int .i64 0, .bool false, .bool false, .bool false, .bool false, .bool false, .int .i64 0, .int .i64 0, .bool false, .bool false, .bool false, .bool false, .bool false, .int .i64 0, .int .i64 0, .bool false, .bool false, .bool false, .bool false, .bool false, .int .i64 0, .int .i64 0, .bool false, .bool false, .bool false, .bool false, .bool false, .int .i64 0, .int .i64 0, .bool false, .bool false, .bool false, .bool false, .bool false, .int .i64 0, .int .i64 0, .bool false, .bool false, .bool false, .bool false, .bool false, .int .i64 0, .int .i64 0, .bool false, .bool false, .bool false, .bool false, .bool false, .int .i64 0, .int .i64 0, .bool false, .bool false, .bool false, .bool false, .bool false, .int .i64 0, .int .i64 0, .bool false, .bool false, .bool false, .bool false, .bool false, .int .i64 0, .int .i64 0]⟩ := by kernel_rfl
theorem T71 : tiOf Tryd.prog 71 = some ⟨.other, 1, 8, [.lit .nilFunc]⟩ := by kernel_rfl
theorem T72 : tiOf Tryd.prog 72 = some ⟨.other, 1, 8, [.lit .nilFunc]⟩ := by kernel_rfl
theorem T73 : tiOf Tryd.prog 73 = some ⟨.other, 1, 8, [.lit .nilFunc]⟩ := by kernel_rfl
theorem T75 : tiOf Tryd.prog 75 = some ⟨.other, 1, 8, [.lit .nilFunc]⟩ := by kernel_rfl
theorem T76 : tiOf Tryd.prog 76 = some ⟨.other, 1, 8, [.lit .nilFunc]⟩ := by kernel_rfl
theorem T77 : tiOf Tryd.prog 77 = some ⟨.other, 1, 8, [.lit .nilFunc]⟩ := by kernel_rfl
theorem T78 : tiOf Tryd.prog 78 = some ⟨.other, 1, 8, [.lit .nilFunc]⟩ := by kernel_rfl
theorem T79 : tiOf Tryd.prog 79 = some ⟨.other, 1, 8, [.lit .nilFunc]⟩ := by kernel_rfl
theorem T80 : tiOf Tryd.prog 80 = some ⟨.slice 3, 1, 24, [.nil]⟩ := by kernel_rfl
theorem T81 : tiOf Tryd.prog 81 = some ⟨.other, 1, 8, [.lit .nilFunc]⟩ := by kernel_rfl
theorem T82 : tiOf Tryd.prog 82 = some ⟨.other, 1, 8, [.lit .nilFunc]⟩ := by kernel_rfl
theorem T83 : tiOf Tryd.prog 83 = some ⟨.other, 1, 8, [.lit .nilFunc]⟩ := by kernel_rfl
theorem T84 : tiOf Tryd.prog 84 = some ⟨.pointer 3, 1, 8, [.lit (.pointer none)]⟩ := by kernel_rfl
theorem T85 : tiOf Tryd.prog 85 = some ⟨.other, 1, 8, [.lit .nilFunc]⟩ := by kernel_rfl
theorem T86 : tiOf Tryd.prog 86 = some ⟨.other, 1, 8, [.lit .nilFunc]⟩ := by kernel_rfl
theorem T87 : tiOf Tryd.prog 87 = some ⟨.other, 1, 8, [.lit .nilFunc]⟩ := by kernel_rfl
theorem T88 : tiOf Tryd.prog 88 = some ⟨.other, 1, 8, [.lit .nilFunc]⟩ := by kernel_rfl
theorem T89 : tiOf Tryd.prog 89 = some ⟨.other, 1, 8, [.lit .nilFunc]⟩ := by kernel_rfl
theorem T90 : tiOf Tryd.prog 90 = some ⟨.slice 92, 1, 24, [.nil]⟩ := by kernel_rfl
theorem T91 : tiOf Tryd.prog 91 = some ⟨.struct [(33, 0), (3, 5), (90, 6)], 7, 96, [.int .i64 0, .str [], .int .i64 0, .int .i64 0, .nil, .int .i64 0, .nil]⟩ := by kernel_rfl
theorem T92 : tiOf Tryd.prog 92 = some ⟨.struct [(33, 0), (3, 5), (90, 6)], 7, 96, [.int .i64 0, .str [], .int .i64 0, .int .i64 0, .nil, .int .i64 0, .nil]⟩ := by kernel_rfl
theorem T93 : tiOf Tryd.prog 93 = some ⟨.other, 1, 8, [.lit .nilFunc]⟩ := by kernel_rfl
theorem T94 : tiOf Tryd.prog 94 = some ⟨.other, 1, 8, [.lit .nilFunc]⟩ := by kernel_rfl
theorem T95 : tiOf Tryd.prog 95 = some ⟨.other, 1, 8, [.lit .nilFunc]⟩ := by kernel_rfl
theorem T96 : tiOf Tryd.prog 96 = some ⟨.other, 1, 8, [.lit .nilFunc]⟩ := by kernel_rfl
theorem T97 : tiOf Tryd.prog 97 = some ⟨.other, 1, 8, [.lit .nilFunc]⟩ := by kernel_rfl
theorem T99 : tiOf Tryd.prog 99 = some ⟨.other, 1, 8, [.lit .nilFunc]⟩ := by kernel_rfl
theorem T100 : tiOf Tryd.prog 100 = some ⟨.other, 1, 8, [.lit .nilFunc]⟩ := by kernel_rfl
theorem T101 : tiOf Tryd.prog 101 = some ⟨.struct [(3, 0), (3, 1), (3, 2), (4, 3)], 4, 32, [.int .i64 0, .int .i64 0, .int .i64 0, .bool false]⟩ := by kernel_rfl
theorem T102 : tiOf Tryd.prog 102 = some ⟨.struct [(3, 0), (3, 1), (3, 2), (4, 3)], 4, 32, [.int .i64 0, .int .i64 0, .int .i64 0, .bool false]⟩ := by kernel_rfl
theorem T103 : tiOf Tryd.prog 103 = some ⟨.array 8 102, 32, 256, [.int .i64 0, .int .i64 0, .int .i64 0, .bool false, .int .i64 0, .int .i64 0, .int .i64 0, .bool false, .int .i64 0, .int .i64 0, .int .i64 0, .bool false, .int .i64 0, .int .i64 0, .int .i64 0, .bool false, .int .i64 0, .int .i64 0, .int .i64 0, .bool false, .int .i64 0, .int .i64 0, .int .i64 0, .bool false, .int .i64 0, .int .i64 0, .int .i64 0, .bool false, .int .i64 0, .int .i64 0, .int .i64 0, .bool false]⟩ := by kernel_rfl
theorem T104 : tiOf Tryd.prog 104 = some ⟨.other, 1, 8, [.lit .nilFunc]⟩ := by kernel_rfl
theorem T105 : tiOf Tryd.prog 105 = some ⟨.other, 1, 8, [.lit .nilFunc]⟩ := by kernel_rfl
theorem T106 : tiOf Tryd.prog 106 = some ⟨.other, 1, 8, [.lit .nilFunc]⟩ := by kernel_rfl
theorem T107 : tiOf Tryd.prog 107 = some ⟨.other, 1, 8, [.lit .nilFunc]⟩ := by kernel_rfl
theorem T108 : tiOf Tryd.prog 108 = some ⟨.other, 1, 8, [.lit .nilFunc]⟩ := by kernel_rfl
theorem T109 : tiOf Tryd.prog 109 = some ⟨.other, 1, 8, [.lit .nilFunc]⟩ := by kernel_rfl
theorem T110 : tiOf Tryd.prog 110 = some ⟨.int .u64, 1, 8, [.int .u64 0]⟩ := by kernel_rfl
theorem T111 : tiOf Tryd.prog 111 = some ⟨.other, 1, 8, [.lit .nilFunc]⟩ := by kernel_rfl
theorem T112 : tiOf Tryd.prog 112 = some ⟨.other, 1, 8, [.lit .nilFunc]⟩ := by kernel_rfl
theorem T113 : tiOf Tryd.prog 113 = some ⟨.other, 1, 8, [.lit .nilFunc]⟩ := by kernel_rfl
theorem T114 : tiOf Tryd.prog 114 = some ⟨.slice 5, 1, 24, [.nil]⟩ := by kernel_rfl
theorem T115 : tiOf Tryd.prog 115 = some ⟨.other, 1, 8, [.lit .nilFunc]⟩ := by kernel_rfl
theorem T116 : tiOf Tryd.prog 116 = some ⟨.int .i64, 1, 8, [.int .i64 0]⟩ := by kernel_rfl
theorem T118 : tiOf Tryd.prog 118 = some ⟨.other, 1, 8, [.lit .nilFunc]⟩ := by kernel_rfl
theorem T119 : tiOf Tryd.prog 119 = some ⟨.other, 1, 8, [.lit .nilFunc]⟩ := by kernel_rfl
theorem T120 : tiOf Tryd.prog 120 = some ⟨.other, 1, 8, [.lit .nilFunc]⟩ := by kernel_rfl
theorem T122 : tiOf Tryd.prog 122 = some ⟨.other, 1, 8, [.lit .nilFunc]⟩ := by kernel_rfl
theorem T123 : tiOf Tryd.prog 123 = some ⟨.other, 1, 8, [.lit .nilFunc]⟩ := by kernel_rfl
theorem T124 : tiOf Tryd.prog 124 = some ⟨.int .u32, 1, 4, [.int .u32 0]⟩ := by kernel_rfl
theorem T125 : tiOf Tryd.prog 125 = some ⟨.other, 1, 8, [.lit .nilFunc]⟩ := by kernel_rfl
theorem T126 : tiOf Tryd.prog 126 = some ⟨.int .u64, 1, 8, [.int .u64 0]⟩ := by kernel_rfl
theorem T127 : tiOf Tryd.prog 127 = some ⟨.other, 1, 8, [.lit .nilFunc]⟩ := by kernel_rfl
theorem T128 : tiOf Tryd.prog 128 = some ⟨.other, 1, 8, [.lit .nilFunc]⟩ := by kernel_rfl
theorem T129 : tiOf Tryd.prog 129 = some ⟨.int .u64, 1, 8, [.int .u64 0]⟩ := by kernel_rfl
theorem T130 : tiOf Tryd.prog 130 = some ⟨.other, 1, 8, [.lit .nilFunc]⟩ := by kernel_rfl
theorem T131 : tiOf Tryd.prog 131 = some ⟨.other, 1, 8, [.lit .nilFunc]⟩ := by kernel_rfl
theorem T132 : tiOf Tryd.prog 132 = some ⟨.other, 1, 8, [.lit .nilFunc]⟩ := by kernel_rfl
theorem T133 : tiOf Tryd.prog 133 = some ⟨.other, 1, 8, [.lit .nilFunc]⟩ := by kernel_rfl
theorem T135 : tiOf Tryd.prog 135 = some ⟨.other, 1, 8, [.lit .nilFunc]⟩ := by kernel_rfl
theorem T136 : tiOf Tryd.prog 136 = some ⟨.pointer 129, 1, 8, [.lit (.pointer none)]⟩ := by kernel_rfl
theorem T138 : tiOf Tryd.prog 138 = some ⟨.other, 1, 8, [.lit .nilFunc]⟩ := by kernel_rfl
theorem T139 : tiOf Tryd.prog 139 = some ⟨.other, 1, 8, [.lit .nilFunc]⟩ := by kernel_rfl
theorem T140 : tiOf Tryd.prog 140 = some ⟨.struct [(17, 0), (17, 1), (17, 2), (9, 3)], 4, 40, [.lit (.pointer none), .lit (.pointer none), .lit (.pointer none), .str []]⟩ := by kernel_rfl
theorem T141 : tiOf Tryd.prog 141 = some ⟨.struct [(17, 0), (17, 1), (17, 2), (9, 3)], 4, 40, [.lit (.pointer none), .lit (.pointer none), .lit (.pointer none), .str []]⟩ := by kernel_rfl
theorem T142 : tiOf Tryd.prog 142 = some ⟨.array 0 16, 0, 0, []⟩ := by kernel_rfl
theorem T143 : tiOf Tryd.prog 143 = some ⟨.struct [(142, 0)], 0, 0, []⟩ := by kernel_rfl
theorem T144 : tiOf Tryd.prog 144 = some ⟨.struct [(142, 0)], 0, 0, []⟩ := by kernel_rfl
theorem T145 : tiOf Tryd.prog 145 = some ⟨.other, 1, 8, [.lit .nilFunc]⟩ := by kernel_rfl
theorem T146 : tiOf Tryd.prog 146 = some ⟨.int .u8, 1, 1, [.int .u8 0]⟩ := by kernel_rfl
theorem T147 : tiOf Tryd.prog 147 = some ⟨.int .u8, 1, 1, [.int .u8 0]⟩ := by kernel_rfl
theorem T148 : tiOf Tryd.prog 148 = some ⟨.other, 1, 8, [.lit .nilFunc]⟩ := by kernel_rfl
theorem T149 : tiOf Tryd.prog 149 = some ⟨.pointer 5, 1, 8, [.lit (.pointer none)]⟩ := by kernel_rfl
theorem T150 : tiOf Tryd.prog 150 = some ⟨.int .i32, 1, 4, [.int .i32 0]⟩ := by kernel_rfl
theorem T151 : tiOf Tryd.prog 151 = some ⟨.int .i32, 1, 4, [.int .i32 0]⟩ := by kernel_rfl
theorem T152 : tiOf Tryd.prog 152 = some ⟨.struct [(12, 0), (12, 1), (124, 2), (146, 3), (5, 4), (5, 5), (147, 6), (148, 7), (149, 8), (150, 9), (151, 10)], 11, 48, [.int .u64 0, .int .u64 0, .int .u32 0, .int .u8 0, .int .u8 0, .int .u8 0, .int .u8 0, .lit .nilFunc, .lit (.pointer none), .int .i32 0, .int .i32 0]⟩ := by kernel_rfl
theorem T153 : tiOf Tryd.prog 153 = some ⟨.struct [(12, 0), (12, 1), (124, 2), (146, 3), (5, 4), (5, 5), (147, 6), (148, 7), (149, 8), (150, 9), (151, 10)], 11, 48, [.int .u64 0, .int .u64 0, .int .u32 0, .int .u8 0, .int .u8 0, .int .u8 0, .int .u8 0, .lit .nilFunc, .lit (.pointer none), .int .i32 0, .int .i32 0]⟩ := by kernel_rfl
theorem T154 : tiOf Tryd.prog 154 = some ⟨.other, 1, 8, [.lit (.pointer none)]⟩ := by kernel_rfl
def tab : List (Nat × TI) := [(1, ⟨.other, 1, 8, [.lit .nilFunc]⟩),
  (2, ⟨.int .i64, 1, 8, [.int .i64 0]⟩),
  (3, ⟨.int .i64, 1, 8, [.int .i64 0]⟩),
  (4, ⟨.bool, 1, 1, [.bool false]⟩),
  (5, ⟨.int .u8, 1, 1, [.int .u8 0]⟩),
  (6, ⟨.int .u8, 1, 1, [.int .u8 0]⟩),
  (7, ⟨.struct [(2, 0), (3, 1), (4, 2), (6, 3)], 4, 24, [.int .i64 0, .int .i64 0, .bool false, .int .u8 0]⟩),
  (8, ⟨.struct [(2, 0), (3, 1), (4, 2), (6, 3)], 4, 24, [.int .i64 0, .int .i64 0, .bool false, .int .u8 0]⟩),
  (9, ⟨.string, 1, 16, [.str []]⟩),
  (10, ⟨.string, 1, 16, [.str []]⟩),
  (11, ⟨.string, 1, 16, [.str []]⟩),
  (12, ⟨.int .u64, 1, 8, [.int .u64 0]⟩),
  (13, ⟨.struct [(9, 0), (12, 1)], 2, 24, [.str [], .int .u64 0]⟩),
  (14, ⟨.struct [(9, 0), (12, 1)], 2, 24, [.str [], .int .u64 0]⟩),
  (15, ⟨.pointer 141, 1, 8, [.lit (.pointer none)]⟩),
  (16, ⟨.pointer 144, 1, 8, [.lit (.pointer none)]⟩),
  (17, ⟨.pointer 153, 1, 8, [.lit (.pointer none)]⟩),
  (18, ⟨.struct [(17, 0)], 1, 8, [.lit (.pointer none)]⟩),
  (19, ⟨.struct [(17, 0)], 1, 8, [.lit (.pointer none)]⟩),
  (20, ⟨.other, 1, 16, [.lit .nilIface]⟩),
  (21, ⟨.int .i32, 1, 4, [.int .i32 0]⟩),
  (22, ⟨.slice 45, 1, 24, [.nil]⟩),
  (23, ⟨.other, 1, 8, [.lit .nilFunc]⟩),
  (24, ⟨.other, 1, 8, [.lit .nilFunc]⟩),
  (25, ⟨.int .i64, 1, 8, [.int .i64 0]⟩),
  (27, ⟨.other, 1, 8, [.lit .nilFunc]⟩),
  (28, ⟨.other, 1, 8, [.lit .nilFunc]⟩),
  (29, ⟨.other, 1, 8, [.lit .nilFunc]⟩),
  (30, ⟨.other, 1, 8, [.lit .nilFunc]⟩),
  (31, ⟨.slice 33, 1, 24, [.nil]⟩),
  (32, ⟨.struct [(3, 0), (9, 1), (3, 2), (3, 3), (31, 4)], 5, 64, [.int .i64 0, .str [], .int .i64 0, .int .i64 0, .nil]⟩),
  (33, ⟨.struct [(3, 0), (9, 1), (3, 2), (3, 3), (31, 4)], 5, 64, [.int .i64 0, .str [], .int .i64 0, .int .i64 0, .nil]⟩),
  (34, ⟨.slice 9, 1, 24, [.nil]⟩),
  (35, ⟨.struct [(3, 0), (4, 1), (33, 2), (33, 7), (34, 12), (9, 13), (9, 14), (9, 15)], 16, 216, [.int .i64 0, .bool false, .int .i64 0, .str [], .int .i64 0, .int .i64 0, .nil, .int .i64 0, .str [], .int .i64 0, .int .i64 0, .nil, .nil, .str [], .str [], .str []]⟩),
  (36, ⟨.struct [(3, 0), (4, 1), (33, 2), (33, 7), (34, 12), (9, 13), (9, 14), (9, 15)], 16, 216, [.int .i64 0, .bool false, .int .i64 0, .str [], .int .i64 0, .int .i64 0, .nil, .int .i64 0, .str [], .int .i64 0, .int .i64 0, .nil, .nil, .str [], .str [], .str []]⟩),
  (37, ⟨.slice 36, 1, 24, [.nil]⟩),
  (39, ⟨.other, 1, 8, [.lit .nilFunc]⟩),
  (40, ⟨.other, 1, 8, [.lit .nilFunc]⟩),
  (41, ⟨.other, 1, 8, [.lit .nilFunc]⟩),
  (42, ⟨.other, 1, 8, [.lit .nilFunc]⟩),
  (43, ⟨.other, 1, 8, [.lit .nilFunc]⟩),
  (44, ⟨.struct [(3, 0), (9, 1), (9, 2)], 3, 40, [.int .i64 0, .str [], .str []]⟩),
  (45, ⟨.struct [(3, 0), (9, 1), (9, 2)], 3, 40, [.int .i64 0, .str [], .str []]⟩),
  (46, ⟨.other, 1, 8, [.lit .nilFunc]⟩),
  (47, ⟨.other, 1, 8, [.lit .nilFunc]⟩),
  (48, ⟨.other, 1, 8, [.lit .nilFunc]⟩),
  (50, ⟨.other, 1, 8, [.lit .nilFunc]⟩),
  (51, ⟨.other, 1, 8, [.lit .nilFunc]⟩),
  (52, ⟨.other, 1, 8, [.lit (.map none)]⟩),
  (53, ⟨.other, 1, 8, [.lit .nilFunc]⟩),
  (54, ⟨.struct [(3, 0), (9, 1)], 2, 24, [.int .i64 0, .str []]⟩),
  (55, ⟨.struct [(3, 0), (9, 1)], 2, 24, [.int .i64 0, .str []]⟩),
  (56, ⟨.other, 1, 8, [.lit (.map none)]⟩),
  (58, ⟨.other, 1, 8, [.lit .nilFunc]⟩),
  (59, ⟨.other, 1, 8, [.lit .nilFunc]⟩),
  (60, ⟨.other, 1, 8, [.lit .nilFunc]⟩),
  (61, ⟨.other, 1, 8, [.lit .nilFunc]⟩),
  (62, ⟨.slice 22, 1, 24, [.nil]⟩),
  (63, ⟨.other, 1, 8, [.lit .nilFunc]⟩),
  (64, ⟨.other, 1, 8, [.lit .nilFunc]⟩),
  (65, ⟨.other, 1, 8, [.lit .nilFunc]⟩),
  (66, ⟨.other, 1, 8, [.lit .nilFunc]⟩),
  (67, ⟨.other, 1, 8, [.lit .nilFunc]⟩),
  (68, ⟨.struct [(4, 0), (4, 1), (4, 2), (4, 3), (4, 4), (3, 5), (3, 6)], 7, 24, [.bool false, .bool false, .bool false, .bool false, .bool false, .int .i64 0, .int .i64 0]⟩),
  (69, ⟨.struct [(4, 0), (4, 1), (4, 2), (4, 3), (4, 4), (3, 5), (3, 6)], 7, 24, [.bool false, .bool false, .bool false, .bool false, .bool false, .int .i64 0, .int .i64 0]⟩),
  (70, ⟨.array 10 69, 70, 240, [.bool false, .bool false, .bool false, .bool false, .bool false, .int .i64 0, .int .i64 0, .bool false, .bool false, .bool false, .bool false, .bool false, .int .i64 0, .int .i64 0, .bool false, .bool false, .bool false, .bool false, .bool false, .int .i64 0, .int .i64 0, .bool false, .bool false, .bool false, .bool false, .bool false, .int .i64 0, .int .i64 0, .bool false, .bool false, .bool false, .bool false, .bool false, .int .i64 0, .int .i64 0, .bool false, .bool false, .bool false, .bool false, .bool false, .int .i64 0, .int .i64 0, .bool false, .bool false, .bool false, .bool false, .bool false, .int .i64 0, .int .i64 0, .bool false, .bool false, .bool false, .bool false, .bool false, .int .i64 0, .int .i64 0, .bool false, .bool false, .bool false, .bool false, .bool false, .int .i64 0, .int .i64 0, .bool false, .bool false, .bool false, .bool false, .bool false, .int .i64 0, .int .i64 0]⟩),
  (71, ⟨.other, 1, 8, [.lit .nilFunc]⟩),
  (72, ⟨.other, 1, 8, [.lit .nilFunc]⟩),
  (73, ⟨.other, 1, 8, [.lit .nilFunc]⟩),
  (75, ⟨.other, 1, 8, [.lit .nilFunc]⟩),
  (76, ⟨.other, 1, 8, [.lit .nilFunc]⟩),
  (77, ⟨.other, 1, 8, [.lit .nilFunc]⟩),
  (78, ⟨.other, 1, 8, [.lit .nilFunc]⟩),
  (79, ⟨.other, 1, 8, [.lit .nilFunc]⟩),
  (80, ⟨.slice 3, 1, 24, [.nil]⟩),
  (81, ⟨.other, 1, 8, [.lit .nilFunc]⟩),
  (82, ⟨.other, 1, 8, [.lit .nilFunc]⟩),
  (83, ⟨.other, 1, 8, [.lit .nilFunc]⟩),
  (84, ⟨.pointer 3, 1, 8, [.lit (.pointer none)]⟩),
  (85, ⟨.other, 1, 8, [.lit .nilFunc]⟩),
  (86, ⟨.other, 1, 8, [.lit .nilFunc]⟩),
  (87, ⟨.other, 1, 8, [.lit .nilFunc]⟩),
  (88, ⟨.other, 1, 8, [.lit .nilFunc]⟩),
  (89, ⟨.other, 1, 8, [.lit .nilFunc]⟩),
  (90, ⟨.slice 92, 1, 24, [.nil]⟩),
  (91, ⟨.struct [(33, 0), (3, 5), (90, 6)], 7, 96, [.int .i64 0, .str [], .int .i64 0, .int .i64 0, .nil, .int .i64 0, .nil]⟩),
  (92, ⟨.struct [(33, 0), (3, 5), (90, 6)], 7, 96, [.int .i64 0, .str [], .int .i64 0, .int .i64 0, .nil, .int .i64 0, .nil]⟩),
  (93, ⟨.other, 1, 8, [.lit .nilFunc]⟩),
  (94, ⟨.other, 1, 8, [.lit .nilFunc]⟩),
  (95, ⟨.other, 1, 8, [.lit .nilFunc]⟩),
  (96, ⟨.other, 1, 8, [.lit .nilFunc]⟩),
  (97, ⟨.other, 1, 8, [.lit .nilFunc]⟩),
  (99, ⟨.other, 1, 8, [.lit .nilFunc]⟩),
  (100, ⟨.other, 1, 8, [.lit .nilFunc]⟩),
  (101, ⟨.struct [(3, 0), (3, 1), (3, 2), (4, 3)], 4, 32, [.int .i64 0, .int .i64 0, .int .i64 0, .bool false]⟩),
  (102, ⟨.struct [(3, 0), (3, 1), (3, 2), (4, 3)], 4, 32, [.int .i64 0, .int .i64 0, .int .i64 0, .bool false]⟩),
  (103, ⟨.array 8 102, 32, 256, [.int .i64 0, .int .i64 0, .int .i64 0, .bool false, .int .i64 0, .int .i64 0, .int .i64 0, .bool false, .int .i64 0, .int .i64 0, .int .i64 0, .bool false, .int .i64 0, .int .i64 0, .int .i64 0, .bool false, .int .i64 0, .int .i64 0, .int .i64 0, .bool false, .int .i64 0, .int .i64 0, .int .i64 0, .bool false, .int .i64 0, .int .i64 0, .int .i64 0, .bool false, .int .i64 0, .int .i64 0, .int .i64 0, .bool false]⟩),
  (104, ⟨.other, 1, 8, [.lit .nilFunc]⟩),
  (105, ⟨.other, 1, 8, [.lit .nilFunc]⟩),
  (106, ⟨.other, 1, 8, [.lit .nilFunc]⟩),
  (107, ⟨.other, 1, 8, [.lit .nilFunc]⟩),
  (108, ⟨.other, 1, 8, [.lit .nilFunc]⟩),
  (109, ⟨.other, 1, 8, [.lit .nilFunc]⟩),
  (110, ⟨.int .u64, 1, 8, [.int .u64 0]⟩),
  (111, ⟨.other, 1, 8, [.lit .nilFunc]⟩),
  (112, ⟨.other, 1, 8, [.lit .nilFunc]⟩),
  (113, ⟨.other, 1, 8, [.lit .nilFunc]⟩),
  (114, ⟨.slice 5, 1, 24, [.nil]⟩),
  (115, ⟨.other, 1, 8, [.lit .nilFunc]⟩),
  (116, ⟨.int .i64, 1, 8, [.int .i64 0]⟩),
  (118, ⟨.other, 1, 8, [.lit .nilFunc]⟩),
  (119, ⟨.other, 1, 8, [.lit .nilFunc]⟩),
  (120, ⟨.other, 1, 8, [.lit .nilFunc]⟩),
  (122, ⟨.other, 1, 8, [.lit .nilFunc]⟩),
  (123, ⟨.other, 1, 8, [.lit .nilFunc]⟩),
  (124, ⟨.int .u32, 1, 4, [.int .u32 0]⟩),
  (125, ⟨.other, 1, 8, [.lit .nilFunc]⟩),
  (126, ⟨.int .u64, 1, 8, [.int .u64 0]⟩),
  (127, ⟨.other, 1, 8, [.lit .nilFunc]⟩),
  (128, ⟨.other, 1, 8, [.lit .nilFunc]⟩),
  (129, ⟨.int .u64, 1, 8, [.int .u64 0]⟩),
  (130, ⟨.other, 1, 8, [.lit .nilFunc]⟩),
  (131, ⟨.other, 1, 8, [.lit .nilFunc]⟩),
  (132, ⟨.other, 1, 8, [.lit .nilFunc]⟩),
  (133, ⟨.other, 1, 8, [.lit .nilFunc]⟩),
  (135, ⟨.other, 1, 8, [.lit .nilFunc]⟩),
  (136, ⟨.pointer 129, 1, 8, [.lit (.pointer none)]⟩),
  (138, ⟨.other, 1, 8, [.lit .nilFunc]⟩),
  (139, ⟨.other, 1, 8, [.lit .nilFunc]⟩),
  (140, ⟨.struct [(17, 0), (17, 1), (17, 2), (9, 3)], 4, 40, [.lit (.pointer none), .lit (.pointer none), .lit (.pointer none), .str []]⟩),
  (141, ⟨.struct [(17, 0), (17, 1), (17, 2), (9, 3)], 4, 40, [.lit (.pointer none), .lit (.pointer none), .lit (.pointer none), .str []]⟩),
  (142, ⟨.array 0 16, 0, 0, []⟩),
  (143, ⟨.struct [(142, 0)], 0, 0, []⟩),
  (144, ⟨.struct [(142, 0)], 0, 0, []⟩),
  (145, ⟨.other, 1, 8, [.lit .nilFunc]⟩),
  (146, ⟨.int .u8, 1, 1, [.int .u8 0]⟩),
  (147, ⟨.int .u8, 1, 1, [.int .u8 0]⟩),
  (148, ⟨.other, 1, 8, [.lit .nilFunc]⟩),
  (149, ⟨.pointer 5, 1, 8, [.lit (.pointer none)]⟩),
  (150, ⟨.int .i32, 1, 4, [.int .i32 0]⟩),
  (151, ⟨.int .i32, 1, 4, [.int .i32 0]⟩),
  (152, ⟨.struct [(12, 0), (12, 1), (124, 2), (146, 3), (5, 4), (5, 5), (147, 6), (148, 7), (149, 8), (150, 9), (151, 10)], 11, 48, [.int .u64 0, .int .u64 0, .int .u32 0, .int .u8 0, .int .u8 0, .int .u8 0, .int .u8 0, .lit .nilFunc, .lit (.pointer none), .int .i32 0, .int .i32 0]⟩),
  (153, ⟨.struct [(12, 0), (12, 1), (124, 2), (146, 3), (5, 4), (5, 5), (147, 6), (148, 7), (149, 8), (150, 9), (151, 10)], 11, 48, [.int .u64 0, .int .u64 0, .int .u32 0, .int .u8 0, .int .u8 0, .int .u8 0, .int .u8 0, .lit .nilFunc, .lit (.pointer none), .int .i32 0, .int .i32 0]⟩),
  (154, ⟨.other, 1, 8, [.lit (.pointer none)]⟩)]
def ty : TypeId → Option TI := getT tab
theorem hty : TyOK Tryd.prog ty := tyOK_of ⟨T1, T2, T3, T4, T5, T6, T7, T8, T9, T10, T11, T12, T13, T14, T15, T16, T17, T18, T19, T20, T21, T22, T23, T24, T25, T27, T28, T29, T30, T31, T32, T33, T34, T35, T36, T37, T39, T40, T41, T42, T43, T44, T45, T46, T47, T48, T50, T51, T52, T53, T54, T55, T56, T58, T59, T60, T61, T62, T63, T64, T65, T66, T67, T68, T69, T70, T71, T72, T73, T75, T76, T77, T78, T79, T80, T81, T82, T83, T84, T85, T86, T87, T88, T89, T90, T91, T92, T93, T94, T95, T96, T97, T99, T100, T101, T102, T103, T104, T105, T106, T107, T108, T109, T110, T111, T112, T113, T114, T115, T116, T118, T119, T120, T122, T123, T124, T125, T126, T127, T128, T129, T130, T131, T132, T133, T135, T136, T138, T139, T140, T141, T142, T143, T144, T145, T146, T147, T148, T149, T150, T151, T152, T153, T154, trivial⟩
end Go.Proofs.YtnemengadjimcaaDoor
