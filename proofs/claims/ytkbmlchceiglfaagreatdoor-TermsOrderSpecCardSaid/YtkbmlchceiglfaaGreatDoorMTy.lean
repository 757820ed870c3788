/-
  The types of the program in short: for each its shape, its cells, its bytes and its zero value.
  Conditions: none.
-/
import Derived.Test.YtkbmlchceiglfaaGreatDoorMSs
import Derived.Test.YtkbmlchceiglfaaGreatDoorProg
import Derived.KernelRfl
namespace Go.Proofs.YtkbmlchceiglfaaGreatDoor
set_option linter.unusedSectionVars false
set_option linter.unusedSimpArgs false
set_option linter.unusedVariables false
open Go.Proofs
set_option maxRecDepth 100000

theorem T1 : tiOf Tryz.prog 1 = some ⟨.other, 1, 8, [.lit .nilFunc]⟩ := by kernel_rfl
theorem T2 : tiOf Tryz.prog 2 = some ⟨.int .i64, 1, 8, [.int .i64 0]⟩ := by kernel_rfl
theorem T3 : tiOf Tryz.prog 3 = some ⟨.int .i64, 1, 8, [.int .i64 0]⟩ := by kernel_rfl
theorem T4 : tiOf Tryz.prog 4 = some ⟨.bool, 1, 1, [.bool false]⟩ := by kernel_rfl
theorem T5 : tiOf Tryz.prog 5 = some ⟨.int .u8, 1, 1, [.int .u8 0]⟩ := by kernel_rfl
theorem T6 : tiOf Tryz.prog 6 = some ⟨.int .u8, 1, 1, [.int .u8 0]⟩ := by kernel_rfl
theorem T7 : tiOf Tryz.prog 7 = some ⟨.struct [(2, 0), (3, 1), (4, 2), (6, 3)], 4, 24, [.int .i64 0, .int .i64 0, .bool false, .int .u8 0]⟩ := by kernel_rfl
theorem T8 : tiOf Tryz.prog 8 = some ⟨.struct [(2, 0), (3, 1), (4, 2), (6, 3)], 4, 24, [.int .i64 0, .int .i64 0, .bool false, .int .u8 0]⟩ := by kernel_rfl
theorem T9 : tiOf Tryz.prog 9 = some ⟨.string, 1, 16, [.str []]⟩ := by kernel_rfl
theorem T10 : tiOf Tryz.prog 10 = some ⟨.string, 1, 16, [.str []]⟩ := by kernel_rfl
theorem T11 : tiOf Tryz.prog 11 = some ⟨.string, 1, 16, [.str []]⟩ := by kernel_rfl
theorem T12 : tiOf Tryz.prog 12 = some ⟨.int .u64, 1, 8, [.int .u64 0]⟩ := by kernel_rfl
theorem T13 : tiOf Tryz.prog 13 = some ⟨.struct [(9, 0), (12, 1)], 2, 24, [.str [], .int .u64 0]⟩ := by kernel_rfl
theorem T14 : tiOf Tryz.prog 14 = some ⟨.struct [(9, 0), (12, 1)], 2, 24, [.str [], .int .u64 0]⟩ := by kernel_rfl
theorem T15 : tiOf Tryz.prog 15 = some ⟨.pointer 152, 1, 8, [.lit (.pointer none)]⟩ := by kernel_rfl
theorem T16 : tiOf Tryz.prog 16 = some ⟨.pointer 155, 1, 8, [.lit (.pointer none)]⟩ := by kernel_rfl
theorem T17 : tiOf Tryz.prog 17 = some ⟨.pointer 164, 1, 8, [.lit (.pointer none)]⟩ := by kernel_rfl
theorem T18 : tiOf Tryz.prog 18 = some ⟨.struct [(17, 0)], 1, 8, [.lit (.pointer none)]⟩ := by kernel_rfl
theorem T19 : tiOf Tryz.prog 19 = some ⟨.struct [(17, 0)], 1, 8, [.lit (.pointer none)]⟩ := by kernel_rfl
theorem T20 : tiOf Tryz.prog 20 = some ⟨.other, 1, 16, [.lit .nilIface]⟩ := by kernel_rfl
theorem T21 : tiOf Tryz.prog 21 = some ⟨.int .i32, 1, 4, [.int .i32 0]⟩ := by kernel_rfl
theorem T22 : tiOf Tryz.prog 22 = some ⟨.slice 24, 1, 24, [.nil]⟩ := by kernel_rfl
theorem T23 : tiOf Tryz.prog 23 = some ⟨.struct [(3, 0), (9, 1), (3, 2), (3, 3), (22, 4)], 5, 64, [.int .i64 0, .str [], .int .i64 0, .int .i64 0, .nil]⟩ := by kernel_rfl
theorem T24 : tiOf Tryz.prog 24 = some ⟨.struct [(3, 0), (9, 1), (3, 2), (3, 3), (22, 4)], 5, 64, [.int .i64 0, .str [], .int .i64 0, .int .i64 0, .nil]⟩ := by kernel_rfl
theorem T25 : tiOf Tryz.prog 25 = some ⟨.slice 32, 1, 24, [.nil]⟩ := by kernel_rfl
theorem T26 : tiOf Tryz.prog 26 = some ⟨.other, 1, 8, [.lit .nilFunc]⟩ := by kernel_rfl
theorem T27 : tiOf Tryz.prog 27 = some ⟨.other, 1, 8, [.lit .nilFunc]⟩ := by kernel_rfl
theorem T28 : tiOf Tryz.prog 28 = some ⟨.other, 1, 8, [.lit .nilFunc]⟩ := by kernel_rfl
theorem T29 : tiOf Tryz.prog 29 = some ⟨.other, 1, 8, [.lit .nilFunc]⟩ := by kernel_rfl
theorem T30 : tiOf Tryz.prog 30 = some ⟨.slice 9, 1, 24, [.nil]⟩ := by kernel_rfl
theorem T31 : tiOf Tryz.prog 31 = some ⟨.struct [(3, 0), (4, 1), (24, 2), (24, 7), (30, 12), (9, 13), (9, 14), (9, 15)], 16, 216, [.int .i64 0, .bool false, .int .i64 0, .str [], .int .i64 0, .int .i64 0, .nil, .int .i64 0, .str [], .int .i64 0, .int .i64 0, .nil, .nil, .str [], .str [], .str []]⟩ := by kernel_rfl
theorem T32 : tiOf Tryz.prog 32 = some ⟨.struct [(3, 0), (4, 1), (24, 2), (24, 7), (30, 12), (9, 13), (9, 14), (9, 15)], 16, 216, [.int .i64 0, .bool false, .int .i64 0, .str [], .int .i64 0, .int .i64 0, .nil, .int .i64 0, .str [], .int .i64 0, .int .i64 0, .nil, .nil, .str [], .str [], .str []]⟩ := by kernel_rfl
theorem T33 : tiOf Tryz.prog 33 = some ⟨.struct [(30, 0), (30, 1), (30, 2), (30, 3)], 4, 96, [.nil, .nil, .nil, .nil]⟩ := by kernel_rfl
theorem T34 : tiOf Tryz.prog 34 = some ⟨.struct [(30, 0), (30, 1), (30, 2), (30, 3)], 4, 96, [.nil, .nil, .nil, .nil]⟩ := by kernel_rfl
theorem T35 : tiOf Tryz.prog 35 = some ⟨.int .i64, 1, 8, [.int .i64 0]⟩ := by kernel_rfl
theorem T37 : tiOf Tryz.prog 37 = some ⟨.other, 1, 8, [.lit .nilFunc]⟩ := by kernel_rfl
theorem T38 : tiOf Tryz.prog 38 = some ⟨.other, 1, 8, [.lit .nilFunc]⟩ := by kernel_rfl
theorem T39 : tiOf Tryz.prog 39 = some ⟨.other, 1, 8, [.lit .nilFunc]⟩ := by kernel_rfl
theorem T40 : tiOf Tryz.prog 40 = some ⟨.other, 1, 8, [.lit .nilFunc]⟩ := by kernel_rfl
theorem T41 : tiOf Tryz.prog 41 = some ⟨.int .u64, 1, 8, [.int .u64 0]⟩ := by kernel_rfl
theorem T42 : tiOf Tryz.prog 42 = some ⟨.other, 1, 8, [.lit .nilFunc]⟩ := by kernel_rfl
theorem T44 : tiOf Tryz.prog 44 = some ⟨.other, 1, 8, [.lit .nilFunc]⟩ := by kernel_rfl
theorem T45 : tiOf Tryz.prog 45 = some ⟨.other, 1, 8, [.lit .nilFunc]⟩ := by kernel_rfl
theorem T46 : tiOf Tryz.prog 46 = some ⟨.other, 1, 8, [.lit .nilFunc]⟩ := by kernel_rfl
theorem T47 : tiOf Tryz.prog 47 = some ⟨.other, 1, 8, [.lit .nilFunc]⟩ := by kernel_rfl
theorem T48 : tiOf Tryz.prog 48 = some ⟨.other, 1, 8, [.lit .nilFunc]⟩ := by kernel_rfl
theorem T49 : tiOf Tryz.prog 49 = some ⟨.other, 1, 8, [.lit .nilFunc]⟩ := by kernel_rfl
theorem T50 : tiOf Tryz.prog 50 = some ⟨.other, 1, 8, [.lit .nilFunc]⟩ := by kernel_rfl
theorem T51 : tiOf Tryz.prog 51 = some ⟨.other, 1, 8, [.lit .nilFunc]⟩ := by kernel_rfl
theorem T52 : tiOf Tryz.prog 52 = some ⟨.slice 30, 1, 24, [.nil]⟩ := by kernel_rfl
theorem T53 : tiOf Tryz.prog 53 = some ⟨.other, 1, 8, [.lit .nilFunc]⟩ := by kernel_rfl
theorem T54 : tiOf Tryz.prog 54 = some ⟨.other, 1, 8, [.lit .nilFunc]⟩ := by kernel_rfl
theorem T56 : tiOf Tryz.prog 56 = some ⟨.other, 1, 8, [.lit .nilFunc]⟩ := by kernel_rfl
theorem T57 : tiOf Tryz.prog 57 = some ⟨.other, 1, 8, [.lit .nilFunc]⟩ := by kernel_rfl
theorem T58 : tiOf Tryz.prog 58 = some ⟨.other, 1, 8, [.lit .nilFunc]⟩ := by kernel_rfl
theorem T59 : tiOf Tryz.prog 59 = some ⟨.other, 1, 8, [.lit .nilFunc]⟩ := by kernel_rfl
theorem T60 : tiOf Tryz.prog 60 = some ⟨.other, 1, 8, [.lit .nilFunc]⟩ := by kernel_rfl
theorem T61 : tiOf Tryz.prog 61 = some ⟨.other, 1, 8, [.lit .nilFunc]⟩ := by kernel_rfl
theorem T62 : tiOf Tryz.prog 62 = some ⟨.other, 1, 8, [.lit .nilFunc]⟩ := by kernel_rfl
theorem T63 : tiOf Tryz.prog 63 = some ⟨.other, 1, 8, [.lit .nilFunc]⟩ := by kernel_rfl
theorem T64 : tiOf Tryz.prog 64 = some ⟨.other, 1, 8, [.lit .nilFunc]⟩ := by kernel_rfl
theorem T65 : tiOf Tryz.prog 65 = some ⟨.other, 1, 8, [.lit .nilFunc]⟩ := by kernel_rfl
theorem T66 : tiOf Tryz.prog 66 = some ⟨.other, 1, 8, [.lit .nilFunc]⟩ := by kernel_rfl
theorem T67 : tiOf Tryz.prog 67 = some ⟨.other, 1, 8, [.lit (.map none)]⟩ := by kernel_rfl
theorem T68 : tiOf Tryz.prog 68 = some ⟨.other, 1, 8, [.lit (.map none)]⟩ := by kernel_rfl
theorem T69 : tiOf Tryz.prog 69 = some ⟨.other, 1, 8, [.lit .nilFunc]⟩ := by kernel_rfl
theorem T70 : tiOf Tryz.prog 70 = some ⟨.other, 1, 8, [.lit .nilFunc]⟩ := by kernel_rfl
theorem T71 : tiOf Tryz.prog 71 = some ⟨.other, 1, 8, [.lit .nilFunc]⟩ := by kernel_rfl
theorem T73 : tiOf Tryz.prog 73 = some ⟨.other, 1, 8, [.lit .nilFunc]⟩ := by kernel_rfl
theorem T74 : tiOf Tryz.prog 74 = some ⟨.other, 1, 8, [.lit .nilFunc]⟩ := by kernel_rfl
theorem T75 : tiOf Tryz.prog 75 = some ⟨.other, 1, 8, [.lit .nilFunc]⟩ := by kernel_rfl
theorem T76 : tiOf Tryz.prog 76 = some ⟨.other, 1, 8, [.lit .nilFunc]⟩ := by kernel_rfl
theorem T77 : tiOf Tryz.prog 77 = some ⟨.other, 1, 8, [.lit .nilFunc]⟩ := by kernel_rfl
theorem T78 : tiOf Tryz.prog 78 = some ⟨.other, 1, 8, [.lit .nilFunc]⟩ := by kernel_rfl
theorem T79 : tiOf Tryz.prog 79 = some ⟨.slice 81, 1, 24, [.nil]⟩ := by kernel_rfl
theorem T80 : tiOf Tryz.prog 80 = some ⟨.struct [(24, 0), (3, 5), (79, 6)], 7, 96, [.int .i64 0, .str [], .int .i64 0, .int .i64 0, .nil, .int .i64 0, .nil]⟩ := by kernel_rfl
theorem T81 : tiOf Tryz.prog 81 = some ⟨.struct [(24, 0), (3, 5), (79, 6)], 7, 96, [.int .i64 0, .str [], .int .i64 0, .int .i64 0, .nil, .int .i64 0, .nil]⟩ := by kernel_rfl
theorem T82 : tiOf Tryz.prog 82 = some ⟨.other, 1, 8, [.lit .nilFunc]⟩ := by kernel_rfl
theorem T83 : tiOf Tryz.prog 83 = some ⟨.other, 1, 8, [.lit .nilFunc]⟩ := by kernel_rfl
theorem T84 : tiOf Tryz.prog 84 = some ⟨.other, 1, 8, [.lit .nilFunc]⟩ := by kernel_rfl
theorem T85 : tiOf Tryz.prog 85 = some ⟨.pointer 3, 1, 8, [.lit (.pointer none)]⟩ := by kernel_rfl
theorem T86 : tiOf Tryz.prog 86 = some ⟨.other, 1, 8, [.lit .nilFunc]⟩ := by kernel_rfl
theorem T87 : tiOf Tryz.prog 87 = some ⟨.other, 1, 8, [.lit .nilFunc]⟩ := by kernel_rfl
theorem T88 : tiOf Tryz.prog 88 = some ⟨.struct [(4, 0), (4, 1), (4, 2), (4, 3), (4, 4), (3, 5), (3, 6)], 7, 24, [.bool false, .bool false, .bool false, .bool false, .bool false, .int .i64 0, .int .i64 0]⟩ := by kernel_rfl
theorem T89 : tiOf Tryz.prog 89 = some ⟨.struct [(4, 0), (4, 1), (4, 2), (4, 3), (4, 4), (3, 5), (3, 6)], 7, 24, [.bool false, .bool false, .bool false, .bool false, .bool false, .int .i64 0, .int .i64 0]⟩ := by kernel_rfl
theorem T90 : tiOf Tryz.prog 90 = some ⟨.array 10 89, 70, 240, [.bool false, .bool false, .bool false, .bool false, .bool false, .int .i64 0, .int .i64 0, .bool false, .bool false, .bool false, .bool false, .bool false, .int .i64 0, .int .i64 0, .bool false, .bool false, .bool false, .bool false, .bool false, .int .i64 0, .int .i64 0, .bool false, .bool false, .bool false, .bool false, .bool false, .int .i64 0, .int .i64 0, .bool false, .bool false, .bool false, .bool false, .bool false, .int .i64 0, .int .i64 0, .bool false, .bool false, .bool false, .bool false, .bool false, .int .i64 0, .int .i64 0, .bool false, .bool false, .bool false, .bool false, .bool false, .int .i64 0, .int .i64 0, .bool false, .bool false, .bool false, .bool false, .bool false, .int .i64 0, .int .i64 0, .bool false, .bool false, .bool false, .bool false, .bool false, .int .i64 0, .int .i64 0, .bool false, .bool false, .bool false, .bool false, .bool false, .int .i64 0, .int .i64 0]⟩ := by kernel_rfl
theorem T91 : tiOf Tryz.prog 91 = some ⟨.other, 1, 8, [.lit .nilFunc]⟩ := by kernel_rfl
theorem T92 : tiOf Tryz.prog 92 = some ⟨.slice 3, 1, 24, [.nil]⟩ := by kernel_rfl
theorem T93 : tiOf Tryz.prog 93 = some ⟨.other, 1, 8, [.lit .nilFunc]⟩ := by kernel_rfl
theorem T94 : tiOf Tryz.prog 94 = some ⟨.other, 1, 8, [.lit .nilFunc]⟩ := by kernel_rfl
theorem T95 : tiOf Tryz.prog 95 = some ⟨.other, 1, 8, [.lit .nilFunc]⟩ := by kernel_rfl
theorem T97 : tiOf Tryz.prog 97 = some ⟨.other, 1, 8, [.lit .nilFunc]⟩ := by kernel_rfl
theorem T98 : tiOf Tryz.prog 98 = some ⟨.other, 1, 8, [.lit .nilFunc]⟩ := by kernel_rfl
theorem T99 : tiOf Tryz.prog 99 = some ⟨.other, 1, 8, [.lit .nilFunc]⟩ := by kernel_rfl
theorem T100 : tiOf Tryz.prog 100 = some ⟨.other, 1, 8, [.lit .nilFunc]⟩ := by kernel_rfl
theorem T101 : tiOf Tryz.prog 101 = some ⟨.struct [(3, 0), (3, 1), (3, 2), (4, 3)], 4, 32, [.int .i64 0, .int .i64 0, .int .i64 0, .bool false]⟩ := by kernel_rfl
theorem T102 : tiOf Tryz.prog 102 = some ⟨.struct [(3, 0), (3, 1), (3, 2), (4, 3)], 4, 32, [.int .i64 0, .int .i64 0, .int .i64 0, .bool false]⟩ := by kernel_rfl
theorem T103 : tiOf Tryz.prog 103 = some ⟨.array 8 102, 32, 256, [.int .i64 0, .int .i64 0, .int .i64 0, .bool false, .int .i64 0, .int .i64 0, .int .i64 0, .bool false, .int .i64 0, .int .i64 0, .int .i64 0, .bool false, .int .i64 0, .int .i64 0, .int .i64 0, .bool false, .int .i64 0, .int .i64 0, .int .i64 0, .bool false, .int .i64 0, .int .i64 0, .int .i64 0, .bool false, .int .i64 0, .int .i64 0, .int .i64 0, .bool false, .int .i64 0, .int .i64 0, .int .i64 0, .bool false]⟩ := by kernel_rfl
theorem T105 : tiOf Tryz.prog 105 = some ⟨.other, 1, 8, [.lit .nilFunc]⟩ := by kernel_rfl
theorem T106 : tiOf Tryz.prog 106 = some ⟨.other, 1, 8, [.lit .nilFunc]⟩ := by kernel_rfl
theorem T107 : tiOf Tryz.prog 107 = some ⟨.other, 1, 8, [.lit .nilFunc]⟩ := by kernel_rfl
theorem T108 : tiOf Tryz.prog 108 = some ⟨.other, 1, 8, [.lit .nilFunc]⟩ := by kernel_rfl
theorem T109 : tiOf Tryz.prog 109 = some ⟨.other, 1, 8, [.lit .nilFunc]⟩ := by kernel_rfl
theorem T110 : tiOf Tryz.prog 110 = some ⟨.other, 1, 8, [.lit .nilFunc]⟩ := by kernel_rfl
theorem T111 : tiOf Tryz.prog 111 = some ⟨.other, 1, 8, [.lit .nilFunc]⟩ := by kernel_rfl
theorem T112 : tiOf Tryz.prog 112 = some ⟨.other, 1, 8, [.lit .nilFunc]⟩ := by kernel_rfl
theorem T113 : tiOf Tryz.prog 113 = some ⟨.other, 1, 8, [.lit .nilFunc]⟩ := by kernel_rfl
theorem T114 : tiOf Tryz.prog 114 = some ⟨.slice 5, 1, 24, [.nil]⟩ := by kernel_rfl
theorem T115 : tiOf Tryz.prog 115 = some ⟨.other, 1, 8, [.lit .nilFunc]⟩ := by kernel_rfl
theorem T116 : tiOf Tryz.prog 116 = some ⟨.other, 1, 8, [.lit .nilFunc]⟩ := by kernel_rfl
theorem T117 : tiOf Tryz.prog 117 = some ⟨.int .i64, 1, 8, [.int .i64 0]⟩ := by kernel_rfl
theorem T119 : tiOf Tryz.prog 119 = some ⟨.other, 1, 8, [.lit .nilFunc]⟩ := by kernel_rfl
theorem T120 : tiOf Tryz.prog 120 = some ⟨.other, 1, 8, [.lit .nilFunc]⟩ := by kernel_rfl
theorem T121 : tiOf Tryz.prog 121 = some ⟨.other, 1, 8, [.lit .nilFunc]⟩ := by kernel_rfl
theorem T122 : tiOf Tryz.prog 122 = some ⟨.other, 1, 8, [.lit .nilFunc]⟩ := by kernel_rfl
theorem T124 : tiOf Tryz.prog 124 = some ⟨.other, 1, 8, [.lit .nilFunc]⟩ := by kernel_rfl
theorem T125 : tiOf Tryz.prog 125 = some ⟨.other, 1, 8, [.lit .nilFunc]⟩ := by kernel_rfl
theorem T126 : tiOf Tryz.prog 126 = some ⟨.int .u32, 1, 4, [.int .u32 0]⟩ := by kernel_rfl
theorem T127 : tiOf Tryz.prog 127 = some ⟨.other, 1, 8, [.lit .nilFunc]⟩ := by kernel_rfl
theorem T128 : tiOf Tryz.prog 128 = some ⟨.int .u64, 1, 8, [.int .u64 0]⟩ := by kernel_rfl
theorem T129 : tiOf Tryz.prog 129 = some ⟨.other, 1, 8, [.lit .nilFunc]⟩ := by kernel_rfl
theorem T130 : tiOf Tryz.prog 130 = some ⟨.int .u64, 1, 8, [.int .u64 0]⟩ := by kernel_rfl
theorem T131 : tiOf Tryz.prog 131 = some ⟨.other, 1, 8, [.lit .nilFunc]⟩ := by kernel_rfl
theorem T132 : tiOf Tryz.prog 132 = some ⟨.other, 1, 8, [.lit .nilFunc]⟩ := by kernel_rfl
theorem T133 : tiOf Tryz.prog 133 = some ⟨.other, 1, 8, [.lit .nilFunc]⟩ := by kernel_rfl
theorem T134 : tiOf Tryz.prog 134 = some ⟨.other, 1, 8, [.lit .nilFunc]⟩ := by kernel_rfl
theorem T135 : tiOf Tryz.prog 135 = some ⟨.other, 1, 8, [.lit .nilFunc]⟩ := by kernel_rfl
theorem T136 : tiOf Tryz.prog 136 = some ⟨.other, 1, 8, [.lit .nilFunc]⟩ := by kernel_rfl
theorem T137 : tiOf Tryz.prog 137 = some ⟨.other, 1, 8, [.lit .nilFunc]⟩ := by kernel_rfl
theorem T138 : tiOf Tryz.prog 138 = some ⟨.other, 1, 8, [.lit .nilFunc]⟩ := by kernel_rfl
theorem T139 : tiOf Tryz.prog 139 = some ⟨.other, 1, 8, [.lit .nilFunc]⟩ := by kernel_rfl
theorem T140 : tiOf Tryz.prog 140 = some ⟨.other, 1, 8, [.lit .nilFunc]⟩ := by kernel_rfl
theorem T141 : tiOf Tryz.prog 141 = some ⟨.other, 1, 8, [.lit .nilFunc]⟩ := by kernel_rfl
theorem T142 : tiOf Tryz.prog 142 = some ⟨.pointer 130, 1, 8, [.lit (.pointer none)]⟩ := by kernel_rfl
theorem T144 : tiOf Tryz.prog 144 = some ⟨.other, 1, 8, [.lit .nilFunc]⟩ := by kernel_rfl
theorem T145 : tiOf Tryz.prog 145 = some ⟨.other, 1, 8, [.lit .nilFunc]⟩ := by kernel_rfl
theorem T146 : tiOf Tryz.prog 146 = some ⟨.other, 1, 8, [.lit .nilFunc]⟩ := by kernel_rfl
theorem T148 : tiOf Tryz.prog 148 = some ⟨.other, 1, 8, [.lit .nilFunc]⟩ := by kernel_rfl
theorem T149 : tiOf Tryz.prog 149 = some ⟨.other, 1, 8, [.lit .nilFunc]⟩ := by kernel_rfl
theorem T150 : tiOf Tryz.prog 150 = some ⟨.other, 1, 8, [.lit .nilFunc]⟩ := by kernel_rfl
theorem T151 : tiOf Tryz.prog 151 = some ⟨.struct [(17, 0), (17, 1), (17, 2), (9, 3)], 4, 40, [.lit (.pointer none), .lit (.pointer none), .lit (.pointer none), .str []]⟩ := by kernel_rfl
theorem T152 : tiOf Tryz.prog 152 = some ⟨.struct [(17, 0), (17, 1), (17, 2), (9, 3)], 4, 40, [.lit (.pointer none), .lit (.pointer none), .lit (.pointer none), .str []]⟩ := by kernel_rfl
theorem T153 : tiOf Tryz.prog 153 = some ⟨.array 0 16, 0, 0, []⟩ := by kernel_rfl
theorem T154 : tiOf Tryz.prog 154 = some ⟨.struct [(153, 0)], 0, 0, []⟩ := by kernel_rfl
theorem T155 : tiOf Tryz.prog 155 = some ⟨.struct [(153, 0)], 0, 0, []⟩ := by kernel_rfl
theorem T156 : tiOf Tryz.prog 156 = some ⟨.other, 1, 8, [.lit .nilFunc]⟩ := by kernel_rfl
theorem T157 : tiOf Tryz.prog 157 = some ⟨.int .u8, 1, 1, [.int .u8 0]⟩ := by kernel_rfl
theorem T158 : tiOf Tryz.prog 158 = some ⟨.int .u8, 1, 1, [.int .u8 0]⟩ := by kernel_rfl
theorem T159 : tiOf Tryz.prog 159 = some ⟨.other, 1, 8, [.lit .nilFunc]⟩ := by kernel_rfl
theorem T160 : tiOf Tryz.prog 160 = some ⟨.pointer 5, 1, 8, [.lit (.pointer none)]⟩ := by kernel_rfl
theorem T161 : tiOf Tryz.prog 161 = some ⟨.int .i32, 1, 4, [.int .i32 0]⟩ := by kernel_rfl
theorem T162 : tiOf Tryz.prog 162 = some ⟨.int .i32, 1, 4, [.int .i32 0]⟩ := by kernel_rfl
theorem T163 : tiOf Tryz.prog 163 = some ⟨.struct [(12, 0), (12, 1), (126, 2), (157, 3), (5, 4), (5, 5), (158, 6), (159, 7), (160, 8), (161, 9), (162, 10)], 11, 48, [.int .u64 0, .int .u64 0, .int .u32 0, .int .u8 0, .int .u8 0, .int .u8 0, .int .u8 0, .lit .nilFunc, .lit (.pointer none), .int .i32 0, .int .i32 0]⟩ := by kernel_rfl
theorem T164 : tiOf Tryz.prog 164 = some ⟨.struct [(12, 0), (12, 1), (126, 2), (157, 3), (5, 4), (5, 5), (158, 6), (159, 7), (160, 8), (161, 9), (162, 10)], 11, 48, [.int .u64 0, .int .u64 0, .int .u32 0, .int .u8 0, .int .u8 0, .int .u8 0, .int .u8 0, .lit .nilFunc, .lit (.pointer none), .int .i32 0, .int .i32 0]⟩ := by kernel_rfl
theorem T165 : tiOf Tryz.prog 165 = some ⟨.other, 1, 8, [.lit (.pointer none)]⟩ := by kernel_rfl

def tab : List (Nat × TI) := [(1, ⟨.other, 1, 8, [.lit .nilFunc]⟩),
  (2, ⟨.int .i64, 1, 8, [.int .i64 0]⟩),
  (3, ⟨.int .i64, 1, 8, [.int .i64 0]⟩),
  (4, ⟨.bool, 1, 1, [.bool false]⟩),
  (5, ⟨.int .u8, 1, 1, [.int .u8 0]⟩),
  (6, ⟨.int .u8, 1, 1, [.int .u8 0]⟩),
  (7, ⟨.struct [(2, 0), (3, 1), (4, 2), (6, 3)], 4, 24, [.int .i64 0, .int .i64 0, .bool false, .int .u8 0]⟩),
  (8, ⟨.struct [(2, 0), (3, 1), (4, 2), (6, 3)], 4, 24, [.int .i64 0, .int .i64 0, .bool false, .int .u8 0]⟩),
  (9, ⟨.string, 1, 16, [.str []]⟩),
  (10, ⟨.string, 1, 16, [.str []]⟩),
  (11, ⟨.string, 1, 16, [.str []]⟩),
  (12, ⟨.int .u64, 1, 8, [.int .u64 0]⟩),
  (13, ⟨.struct [(9, 0), (12, 1)], 2, 24, [.str [], .int .u64 0]⟩),
  (14, ⟨.struct [(9, 0), (12, 1)], 2, 24, [.str [], .int .u64 0]⟩),
  (15, ⟨.pointer 152, 1, 8, [.lit (.pointer none)]⟩),
  (16, ⟨.pointer 155, 1, 8, [.lit (.pointer none)]⟩),
  (17, ⟨.pointer 164, 1, 8, [.lit (.pointer none)]⟩),
  (18, ⟨.struct [(17, 0)], 1, 8, [.lit (.pointer none)]⟩),
  (19, ⟨.struct [(17, 0)], 1, 8, [.lit (.pointer none)]⟩),
  (20, ⟨.other, 1, 16, [.lit .nilIface]⟩),
  (21, ⟨.int .i32, 1, 4, [.int .i32 0]⟩),
  (22, ⟨.slice 24, 1, 24, [.nil]⟩),
  (23, ⟨.struct [(3, 0), (9, 1), (3, 2), (3, 3), (22, 4)], 5, 64, [.int .i64 0, .str [], .int .i64 0, .int .i64 0, .nil]⟩),
  (24, ⟨.struct [(3, 0), (9, 1), (3, 2), (3, 3), (22, 4)], 5, 64, [.int .i64 0, .str [], .int .i64 0, .int .i64 0, .nil]⟩),
  (25, ⟨.slice 32, 1, 24, [.nil]⟩),
  (26, ⟨.other, 1, 8, [.lit .nilFunc]⟩),
  (27, ⟨.other, 1, 8, [.lit .nilFunc]⟩),
  (28, ⟨.other, 1, 8, [.lit .nilFunc]⟩),
  (29, ⟨.other, 1, 8, [.lit .nilFunc]⟩),
  (30, ⟨.slice 9, 1, 24, [.nil]⟩),
  (31, ⟨.struct [(3, 0), (4, 1), (24, 2), (24, 7), (30, 12), (9, 13), (9, 14), (9, 15)], 16, 216, [.int .i64 0, .bool false, .int .i64 0, .str [], .int .i64 0, .int .i64 0, .nil, .int .i64 0, .str [], .int .i64 0, .int .i64 0, .nil, .nil, .str [], .str [], .str []]⟩),
  (32, ⟨.struct [(3, 0), (4, 1), (24, 2), (24, 7), (30, 12), (9, 13), (9, 14), (9, 15)], 16, 216, [.int .i64 0, .bool false, .int .i64 0, .str [], .int .i64 0, .int .i64 0, .nil, .int .i64 0, .str [], .int .i64 0, .int .i64 0, .nil, .nil, .str [], .str [], .str []]⟩),
  (33, ⟨.struct [(30, 0), (30, 1), (30, 2), (30, 3)], 4, 96, [.nil, .nil, .nil, .nil]⟩),
  (34, ⟨.struct [(30, 0), (30, 1), (30, 2), (30, 3)], 4, 96, [.nil, .nil, .nil, .nil]⟩),
  (35, ⟨.int .i64, 1, 8, [.int .i64 0]⟩),
  (37, ⟨.other, 1, 8, [.lit .nilFunc]⟩),
  (38, ⟨.other, 1, 8, [.lit .nilFunc]⟩),
  (39, ⟨.other, 1, 8, [.lit .nilFunc]⟩),
  (40, ⟨.other, 1, 8, [.lit .nilFunc]⟩),
  (41, ⟨.int .u64, 1, 8, [.int .u64 0]⟩),
  (42, ⟨.other, 1, 8, [.lit .nilFunc]⟩),
  (44, ⟨.other, 1, 8, [.lit .nilFunc]⟩),
  (45, ⟨.other, 1, 8, [.lit .nilFunc]⟩),
  (46, ⟨.other, 1, 8, [.lit .nilFunc]⟩),
  (47, ⟨.other, 1, 8, [.lit .nilFunc]⟩),
  (48, ⟨.other, 1, 8, [.lit .nilFunc]⟩),
  (49, ⟨.other, 1, 8, [.lit .nilFunc]⟩),
  (50, ⟨.other, 1, 8, [.lit .nilFunc]⟩),
  (51, ⟨.other, 1, 8, [.lit .nilFunc]⟩),
  (52, ⟨.slice 30, 1, 24, [.nil]⟩),
  (53, ⟨.other, 1, 8, [.lit .nilFunc]⟩),
  (54, ⟨.other, 1, 8, [.lit .nilFunc]⟩),
  (56, ⟨.other, 1, 8, [.lit .nilFunc]⟩),
  (57, ⟨.other, 1, 8, [.lit .nilFunc]⟩),
  (58, ⟨.other, 1, 8, [.lit .nilFunc]⟩),
  (59, ⟨.other, 1, 8, [.lit .nilFunc]⟩),
  (60, ⟨.other, 1, 8, [.lit .nilFunc]⟩),
  (61, ⟨.other, 1, 8, [.lit .nilFunc]⟩),
  (62, ⟨.other, 1, 8, [.lit .nilFunc]⟩),
  (63, ⟨.other, 1, 8, [.lit .nilFunc]⟩),
  (64, ⟨.other, 1, 8, [.lit .nilFunc]⟩),
  (65, ⟨.other, 1, 8, [.lit .nilFunc]⟩),
  (66, ⟨.other, 1, 8, [.lit .nilFunc]⟩),
  (67, ⟨.other, 1, 8, [.lit (.map none)]⟩),
  (68, ⟨.other, 1, 8, [.lit (.map none)]⟩),
  (69, ⟨.other, 1, 8, [.lit .nilFunc]⟩),
  (70, ⟨.other, 1, 8, [.lit .nilFunc]⟩),
  (71, ⟨.other, 1, 8, [.lit .nilFunc]⟩),
  (73, ⟨.other, 1, 8, [.lit .nilFunc]⟩),
  (74, ⟨.other, 1, 8, [.lit .nilFunc]⟩),
  (75, ⟨.other, 1, 8, [.lit .nilFunc]⟩),
  (76, ⟨.other, 1, 8, [.lit .nilFunc]⟩),
  (77, ⟨.other, 1, 8, [.lit .nilFunc]⟩),
  (78, ⟨.other, 1, 8, [.lit .nilFunc]⟩),
  (79, ⟨.slice 81, 1, 24, [.nil]⟩),
  (80, ⟨.struct [(24, 0), (3, 5), (79, 6)], 7, 96, [.int .i64 0, .str [], .int .i64 0, .int .i64 0, .nil, .int .i64 0, .nil]⟩),
  (81, ⟨.struct [(24, 0), (3, 5), (79, 6)], 7, 96, [.int .i64 0, .str [], .int .i64 0, .int .i64 0, .nil, .int .i64 0, .nil]⟩),
  (82, ⟨.other, 1, 8, [.lit .nilFunc]⟩),
  (83, ⟨.other, 1, 8, [.lit .nilFunc]⟩),
  (84, ⟨.other, 1, 8, [.lit .nilFunc]⟩),
  (85, ⟨.pointer 3, 1, 8, [.lit (.pointer none)]⟩),
  (86, ⟨.other, 1, 8, [.lit .nilFunc]⟩),
  (87, ⟨.other, 1, 8, [.lit .nilFunc]⟩),
  (88, ⟨.struct [(4, 0), (4, 1), (4, 2), (4, 3), (4, 4), (3, 5), (3, 6)], 7, 24, [.bool false, .bool false, .bool false, .bool false, .bool false, .int .i64 0, .int .i64 0]⟩),
  (89, ⟨.struct [(4, 0), (4, 1), (4, 2), (4, 3), (4, 4), (3, 5), (3, 6)], 7, 24, [.bool false, .bool false, .bool false, .bool false, .bool false, .int .i64 0, .int .i64 0]⟩),
  (90, ⟨.array 10 89, 70, 240, [.bool false, .bool false, .bool false, .bool false, .bool false, .int .i64 0, .int .i64 0, .bool false, .bool false, .bool false, .bool false, .bool false, .int .i64 0, .int .i64 0, .bool false, .bool false, .bool false, .bool false, .bool false, .int .i64 0, .int .i64 0, .bool false, .bool false, .bool false, .bool false, .bool false, .int .i64 0, .int .i64 0, .bool false, .bool false, .bool false, .bool false, .bool false, .int .i64 0, .int .i64 0, .bool false, .bool false, .bool false, .bool false, .bool false, .int .i64 0, .int .i64 0, .bool false, .bool false, .bool false, .bool false, .bool false, .int .i64 0, .int .i64 0, .bool false, .bool false, .bool false, .bool false, .bool false, .int .i64 0, .int .i64 0, .bool false, .bool false, .bool false, .bool false, .bool false, .int .i64 0, .int .i64 0, .bool false, .bool false, .bool false, .bool false, .bool false, .int .i64 0, .int .i64 0]⟩),
  (91, ⟨.other, 1, 8, [.lit .nilFunc]⟩),
  (92, ⟨.slice 3, 1, 24, [.nil]⟩),
  (93, ⟨.other, 1, 8, [.lit .nilFunc]⟩),
  (94, ⟨.other, 1, 8, [.lit .nilFunc]⟩),
  (95, ⟨.other, 1, 8, [.lit .nilFunc]⟩),
  (97, ⟨.other, 1, 8, [.lit .nilFunc]⟩),
  (98, ⟨.other, 1, 8, [.lit .nilFunc]⟩),
  (99, ⟨.other, 1, 8, [.lit .nilFunc]⟩),
  (100, ⟨.other, 1, 8, [.lit .nilFunc]⟩),
  (101, ⟨.struct [(3, 0), (3, 1), (3, 2), (4, 3)], 4, 32, [.int .i64 0, .int .i64 0, .int .i64 0, .bool false]⟩),
  (102, ⟨.struct [(3, 0), (3, 1), (3, 2), (4, 3)], 4, 32, [.int .i64 0, .int .i64 0, .int .i64 0, .bool false]⟩),
  (103, ⟨.array 8 102, 32, 256, [.int .i64 0, .int .i64 0, .int .i64 0, .bool false, .int .i64 0, .int .i64 0, .int .i64 0, .bool false, .int .i64 0, .int .i64 0, .int .i64 0, .bool false, .int .i64 0, .int .i64 0, .int .i64 0, .bool false, .int .i64 0, .int .i64 0, .int .i64 0, .bool false, .int .i64 0, .int .i64 0, .int .i64 0, .bool false, .int .i64 0, .int .i64 0, .int .i64 0, .bool false, .int .i64 0, .int .i64 0, .int .i64 0, .bool false]⟩),
  (105, ⟨.other, 1, 8, [.lit .nilFunc]⟩),
  (106, ⟨.other, 1, 8, [.lit .nilFunc]⟩),
  (107, ⟨.other, 1, 8, [.lit .nilFunc]⟩),
  (108, ⟨.other, 1, 8, [.lit .nilFunc]⟩),
  (109, ⟨.other, 1, 8, [.lit .nilFunc]⟩),
  (110, ⟨.other, 1, 8, [.lit .nilFunc]⟩),
  (111, ⟨.other, 1, 8, [.lit .nilFunc]⟩),
  (112, ⟨.other, 1, 8, [.lit .nilFunc]⟩),
  (113, ⟨.other, 1, 8, [.lit .nilFunc]⟩),
  (114, ⟨.slice 5, 1, 24, [.nil]⟩),
  (115, ⟨.other, 1, 8, [.lit .nilFunc]⟩),
  (116, ⟨.other, 1, 8, [.lit .nilFunc]⟩),
  (117, ⟨.int .i64, 1, 8, [.int .i64 0]⟩),
  (119, ⟨.other, 1, 8, [.lit .nilFunc]⟩),
  (120, ⟨.other, 1, 8, [.lit .nilFunc]⟩),
  (121, ⟨.other, 1, 8, [.lit .nilFunc]⟩),
  (122, ⟨.other, 1, 8, [.lit .nilFunc]⟩),
  (124, ⟨.other, 1, 8, [.lit .nilFunc]⟩),
  (125, ⟨.other, 1, 8, [.lit .nilFunc]⟩),
  (126, ⟨.int .u32, 1, 4, [.int .u32 0]⟩),
  (127, ⟨.other, 1, 8, [.lit .nilFunc]⟩),
  (128, ⟨.int .u64, 1, 8, [.int .u64 0]⟩),
  (129, ⟨.other, 1, 8, [.lit .nilFunc]⟩),
  (130, ⟨.int .u64, 1, 8, [.int .u64 0]⟩),
  (131, ⟨.other, 1, 8, [.lit .nilFunc]⟩),
  (132, ⟨.other, 1, 8, [.lit .nilFunc]⟩),
  (133, ⟨.other, 1, 8, [.lit .nilFunc]⟩),
  (134, ⟨.other, 1, 8, [.lit .nilFunc]⟩),
  (135, ⟨.other, 1, 8, [.lit .nilFunc]⟩),
  (136, ⟨.other, 1, 8, [.lit .nilFunc]⟩),
  (137, ⟨.other, 1, 8, [.lit .nilFunc]⟩),
  (138, ⟨.other, 1, 8, [.lit .nilFunc]⟩),
  (139, ⟨.other, 1, 8, [.lit .nilFunc]⟩),
  (140, ⟨.other, 1, 8, [.lit .nilFunc]⟩),
  (141, ⟨.other, 1, 8, [.lit .nilFunc]⟩),
  (142, ⟨.pointer 130, 1, 8, [.lit (.pointer none)]⟩),
  (144, ⟨.other, 1, 8, [.lit .nilFunc]⟩),
  (145, ⟨.other, 1, 8, [.lit .nilFunc]⟩),
  (146, ⟨.other, 1, 8, [.lit .nilFunc]⟩),
  (148, ⟨.other, 1, 8, [.lit .nilFunc]⟩),
  (149, ⟨.other, 1, 8, [.lit .nilFunc]⟩),
  (150, ⟨.other, 1, 8, [.lit .nilFunc]⟩),
  (151, ⟨.struct [(17, 0), (17, 1), (17, 2), (9, 3)], 4, 40, [.lit (.pointer none), .lit (.pointer none), .lit (.pointer none), .str []]⟩),
  (152, ⟨.struct [(17, 0), (17, 1), (17, 2), (9, 3)], 4, 40, [.lit (.pointer none), .lit (.pointer none), .lit (.pointer none), .str []]⟩),
  (153, ⟨.array 0 16, 0, 0, []⟩),
  (154, ⟨.struct [(153, 0)], 0, 0, []⟩),
  (155, ⟨.struct [(153, 0)], 0, 0, []⟩),
  (156, ⟨.other, 1, 8, [.lit .nilFunc]⟩),
  (157, ⟨.int .u8, 1, 1, [.int .u8 0]⟩),
  (158, ⟨.int .u8, 1, 1, [.int .u8 0]⟩),
  (159, ⟨.other, 1, 8, [.lit .nilFunc]⟩),
  (160, ⟨.pointer 5, 1, 8, [.lit (.pointer none)]⟩),
  (161, ⟨.int .i32, 1, 4, [.int .i32 0]⟩),
  (162, ⟨.int .i32, 1, 4, [.int .i32 0]⟩),
  (163, ⟨.struct [(12, 0), (12, 1), (126, 2), (157, 3), (5, 4), (5, 5), (158, 6), (159, 7), (160, 8), (161, 9), (162, 10)], 11, 48, [.int .u64 0, .int .u64 0, .int .u32 0, .int .u8 0, .int .u8 0, .int .u8 0, .int .u8 0, .lit .nilFunc, .lit (.pointer none), .int .i32 0, .int .i32 0]⟩),
  (164, ⟨.struct [(12, 0), (12, 1), (126, 2), (157, 3), (5, 4), (5, 5), (158, 6), (159, 7), (160, 8), (161, 9), (162, 10)], 11, 48, [.int .u64 0, .int .u64 0, .int .u32 0, .int .u8 0, .int .u8 0, .int .u8 0, .int .u8 0, .lit .nilFunc, .lit (.pointer none), .int .i32 0, .int .i32 0]⟩),
  (165, ⟨.other, 1, 8, [.lit (.pointer none)]⟩)]
def ty : TypeId → Option TI := getT tab
theorem hty : TyOK Tryz.prog ty := tyOK_of ⟨T1, T2, T3, T4, T5, T6, T7, T8, T9, T10, T11, T12, T13, T14, T15, T16, T17, T18, T19, T20, T21, T22, T23, T24, T25, T26, T27, T28, T29, T30, T31, T32, T33, T34, T35, T37, T38, T39, T40, T41, T42, T44, T45, T46, T47, T48, T49, T50, T51, T52, T53, T54, T56, T57, T58, T59, T60, T61, T62, T63, T64, T65, T66, T67, T68, T69, T70, T71, T73, T74, T75, T76, T77, T78, T79, T80, T81, T82, T83, T84, T85, T86, T87, T88, T89, T90, T91, T92, T93, T94, T95, T97, T98, T99, T100, T101, T102, T103, T105, T106, T107, T108, T109, T110, T111, T112, T113, T114, T115, T116, T117, T119, T120, T121, T122, T124, T125, T126, T127, T128, T129, T130, T131, T132, T133, T134, T135, T136, T137, T138, T139, T140, T141, T142, T144, T145, T146, T148, T149, T150, T151, T152, T153, T154, T155, T156, T157, T158, T159, T160, T161, T162, T163, T164, T165, trivial⟩

end Go.Proofs.YtkbmlchceiglfaaGreatDoor
