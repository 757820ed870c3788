/-
  The types of the program in short: for each its shape, its cells, its bytes and its zero value.
  Conditions: none.
-/
import Derived.Test.YtdjfkmkdkclahaaGreatDoorWSs
import Derived.Test.YtdjfkmkdkclahaaGreatDoorProg
import Derived.KernelRfl
set_option linter.unusedSectionVars false
set_option linter.unusedSimpArgs false
set_option linter.unusedVariables false
namespace Go.Proofs.YtdjfkmkdkclahaaGreatDoor
open Go.Proofs
set_option maxRecDepth 100000
theorem T1:cY Tryz.prog 1=some ⟨.other,1,8,[.lit .nilFunc]⟩:=by kernel_rfl
theorem T2:cY Tryz.prog 2=some ⟨.int .i64,1,8,[.int .i64 0]⟩:=by kernel_rfl
theorem T3:cY Tryz.prog 3=some ⟨.int .i64,1,8,[.int .i64 0]⟩:=by kernel_rfl
theorem T4:cY Tryz.prog 4=some ⟨.bool,1,1,[.bool false]⟩:=by kernel_rfl
theorem T5:cY Tryz.prog 5=some ⟨.int .u8,1,1,[.int .u8 0]⟩:=by kernel_rfl
theorem T9:cY Tryz.prog 9=some ⟨.string,1,16,[.str []]⟩:=by kernel_rfl
theorem T20:cY Tryz.prog 20=some ⟨.other,1,16,[.lit .nilIface]⟩:=by kernel_rfl
theorem T22:cY Tryz.prog 22=some ⟨.slice 42,1,24,[.nil]⟩:=by kernel_rfl
theorem T24:cY Tryz.prog 24=some ⟨.struct [(9,0),(3,1),(22,2)],3,48,[.str [], .int .i64 0, .nil]⟩:=by kernel_rfl
theorem T27:cY Tryz.prog 27=some ⟨.int .i64,1,8,[.int .i64 0]⟩:=by kernel_rfl
theorem T33:cY Tryz.prog 33=some ⟨.slice 60,1,24,[.nil]⟩:=by kernel_rfl
theorem T35:cY Tryz.prog 35=some ⟨.struct [(33,0)],1,24,[.nil]⟩:=by kernel_rfl
theorem T42:cY Tryz.prog 42=some ⟨.struct [(3,0),(35,1)],2,32,[.int .i64 0, .nil]⟩:=by kernel_rfl
theorem T43:cY Tryz.prog 43=some ⟨.slice 5,1,24,[.nil]⟩:=by kernel_rfl
theorem T51:cY Tryz.prog 51=some ⟨.slice 35,1,24,[.nil]⟩:=by kernel_rfl
theorem T54:cY Tryz.prog 54=some ⟨.slice 9,1,24,[.nil]⟩:=by kernel_rfl
theorem T56:cY Tryz.prog 56=some ⟨.struct [(54,0),(51,1)],2,48,[.nil, .nil]⟩:=by kernel_rfl
theorem T57:cY Tryz.prog 57=some ⟨.array 4 5,4,4,[.int .u8 0, .int .u8 0, .int .u8 0, .int .u8 0]⟩:=by kernel_rfl
theorem T60:cY Tryz.prog 60=some ⟨.struct [(3,0),(9,1),(9,2),(9,3),(3,4),(3,5)],6,72,[.int .i64 0, .str [], .str [], .str [], .int .i64 0, .int .i64 0]⟩:=by kernel_rfl
theorem T68:cY Tryz.prog 68=some ⟨.other,1,8,[.lit .nilFunc]⟩:=by kernel_rfl
theorem T77:cY Tryz.prog 77=some ⟨.other,1,8,[.lit .nilFunc]⟩:=by kernel_rfl
theorem T81:cY Tryz.prog 81=some ⟨.struct [(27,0)],1,8,[.int .i64 0]⟩:=by kernel_rfl
theorem T83:cY Tryz.prog 83=some ⟨.pointer 85,1,8,[.lit (.pointer none)]⟩:=by kernel_rfl
theorem T85:cY Tryz.prog 85=some ⟨.struct [(43,0)],1,24,[.nil]⟩:=by kernel_rfl
theorem T92:cY Tryz.prog 92=some ⟨.slice 110,1,24,[.nil]⟩:=by kernel_rfl
theorem T96:cY Tryz.prog 96=some ⟨.other,1,8,[.lit .nilFunc]⟩:=by kernel_rfl
theorem T97:cY Tryz.prog 97=some ⟨.array 2 9,2,32,[.str [], .str []]⟩:=by kernel_rfl
theorem aR4:cY Tryz.prog 104=some ⟨.other,1,8,[.lit .nilFunc]⟩:=by kernel_rfl
theorem aR3:cY Tryz.prog 106=some ⟨.slice 108,1,24,[.nil]⟩:=by kernel_rfl
theorem aR2:cY Tryz.prog 108=some ⟨.struct [(3,0),(9,1),(3,2),(3,3),(106,4)],5,64,[.int .i64 0, .str [], .int .i64 0, .int .i64 0, .nil]⟩:=by kernel_rfl
theorem aR1:cY Tryz.prog 110=some ⟨.struct [(3,0),(4,1),(108,2),(108,7),(54,12),(9,13),(9,14),(9,15)],16,216,[.int .i64 0, .bool false, .int .i64 0, .str [], .int .i64 0, .int .i64 0, .nil, .int .i64 0, .str [], .int .i64 0, .int .i64 0, .nil, .nil, .str [], .str [], .str []]⟩:=by kernel_rfl
theorem aR0:cY Tryz.prog 115=some ⟨.struct [(43,0)],1,24,[.nil]⟩:=by kernel_rfl
theorem aQz:cY Tryz.prog 117=some ⟨.int .u64,1,8,[.int .u64 0]⟩:=by kernel_rfl
theorem aQy:cY Tryz.prog 121=some ⟨.int .u64,1,8,[.int .u64 0]⟩:=by kernel_rfl
theorem aQx:cY Tryz.prog 130=some ⟨.struct [(4,0),(4,1)],2,2,[.bool false, .bool false]⟩:=by kernel_rfl
theorem aQw:cY Tryz.prog 131=some ⟨.array 4 130,8,8,[.bool false, .bool false, .bool false, .bool false, .bool false, .bool false, .bool false, .bool false]⟩:=by kernel_rfl
theorem aQv:cY Tryz.prog 138=some ⟨.other,1,8,[.lit (.map none)]⟩:=by kernel_rfl
theorem aQu:cY Tryz.prog 149=some ⟨.slice 151,1,24,[.nil]⟩:=by kernel_rfl
theorem aQt:cY Tryz.prog 151=some ⟨.slice 3,1,24,[.nil]⟩:=by kernel_rfl
theorem aQs:cY Tryz.prog 154=some ⟨.pointer 115,1,8,[.lit (.pointer none)]⟩:=by kernel_rfl
theorem aQr:cY Tryz.prog 155=some ⟨.other,1,8,[.lit .nilFunc]⟩:=by kernel_rfl
theorem aQq:cY Tryz.prog 158=some ⟨.other,1,8,[.lit .nilFunc]⟩:=by kernel_rfl
theorem aQp:cY Tryz.prog 160=some ⟨.pointer 194,1,8,[.lit (.pointer none)]⟩:=by kernel_rfl
theorem aQo:cY Tryz.prog 169=some ⟨.other,1,8,[.lit (.map none)]⟩:=by kernel_rfl
theorem aQn:cY Tryz.prog 170=some ⟨.other,1,8,[.lit (.map none)]⟩:=by kernel_rfl
theorem aQm:cY Tryz.prog 173=some ⟨.int .i64,1,8,[.int .i64 0]⟩:=by kernel_rfl
theorem aQl:cY Tryz.prog 180=some ⟨.int .u32,1,4,[.int .u32 0]⟩:=by kernel_rfl
theorem aQk:cY Tryz.prog 185=some ⟨.slice 4,1,24,[.nil]⟩:=by kernel_rfl
theorem aQj:cY Tryz.prog 188=some ⟨.other,1,8,[.lit .nilFunc]⟩:=by kernel_rfl
theorem aQi:cY Tryz.prog 194=some ⟨.struct [(43,0)],1,24,[.nil]⟩:=by kernel_rfl
theorem aQh:cY Tryz.prog 196=some ⟨.struct [],0,0,[]⟩:=by kernel_rfl
theorem aQg:cY Tryz.prog 198=some ⟨.other,1,8,[.lit .nilFunc]⟩:=by kernel_rfl
theorem aQf:cY Tryz.prog 200=some ⟨.other,1,8,[.lit .nilFunc]⟩:=by kernel_rfl
theorem aQe:cY Tryz.prog 202=some ⟨.pointer 3,1,8,[.lit (.pointer none)]⟩:=by kernel_rfl
theorem aQd:cY Tryz.prog 207=some ⟨.int .u64,1,8,[.int .u64 0]⟩:=by kernel_rfl
theorem aQc:cY Tryz.prog 219=some ⟨.other,1,8,[.lit .nilFunc]⟩:=by kernel_rfl
theorem aQb:cY Tryz.prog 226=some ⟨.pointer 207,1,8,[.lit (.pointer none)]⟩:=by kernel_rfl
theorem aQa:cY Tryz.prog 231=some ⟨.array 24 5,24,24,[.int .u8 0, .int .u8 0, .int .u8 0, .int .u8 0, .int .u8 0, .int .u8 0, .int .u8 0, .int .u8 0, .int .u8 0, .int .u8 0, .int .u8 0, .int .u8 0, .int .u8 0, .int .u8 0, .int .u8 0, .int .u8 0, .int .u8 0, .int .u8 0, .int .u8 0, .int .u8 0, .int .u8 0, .int .u8 0, .int .u8 0, .int .u8 0]⟩:=by kernel_rfl
theorem aQ9:cY Tryz.prog 241=some ⟨.array 65 5,65,65,List.replicate 65 (.int .u8 0)⟩:=by kernel_rfl
theorem aQ8:cY Tryz.prog 246=some ⟨.array 64 5,64,64,List.replicate 64 (.int .u8 0)⟩:=by kernel_rfl
def tab : List (Nat × TI) := [(1, ⟨.other, 1, 8, [.lit .nilFunc]⟩),
 (2,⟨.int .i64,1,8,[.int .i64 0]⟩),
 (3,⟨.int .i64,1,8,[.int .i64 0]⟩),
 (4,⟨.bool,1,1,[.bool false]⟩),
 (5,⟨.int .u8,1,1,[.int .u8 0]⟩),
 (9,⟨.string,1,16,[.str []]⟩),
 (20,⟨.other,1,16,[.lit .nilIface]⟩),
 (22,⟨.slice 42,1,24,[.nil]⟩),
 (24,⟨.struct [(9,0),(3,1),(22,2)],3,48,[.str [], .int .i64 0, .nil]⟩),
 (27,⟨.int .i64,1,8,[.int .i64 0]⟩),
 (33,⟨.slice 60,1,24,[.nil]⟩),
 (35,⟨.struct [(33,0)],1,24,[.nil]⟩),
 (42,⟨.struct [(3,0),(35,1)],2,32,[.int .i64 0, .nil]⟩),
 (43,⟨.slice 5,1,24,[.nil]⟩),
 (51,⟨.slice 35,1,24,[.nil]⟩),
 (54,⟨.slice 9,1,24,[.nil]⟩),
 (56,⟨.struct [(54,0),(51,1)],2,48,[.nil, .nil]⟩),
 (57,⟨.array 4 5,4,4,[.int .u8 0, .int .u8 0, .int .u8 0, .int .u8 0]⟩),
 (60,⟨.struct [(3,0),(9,1),(9,2),(9,3),(3,4),(3,5)],6,72,[.int .i64 0, .str [], .str [], .str [], .int .i64 0, .int .i64 0]⟩),
 (68,⟨.other,1,8,[.lit .nilFunc]⟩),
 (77,⟨.other,1,8,[.lit .nilFunc]⟩),
 (81,⟨.struct [(27,0)],1,8,[.int .i64 0]⟩),
 (83,⟨.pointer 85,1,8,[.lit (.pointer none)]⟩),
 (85,⟨.struct [(43,0)],1,24,[.nil]⟩),
 (92,⟨.slice 110,1,24,[.nil]⟩),
 (96,⟨.other,1,8,[.lit .nilFunc]⟩),
 (97,⟨.array 2 9,2,32,[.str [], .str []]⟩),
 (104,⟨.other,1,8,[.lit .nilFunc]⟩),
 (106,⟨.slice 108,1,24,[.nil]⟩),
 (108,⟨.struct [(3,0),(9,1),(3,2),(3,3),(106,4)],5,64,[.int .i64 0, .str [], .int .i64 0, .int .i64 0, .nil]⟩),
 (110,⟨.struct [(3,0),(4,1),(108,2),(108,7),(54,12),(9,13),(9,14),(9,15)],16,216,[.int .i64 0, .bool false, .int .i64 0, .str [], .int .i64 0, .int .i64 0, .nil, .int .i64 0, .str [], .int .i64 0, .int .i64 0, .nil, .nil, .str [], .str [], .str []]⟩),
 (115,⟨.struct [(43,0)],1,24,[.nil]⟩),
 (117,⟨.int .u64,1,8,[.int .u64 0]⟩),
 (121,⟨.int .u64,1,8,[.int .u64 0]⟩),
 (130,⟨.struct [(4,0),(4,1)],2,2,[.bool false, .bool false]⟩),
 (131,⟨.array 4 130,8,8,[.bool false, .bool false, .bool false, .bool false, .bool false, .bool false, .bool false, .bool false]⟩),
 (138,⟨.other,1,8,[.lit (.map none)]⟩),
 (149,⟨.slice 151,1,24,[.nil]⟩),
 (151,⟨.slice 3,1,24,[.nil]⟩),
 (154,⟨.pointer 115,1,8,[.lit (.pointer none)]⟩),
 (155,⟨.other,1,8,[.lit .nilFunc]⟩),
 (158,⟨.other,1,8,[.lit .nilFunc]⟩),
 (160,⟨.pointer 194,1,8,[.lit (.pointer none)]⟩),
 (169,⟨.other,1,8,[.lit (.map none)]⟩),
 (170,⟨.other,1,8,[.lit (.map none)]⟩),
 (173,⟨.int .i64,1,8,[.int .i64 0]⟩),
 (180,⟨.int .u32,1,4,[.int .u32 0]⟩),
 (185,⟨.slice 4,1,24,[.nil]⟩),
 (188,⟨.other,1,8,[.lit .nilFunc]⟩),
 (194,⟨.struct [(43,0)],1,24,[.nil]⟩),
 (196,⟨.struct [],0,0,[]⟩),
 (198,⟨.other,1,8,[.lit .nilFunc]⟩),
 (200,⟨.other,1,8,[.lit .nilFunc]⟩),
 (202,⟨.pointer 3,1,8,[.lit (.pointer none)]⟩),
 (207,⟨.int .u64,1,8,[.int .u64 0]⟩),
 (219,⟨.other,1,8,[.lit .nilFunc]⟩),
 (226,⟨.pointer 207,1,8,[.lit (.pointer none)]⟩),
 (231,⟨.array 24 5,24,24,[.int .u8 0, .int .u8 0, .int .u8 0, .int .u8 0, .int .u8 0, .int .u8 0, .int .u8 0, .int .u8 0, .int .u8 0, .int .u8 0, .int .u8 0, .int .u8 0, .int .u8 0, .int .u8 0, .int .u8 0, .int .u8 0, .int .u8 0, .int .u8 0, .int .u8 0, .int .u8 0, .int .u8 0, .int .u8 0, .int .u8 0, .int .u8 0]⟩),
 (241,⟨.array 65 5,65,65,List.replicate 65 (.int .u8 0)⟩),
 (246,⟨.array 64 5,64,64,List.replicate 64 (.int .u8 0)⟩)]
def ty:TypeId->Option TI:=aNm tab
theorem hty:cG Tryz.prog ty:=aKm ⟨T1,T2,T3,T4,T5,T9,T20,T22,T24,T27,T33,T35,T42,T43,T51,T54,T56,T57,T60,T68,T77,T81,T83,T85,T92,T96,T97,aR4,aR3,aR2,aR1,aR0,aQz,aQy,aQx,aQw,aQv,aQu,aQt,aQs,aQr,aQq,aQp,aQo,aQn,aQm,aQl,aQk,aQj,aQi,aQh,aQg,aQf,aQe,aQd,aQc,aQb,aQa,aQ9,aQ8,trivial⟩
end Go.Proofs.YtdjfkmkdkclahaaGreatDoor
