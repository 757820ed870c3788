/-
  The types of the program in short: for each its shape, its cells, its bytes and its zero value.
  Conditions: none.
-/
import Derived.Test.YtcomlapnibckmaaGreatDoorMSs
import Derived.Test.YtcomlapnibckmaaGreatDoorProg
import Derived.KernelRfl
set_option linter.unusedSectionVars false
set_option linter.unusedSimpArgs false
set_option linter.unusedVariables false
namespace Go.Proofs.YtcomlapnibckmaaGreatDoor
open Go.Proofs
set_option maxRecDepth 100000
theorem T1:cZ Tryz.prog 1=some ⟨.other,1,8,[.lit .nilFunc]⟩:=by kernel_rfl
theorem T3:cZ Tryz.prog 3=some ⟨.int .i64,1,8,[.int .i64 0]⟩:=by kernel_rfl
theorem T4:cZ Tryz.prog 4=some ⟨.bool,1,1,[.bool false]⟩:=by kernel_rfl
theorem T5:cZ Tryz.prog 5=some ⟨.int .u8,1,1,[.int .u8 0]⟩:=by kernel_rfl
theorem T9:cZ Tryz.prog 9=some ⟨.string,1,16,[.str []]⟩:=by kernel_rfl
theorem T20:cZ Tryz.prog 20=some ⟨.other,1,16,[.lit .nilIface]⟩:=by kernel_rfl
theorem T22:cZ Tryz.prog 22=some ⟨.slice 9,1,24,[.nil]⟩:=by kernel_rfl
theorem T23:cZ Tryz.prog 23=some ⟨.slice 84,1,24,[.nil]⟩:=by kernel_rfl
theorem T25:cZ Tryz.prog 25=some ⟨.struct [(22,0),(23,1)],2,48,[.nil, .nil]⟩:=by kernel_rfl
theorem T26:cZ Tryz.prog 26=some ⟨.slice 5,1,24,[.nil]⟩:=by kernel_rfl
theorem T30:cZ Tryz.prog 30=some ⟨.int .i64,1,8,[.int .i64 0]⟩:=by kernel_rfl
theorem T32:cZ Tryz.prog 32=some ⟨.other,1,8,[.lit .nilFunc]⟩:=by kernel_rfl
theorem T37:cZ Tryz.prog 37=some ⟨.slice 3,1,24,[.nil]⟩:=by kernel_rfl
theorem T39:cZ Tryz.prog 39=some ⟨.array 32 5,32,32,[.int .u8 0, .int .u8 0, .int .u8 0, .int .u8 0, .int .u8 0, .int .u8 0, .int .u8 0, .int .u8 0, .int .u8 0, .int .u8 0, .int .u8 0, .int .u8 0, .int .u8 0, .int .u8 0, .int .u8 0, .int .u8 0, .int .u8 0, .int .u8 0, .int .u8 0, .int .u8 0, .int .u8 0, .int .u8 0, .int .u8 0, .int .u8 0, .int .u8 0, .int .u8 0, .int .u8 0, .int .u8 0, .int .u8 0, .int .u8 0, .int .u8 0, .int .u8 0]⟩:=by kernel_rfl
theorem T41:cZ Tryz.prog 41=some ⟨.struct [(3,0),(37,1),(39,2),(9,34)],35,80,[.int .i64 0, .nil, .int .u8 0, .int .u8 0, .int .u8 0, .int .u8 0, .int .u8 0, .int .u8 0, .int .u8 0, .int .u8 0, .int .u8 0, .int .u8 0, .int .u8 0, .int .u8 0, .int .u8 0, .int .u8 0, .int .u8 0, .int .u8 0, .int .u8 0, .int .u8 0, .int .u8 0, .int .u8 0, .int .u8 0, .int .u8 0, .int .u8 0, .int .u8 0, .int .u8 0, .int .u8 0, .int .u8 0, .int .u8 0, .int .u8 0, .int .u8 0, .int .u8 0, .int .u8 0, .str []]⟩:=by kernel_rfl
theorem T42:cZ Tryz.prog 42=some ⟨.other,1,8,[.lit .nilFunc]⟩:=by kernel_rfl
theorem T47:cZ Tryz.prog 47=some ⟨.slice 80,1,24,[.nil]⟩:=by kernel_rfl
theorem T48:cZ Tryz.prog 48=some ⟨.slice 39,1,24,[.nil]⟩:=by kernel_rfl
theorem T50:cZ Tryz.prog 50=some ⟨.struct [(3,0),(48,1),(48,2)],3,56,[.int .i64 0, .nil, .nil]⟩:=by kernel_rfl
theorem T52:cZ Tryz.prog 52=some ⟨.struct [(9,0),(39,1),(47,33),(39,34),(50,66)],69,160,[.str [], .int .u8 0, .int .u8 0, .int .u8 0, .int .u8 0, .int .u8 0, .int .u8 0, .int .u8 0, .int .u8 0, .int .u8 0, .int .u8 0, .int .u8 0, .int .u8 0, .int .u8 0, .int .u8 0, .int .u8 0, .int .u8 0, .int .u8 0, .int .u8 0, .int .u8 0, .int .u8 0, .int .u8 0, .int .u8 0, .int .u8 0, .int .u8 0, .int .u8 0, .int .u8 0, .int .u8 0, .int .u8 0, .int .u8 0, .int .u8 0, .int .u8 0, .int .u8 0, .nil, .int .u8 0, .int .u8 0, .int .u8 0, .int .u8 0, .int .u8 0, .int .u8 0, .int .u8 0, .int .u8 0, .int .u8 0, .int .u8 0, .int .u8 0, .int .u8 0, .int .u8 0, .int .u8 0, .int .u8 0, .int .u8 0, .int .u8 0, .int .u8 0, .int .u8 0, .int .u8 0, .int .u8 0, .int .u8 0, .int .u8 0, .int .u8 0, .int .u8 0, .int .u8 0, .int .u8 0, .int .u8 0, .int .u8 0, .int .u8 0, .int .u8 0, .int .u8 0, .int .i64 0, .nil, .nil]⟩:=by kernel_rfl
theorem T59:cZ Tryz.prog 59=some ⟨.other,1,8,[.lit .nilFunc]⟩:=by kernel_rfl
theorem T63:cZ Tryz.prog 63=some ⟨.int .u64,1,8,[.int .u64 0]⟩:=by kernel_rfl
theorem T76:cZ Tryz.prog 76=some ⟨.slice 78,1,24,[.nil]⟩:=by kernel_rfl
theorem T78:cZ Tryz.prog 78=some ⟨.struct [(3,0),(9,1),(3,2),(3,3),(76,4)],5,64,[.int .i64 0, .str [], .int .i64 0, .int .i64 0, .nil]⟩:=by kernel_rfl
theorem T80:cZ Tryz.prog 80=some ⟨.struct [(3,0),(4,1),(78,2),(78,7),(22,12),(9,13),(9,14),(9,15)],16,216,[.int .i64 0, .bool false, .int .i64 0, .str [], .int .i64 0, .int .i64 0, .nil, .int .i64 0, .str [], .int .i64 0, .int .i64 0, .nil, .nil, .str [], .str [], .str []]⟩:=by kernel_rfl
theorem T82:cZ Tryz.prog 82=some ⟨.slice 86,1,24,[.nil]⟩:=by kernel_rfl
theorem T84:cZ Tryz.prog 84=some ⟨.struct [(82,0)],1,24,[.nil]⟩:=by kernel_rfl
theorem T86:cZ Tryz.prog 86=some ⟨.struct [(3,0),(9,1),(9,2),(9,3),(3,4),(3,5)],6,72,[.int .i64 0, .str [], .str [], .str [], .int .i64 0, .int .i64 0]⟩:=by kernel_rfl
theorem T88:cZ Tryz.prog 88=some ⟨.struct [(26,0)],1,24,[.nil]⟩:=by kernel_rfl
theorem T92:cZ Tryz.prog 92=some ⟨.int .u64,1,8,[.int .u64 0]⟩:=by kernel_rfl
theorem T96:cZ Tryz.prog 96=some ⟨.other,1,8,[.lit .nilFunc]⟩:=by kernel_rfl
theorem T98:cZ Tryz.prog 98=some ⟨.pointer 149,1,8,[.lit (.pointer none)]⟩:=by kernel_rfl
theorem T99:cZ Tryz.prog 99=some ⟨.pointer 101,1,8,[.lit (.pointer none)]⟩:=by kernel_rfl
theorem aJ8:cZ Tryz.prog 101=some ⟨.struct [(26,0),(4,1)],2,32,[.nil, .bool false]⟩:=by kernel_rfl
theorem aJ7:cZ Tryz.prog 109=some ⟨.other,1,8,[.lit .nilFunc]⟩:=by kernel_rfl
theorem aJ6:cZ Tryz.prog 125=some ⟨.other,1,8,[.lit .nilFunc]⟩:=by kernel_rfl
theorem aJ5:cZ Tryz.prog 139=some ⟨.pointer 88,1,8,[.lit (.pointer none)]⟩:=by kernel_rfl
theorem aJ4:cZ Tryz.prog 149=some ⟨.struct [(26,0)],1,24,[.nil]⟩:=by kernel_rfl
theorem aJ3:cZ Tryz.prog 152=some ⟨.struct [],0,0,[]⟩:=by kernel_rfl
theorem aJ2:cZ Tryz.prog 154=some ⟨.other,1,8,[.lit .nilFunc]⟩:=by kernel_rfl
theorem aJ1:cZ Tryz.prog 156=some ⟨.other,1,8,[.lit .nilFunc]⟩:=by kernel_rfl
theorem aJ0:cZ Tryz.prog 161=some ⟨.other,1,8,[.lit .nilFunc]⟩:=by kernel_rfl
theorem aIz:cZ Tryz.prog 169=some ⟨.other,1,8,[.lit .nilFunc]⟩:=by kernel_rfl
theorem aIy:cZ Tryz.prog 180=some ⟨.struct [(4,0),(4,1),(4,2),(4,3),(4,4),(3,5),(3,6)],7,24,[.bool false, .bool false, .bool false, .bool false, .bool false, .int .i64 0, .int .i64 0]⟩:=by kernel_rfl
theorem aIx:cZ Tryz.prog 181=some ⟨.array 10 180,70,240,[.bool false, .bool false, .bool false, .bool false, .bool false, .int .i64 0, .int .i64 0, .bool false, .bool false, .bool false, .bool false, .bool false, .int .i64 0, .int .i64 0, .bool false, .bool false, .bool false, .bool false, .bool false, .int .i64 0, .int .i64 0, .bool false, .bool false, .bool false, .bool false, .bool false, .int .i64 0, .int .i64 0, .bool false, .bool false, .bool false, .bool false, .bool false, .int .i64 0, .int .i64 0, .bool false, .bool false, .bool false, .bool false, .bool false, .int .i64 0, .int .i64 0, .bool false, .bool false, .bool false, .bool false, .bool false, .int .i64 0, .int .i64 0, .bool false, .bool false, .bool false, .bool false, .bool false, .int .i64 0, .int .i64 0, .bool false, .bool false, .bool false, .bool false, .bool false, .int .i64 0, .int .i64 0, .bool false, .bool false, .bool false, .bool false, .bool false, .int .i64 0, .int .i64 0]⟩:=by kernel_rfl
theorem aIw:cZ Tryz.prog 194=some ⟨.other,1,8,[.lit .nilFunc]⟩:=by kernel_rfl
theorem aIv:cZ Tryz.prog 203=some ⟨.other,1,8,[.lit .nilFunc]⟩:=by kernel_rfl
theorem aIu:cZ Tryz.prog 243=some ⟨.array 64 191,64,256,List.replicate 64 (.int .u32 0)⟩:=by kernel_rfl
theorem aIt:cZ Tryz.prog 248=some ⟨.pointer 3,1,8,[.lit (.pointer none)]⟩:=by kernel_rfl
theorem aIs:cZ Tryz.prog 249=some ⟨.other,1,8,[.lit .nilFunc]⟩:=by kernel_rfl
theorem aIr:cZ Tryz.prog 250=some ⟨.other,1,8,[.lit .nilFunc]⟩:=by kernel_rfl
theorem aIq:cZ Tryz.prog 254=some ⟨.other,1,8,[.lit .nilFunc]⟩:=by kernel_rfl
theorem aIp:cZ Tryz.prog 294=some ⟨.struct [(3,0),(3,1),(3,2),(4,3)],4,32,[.int .i64 0, .int .i64 0, .int .i64 0, .bool false]⟩:=by kernel_rfl
theorem aIo:cZ Tryz.prog 295=some ⟨.array 8 294,32,256,[.int .i64 0, .int .i64 0, .int .i64 0, .bool false, .int .i64 0, .int .i64 0, .int .i64 0, .bool false, .int .i64 0, .int .i64 0, .int .i64 0, .bool false, .int .i64 0, .int .i64 0, .int .i64 0, .bool false, .int .i64 0, .int .i64 0, .int .i64 0, .bool false, .int .i64 0, .int .i64 0, .int .i64 0, .bool false, .int .i64 0, .int .i64 0, .int .i64 0, .bool false, .int .i64 0, .int .i64 0, .int .i64 0, .bool false]⟩:=by kernel_rfl
def tab : List (Nat × TI) := [(1, ⟨.other, 1, 8, [.lit .nilFunc]⟩),
 (3,⟨.int .i64,1,8,[.int .i64 0]⟩),
 (4,⟨.bool,1,1,[.bool false]⟩),
 (5,⟨.int .u8,1,1,[.int .u8 0]⟩),
 (9,⟨.string,1,16,[.str []]⟩),
 (20,⟨.other,1,16,[.lit .nilIface]⟩),
 (22,⟨.slice 9,1,24,[.nil]⟩),
 (23,⟨.slice 84,1,24,[.nil]⟩),
 (25,⟨.struct [(22,0),(23,1)],2,48,[.nil, .nil]⟩),
 (26,⟨.slice 5,1,24,[.nil]⟩),
 (30,⟨.int .i64,1,8,[.int .i64 0]⟩),
 (32,⟨.other,1,8,[.lit .nilFunc]⟩),
 (37,⟨.slice 3,1,24,[.nil]⟩),
 (39,⟨.array 32 5,32,32,[.int .u8 0, .int .u8 0, .int .u8 0, .int .u8 0, .int .u8 0, .int .u8 0, .int .u8 0, .int .u8 0, .int .u8 0, .int .u8 0, .int .u8 0, .int .u8 0, .int .u8 0, .int .u8 0, .int .u8 0, .int .u8 0, .int .u8 0, .int .u8 0, .int .u8 0, .int .u8 0, .int .u8 0, .int .u8 0, .int .u8 0, .int .u8 0, .int .u8 0, .int .u8 0, .int .u8 0, .int .u8 0, .int .u8 0, .int .u8 0, .int .u8 0, .int .u8 0]⟩),
 (41,⟨.struct [(3,0),(37,1),(39,2),(9,34)],35,80,[.int .i64 0, .nil, .int .u8 0, .int .u8 0, .int .u8 0, .int .u8 0, .int .u8 0, .int .u8 0, .int .u8 0, .int .u8 0, .int .u8 0, .int .u8 0, .int .u8 0, .int .u8 0, .int .u8 0, .int .u8 0, .int .u8 0, .int .u8 0, .int .u8 0, .int .u8 0, .int .u8 0, .int .u8 0, .int .u8 0, .int .u8 0, .int .u8 0, .int .u8 0, .int .u8 0, .int .u8 0, .int .u8 0, .int .u8 0, .int .u8 0, .int .u8 0, .int .u8 0, .int .u8 0, .str []]⟩),
 (42,⟨.other,1,8,[.lit .nilFunc]⟩),
 (47,⟨.slice 80,1,24,[.nil]⟩),
 (48,⟨.slice 39,1,24,[.nil]⟩),
 (50,⟨.struct [(3,0),(48,1),(48,2)],3,56,[.int .i64 0, .nil, .nil]⟩),
 (52,⟨.struct [(9,0),(39,1),(47,33),(39,34),(50,66)],69,160,[.str [], .int .u8 0, .int .u8 0, .int .u8 0, .int .u8 0, .int .u8 0, .int .u8 0, .int .u8 0, .int .u8 0, .int .u8 0, .int .u8 0, .int .u8 0, .int .u8 0, .int .u8 0, .int .u8 0, .int .u8 0, .int .u8 0, .int .u8 0, .int .u8 0, .int .u8 0, .int .u8 0, .int .u8 0, .int .u8 0, .int .u8 0, .int .u8 0, .int .u8 0, .int .u8 0, .int .u8 0, .int .u8 0, .int .u8 0, .int .u8 0, .int .u8 0, .int .u8 0, .nil, .int .u8 0, .int .u8 0, .int .u8 0, .int .u8 0, .int .u8 0, .int .u8 0, .int .u8 0, .int .u8 0, .int .u8 0, .int .u8 0, .int .u8 0, .int .u8 0, .int .u8 0, .int .u8 0, .int .u8 0, .int .u8 0, .int .u8 0, .int .u8 0, .int .u8 0, .int .u8 0, .int .u8 0, .int .u8 0, .int .u8 0, .int .u8 0, .int .u8 0, .int .u8 0, .int .u8 0, .int .u8 0, .int .u8 0, .int .u8 0, .int .u8 0, .int .u8 0, .int .i64 0, .nil, .nil]⟩),
 (59,⟨.other,1,8,[.lit .nilFunc]⟩),
 (63,⟨.int .u64,1,8,[.int .u64 0]⟩),
 (76,⟨.slice 78,1,24,[.nil]⟩),
 (78,⟨.struct [(3,0),(9,1),(3,2),(3,3),(76,4)],5,64,[.int .i64 0, .str [], .int .i64 0, .int .i64 0, .nil]⟩),
 (80,⟨.struct [(3,0),(4,1),(78,2),(78,7),(22,12),(9,13),(9,14),(9,15)],16,216,[.int .i64 0, .bool false, .int .i64 0, .str [], .int .i64 0, .int .i64 0, .nil, .int .i64 0, .str [], .int .i64 0, .int .i64 0, .nil, .nil, .str [], .str [], .str []]⟩),
 (82,⟨.slice 86,1,24,[.nil]⟩),
 (84,⟨.struct [(82,0)],1,24,[.nil]⟩),
 (86,⟨.struct [(3,0),(9,1),(9,2),(9,3),(3,4),(3,5)],6,72,[.int .i64 0, .str [], .str [], .str [], .int .i64 0, .int .i64 0]⟩),
 (88,⟨.struct [(26,0)],1,24,[.nil]⟩),
 (92,⟨.int .u64,1,8,[.int .u64 0]⟩),
 (96,⟨.other,1,8,[.lit .nilFunc]⟩),
 (98,⟨.pointer 149,1,8,[.lit (.pointer none)]⟩),
 (99,⟨.pointer 101,1,8,[.lit (.pointer none)]⟩),
 (101,⟨.struct [(26,0),(4,1)],2,32,[.nil, .bool false]⟩),
 (109,⟨.other,1,8,[.lit .nilFunc]⟩),
 (125,⟨.other,1,8,[.lit .nilFunc]⟩),
 (139,⟨.pointer 88,1,8,[.lit (.pointer none)]⟩),
 (149,⟨.struct [(26,0)],1,24,[.nil]⟩),
 (152,⟨.struct [],0,0,[]⟩),
 (154,⟨.other,1,8,[.lit .nilFunc]⟩),
 (156,⟨.other,1,8,[.lit .nilFunc]⟩),
 (161,⟨.other,1,8,[.lit .nilFunc]⟩),
 (169,⟨.other,1,8,[.lit .nilFunc]⟩),
 (180,⟨.struct [(4,0),(4,1),(4,2),(4,3),(4,4),(3,5),(3,6)],7,24,[.bool false, .bool false, .bool false, .bool false, .bool false, .int .i64 0, .int .i64 0]⟩),
 (181,⟨.array 10 180,70,240,[.bool false, .bool false, .bool false, .bool false, .bool false, .int .i64 0, .int .i64 0, .bool false, .bool false, .bool false, .bool false, .bool false, .int .i64 0, .int .i64 0, .bool false, .bool false, .bool false, .bool false, .bool false, .int .i64 0, .int .i64 0, .bool false, .bool false, .bool false, .bool false, .bool false, .int .i64 0, .int .i64 0, .bool false, .bool false, .bool false, .bool false, .bool false, .int .i64 0, .int .i64 0, .bool false, .bool false, .bool false, .bool false, .bool false, .int .i64 0, .int .i64 0, .bool false, .bool false, .bool false, .bool false, .bool false, .int .i64 0, .int .i64 0, .bool false, .bool false, .bool false, .bool false, .bool false, .int .i64 0, .int .i64 0, .bool false, .bool false, .bool false, .bool false, .bool false, .int .i64 0, .int .i64 0, .bool false, .bool false, .bool false, .bool false, .bool false, .int .i64 0, .int .i64 0]⟩),
 (194,⟨.other,1,8,[.lit .nilFunc]⟩),
 (203,⟨.other,1,8,[.lit .nilFunc]⟩),
 (243,⟨.array 64 191,64,256,List.replicate 64 (.int .u32 0)⟩),
 (248,⟨.pointer 3,1,8,[.lit (.pointer none)]⟩),
 (249,⟨.other,1,8,[.lit .nilFunc]⟩),
 (250,⟨.other,1,8,[.lit .nilFunc]⟩),
 (254,⟨.other,1,8,[.lit .nilFunc]⟩),
 (294,⟨.struct [(3,0),(3,1),(3,2),(4,3)],4,32,[.int .i64 0, .int .i64 0, .int .i64 0, .bool false]⟩),
 (295,⟨.array 8 294,32,256,[.int .i64 0, .int .i64 0, .int .i64 0, .bool false, .int .i64 0, .int .i64 0, .int .i64 0, .bool false, .int .i64 0, .int .i64 0, .int .i64 0, .bool false, .int .i64 0, .int .i64 0, .int .i64 0, .bool false, .int .i64 0, .int .i64 0, .int .i64 0, .bool false, .int .i64 0, .int .i64 0, .int .i64 0, .bool false, .int .i64 0, .int .i64 0, .int .i64 0, .bool false, .int .i64 0, .int .i64 0, .int .i64 0, .bool false]⟩)]
def ty:TypeId->Option TI:=aG4 tab
theorem hty:cT Tryz.prog ty:=aDy ⟨T1,T3,T4,T5,T9,T20,T22,T23,T25,T26,T30,T32,T37,T39,T41,T42,T47,T48,T50,T52,T59,T63,T76,T78,T80,T82,T84,T86,T88,T92,T96,T98,T99,aJ8,aJ7,aJ6,aJ5,aJ4,aJ3,aJ2,aJ1,aJ0,aIz,aIy,aIx,aIw,aIv,aIu,aIt,aIs,aIr,aIq,aIp,aIo,trivial⟩
end Go.Proofs.YtcomlapnibckmaaGreatDoor
