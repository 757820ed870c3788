/-
  The types of the program in short: for each its shape, its cells, its bytes and its zero value.
  Conditions: none.
-/
import Derived.Test.YtbobcfjlbcgchaaGreatDoorWSs
import Derived.Test.YtbobcfjlbcgchaaGreatDoorProg
import Derived.KernelRfl
set_option linter.unusedSectionVars false
set_option linter.unusedSimpArgs false
set_option linter.unusedVariables false
namespace Go.Proofs.YtbobcfjlbcgchaaGreatDoor
section
set_option maxRecDepth 100000
theorem T1:eG Tryz.prog 1=some ⟨.other,1,8,[.lit .nilFunc]⟩:=by kernel_rfl
theorem T3:eG Tryz.prog 3=some ⟨.int .i64,1,8,[.int .i64 0]⟩:=by kernel_rfl
theorem T4:eG Tryz.prog 4=some ⟨.bool,1,1,[.bool false]⟩:=by kernel_rfl
theorem T5:eG Tryz.prog 5=some ⟨.int .u8,1,1,[.int .u8 0]⟩:=by kernel_rfl
theorem T9:eG Tryz.prog 9=some ⟨.string,1,16,[.str []]⟩:=by kernel_rfl
theorem T20:eG Tryz.prog 20=some ⟨.other,1,16,[.lit .nilIface]⟩:=by kernel_rfl
theorem T22:eG Tryz.prog 22=some ⟨.slice 48,1,24,[.nil]⟩:=by kernel_rfl
theorem T23:eG Tryz.prog 23=some ⟨.slice 5,1,24,[.nil]⟩:=by kernel_rfl
theorem T26:eG Tryz.prog 26=some ⟨.int .i64,1,8,[.int .i64 0]⟩:=by kernel_rfl
theorem T28:eG Tryz.prog 28=some ⟨.other,1,8,[.lit .nilFunc]⟩:=by kernel_rfl
theorem T32:eG Tryz.prog 32=some ⟨.array 32 5,32,32,[.int .u8 0, .int .u8 0, .int .u8 0, .int .u8 0, .int .u8 0, .int .u8 0, .int .u8 0, .int .u8 0, .int .u8 0, .int .u8 0, .int .u8 0, .int .u8 0, .int .u8 0, .int .u8 0, .int .u8 0, .int .u8 0, .int .u8 0, .int .u8 0, .int .u8 0, .int .u8 0, .int .u8 0, .int .u8 0, .int .u8 0, .int .u8 0, .int .u8 0, .int .u8 0, .int .u8 0, .int .u8 0, .int .u8 0, .int .u8 0, .int .u8 0, .int .u8 0]⟩:=by kernel_rfl
theorem T36:eG Tryz.prog 36=some ⟨.struct [(22,0)],1,24,[.nil]⟩:=by kernel_rfl
theorem T42:eG Tryz.prog 42=some ⟨.int .u64,1,8,[.int .u64 0]⟩:=by kernel_rfl
theorem T43:eG Tryz.prog 43=some ⟨.slice 45,1,24,[.nil]⟩:=by kernel_rfl
theorem T45:eG Tryz.prog 45=some ⟨.struct [(3,0),(9,1),(3,2),(3,3),(43,4)],5,64,[.int .i64 0, .str [], .int .i64 0, .int .i64 0, .nil]⟩:=by kernel_rfl
theorem T46:eG Tryz.prog 46=some ⟨.slice 9,1,24,[.nil]⟩:=by kernel_rfl
theorem T48:eG Tryz.prog 48=some ⟨.struct [(3,0),(4,1),(45,2),(45,7),(46,12),(9,13),(9,14),(9,15)],16,216,[.int .i64 0, .bool false, .int .i64 0, .str [], .int .i64 0, .int .i64 0, .nil, .int .i64 0, .str [], .int .i64 0, .int .i64 0, .nil, .nil, .str [], .str [], .str []]⟩:=by kernel_rfl
theorem T50:eG Tryz.prog 50=some ⟨.slice 136,1,24,[.nil]⟩:=by kernel_rfl
theorem T52:eG Tryz.prog 52=some ⟨.struct [(46,0),(50,1)],2,48,[.nil, .nil]⟩:=by kernel_rfl
theorem T56:eG Tryz.prog 56=some ⟨.slice 3,1,24,[.nil]⟩:=by kernel_rfl
theorem T58:eG Tryz.prog 58=some ⟨.struct [(3,0),(56,1),(32,2),(9,34)],35,80,[.int .i64 0, .nil, .int .u8 0, .int .u8 0, .int .u8 0, .int .u8 0, .int .u8 0, .int .u8 0, .int .u8 0, .int .u8 0, .int .u8 0, .int .u8 0, .int .u8 0, .int .u8 0, .int .u8 0, .int .u8 0, .int .u8 0, .int .u8 0, .int .u8 0, .int .u8 0, .int .u8 0, .int .u8 0, .int .u8 0, .int .u8 0, .int .u8 0, .int .u8 0, .int .u8 0, .int .u8 0, .int .u8 0, .int .u8 0, .int .u8 0, .int .u8 0, .int .u8 0, .int .u8 0, .str []]⟩:=by kernel_rfl
theorem T60:eG Tryz.prog 60=some ⟨.slice 32,1,24,[.nil]⟩:=by kernel_rfl
theorem T62:eG Tryz.prog 62=some ⟨.struct [(3,0),(60,1),(60,2)],3,56,[.int .i64 0, .nil, .nil]⟩:=by kernel_rfl
theorem T64:eG Tryz.prog 64=some ⟨.struct [(9,0),(32,1),(22,33),(32,34),(62,66)],69,160,[.str [], .int .u8 0, .int .u8 0, .int .u8 0, .int .u8 0, .int .u8 0, .int .u8 0, .int .u8 0, .int .u8 0, .int .u8 0, .int .u8 0, .int .u8 0, .int .u8 0, .int .u8 0, .int .u8 0, .int .u8 0, .int .u8 0, .int .u8 0, .int .u8 0, .int .u8 0, .int .u8 0, .int .u8 0, .int .u8 0, .int .u8 0, .int .u8 0, .int .u8 0, .int .u8 0, .int .u8 0, .int .u8 0, .int .u8 0, .int .u8 0, .int .u8 0, .int .u8 0, .nil, .int .u8 0, .int .u8 0, .int .u8 0, .int .u8 0, .int .u8 0, .int .u8 0, .int .u8 0, .int .u8 0, .int .u8 0, .int .u8 0, .int .u8 0, .int .u8 0, .int .u8 0, .int .u8 0, .int .u8 0, .int .u8 0, .int .u8 0, .int .u8 0, .int .u8 0, .int .u8 0, .int .u8 0, .int .u8 0, .int .u8 0, .int .u8 0, .int .u8 0, .int .u8 0, .int .u8 0, .int .u8 0, .int .u8 0, .int .u8 0, .int .u8 0, .int .u8 0, .int .i64 0, .nil, .nil]⟩:=by kernel_rfl
theorem T67:eG Tryz.prog 67=some ⟨.struct [(23,0)],1,24,[.nil]⟩:=by kernel_rfl
theorem T72:eG Tryz.prog 72=some ⟨.other,1,8,[.lit .nilFunc]⟩:=by kernel_rfl
theorem T74:eG Tryz.prog 74=some ⟨.pointer 104,1,8,[.lit (.pointer none)]⟩:=by kernel_rfl
theorem T75:eG Tryz.prog 75=some ⟨.pointer 77,1,8,[.lit (.pointer none)]⟩:=by kernel_rfl
theorem T77:eG Tryz.prog 77=some ⟨.struct [(23,0),(4,1)],2,32,[.nil, .bool false]⟩:=by kernel_rfl
theorem T85:eG Tryz.prog 85=some ⟨.struct [(48,0)],16,216,[.int .i64 0, .bool false, .int .i64 0, .str [], .int .i64 0, .int .i64 0, .nil, .int .i64 0, .str [], .int .i64 0, .int .i64 0, .nil, .nil, .str [], .str [], .str []]⟩:=by kernel_rfl
theorem T89:eG Tryz.prog 89=some ⟨.other,1,8,[.lit .nilFunc]⟩:=by kernel_rfl
theorem T91:eG Tryz.prog 91=some ⟨.other,1,8,[.lit .nilFunc]⟩:=by kernel_rfl
theorem T95:eG Tryz.prog 95=some ⟨.pointer 67,1,8,[.lit (.pointer none)]⟩:=by kernel_rfl
theorem bH9:eG Tryz.prog 101=some ⟨.int .u64,1,8,[.int .u64 0]⟩:=by kernel_rfl
theorem bH8:eG Tryz.prog 104=some ⟨.struct [(23,0)],1,24,[.nil]⟩:=by kernel_rfl
theorem bH7:eG Tryz.prog 107=some ⟨.struct [],0,0,[]⟩:=by kernel_rfl
theorem bH6:eG Tryz.prog 109=some ⟨.other,1,8,[.lit .nilFunc]⟩:=by kernel_rfl
theorem bH5:eG Tryz.prog 115=some ⟨.struct [(4,0),(4,1),(4,2),(4,3),(4,4),(3,5),(3,6)],7,24,[.bool false, .bool false, .bool false, .bool false, .bool false, .int .i64 0, .int .i64 0]⟩:=by kernel_rfl
theorem bH4:eG Tryz.prog 116=some ⟨.array 10 115,70,240,[.bool false, .bool false, .bool false, .bool false, .bool false, .int .i64 0, .int .i64 0, .bool false, .bool false, .bool false, .bool false, .bool false, .int .i64 0, .int .i64 0, .bool false, .bool false, .bool false, .bool false, .bool false, .int .i64 0, .int .i64 0, .bool false, .bool false, .bool false, .bool false, .bool false, .int .i64 0, .int .i64 0, .bool false, .bool false, .bool false, .bool false, .bool false, .int .i64 0, .int .i64 0, .bool false, .bool false, .bool false, .bool false, .bool false, .int .i64 0, .int .i64 0, .bool false, .bool false, .bool false, .bool false, .bool false, .int .i64 0, .int .i64 0, .bool false, .bool false, .bool false, .bool false, .bool false, .int .i64 0, .int .i64 0, .bool false, .bool false, .bool false, .bool false, .bool false, .int .i64 0, .int .i64 0, .bool false, .bool false, .bool false, .bool false, .bool false, .int .i64 0, .int .i64 0]⟩:=by kernel_rfl
theorem bH3:eG Tryz.prog 126=some ⟨.int .u32,1,4,[.int .u32 0]⟩:=by kernel_rfl
theorem bH2:eG Tryz.prog 127=some ⟨.array 8 126,8,32,[.int .u32 0, .int .u32 0, .int .u32 0, .int .u32 0, .int .u32 0, .int .u32 0, .int .u32 0, .int .u32 0]⟩:=by kernel_rfl
theorem bH1:eG Tryz.prog 131=some ⟨.other,1,8,[.lit .nilFunc]⟩:=by kernel_rfl
theorem bH0:eG Tryz.prog 134=some ⟨.slice 188,1,24,[.nil]⟩:=by kernel_rfl
theorem bGz:eG Tryz.prog 136=some ⟨.struct [(134,0)],1,24,[.nil]⟩:=by kernel_rfl
theorem bGy:eG Tryz.prog 137=some ⟨.other,1,8,[.lit .nilFunc]⟩:=by kernel_rfl
theorem bGx:eG Tryz.prog 143=some ⟨.other,1,8,[.lit .nilFunc]⟩:=by kernel_rfl
theorem bGw:eG Tryz.prog 148=some ⟨.other,1,8,[.lit .nilFunc]⟩:=by kernel_rfl
theorem bGv:eG Tryz.prog 156=some ⟨.slice 210,1,24,[.nil]⟩:=by kernel_rfl
theorem bGu:eG Tryz.prog 158=some ⟨.struct [(46,0),(156,1)],2,48,[.nil, .nil]⟩:=by kernel_rfl
theorem bGt:eG Tryz.prog 160=some ⟨.other,1,8,[.lit (.map none)]⟩:=by kernel_rfl
theorem bGs:eG Tryz.prog 163=some ⟨.slice 225,1,24,[.nil]⟩:=by kernel_rfl
theorem bGr:eG Tryz.prog 166=some ⟨.slice 169,1,24,[.nil]⟩:=by kernel_rfl
theorem bGq:eG Tryz.prog 168=some ⟨.struct [(46,0),(4,1)],2,32,[.nil, .bool false]⟩:=by kernel_rfl
theorem bGp:eG Tryz.prog 169=some ⟨.slice 168,1,24,[.nil]⟩:=by kernel_rfl
theorem bGo:eG Tryz.prog 174=some ⟨.slice 176,1,24,[.nil]⟩:=by kernel_rfl
theorem bGn:eG Tryz.prog 176=some ⟨.struct [(45,0),(3,5),(174,6)],7,96,[.int .i64 0, .str [], .int .i64 0, .int .i64 0, .nil, .int .i64 0, .nil]⟩:=by kernel_rfl
theorem bGm:eG Tryz.prog 183=some ⟨.array 64 126,64,256,List.replicate 64 (.int .u32 0)⟩:=by kernel_rfl
theorem bGl:eG Tryz.prog 188=some ⟨.struct [(3,0),(9,1),(9,2),(9,3),(3,4),(3,5)],6,72,[.int .i64 0, .str [], .str [], .str [], .int .i64 0, .int .i64 0]⟩:=by kernel_rfl
theorem bGk:eG Tryz.prog 189=some ⟨.other,1,8,[.lit .nilFunc]⟩:=by kernel_rfl
theorem bGj:eG Tryz.prog 197=some ⟨.pointer 3,1,8,[.lit (.pointer none)]⟩:=by kernel_rfl
theorem bGi:eG Tryz.prog 198=some ⟨.other,1,8,[.lit .nilFunc]⟩:=by kernel_rfl
theorem bGh:eG Tryz.prog 199=some ⟨.other,1,8,[.lit .nilFunc]⟩:=by kernel_rfl
theorem bGg:eG Tryz.prog 203=some ⟨.other,1,8,[.lit .nilFunc]⟩:=by kernel_rfl
theorem bGf:eG Tryz.prog 206=some ⟨.other,1,8,[.lit .nilFunc]⟩:=by kernel_rfl
theorem bGe:eG Tryz.prog 207=some ⟨.other,1,8,[.lit .nilFunc]⟩:=by kernel_rfl
theorem bGd:eG Tryz.prog 209=some ⟨.other,1,8,[.lit (.map none)]⟩:=by kernel_rfl
theorem bGc:eG Tryz.prog 210=some ⟨.slice 215,1,24,[.nil]⟩:=by kernel_rfl
theorem bGb:eG Tryz.prog 215=some ⟨.struct [(3,0),(4,1)],2,16,[.int .i64 0, .bool false]⟩:=by kernel_rfl
theorem bGa:eG Tryz.prog 216=some ⟨.other,1,8,[.lit .nilFunc]⟩:=by kernel_rfl
theorem bG9:eG Tryz.prog 219=some ⟨.struct [(3,0),(4,1),(3,2),(3,3)],4,32,[.int .i64 0, .bool false, .int .i64 0, .int .i64 0]⟩:=by kernel_rfl
theorem bG8:eG Tryz.prog 220=some ⟨.slice 219,1,24,[.nil]⟩:=by kernel_rfl
theorem bG7:eG Tryz.prog 221=some ⟨.slice 222,1,24,[.nil]⟩:=by kernel_rfl
theorem bG6:eG Tryz.prog 222=some ⟨.array 2 4,2,2,[.bool false, .bool false]⟩:=by kernel_rfl
theorem bG5:eG Tryz.prog 225=some ⟨.struct [(9,0),(9,1),(4,2)],3,40,[.str [], .str [], .bool false]⟩:=by kernel_rfl
theorem bG4:eG Tryz.prog 230=some ⟨.other,1,8,[.lit .nilFunc]⟩:=by kernel_rfl
theorem bG3:eG Tryz.prog 232=some ⟨.other,1,8,[.lit .nilFunc]⟩:=by kernel_rfl
theorem bG2:eG Tryz.prog 247=some ⟨.struct [(3,0),(3,1),(3,2),(4,3)],4,32,[.int .i64 0, .int .i64 0, .int .i64 0, .bool false]⟩:=by kernel_rfl
theorem bG1:eG Tryz.prog 248=some ⟨.array 8 247,32,256,[.int .i64 0, .int .i64 0, .int .i64 0, .bool false, .int .i64 0, .int .i64 0, .int .i64 0, .bool false, .int .i64 0, .int .i64 0, .int .i64 0, .bool false, .int .i64 0, .int .i64 0, .int .i64 0, .bool false, .int .i64 0, .int .i64 0, .int .i64 0, .bool false, .int .i64 0, .int .i64 0, .int .i64 0, .bool false, .int .i64 0, .int .i64 0, .int .i64 0, .bool false, .int .i64 0, .int .i64 0, .int .i64 0, .bool false]⟩:=by kernel_rfl
def tab : List (Nat × TI) := [(1, ⟨.other, 1, 8, [.lit .nilFunc]⟩),
 (3,⟨.int .i64,1,8,[.int .i64 0]⟩),
 (4,⟨.bool,1,1,[.bool false]⟩),
 (5,⟨.int .u8,1,1,[.int .u8 0]⟩),
 (9,⟨.string,1,16,[.str []]⟩),
 (20,⟨.other,1,16,[.lit .nilIface]⟩),
 (22,⟨.slice 48,1,24,[.nil]⟩),
 (23,⟨.slice 5,1,24,[.nil]⟩),
 (26,⟨.int .i64,1,8,[.int .i64 0]⟩),
 (28,⟨.other,1,8,[.lit .nilFunc]⟩),
 (32,⟨.array 32 5,32,32,[.int .u8 0, .int .u8 0, .int .u8 0, .int .u8 0, .int .u8 0, .int .u8 0, .int .u8 0, .int .u8 0, .int .u8 0, .int .u8 0, .int .u8 0, .int .u8 0, .int .u8 0, .int .u8 0, .int .u8 0, .int .u8 0, .int .u8 0, .int .u8 0, .int .u8 0, .int .u8 0, .int .u8 0, .int .u8 0, .int .u8 0, .int .u8 0, .int .u8 0, .int .u8 0, .int .u8 0, .int .u8 0, .int .u8 0, .int .u8 0, .int .u8 0, .int .u8 0]⟩),
 (36,⟨.struct [(22,0)],1,24,[.nil]⟩),
 (42,⟨.int .u64,1,8,[.int .u64 0]⟩),
 (43,⟨.slice 45,1,24,[.nil]⟩),
 (45,⟨.struct [(3,0),(9,1),(3,2),(3,3),(43,4)],5,64,[.int .i64 0, .str [], .int .i64 0, .int .i64 0, .nil]⟩),
 (46,⟨.slice 9,1,24,[.nil]⟩),
 (48,⟨.struct [(3,0),(4,1),(45,2),(45,7),(46,12),(9,13),(9,14),(9,15)],16,216,[.int .i64 0, .bool false, .int .i64 0, .str [], .int .i64 0, .int .i64 0, .nil, .int .i64 0, .str [], .int .i64 0, .int .i64 0, .nil, .nil, .str [], .str [], .str []]⟩),
 (50,⟨.slice 136,1,24,[.nil]⟩),
 (52,⟨.struct [(46,0),(50,1)],2,48,[.nil, .nil]⟩),
 (56,⟨.slice 3,1,24,[.nil]⟩),
 (58,⟨.struct [(3,0),(56,1),(32,2),(9,34)],35,80,[.int .i64 0, .nil, .int .u8 0, .int .u8 0, .int .u8 0, .int .u8 0, .int .u8 0, .int .u8 0, .int .u8 0, .int .u8 0, .int .u8 0, .int .u8 0, .int .u8 0, .int .u8 0, .int .u8 0, .int .u8 0, .int .u8 0, .int .u8 0, .int .u8 0, .int .u8 0, .int .u8 0, .int .u8 0, .int .u8 0, .int .u8 0, .int .u8 0, .int .u8 0, .int .u8 0, .int .u8 0, .int .u8 0, .int .u8 0, .int .u8 0, .int .u8 0, .int .u8 0, .int .u8 0, .str []]⟩),
 (60,⟨.slice 32,1,24,[.nil]⟩),
 (62,⟨.struct [(3,0),(60,1),(60,2)],3,56,[.int .i64 0, .nil, .nil]⟩),
 (64,⟨.struct [(9,0),(32,1),(22,33),(32,34),(62,66)],69,160,[.str [], .int .u8 0, .int .u8 0, .int .u8 0, .int .u8 0, .int .u8 0, .int .u8 0, .int .u8 0, .int .u8 0, .int .u8 0, .int .u8 0, .int .u8 0, .int .u8 0, .int .u8 0, .int .u8 0, .int .u8 0, .int .u8 0, .int .u8 0, .int .u8 0, .int .u8 0, .int .u8 0, .int .u8 0, .int .u8 0, .int .u8 0, .int .u8 0, .int .u8 0, .int .u8 0, .int .u8 0, .int .u8 0, .int .u8 0, .int .u8 0, .int .u8 0, .int .u8 0, .nil, .int .u8 0, .int .u8 0, .int .u8 0, .int .u8 0, .int .u8 0, .int .u8 0, .int .u8 0, .int .u8 0, .int .u8 0, .int .u8 0, .int .u8 0, .int .u8 0, .int .u8 0, .int .u8 0, .int .u8 0, .int .u8 0, .int .u8 0, .int .u8 0, .int .u8 0, .int .u8 0, .int .u8 0, .int .u8 0, .int .u8 0, .int .u8 0, .int .u8 0, .int .u8 0, .int .u8 0, .int .u8 0, .int .u8 0, .int .u8 0, .int .u8 0, .int .u8 0, .int .i64 0, .nil, .nil]⟩),
 (67,⟨.struct [(23,0)],1,24,[.nil]⟩),
 (72,⟨.other,1,8,[.lit .nilFunc]⟩),
 (74,⟨.pointer 104,1,8,[.lit (.pointer none)]⟩),
 (75,⟨.pointer 77,1,8,[.lit (.pointer none)]⟩),
 (77,⟨.struct [(23,0),(4,1)],2,32,[.nil, .bool false]⟩),
 (85,⟨.struct [(48,0)],16,216,[.int .i64 0, .bool false, .int .i64 0, .str [], .int .i64 0, .int .i64 0, .nil, .int .i64 0, .str [], .int .i64 0, .int .i64 0, .nil, .nil, .str [], .str [], .str []]⟩),
 (89,⟨.other,1,8,[.lit .nilFunc]⟩),
 (91,⟨.other,1,8,[.lit .nilFunc]⟩),
 (95,⟨.pointer 67,1,8,[.lit (.pointer none)]⟩),
 (101,⟨.int .u64,1,8,[.int .u64 0]⟩),
 (104,⟨.struct [(23,0)],1,24,[.nil]⟩),
 (107,⟨.struct [],0,0,[]⟩),
 (109,⟨.other,1,8,[.lit .nilFunc]⟩),
 (115,⟨.struct [(4,0),(4,1),(4,2),(4,3),(4,4),(3,5),(3,6)],7,24,[.bool false, .bool false, .bool false, .bool false, .bool false, .int .i64 0, .int .i64 0]⟩),
 (116,⟨.array 10 115,70,240,[.bool false, .bool false, .bool false, .bool false, .bool false, .int .i64 0, .int .i64 0, .bool false, .bool false, .bool false, .bool false, .bool false, .int .i64 0, .int .i64 0, .bool false, .bool false, .bool false, .bool false, .bool false, .int .i64 0, .int .i64 0, .bool false, .bool false, .bool false, .bool false, .bool false, .int .i64 0, .int .i64 0, .bool false, .bool false, .bool false, .bool false, .bool false, .int .i64 0, .int .i64 0, .bool false, .bool false, .bool false, .bool false, .bool false, .int .i64 0, .int .i64 0, .bool false, .bool false, .bool false, .bool false, .bool false, .int .i64 0, .int .i64 0, .bool false, .bool false, .bool false, .bool false, .bool false, .int .i64 0, .int .i64 0, .bool false, .bool false, .bool false, .bool false, .bool false, .int .i64 0, .int .i64 0, .bool false, .bool false, .bool false, .bool false, .bool false, .int .i64 0, .int .i64 0]⟩),
 (126,⟨.int .u32,1,4,[.int .u32 0]⟩),
 (127,⟨.array 8 126,8,32,[.int .u32 0, .int .u32 0, .int .u32 0, .int .u32 0, .int .u32 0, .int .u32 0, .int .u32 0, .int .u32 0]⟩),
 (131,⟨.other,1,8,[.lit .nilFunc]⟩),
 (134,⟨.slice 188,1,24,[.nil]⟩),
 (136,⟨.struct [(134,0)],1,24,[.nil]⟩),
 (137,⟨.other,1,8,[.lit .nilFunc]⟩),
 (143,⟨.other,1,8,[.lit .nilFunc]⟩),
 (148,⟨.other,1,8,[.lit .nilFunc]⟩),
 (156,⟨.slice 210,1,24,[.nil]⟩),
 (158,⟨.struct [(46,0),(156,1)],2,48,[.nil, .nil]⟩),
 (160,⟨.other,1,8,[.lit (.map none)]⟩),
 (163,⟨.slice 225,1,24,[.nil]⟩),
 (166,⟨.slice 169,1,24,[.nil]⟩),
 (168,⟨.struct [(46,0),(4,1)],2,32,[.nil, .bool false]⟩),
 (169,⟨.slice 168,1,24,[.nil]⟩),
 (174,⟨.slice 176,1,24,[.nil]⟩),
 (176,⟨.struct [(45,0),(3,5),(174,6)],7,96,[.int .i64 0, .str [], .int .i64 0, .int .i64 0, .nil, .int .i64 0, .nil]⟩),
 (183,⟨.array 64 126,64,256,List.replicate 64 (.int .u32 0)⟩),
 (188,⟨.struct [(3,0),(9,1),(9,2),(9,3),(3,4),(3,5)],6,72,[.int .i64 0, .str [], .str [], .str [], .int .i64 0, .int .i64 0]⟩),
 (189,⟨.other,1,8,[.lit .nilFunc]⟩),
 (197,⟨.pointer 3,1,8,[.lit (.pointer none)]⟩),
 (198,⟨.other,1,8,[.lit .nilFunc]⟩),
 (199,⟨.other,1,8,[.lit .nilFunc]⟩),
 (203,⟨.other,1,8,[.lit .nilFunc]⟩),
 (206,⟨.other,1,8,[.lit .nilFunc]⟩),
 (207,⟨.other,1,8,[.lit .nilFunc]⟩),
 (209,⟨.other,1,8,[.lit (.map none)]⟩),
 (210,⟨.slice 215,1,24,[.nil]⟩),
 (215,⟨.struct [(3,0),(4,1)],2,16,[.int .i64 0, .bool false]⟩),
 (216,⟨.other,1,8,[.lit .nilFunc]⟩),
 (219,⟨.struct [(3,0),(4,1),(3,2),(3,3)],4,32,[.int .i64 0, .bool false, .int .i64 0, .int .i64 0]⟩),
 (220,⟨.slice 219,1,24,[.nil]⟩),
 (221,⟨.slice 222,1,24,[.nil]⟩),
 (222,⟨.array 2 4,2,2,[.bool false, .bool false]⟩),
 (225,⟨.struct [(9,0),(9,1),(4,2)],3,40,[.str [], .str [], .bool false]⟩),
 (230,⟨.other,1,8,[.lit .nilFunc]⟩),
 (232,⟨.other,1,8,[.lit .nilFunc]⟩),
 (247,⟨.struct [(3,0),(3,1),(3,2),(4,3)],4,32,[.int .i64 0, .int .i64 0, .int .i64 0, .bool false]⟩),
 (248,⟨.array 8 247,32,256,[.int .i64 0, .int .i64 0, .int .i64 0, .bool false, .int .i64 0, .int .i64 0, .int .i64 0, .bool false, .int .i64 0, .int .i64 0, .int .i64 0, .bool false, .int .i64 0, .int .i64 0, .int .i64 0, .bool false, .int .i64 0, .int .i64 0, .int .i64 0, .bool false, .int .i64 0, .int .i64 0, .int .i64 0, .bool false, .int .i64 0, .int .i64 0, .int .i64 0, .bool false, .int .i64 0, .int .i64 0, .int .i64 0, .bool false]⟩)]
def ty:TypeId->Option TI:=bCf tab
theorem hty:fH Tryz.prog ty:=aZ8 ⟨T1,T3,T4,T5,T9,T20,T22,T23,T26,T28,T32,T36,T42,T43,T45,T46,T48,T50,T52,T56,T58,T60,T62,T64,T67,T72,T74,T75,T77,T85,T89,T91,T95,bH9,bH8,bH7,bH6,bH5,bH4,bH3,bH2,bH1,bH0,bGz,bGy,bGx,bGw,bGv,bGu,bGt,bGs,bGr,bGq,bGp,bGo,bGn,bGm,bGl,bGk,bGj,bGi,bGh,bGg,bGf,bGe,bGd,bGc,bGb,bGa,bG9,bG8,bG7,bG6,bG5,bG4,bG3,bG2,bG1,trivial⟩
end
end Go.Proofs.YtbobcfjlbcgchaaGreatDoor
