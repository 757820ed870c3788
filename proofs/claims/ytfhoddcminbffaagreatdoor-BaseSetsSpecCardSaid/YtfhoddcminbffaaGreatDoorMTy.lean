/-
  The types of the program in short: for each its shape, its cells, its bytes and its zero value.
  Conditions: none.
-/
import Derived.Test.YtfhoddcminbffaaGreatDoorMSs
import Derived.Test.YtfhoddcminbffaaGreatDoorProg
import Derived.KernelRfl
set_option linter.unusedSectionVars false
set_option linter.unusedSimpArgs false
set_option linter.unusedVariables false
namespace Go.Proofs.YtfhoddcminbffaaGreatDoor
open Go.Proofs
set_option maxRecDepth 100000
theorem T3:fL Tryz.prog 3=some ⟨.int .i64,1,8,[.int .i64 0]⟩:=by kernel_rfl
theorem T4:fL Tryz.prog 4=some ⟨.bool,1,1,[.bool false]⟩:=by kernel_rfl
theorem T5:fL Tryz.prog 5=some ⟨.int .u8,1,1,[.int .u8 0]⟩:=by kernel_rfl
theorem T9:fL Tryz.prog 9=some ⟨.string,1,16,[.str []]⟩:=by kernel_rfl
theorem T20:fL Tryz.prog 20=some ⟨.other,1,16,[.lit .nilIface]⟩:=by kernel_rfl
theorem T23:fL Tryz.prog 23=some ⟨.slice 48,1,24,[.nil]⟩:=by kernel_rfl
theorem T26:fL Tryz.prog 26=some ⟨.int .i64,1,8,[.int .i64 0]⟩:=by kernel_rfl
theorem T31:fL Tryz.prog 31=some ⟨.slice 3,1,24,[.nil]⟩:=by kernel_rfl
theorem T32:fL Tryz.prog 32=some ⟨.slice 9,1,24,[.nil]⟩:=by kernel_rfl
theorem T38:fL Tryz.prog 38=some ⟨.struct [(23,0)],1,24,[.nil]⟩:=by kernel_rfl
theorem T44:fL Tryz.prog 44=some ⟨.slice 46,1,24,[.nil]⟩:=by kernel_rfl
theorem T46:fL Tryz.prog 46=some ⟨.struct [(3,0),(9,1),(3,2),(3,3),(44,4)],5,64,[.int .i64 0, .str [], .int .i64 0, .int .i64 0, .nil]⟩:=by kernel_rfl
theorem T48:fL Tryz.prog 48=some ⟨.struct [(3,0),(4,1),(46,2),(46,7),(32,12),(9,13),(9,14),(9,15)],16,216,[.int .i64 0, .bool false, .int .i64 0, .str [], .int .i64 0, .int .i64 0, .nil, .int .i64 0, .str [], .int .i64 0, .int .i64 0, .nil, .nil, .str [], .str [], .str []]⟩:=by kernel_rfl
theorem T73:fL Tryz.prog 73=some ⟨.other,1,8,[.lit .nilFunc]⟩:=by kernel_rfl
theorem T75:fL Tryz.prog 75=some ⟨.slice 23,1,24,[.nil]⟩:=by kernel_rfl
theorem T78:fL Tryz.prog 78=some ⟨.other,1,8,[.lit .nilFunc]⟩:=by kernel_rfl
theorem T80:fL Tryz.prog 80=some ⟨.struct [(48,0)],16,216,[.int .i64 0, .bool false, .int .i64 0, .str [], .int .i64 0, .int .i64 0, .nil, .int .i64 0, .str [], .int .i64 0, .int .i64 0, .nil, .nil, .str [], .str [], .str []]⟩:=by kernel_rfl
theorem T81:fL Tryz.prog 81=some ⟨.other,1,8,[.lit .nilFunc]⟩:=by kernel_rfl
theorem T85:fL Tryz.prog 85=some ⟨.other,1,8,[.lit .nilFunc]⟩:=by kernel_rfl
theorem T93:fL Tryz.prog 93=some ⟨.other,1,8,[.lit .nilFunc]⟩:=by kernel_rfl
theorem T97:fL Tryz.prog 97=some ⟨.struct [(4,0),(4,1),(4,2),(4,3),(4,4),(3,5),(3,6)],7,24,[.bool false, .bool false, .bool false, .bool false, .bool false, .int .i64 0, .int .i64 0]⟩:=by kernel_rfl
theorem T98:fL Tryz.prog 98=some ⟨.array 10 97,70,240,[.bool false, .bool false, .bool false, .bool false, .bool false, .int .i64 0, .int .i64 0, .bool false, .bool false, .bool false, .bool false, .bool false, .int .i64 0, .int .i64 0, .bool false, .bool false, .bool false, .bool false, .bool false, .int .i64 0, .int .i64 0, .bool false, .bool false, .bool false, .bool false, .bool false, .int .i64 0, .int .i64 0, .bool false, .bool false, .bool false, .bool false, .bool false, .int .i64 0, .int .i64 0, .bool false, .bool false, .bool false, .bool false, .bool false, .int .i64 0, .int .i64 0, .bool false, .bool false, .bool false, .bool false, .bool false, .int .i64 0, .int .i64 0, .bool false, .bool false, .bool false, .bool false, .bool false, .int .i64 0, .int .i64 0, .bool false, .bool false, .bool false, .bool false, .bool false, .int .i64 0, .int .i64 0, .bool false, .bool false, .bool false, .bool false, .bool false, .int .i64 0, .int .i64 0]⟩:=by kernel_rfl
theorem aX7:fL Tryz.prog 101=some ⟨.other,1,8,[.lit .nilFunc]⟩:=by kernel_rfl
theorem aX6:fL Tryz.prog 119=some ⟨.slice 165,1,24,[.nil]⟩:=by kernel_rfl
theorem aX5:fL Tryz.prog 121=some ⟨.struct [(32,0),(119,1)],2,48,[.nil, .nil]⟩:=by kernel_rfl
theorem aX4:fL Tryz.prog 123=some ⟨.other,1,8,[.lit (.map none)]⟩:=by kernel_rfl
theorem aX3:fL Tryz.prog 126=some ⟨.slice 179,1,24,[.nil]⟩:=by kernel_rfl
theorem aX2:fL Tryz.prog 129=some ⟨.slice 132,1,24,[.nil]⟩:=by kernel_rfl
theorem aX1:fL Tryz.prog 131=some ⟨.struct [(32,0),(4,1)],2,32,[.nil, .bool false]⟩:=by kernel_rfl
theorem aX0:fL Tryz.prog 132=some ⟨.slice 131,1,24,[.nil]⟩:=by kernel_rfl
theorem aWz:fL Tryz.prog 144=some ⟨.pointer 3,1,8,[.lit (.pointer none)]⟩:=by kernel_rfl
theorem aWy:fL Tryz.prog 145=some ⟨.other,1,8,[.lit .nilFunc]⟩:=by kernel_rfl
theorem aWx:fL Tryz.prog 146=some ⟨.other,1,8,[.lit .nilFunc]⟩:=by kernel_rfl
theorem aWw:fL Tryz.prog 150=some ⟨.slice 152,1,24,[.nil]⟩:=by kernel_rfl
theorem aWv:fL Tryz.prog 152=some ⟨.struct [(46,0),(3,5),(150,6)],7,96,[.int .i64 0, .str [], .int .i64 0, .int .i64 0, .nil, .int .i64 0, .nil]⟩:=by kernel_rfl
theorem aWu:fL Tryz.prog 161=some ⟨.other,1,8,[.lit .nilFunc]⟩:=by kernel_rfl
theorem aWt:fL Tryz.prog 162=some ⟨.other,1,8,[.lit .nilFunc]⟩:=by kernel_rfl
theorem aWs:fL Tryz.prog 164=some ⟨.other,1,8,[.lit (.map none)]⟩:=by kernel_rfl
theorem aWr:fL Tryz.prog 165=some ⟨.slice 169,1,24,[.nil]⟩:=by kernel_rfl
theorem aWq:fL Tryz.prog 169=some ⟨.struct [(3,0),(4,1)],2,16,[.int .i64 0, .bool false]⟩:=by kernel_rfl
theorem aWp:fL Tryz.prog 170=some ⟨.other,1,8,[.lit .nilFunc]⟩:=by kernel_rfl
theorem aWo:fL Tryz.prog 173=some ⟨.struct [(3,0),(4,1),(3,2),(3,3)],4,32,[.int .i64 0, .bool false, .int .i64 0, .int .i64 0]⟩:=by kernel_rfl
theorem aWn:fL Tryz.prog 174=some ⟨.slice 173,1,24,[.nil]⟩:=by kernel_rfl
theorem aWm:fL Tryz.prog 175=some ⟨.slice 176,1,24,[.nil]⟩:=by kernel_rfl
theorem aWl:fL Tryz.prog 176=some ⟨.array 2 4,2,2,[.bool false, .bool false]⟩:=by kernel_rfl
theorem aWk:fL Tryz.prog 179=some ⟨.struct [(9,0),(9,1),(4,2)],3,40,[.str [], .str [], .bool false]⟩:=by kernel_rfl
theorem aWj:fL Tryz.prog 187=some ⟨.struct [(3,0),(3,1),(3,2),(4,3)],4,32,[.int .i64 0, .int .i64 0, .int .i64 0, .bool false]⟩:=by kernel_rfl
theorem aWi:fL Tryz.prog 188=some ⟨.array 8 187,32,256,[.int .i64 0, .int .i64 0, .int .i64 0, .bool false, .int .i64 0, .int .i64 0, .int .i64 0, .bool false, .int .i64 0, .int .i64 0, .int .i64 0, .bool false, .int .i64 0, .int .i64 0, .int .i64 0, .bool false, .int .i64 0, .int .i64 0, .int .i64 0, .bool false, .int .i64 0, .int .i64 0, .int .i64 0, .bool false, .int .i64 0, .int .i64 0, .int .i64 0, .bool false, .int .i64 0, .int .i64 0, .int .i64 0, .bool false]⟩:=by kernel_rfl
theorem aWh:fL Tryz.prog 191=some ⟨.other,1,8,[.lit .nilFunc]⟩:=by kernel_rfl
theorem aWg:fL Tryz.prog 193=some ⟨.other,1,8,[.lit .nilFunc]⟩:=by kernel_rfl
theorem aWf:fL Tryz.prog 198=some ⟨.int .u64,1,8,[.int .u64 0]⟩:=by kernel_rfl
theorem aWe:fL Tryz.prog 206=some ⟨.slice 5,1,24,[.nil]⟩:=by kernel_rfl
theorem aWd:fL Tryz.prog 208=some ⟨.int .i64,1,8,[.int .i64 0]⟩:=by kernel_rfl
theorem aWc:fL Tryz.prog 215=some ⟨.int .u32,1,4,[.int .u32 0]⟩:=by kernel_rfl
theorem aWb:fL Tryz.prog 217=some ⟨.int .u64,1,8,[.int .u64 0]⟩:=by kernel_rfl
theorem aWa:fL Tryz.prog 225=some ⟨.int .u64,1,8,[.int .u64 0]⟩:=by kernel_rfl
theorem aW9:fL Tryz.prog 234=some ⟨.pointer 225,1,8,[.lit (.pointer none)]⟩:=by kernel_rfl
def tab : List (Nat × TI) := [
 (3,⟨.int .i64,1,8,[.int .i64 0]⟩),
 (4,⟨.bool,1,1,[.bool false]⟩),
 (5,⟨.int .u8,1,1,[.int .u8 0]⟩),
 (9,⟨.string,1,16,[.str []]⟩),
 (20,⟨.other,1,16,[.lit .nilIface]⟩),
 (23,⟨.slice 48,1,24,[.nil]⟩),
 (26,⟨.int .i64,1,8,[.int .i64 0]⟩),
 (31,⟨.slice 3,1,24,[.nil]⟩),
 (32,⟨.slice 9,1,24,[.nil]⟩),
 (38,⟨.struct [(23,0)],1,24,[.nil]⟩),
 (44,⟨.slice 46,1,24,[.nil]⟩),
 (46,⟨.struct [(3,0),(9,1),(3,2),(3,3),(44,4)],5,64,[.int .i64 0, .str [], .int .i64 0, .int .i64 0, .nil]⟩),
 (48,⟨.struct [(3,0),(4,1),(46,2),(46,7),(32,12),(9,13),(9,14),(9,15)],16,216,[.int .i64 0, .bool false, .int .i64 0, .str [], .int .i64 0, .int .i64 0, .nil, .int .i64 0, .str [], .int .i64 0, .int .i64 0, .nil, .nil, .str [], .str [], .str []]⟩),
 (73,⟨.other,1,8,[.lit .nilFunc]⟩),
 (75,⟨.slice 23,1,24,[.nil]⟩),
 (78,⟨.other,1,8,[.lit .nilFunc]⟩),
 (80,⟨.struct [(48,0)],16,216,[.int .i64 0, .bool false, .int .i64 0, .str [], .int .i64 0, .int .i64 0, .nil, .int .i64 0, .str [], .int .i64 0, .int .i64 0, .nil, .nil, .str [], .str [], .str []]⟩),
 (81,⟨.other,1,8,[.lit .nilFunc]⟩),
 (85,⟨.other,1,8,[.lit .nilFunc]⟩),
 (93,⟨.other,1,8,[.lit .nilFunc]⟩),
 (97,⟨.struct [(4,0),(4,1),(4,2),(4,3),(4,4),(3,5),(3,6)],7,24,[.bool false, .bool false, .bool false, .bool false, .bool false, .int .i64 0, .int .i64 0]⟩),
 (98,⟨.array 10 97,70,240,[.bool false, .bool false, .bool false, .bool false, .bool false, .int .i64 0, .int .i64 0, .bool false, .bool false, .bool false, .bool false, .bool false, .int .i64 0, .int .i64 0, .bool false, .bool false, .bool false, .bool false, .bool false, .int .i64 0, .int .i64 0, .bool false, .bool false, .bool false, .bool false, .bool false, .int .i64 0, .int .i64 0, .bool false, .bool false, .bool false, .bool false, .bool false, .int .i64 0, .int .i64 0, .bool false, .bool false, .bool false, .bool false, .bool false, .int .i64 0, .int .i64 0, .bool false, .bool false, .bool false, .bool false, .bool false, .int .i64 0, .int .i64 0, .bool false, .bool false, .bool false, .bool false, .bool false, .int .i64 0, .int .i64 0, .bool false, .bool false, .bool false, .bool false, .bool false, .int .i64 0, .int .i64 0, .bool false, .bool false, .bool false, .bool false, .bool false, .int .i64 0, .int .i64 0]⟩),
 (101,⟨.other,1,8,[.lit .nilFunc]⟩),
 (119,⟨.slice 165,1,24,[.nil]⟩),
 (121,⟨.struct [(32,0),(119,1)],2,48,[.nil, .nil]⟩),
 (123,⟨.other,1,8,[.lit (.map none)]⟩),
 (126,⟨.slice 179,1,24,[.nil]⟩),
 (129,⟨.slice 132,1,24,[.nil]⟩),
 (131,⟨.struct [(32,0),(4,1)],2,32,[.nil, .bool false]⟩),
 (132,⟨.slice 131,1,24,[.nil]⟩),
 (144,⟨.pointer 3,1,8,[.lit (.pointer none)]⟩),
 (145,⟨.other,1,8,[.lit .nilFunc]⟩),
 (146,⟨.other,1,8,[.lit .nilFunc]⟩),
 (150,⟨.slice 152,1,24,[.nil]⟩),
 (152,⟨.struct [(46,0),(3,5),(150,6)],7,96,[.int .i64 0, .str [], .int .i64 0, .int .i64 0, .nil, .int .i64 0, .nil]⟩),
 (161,⟨.other,1,8,[.lit .nilFunc]⟩),
 (162,⟨.other,1,8,[.lit .nilFunc]⟩),
 (164,⟨.other,1,8,[.lit (.map none)]⟩),
 (165,⟨.slice 169,1,24,[.nil]⟩),
 (169,⟨.struct [(3,0),(4,1)],2,16,[.int .i64 0, .bool false]⟩),
 (170,⟨.other,1,8,[.lit .nilFunc]⟩),
 (173,⟨.struct [(3,0),(4,1),(3,2),(3,3)],4,32,[.int .i64 0, .bool false, .int .i64 0, .int .i64 0]⟩),
 (174,⟨.slice 173,1,24,[.nil]⟩),
 (175,⟨.slice 176,1,24,[.nil]⟩),
 (176,⟨.array 2 4,2,2,[.bool false, .bool false]⟩),
 (179,⟨.struct [(9,0),(9,1),(4,2)],3,40,[.str [], .str [], .bool false]⟩),
 (187,⟨.struct [(3,0),(3,1),(3,2),(4,3)],4,32,[.int .i64 0, .int .i64 0, .int .i64 0, .bool false]⟩),
 (188,⟨.array 8 187,32,256,[.int .i64 0, .int .i64 0, .int .i64 0, .bool false, .int .i64 0, .int .i64 0, .int .i64 0, .bool false, .int .i64 0, .int .i64 0, .int .i64 0, .bool false, .int .i64 0, .int .i64 0, .int .i64 0, .bool false, .int .i64 0, .int .i64 0, .int .i64 0, .bool false, .int .i64 0, .int .i64 0, .int .i64 0, .bool false, .int .i64 0, .int .i64 0, .int .i64 0, .bool false, .int .i64 0, .int .i64 0, .int .i64 0, .bool false]⟩),
 (191,⟨.other,1,8,[.lit .nilFunc]⟩),
 (193,⟨.other,1,8,[.lit .nilFunc]⟩),
 (198,⟨.int .u64,1,8,[.int .u64 0]⟩),
 (206,⟨.slice 5,1,24,[.nil]⟩),
 (208,⟨.int .i64,1,8,[.int .i64 0]⟩),
 (215,⟨.int .u32,1,4,[.int .u32 0]⟩),
 (217,⟨.int .u64,1,8,[.int .u64 0]⟩),
 (225,⟨.int .u64,1,8,[.int .u64 0]⟩),
 (234,⟨.pointer 225,1,8,[.lit (.pointer none)]⟩)]
def ty:TypeId->Option TI:=aTn tab
theorem hty:fD Tryz.prog ty:=aRe ⟨T3,T4,T5,T9,T20,T23,T26,T31,T32,T38,T44,T46,T48,T73,T75,T78,T80,T81,T85,T93,T97,T98,aX7,aX6,aX5,aX4,aX3,aX2,aX1,aX0,aWz,aWy,aWx,aWw,aWv,aWu,aWt,aWs,aWr,aWq,aWp,aWo,aWn,aWm,aWl,aWk,aWj,aWi,aWh,aWg,aWf,aWe,aWd,aWc,aWb,aWa,aW9,trivial⟩
end Go.Proofs.YtfhoddcminbffaaGreatDoor
