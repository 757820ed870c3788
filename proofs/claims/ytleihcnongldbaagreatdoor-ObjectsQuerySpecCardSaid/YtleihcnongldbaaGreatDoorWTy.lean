/-
  The types of the program in short: for each its shape, its cells, its bytes and its zero value.
  Conditions: none.
-/
import Derived.Test.YtleihcnongldbaaGreatDoorWSs
import Derived.Test.YtleihcnongldbaaGreatDoorProg
import Derived.KernelRfl
set_option linter.unusedSectionVars false
set_option linter.unusedSimpArgs false
set_option linter.unusedVariables false
namespace Go.Proofs.YtleihcnongldbaaGreatDoor
open Go.Proofs
set_option maxRecDepth 100000
theorem T1:aW Tryz.prog 1=some ⟨.other,1,8,[.lit .nilFunc]⟩:=by kernel_rfl
theorem T2:aW Tryz.prog 2=some ⟨.int .i64,1,8,[.int .i64 0]⟩:=by kernel_rfl
theorem T3:aW Tryz.prog 3=some ⟨.int .i64,1,8,[.int .i64 0]⟩:=by kernel_rfl
theorem T4:aW Tryz.prog 4=some ⟨.bool,1,1,[.bool false]⟩:=by kernel_rfl
theorem T5:aW Tryz.prog 5=some ⟨.int .u8,1,1,[.int .u8 0]⟩:=by kernel_rfl
theorem T6:aW Tryz.prog 6=some ⟨.int .u8,1,1,[.int .u8 0]⟩:=by kernel_rfl
theorem T7:aW Tryz.prog 7=some ⟨.struct [(2,0),(3,1),(4,2),(6,3)],4,24,[.int .i64 0, .int .i64 0, .bool false, .int .u8 0]⟩:=by kernel_rfl
theorem T8:aW Tryz.prog 8=some ⟨.struct [(2,0),(3,1),(4,2),(6,3)],4,24,[.int .i64 0, .int .i64 0, .bool false, .int .u8 0]⟩:=by kernel_rfl
theorem T9:aW Tryz.prog 9=some ⟨.string,1,16,[.str []]⟩:=by kernel_rfl
theorem T10:aW Tryz.prog 10=some ⟨.string,1,16,[.str []]⟩:=by kernel_rfl
theorem T11:aW Tryz.prog 11=some ⟨.string,1,16,[.str []]⟩:=by kernel_rfl
theorem T12:aW Tryz.prog 12=some ⟨.int .u64,1,8,[.int .u64 0]⟩:=by kernel_rfl
theorem T13:aW Tryz.prog 13=some ⟨.struct [(9,0),(12,1)],2,24,[.str [], .int .u64 0]⟩:=by kernel_rfl
theorem T14:aW Tryz.prog 14=some ⟨.struct [(9,0),(12,1)],2,24,[.str [], .int .u64 0]⟩:=by kernel_rfl
theorem T15:aW Tryz.prog 15=some ⟨.pointer 230,1,8,[.lit (.pointer none)]⟩:=by kernel_rfl
theorem T16:aW Tryz.prog 16=some ⟨.pointer 233,1,8,[.lit (.pointer none)]⟩:=by kernel_rfl
theorem T17:aW Tryz.prog 17=some ⟨.pointer 241,1,8,[.lit (.pointer none)]⟩:=by kernel_rfl
theorem T18:aW Tryz.prog 18=some ⟨.struct [(17,0)],1,8,[.lit (.pointer none)]⟩:=by kernel_rfl
theorem T19:aW Tryz.prog 19=some ⟨.struct [(17,0)],1,8,[.lit (.pointer none)]⟩:=by kernel_rfl
theorem T20:aW Tryz.prog 20=some ⟨.other,1,16,[.lit .nilIface]⟩:=by kernel_rfl
theorem T21:aW Tryz.prog 21=some ⟨.int .i32,1,4,[.int .i32 0]⟩:=by kernel_rfl
theorem T22:aW Tryz.prog 22=some ⟨.slice 9,1,24,[.nil]⟩:=by kernel_rfl
theorem T23:aW Tryz.prog 23=some ⟨.slice 68,1,24,[.nil]⟩:=by kernel_rfl
theorem T24:aW Tryz.prog 24=some ⟨.struct [(22,0),(23,1)],2,48,[.nil, .nil]⟩:=by kernel_rfl
theorem T25:aW Tryz.prog 25=some ⟨.struct [(22,0),(23,1)],2,48,[.nil, .nil]⟩:=by kernel_rfl
theorem T26:aW Tryz.prog 26=some ⟨.slice 5,1,24,[.nil]⟩:=by kernel_rfl
theorem T27:aW Tryz.prog 27=some ⟨.other,1,8,[.lit .nilFunc]⟩:=by kernel_rfl
theorem T28:aW Tryz.prog 28=some ⟨.other,1,8,[.lit .nilFunc]⟩:=by kernel_rfl
theorem T29:aW Tryz.prog 29=some ⟨.other,1,8,[.lit .nilFunc]⟩:=by kernel_rfl
theorem T30:aW Tryz.prog 30=some ⟨.int .i64,1,8,[.int .i64 0]⟩:=by kernel_rfl
theorem T32:aW Tryz.prog 32=some ⟨.other,1,8,[.lit .nilFunc]⟩:=by kernel_rfl
theorem T34:aW Tryz.prog 34=some ⟨.other,1,8,[.lit .nilFunc]⟩:=by kernel_rfl
theorem T35:aW Tryz.prog 35=some ⟨.other,1,8,[.lit .nilFunc]⟩:=by kernel_rfl
theorem T36:aW Tryz.prog 36=some ⟨.other,1,8,[.lit .nilFunc]⟩:=by kernel_rfl
theorem T37:aW Tryz.prog 37=some ⟨.array 32 5,32,32,[.int .u8 0, .int .u8 0, .int .u8 0, .int .u8 0, .int .u8 0, .int .u8 0, .int .u8 0, .int .u8 0, .int .u8 0, .int .u8 0, .int .u8 0, .int .u8 0, .int .u8 0, .int .u8 0, .int .u8 0, .int .u8 0, .int .u8 0, .int .u8 0, .int .u8 0, .int .u8 0, .int .u8 0, .int .u8 0, .int .u8 0, .int .u8 0, .int .u8 0, .int .u8 0, .int .u8 0, .int .u8 0, .int .u8 0, .int .u8 0, .int .u8 0, .int .u8 0]⟩:=by kernel_rfl
theorem T38:aW Tryz.prog 38=some ⟨.array 32 5,32,32,[.int .u8 0, .int .u8 0, .int .u8 0, .int .u8 0, .int .u8 0, .int .u8 0, .int .u8 0, .int .u8 0, .int .u8 0, .int .u8 0, .int .u8 0, .int .u8 0, .int .u8 0, .int .u8 0, .int .u8 0, .int .u8 0, .int .u8 0, .int .u8 0, .int .u8 0, .int .u8 0, .int .u8 0, .int .u8 0, .int .u8 0, .int .u8 0, .int .u8 0, .int .u8 0, .int .u8 0, .int .u8 0, .int .u8 0, .int .u8 0, .int .u8 0, .int .u8 0]⟩:=by kernel_rfl
theorem T39:aW Tryz.prog 39=some ⟨.slice 116,1,24,[.nil]⟩:=by kernel_rfl
theorem T40:aW Tryz.prog 40=some ⟨.slice 38,1,24,[.nil]⟩:=by kernel_rfl
theorem T41:aW Tryz.prog 41=some ⟨.struct [(3,0),(40,1),(40,2)],3,56,[.int .i64 0, .nil, .nil]⟩:=by kernel_rfl
theorem T42:aW Tryz.prog 42=some ⟨.struct [(3,0),(40,1),(40,2)],3,56,[.int .i64 0, .nil, .nil]⟩:=by kernel_rfl
theorem T43:aW Tryz.prog 43=some ⟨.struct [(9,0),(38,1),(39,33),(38,34),(42,66)],69,160,[.str [], .int .u8 0, .int .u8 0, .int .u8 0, .int .u8 0, .int .u8 0, .int .u8 0, .int .u8 0, .int .u8 0, .int .u8 0, .int .u8 0, .int .u8 0, .int .u8 0, .int .u8 0, .int .u8 0, .int .u8 0, .int .u8 0, .int .u8 0, .int .u8 0, .int .u8 0, .int .u8 0, .int .u8 0, .int .u8 0, .int .u8 0, .int .u8 0, .int .u8 0, .int .u8 0, .int .u8 0, .int .u8 0, .int .u8 0, .int .u8 0, .int .u8 0, .int .u8 0, .nil, .int .u8 0, .int .u8 0, .int .u8 0, .int .u8 0, .int .u8 0, .int .u8 0, .int .u8 0, .int .u8 0, .int .u8 0, .int .u8 0, .int .u8 0, .int .u8 0, .int .u8 0, .int .u8 0, .int .u8 0, .int .u8 0, .int .u8 0, .int .u8 0, .int .u8 0, .int .u8 0, .int .u8 0, .int .u8 0, .int .u8 0, .int .u8 0, .int .u8 0, .int .u8 0, .int .u8 0, .int .u8 0, .int .u8 0, .int .u8 0, .int .u8 0, .int .u8 0, .int .i64 0, .nil, .nil]⟩:=by kernel_rfl
theorem T44:aW Tryz.prog 44=some ⟨.struct [(9,0),(38,1),(39,33),(38,34),(42,66)],69,160,[.str [], .int .u8 0, .int .u8 0, .int .u8 0, .int .u8 0, .int .u8 0, .int .u8 0, .int .u8 0, .int .u8 0, .int .u8 0, .int .u8 0, .int .u8 0, .int .u8 0, .int .u8 0, .int .u8 0, .int .u8 0, .int .u8 0, .int .u8 0, .int .u8 0, .int .u8 0, .int .u8 0, .int .u8 0, .int .u8 0, .int .u8 0, .int .u8 0, .int .u8 0, .int .u8 0, .int .u8 0, .int .u8 0, .int .u8 0, .int .u8 0, .int .u8 0, .int .u8 0, .nil, .int .u8 0, .int .u8 0, .int .u8 0, .int .u8 0, .int .u8 0, .int .u8 0, .int .u8 0, .int .u8 0, .int .u8 0, .int .u8 0, .int .u8 0, .int .u8 0, .int .u8 0, .int .u8 0, .int .u8 0, .int .u8 0, .int .u8 0, .int .u8 0, .int .u8 0, .int .u8 0, .int .u8 0, .int .u8 0, .int .u8 0, .int .u8 0, .int .u8 0, .int .u8 0, .int .u8 0, .int .u8 0, .int .u8 0, .int .u8 0, .int .u8 0, .int .u8 0, .int .i64 0, .nil, .nil]⟩:=by kernel_rfl
theorem T45:aW Tryz.prog 45=some ⟨.other,1,8,[.lit .nilFunc]⟩:=by kernel_rfl
theorem T46:aW Tryz.prog 46=some ⟨.other,1,8,[.lit .nilFunc]⟩:=by kernel_rfl
theorem T48:aW Tryz.prog 48=some ⟨.other,1,8,[.lit .nilFunc]⟩:=by kernel_rfl
theorem T49:aW Tryz.prog 49=some ⟨.other,1,8,[.lit .nilFunc]⟩:=by kernel_rfl
theorem T50:aW Tryz.prog 50=some ⟨.other,1,8,[.lit .nilFunc]⟩:=by kernel_rfl
theorem T51:aW Tryz.prog 51=some ⟨.slice 3,1,24,[.nil]⟩:=by kernel_rfl
theorem T52:aW Tryz.prog 52=some ⟨.struct [(3,0),(51,1),(38,2),(9,34)],35,80,[.int .i64 0, .nil, .int .u8 0, .int .u8 0, .int .u8 0, .int .u8 0, .int .u8 0, .int .u8 0, .int .u8 0, .int .u8 0, .int .u8 0, .int .u8 0, .int .u8 0, .int .u8 0, .int .u8 0, .int .u8 0, .int .u8 0, .int .u8 0, .int .u8 0, .int .u8 0, .int .u8 0, .int .u8 0, .int .u8 0, .int .u8 0, .int .u8 0, .int .u8 0, .int .u8 0, .int .u8 0, .int .u8 0, .int .u8 0, .int .u8 0, .int .u8 0, .int .u8 0, .int .u8 0, .str []]⟩:=by kernel_rfl
theorem T53:aW Tryz.prog 53=some ⟨.struct [(3,0),(51,1),(38,2),(9,34)],35,80,[.int .i64 0, .nil, .int .u8 0, .int .u8 0, .int .u8 0, .int .u8 0, .int .u8 0, .int .u8 0, .int .u8 0, .int .u8 0, .int .u8 0, .int .u8 0, .int .u8 0, .int .u8 0, .int .u8 0, .int .u8 0, .int .u8 0, .int .u8 0, .int .u8 0, .int .u8 0, .int .u8 0, .int .u8 0, .int .u8 0, .int .u8 0, .int .u8 0, .int .u8 0, .int .u8 0, .int .u8 0, .int .u8 0, .int .u8 0, .int .u8 0, .int .u8 0, .int .u8 0, .int .u8 0, .str []]⟩:=by kernel_rfl
theorem T54:aW Tryz.prog 54=some ⟨.other,1,8,[.lit .nilFunc]⟩:=by kernel_rfl
theorem T55:aW Tryz.prog 55=some ⟨.other,1,8,[.lit .nilFunc]⟩:=by kernel_rfl
theorem T57:aW Tryz.prog 57=some ⟨.other,1,8,[.lit .nilFunc]⟩:=by kernel_rfl
theorem T59:aW Tryz.prog 59=some ⟨.other,1,8,[.lit .nilFunc]⟩:=by kernel_rfl
theorem T60:aW Tryz.prog 60=some ⟨.other,1,8,[.lit .nilFunc]⟩:=by kernel_rfl
theorem T61:aW Tryz.prog 61=some ⟨.other,1,8,[.lit .nilFunc]⟩:=by kernel_rfl
theorem T62:aW Tryz.prog 62=some ⟨.int .u64,1,8,[.int .u64 0]⟩:=by kernel_rfl
theorem T63:aW Tryz.prog 63=some ⟨.other,1,8,[.lit .nilFunc]⟩:=by kernel_rfl
theorem T64:aW Tryz.prog 64=some ⟨.other,1,8,[.lit .nilFunc]⟩:=by kernel_rfl
theorem T65:aW Tryz.prog 65=some ⟨.other,1,8,[.lit .nilFunc]⟩:=by kernel_rfl
theorem T66:aW Tryz.prog 66=some ⟨.slice 70,1,24,[.nil]⟩:=by kernel_rfl
theorem T67:aW Tryz.prog 67=some ⟨.struct [(66,0)],1,24,[.nil]⟩:=by kernel_rfl
theorem T68:aW Tryz.prog 68=some ⟨.struct [(66,0)],1,24,[.nil]⟩:=by kernel_rfl
theorem T69:aW Tryz.prog 69=some ⟨.struct [(3,0),(9,1),(9,2),(9,3),(3,4),(3,5)],6,72,[.int .i64 0, .str [], .str [], .str [], .int .i64 0, .int .i64 0]⟩:=by kernel_rfl
theorem T70:aW Tryz.prog 70=some ⟨.struct [(3,0),(9,1),(9,2),(9,3),(3,4),(3,5)],6,72,[.int .i64 0, .str [], .str [], .str [], .int .i64 0, .int .i64 0]⟩:=by kernel_rfl
theorem T71:aW Tryz.prog 71=some ⟨.other,1,8,[.lit .nilFunc]⟩:=by kernel_rfl
theorem T72:aW Tryz.prog 72=some ⟨.struct [(26,0)],1,24,[.nil]⟩:=by kernel_rfl
theorem T73:aW Tryz.prog 73=some ⟨.struct [(26,0)],1,24,[.nil]⟩:=by kernel_rfl
theorem T74:aW Tryz.prog 74=some ⟨.other,1,8,[.lit .nilFunc]⟩:=by kernel_rfl
theorem T75:aW Tryz.prog 75=some ⟨.other,1,8,[.lit .nilFunc]⟩:=by kernel_rfl
theorem T76:aW Tryz.prog 76=some ⟨.other,1,8,[.lit .nilFunc]⟩:=by kernel_rfl
theorem T77:aW Tryz.prog 77=some ⟨.int .u64,1,8,[.int .u64 0]⟩:=by kernel_rfl
theorem T78:aW Tryz.prog 78=some ⟨.other,1,8,[.lit .nilFunc]⟩:=by kernel_rfl
theorem T79:aW Tryz.prog 79=some ⟨.other,1,8,[.lit .nilFunc]⟩:=by kernel_rfl
theorem T80:aW Tryz.prog 80=some ⟨.other,1,8,[.lit .nilFunc]⟩:=by kernel_rfl
theorem T81:aW Tryz.prog 81=some ⟨.other,1,8,[.lit .nilFunc]⟩:=by kernel_rfl
theorem T82:aW Tryz.prog 82=some ⟨.other,1,8,[.lit .nilFunc]⟩:=by kernel_rfl
theorem T83:aW Tryz.prog 83=some ⟨.pointer 131,1,8,[.lit (.pointer none)]⟩:=by kernel_rfl
theorem T84:aW Tryz.prog 84=some ⟨.pointer 86,1,8,[.lit (.pointer none)]⟩:=by kernel_rfl
theorem T85:aW Tryz.prog 85=some ⟨.struct [(26,0),(4,1)],2,32,[.nil, .bool false]⟩:=by kernel_rfl
theorem T86:aW Tryz.prog 86=some ⟨.struct [(26,0),(4,1)],2,32,[.nil, .bool false]⟩:=by kernel_rfl
theorem T87:aW Tryz.prog 87=some ⟨.other,1,8,[.lit .nilFunc]⟩:=by kernel_rfl
theorem T88:aW Tryz.prog 88=some ⟨.other,1,8,[.lit .nilFunc]⟩:=by kernel_rfl
theorem T89:aW Tryz.prog 89=some ⟨.other,1,8,[.lit .nilFunc]⟩:=by kernel_rfl
theorem T90:aW Tryz.prog 90=some ⟨.other,1,8,[.lit .nilFunc]⟩:=by kernel_rfl
theorem T91:aW Tryz.prog 91=some ⟨.other,1,8,[.lit .nilFunc]⟩:=by kernel_rfl
theorem T92:aW Tryz.prog 92=some ⟨.other,1,8,[.lit .nilFunc]⟩:=by kernel_rfl
theorem T93:aW Tryz.prog 93=some ⟨.other,1,8,[.lit .nilFunc]⟩:=by kernel_rfl
theorem T94:aW Tryz.prog 94=some ⟨.other,1,8,[.lit .nilFunc]⟩:=by kernel_rfl
theorem T95:aW Tryz.prog 95=some ⟨.other,1,8,[.lit .nilFunc]⟩:=by kernel_rfl
theorem T96:aW Tryz.prog 96=some ⟨.other,1,8,[.lit .nilFunc]⟩:=by kernel_rfl
theorem T97:aW Tryz.prog 97=some ⟨.other,1,8,[.lit .nilFunc]⟩:=by kernel_rfl
theorem T98:aW Tryz.prog 98=some ⟨.other,1,8,[.lit .nilFunc]⟩:=by kernel_rfl
theorem T99:aW Tryz.prog 99=some ⟨.other,1,8,[.lit .nilFunc]⟩:=by kernel_rfl
theorem bA5:aW Tryz.prog 100=some ⟨.other,1,8,[.lit .nilFunc]⟩:=by kernel_rfl
theorem bA4:aW Tryz.prog 101=some ⟨.other,1,8,[.lit .nilFunc]⟩:=by kernel_rfl
theorem bA3:aW Tryz.prog 102=some ⟨.other,1,8,[.lit .nilFunc]⟩:=by kernel_rfl
theorem bA2:aW Tryz.prog 103=some ⟨.other,1,8,[.lit .nilFunc]⟩:=by kernel_rfl
theorem bA1:aW Tryz.prog 104=some ⟨.other,1,8,[.lit .nilFunc]⟩:=by kernel_rfl
theorem bA0:aW Tryz.prog 105=some ⟨.other,1,8,[.lit .nilFunc]⟩:=by kernel_rfl
theorem aZz:aW Tryz.prog 106=some ⟨.other,1,8,[.lit .nilFunc]⟩:=by kernel_rfl
theorem aZy:aW Tryz.prog 107=some ⟨.other,1,8,[.lit .nilFunc]⟩:=by kernel_rfl
theorem aZx:aW Tryz.prog 108=some ⟨.other,1,8,[.lit .nilFunc]⟩:=by kernel_rfl
theorem aZw:aW Tryz.prog 109=some ⟨.other,1,8,[.lit .nilFunc]⟩:=by kernel_rfl
theorem aZv:aW Tryz.prog 110=some ⟨.other,1,8,[.lit .nilFunc]⟩:=by kernel_rfl
theorem aZu:aW Tryz.prog 111=some ⟨.other,1,8,[.lit .nilFunc]⟩:=by kernel_rfl
theorem aZt:aW Tryz.prog 112=some ⟨.slice 114,1,24,[.nil]⟩:=by kernel_rfl
theorem aZs:aW Tryz.prog 113=some ⟨.struct [(3,0),(9,1),(3,2),(3,3),(112,4)],5,64,[.int .i64 0, .str [], .int .i64 0, .int .i64 0, .nil]⟩:=by kernel_rfl
theorem aZr:aW Tryz.prog 114=some ⟨.struct [(3,0),(9,1),(3,2),(3,3),(112,4)],5,64,[.int .i64 0, .str [], .int .i64 0, .int .i64 0, .nil]⟩:=by kernel_rfl
theorem aZq:aW Tryz.prog 115=some ⟨.struct [(3,0),(4,1),(114,2),(114,7),(22,12),(9,13),(9,14),(9,15)],16,216,[.int .i64 0, .bool false, .int .i64 0, .str [], .int .i64 0, .int .i64 0, .nil, .int .i64 0, .str [], .int .i64 0, .int .i64 0, .nil, .nil, .str [], .str [], .str []]⟩:=by kernel_rfl
theorem aZp:aW Tryz.prog 116=some ⟨.struct [(3,0),(4,1),(114,2),(114,7),(22,12),(9,13),(9,14),(9,15)],16,216,[.int .i64 0, .bool false, .int .i64 0, .str [], .int .i64 0, .int .i64 0, .nil, .int .i64 0, .str [], .int .i64 0, .int .i64 0, .nil, .nil, .str [], .str [], .str []]⟩:=by kernel_rfl
theorem aZo:aW Tryz.prog 117=some ⟨.other,1,8,[.lit .nilFunc]⟩:=by kernel_rfl
theorem aZn:aW Tryz.prog 118=some ⟨.other,1,8,[.lit .nilFunc]⟩:=by kernel_rfl
theorem aZm:aW Tryz.prog 119=some ⟨.other,1,8,[.lit .nilFunc]⟩:=by kernel_rfl
theorem aZl:aW Tryz.prog 120=some ⟨.other,1,8,[.lit .nilFunc]⟩:=by kernel_rfl
theorem aZk:aW Tryz.prog 121=some ⟨.pointer 73,1,8,[.lit (.pointer none)]⟩:=by kernel_rfl
theorem aZj:aW Tryz.prog 122=some ⟨.other,1,8,[.lit .nilFunc]⟩:=by kernel_rfl
theorem aZi:aW Tryz.prog 123=some ⟨.other,1,8,[.lit .nilFunc]⟩:=by kernel_rfl
theorem aZh:aW Tryz.prog 124=some ⟨.other,1,8,[.lit .nilFunc]⟩:=by kernel_rfl
theorem aZg:aW Tryz.prog 125=some ⟨.other,1,8,[.lit .nilFunc]⟩:=by kernel_rfl
theorem aZf:aW Tryz.prog 126=some ⟨.other,1,8,[.lit .nilFunc]⟩:=by kernel_rfl
theorem aZe:aW Tryz.prog 127=some ⟨.other,1,8,[.lit .nilFunc]⟩:=by kernel_rfl
theorem aZd:aW Tryz.prog 129=some ⟨.other,1,8,[.lit .nilFunc]⟩:=by kernel_rfl
theorem aZc:aW Tryz.prog 130=some ⟨.struct [(26,0)],1,24,[.nil]⟩:=by kernel_rfl
theorem aZb:aW Tryz.prog 131=some ⟨.struct [(26,0)],1,24,[.nil]⟩:=by kernel_rfl
theorem aZa:aW Tryz.prog 132=some ⟨.other,1,8,[.lit .nilFunc]⟩:=by kernel_rfl
theorem aZ9:aW Tryz.prog 133=some ⟨.struct [],0,0,[]⟩:=by kernel_rfl
theorem aZ8:aW Tryz.prog 134=some ⟨.struct [],0,0,[]⟩:=by kernel_rfl
theorem aZ7:aW Tryz.prog 135=some ⟨.other,1,8,[.lit .nilFunc]⟩:=by kernel_rfl
theorem aZ6:aW Tryz.prog 136=some ⟨.other,1,8,[.lit .nilFunc]⟩:=by kernel_rfl
theorem aZ5:aW Tryz.prog 137=some ⟨.other,1,8,[.lit .nilFunc]⟩:=by kernel_rfl
theorem aZ4:aW Tryz.prog 138=some ⟨.other,1,8,[.lit .nilFunc]⟩:=by kernel_rfl
theorem aZ3:aW Tryz.prog 139=some ⟨.other,1,8,[.lit .nilFunc]⟩:=by kernel_rfl
theorem aZ2:aW Tryz.prog 140=some ⟨.other,1,8,[.lit .nilFunc]⟩:=by kernel_rfl
theorem aZ1:aW Tryz.prog 141=some ⟨.other,1,8,[.lit .nilFunc]⟩:=by kernel_rfl
theorem aZ0:aW Tryz.prog 142=some ⟨.other,1,8,[.lit .nilFunc]⟩:=by kernel_rfl
theorem aYz:aW Tryz.prog 143=some ⟨.other,1,8,[.lit .nilFunc]⟩:=by kernel_rfl
theorem aYy:aW Tryz.prog 144=some ⟨.other,1,8,[.lit .nilFunc]⟩:=by kernel_rfl
theorem aYx:aW Tryz.prog 145=some ⟨.other,1,8,[.lit .nilFunc]⟩:=by kernel_rfl
theorem aYw:aW Tryz.prog 146=some ⟨.other,1,8,[.lit .nilFunc]⟩:=by kernel_rfl
theorem aYv:aW Tryz.prog 147=some ⟨.other,1,8,[.lit .nilFunc]⟩:=by kernel_rfl
theorem aYu:aW Tryz.prog 148=some ⟨.other,1,8,[.lit .nilFunc]⟩:=by kernel_rfl
theorem aYt:aW Tryz.prog 149=some ⟨.other,1,8,[.lit .nilFunc]⟩:=by kernel_rfl
theorem aYs:aW Tryz.prog 150=some ⟨.other,1,8,[.lit .nilFunc]⟩:=by kernel_rfl
theorem aYr:aW Tryz.prog 151=some ⟨.other,1,8,[.lit .nilFunc]⟩:=by kernel_rfl
theorem aYq:aW Tryz.prog 152=some ⟨.other,1,8,[.lit .nilFunc]⟩:=by kernel_rfl
theorem aYp:aW Tryz.prog 153=some ⟨.other,1,8,[.lit .nilFunc]⟩:=by kernel_rfl
theorem aYo:aW Tryz.prog 154=some ⟨.struct [(4,0),(4,1)],2,2,[.bool false, .bool false]⟩:=by kernel_rfl
theorem aYn:aW Tryz.prog 155=some ⟨.struct [(4,0),(4,1)],2,2,[.bool false, .bool false]⟩:=by kernel_rfl
theorem aYm:aW Tryz.prog 156=some ⟨.array 4 155,8,8,[.bool false, .bool false, .bool false, .bool false, .bool false, .bool false, .bool false, .bool false]⟩:=by kernel_rfl
theorem aYl:aW Tryz.prog 157=some ⟨.other,1,8,[.lit .nilFunc]⟩:=by kernel_rfl
theorem aYk:aW Tryz.prog 158=some ⟨.other,1,8,[.lit .nilFunc]⟩:=by kernel_rfl
theorem aYj:aW Tryz.prog 159=some ⟨.array 2 9,2,32,[.str [], .str []]⟩:=by kernel_rfl
theorem aYi:aW Tryz.prog 160=some ⟨.other,1,8,[.lit .nilFunc]⟩:=by kernel_rfl
theorem aYh:aW Tryz.prog 161=some ⟨.other,1,8,[.lit .nilFunc]⟩:=by kernel_rfl
theorem aYg:aW Tryz.prog 163=some ⟨.other,1,8,[.lit .nilFunc]⟩:=by kernel_rfl
theorem aYf:aW Tryz.prog 164=some ⟨.other,1,8,[.lit .nilFunc]⟩:=by kernel_rfl
theorem aYe:aW Tryz.prog 165=some ⟨.other,1,8,[.lit .nilFunc]⟩:=by kernel_rfl
theorem aYd:aW Tryz.prog 166=some ⟨.other,1,8,[.lit .nilFunc]⟩:=by kernel_rfl
theorem aYc:aW Tryz.prog 167=some ⟨.other,1,8,[.lit .nilFunc]⟩:=by kernel_rfl
theorem aYb:aW Tryz.prog 168=some ⟨.other,1,8,[.lit .nilFunc]⟩:=by kernel_rfl
theorem aYa:aW Tryz.prog 169=some ⟨.other,1,8,[.lit .nilFunc]⟩:=by kernel_rfl
theorem aY9:aW Tryz.prog 170=some ⟨.other,1,8,[.lit .nilFunc]⟩:=by kernel_rfl
theorem aY8:aW Tryz.prog 171=some ⟨.struct [(4,0),(4,1),(4,2),(4,3),(4,4),(3,5),(3,6)],7,24,[.bool false, .bool false, .bool false, .bool false, .bool false, .int .i64 0, .int .i64 0]⟩:=by kernel_rfl
theorem aY7:aW Tryz.prog 172=some ⟨.struct [(4,0),(4,1),(4,2),(4,3),(4,4),(3,5),(3,6)],7,24,[.bool false, .bool false, .bool false, .bool false, .bool false, .int .i64 0, .int .i64 0]⟩:=by kernel_rfl
theorem aY6:aW Tryz.prog 173=some ⟨.array 10 172,70,240,[.bool false, .bool false, .bool false, .bool false, .bool false, .int .i64 0, .int .i64 0, .bool false, .bool false, .bool false, .bool false, .bool false, .int .i64 0, .int .i64 0, .bool false, .bool false, .bool false, .bool false, .bool false, .int .i64 0, .int .i64 0, .bool false, .bool false, .bool false, .bool false, .bool false, .int .i64 0, .int .i64 0, .bool false, .bool false, .bool false, .bool false, .bool false, .int .i64 0, .int .i64 0, .bool false, .bool false, .bool false, .bool false, .bool false, .int .i64 0, .int .i64 0, .bool false, .bool false, .bool false, .bool false, .bool false, .int .i64 0, .int .i64 0, .bool false, .bool false, .bool false, .bool false, .bool false, .int .i64 0, .int .i64 0, .bool false, .bool false, .bool false, .bool false, .bool false, .int .i64 0, .int .i64 0, .bool false, .bool false, .bool false, .bool false, .bool false, .int .i64 0, .int .i64 0]⟩:=by kernel_rfl
theorem aY5:aW Tryz.prog 174=some ⟨.other,1,8,[.lit .nilFunc]⟩:=by kernel_rfl
theorem aY4:aW Tryz.prog 175=some ⟨.other,1,8,[.lit .nilFunc]⟩:=by kernel_rfl
theorem aY3:aW Tryz.prog 176=some ⟨.other,1,8,[.lit .nilFunc]⟩:=by kernel_rfl
theorem aY2:aW Tryz.prog 177=some ⟨.other,1,8,[.lit .nilFunc]⟩:=by kernel_rfl
theorem aY1:aW Tryz.prog 178=some ⟨.other,1,8,[.lit .nilFunc]⟩:=by kernel_rfl
theorem aY0:aW Tryz.prog 179=some ⟨.other,1,8,[.lit .nilFunc]⟩:=by kernel_rfl
theorem aXz:aW Tryz.prog 180=some ⟨.other,1,8,[.lit .nilFunc]⟩:=by kernel_rfl
theorem aXy:aW Tryz.prog 181=some ⟨.other,1,8,[.lit .nilFunc]⟩:=by kernel_rfl
theorem aXx:aW Tryz.prog 182=some ⟨.other,1,8,[.lit .nilFunc]⟩:=by kernel_rfl
theorem aXw:aW Tryz.prog 183=some ⟨.other,1,8,[.lit .nilFunc]⟩:=by kernel_rfl
theorem aXv:aW Tryz.prog 184=some ⟨.other,1,8,[.lit .nilFunc]⟩:=by kernel_rfl
theorem aXu:aW Tryz.prog 185=some ⟨.other,1,8,[.lit .nilFunc]⟩:=by kernel_rfl
theorem aXt:aW Tryz.prog 186=some ⟨.other,1,8,[.lit .nilFunc]⟩:=by kernel_rfl
theorem aXs:aW Tryz.prog 187=some ⟨.other,1,8,[.lit (.map none)]⟩:=by kernel_rfl
theorem aXr:aW Tryz.prog 188=some ⟨.other,1,8,[.lit (.map none)]⟩:=by kernel_rfl
theorem aXq:aW Tryz.prog 189=some ⟨.other,1,8,[.lit .nilFunc]⟩:=by kernel_rfl
theorem aXp:aW Tryz.prog 190=some ⟨.other,1,8,[.lit .nilFunc]⟩:=by kernel_rfl
theorem aXo:aW Tryz.prog 191=some ⟨.other,1,8,[.lit .nilFunc]⟩:=by kernel_rfl
theorem aXn:aW Tryz.prog 192=some ⟨.other,1,8,[.lit .nilFunc]⟩:=by kernel_rfl
theorem aXm:aW Tryz.prog 193=some ⟨.pointer 3,1,8,[.lit (.pointer none)]⟩:=by kernel_rfl
theorem aXl:aW Tryz.prog 194=some ⟨.other,1,8,[.lit .nilFunc]⟩:=by kernel_rfl
theorem aXk:aW Tryz.prog 195=some ⟨.other,1,8,[.lit .nilFunc]⟩:=by kernel_rfl
theorem aXj:aW Tryz.prog 196=some ⟨.other,1,8,[.lit .nilFunc]⟩:=by kernel_rfl
theorem aXi:aW Tryz.prog 197=some ⟨.other,1,8,[.lit .nilFunc]⟩:=by kernel_rfl
theorem aXh:aW Tryz.prog 198=some ⟨.other,1,8,[.lit .nilFunc]⟩:=by kernel_rfl
theorem aXg:aW Tryz.prog 199=some ⟨.other,1,8,[.lit .nilFunc]⟩:=by kernel_rfl
theorem aXf:aW Tryz.prog 200=some ⟨.other,1,8,[.lit .nilFunc]⟩:=by kernel_rfl
theorem aXe:aW Tryz.prog 201=some ⟨.int .i64,1,8,[.int .i64 0]⟩:=by kernel_rfl
theorem aXd:aW Tryz.prog 203=some ⟨.other,1,8,[.lit .nilFunc]⟩:=by kernel_rfl
theorem aXc:aW Tryz.prog 204=some ⟨.other,1,8,[.lit .nilFunc]⟩:=by kernel_rfl
theorem aXb:aW Tryz.prog 205=some ⟨.other,1,8,[.lit .nilFunc]⟩:=by kernel_rfl
theorem aXa:aW Tryz.prog 207=some ⟨.other,1,8,[.lit .nilFunc]⟩:=by kernel_rfl
theorem aX9:aW Tryz.prog 208=some ⟨.other,1,8,[.lit .nilFunc]⟩:=by kernel_rfl
theorem aX8:aW Tryz.prog 209=some ⟨.int .u32,1,4,[.int .u32 0]⟩:=by kernel_rfl
theorem aX7:aW Tryz.prog 210=some ⟨.other,1,8,[.lit .nilFunc]⟩:=by kernel_rfl
theorem aX6:aW Tryz.prog 212=some ⟨.other,1,8,[.lit .nilFunc]⟩:=by kernel_rfl
theorem aX5:aW Tryz.prog 213=some ⟨.other,1,8,[.lit .nilFunc]⟩:=by kernel_rfl
theorem aX4:aW Tryz.prog 214=some ⟨.struct [(3,0),(3,1),(3,2),(4,3)],4,32,[.int .i64 0, .int .i64 0, .int .i64 0, .bool false]⟩:=by kernel_rfl
theorem aX3:aW Tryz.prog 215=some ⟨.struct [(3,0),(3,1),(3,2),(4,3)],4,32,[.int .i64 0, .int .i64 0, .int .i64 0, .bool false]⟩:=by kernel_rfl
theorem aX2:aW Tryz.prog 216=some ⟨.array 8 215,32,256,[.int .i64 0, .int .i64 0, .int .i64 0, .bool false, .int .i64 0, .int .i64 0, .int .i64 0, .bool false, .int .i64 0, .int .i64 0, .int .i64 0, .bool false, .int .i64 0, .int .i64 0, .int .i64 0, .bool false, .int .i64 0, .int .i64 0, .int .i64 0, .bool false, .int .i64 0, .int .i64 0, .int .i64 0, .bool false, .int .i64 0, .int .i64 0, .int .i64 0, .bool false, .int .i64 0, .int .i64 0, .int .i64 0, .bool false]⟩:=by kernel_rfl
theorem aX1:aW Tryz.prog 217=some ⟨.other,1,8,[.lit .nilFunc]⟩:=by kernel_rfl
theorem aX0:aW Tryz.prog 218=some ⟨.int .u64,1,8,[.int .u64 0]⟩:=by kernel_rfl
theorem aWz:aW Tryz.prog 219=some ⟨.other,1,8,[.lit .nilFunc]⟩:=by kernel_rfl
theorem aWy:aW Tryz.prog 220=some ⟨.other,1,8,[.lit .nilFunc]⟩:=by kernel_rfl
theorem aWx:aW Tryz.prog 221=some ⟨.other,1,8,[.lit .nilFunc]⟩:=by kernel_rfl
theorem aWw:aW Tryz.prog 222=some ⟨.other,1,8,[.lit .nilFunc]⟩:=by kernel_rfl
theorem aWv:aW Tryz.prog 223=some ⟨.pointer 218,1,8,[.lit (.pointer none)]⟩:=by kernel_rfl
theorem aWu:aW Tryz.prog 225=some ⟨.other,1,8,[.lit .nilFunc]⟩:=by kernel_rfl
theorem aWt:aW Tryz.prog 226=some ⟨.other,1,8,[.lit .nilFunc]⟩:=by kernel_rfl
theorem aWs:aW Tryz.prog 228=some ⟨.other,1,8,[.lit .nilFunc]⟩:=by kernel_rfl
theorem aWr:aW Tryz.prog 229=some ⟨.struct [(17,0),(17,1),(17,2),(9,3)],4,40,[.lit (.pointer none), .lit (.pointer none), .lit (.pointer none), .str []]⟩:=by kernel_rfl
theorem aWq:aW Tryz.prog 230=some ⟨.struct [(17,0),(17,1),(17,2),(9,3)],4,40,[.lit (.pointer none), .lit (.pointer none), .lit (.pointer none), .str []]⟩:=by kernel_rfl
theorem aWp:aW Tryz.prog 231=some ⟨.array 0 16,0,0,[]⟩:=by kernel_rfl
theorem aWo:aW Tryz.prog 232=some ⟨.struct [(231,0)],0,0,[]⟩:=by kernel_rfl
theorem aWn:aW Tryz.prog 233=some ⟨.struct [(231,0)],0,0,[]⟩:=by kernel_rfl
theorem aWm:aW Tryz.prog 234=some ⟨.int .u8,1,1,[.int .u8 0]⟩:=by kernel_rfl
theorem aWl:aW Tryz.prog 235=some ⟨.int .u8,1,1,[.int .u8 0]⟩:=by kernel_rfl
theorem aWk:aW Tryz.prog 236=some ⟨.other,1,8,[.lit .nilFunc]⟩:=by kernel_rfl
theorem aWj:aW Tryz.prog 237=some ⟨.pointer 5,1,8,[.lit (.pointer none)]⟩:=by kernel_rfl
theorem aWi:aW Tryz.prog 238=some ⟨.int .i32,1,4,[.int .i32 0]⟩:=by kernel_rfl
theorem aWh:aW Tryz.prog 239=some ⟨.int .i32,1,4,[.int .i32 0]⟩:=by kernel_rfl
theorem aWg:aW Tryz.prog 240=some ⟨.struct [(12,0),(12,1),(209,2),(234,3),(5,4),(5,5),(235,6),(236,7),(237,8),(238,9),(239,10)],11,48,[.int .u64 0, .int .u64 0, .int .u32 0, .int .u8 0, .int .u8 0, .int .u8 0, .int .u8 0, .lit .nilFunc, .lit (.pointer none), .int .i32 0, .int .i32 0]⟩:=by kernel_rfl
theorem aWf:aW Tryz.prog 241=some ⟨.struct [(12,0),(12,1),(209,2),(234,3),(5,4),(5,5),(235,6),(236,7),(237,8),(238,9),(239,10)],11,48,[.int .u64 0, .int .u64 0, .int .u32 0, .int .u8 0, .int .u8 0, .int .u8 0, .int .u8 0, .lit .nilFunc, .lit (.pointer none), .int .i32 0, .int .i32 0]⟩:=by kernel_rfl
theorem aWe:aW Tryz.prog 242=some ⟨.other,1,8,[.lit (.pointer none)]⟩:=by kernel_rfl
def tab : List (Nat × TI) := [(1, ⟨.other, 1, 8, [.lit .nilFunc]⟩),
 (2,⟨.int .i64,1,8,[.int .i64 0]⟩),
 (3,⟨.int .i64,1,8,[.int .i64 0]⟩),
 (4,⟨.bool,1,1,[.bool false]⟩),
 (5,⟨.int .u8,1,1,[.int .u8 0]⟩),
 (6,⟨.int .u8,1,1,[.int .u8 0]⟩),
 (7,⟨.struct [(2,0),(3,1),(4,2),(6,3)],4,24,[.int .i64 0, .int .i64 0, .bool false, .int .u8 0]⟩),
 (8,⟨.struct [(2,0),(3,1),(4,2),(6,3)],4,24,[.int .i64 0, .int .i64 0, .bool false, .int .u8 0]⟩),
 (9,⟨.string,1,16,[.str []]⟩),
 (10,⟨.string,1,16,[.str []]⟩),
 (11,⟨.string,1,16,[.str []]⟩),
 (12,⟨.int .u64,1,8,[.int .u64 0]⟩),
 (13,⟨.struct [(9,0),(12,1)],2,24,[.str [], .int .u64 0]⟩),
 (14,⟨.struct [(9,0),(12,1)],2,24,[.str [], .int .u64 0]⟩),
 (15,⟨.pointer 230,1,8,[.lit (.pointer none)]⟩),
 (16,⟨.pointer 233,1,8,[.lit (.pointer none)]⟩),
 (17,⟨.pointer 241,1,8,[.lit (.pointer none)]⟩),
 (18,⟨.struct [(17,0)],1,8,[.lit (.pointer none)]⟩),
 (19,⟨.struct [(17,0)],1,8,[.lit (.pointer none)]⟩),
 (20,⟨.other,1,16,[.lit .nilIface]⟩),
 (21,⟨.int .i32,1,4,[.int .i32 0]⟩),
 (22,⟨.slice 9,1,24,[.nil]⟩),
 (23,⟨.slice 68,1,24,[.nil]⟩),
 (24,⟨.struct [(22,0),(23,1)],2,48,[.nil, .nil]⟩),
 (25,⟨.struct [(22,0),(23,1)],2,48,[.nil, .nil]⟩),
 (26,⟨.slice 5,1,24,[.nil]⟩),
 (27,⟨.other,1,8,[.lit .nilFunc]⟩),
 (28,⟨.other,1,8,[.lit .nilFunc]⟩),
 (29,⟨.other,1,8,[.lit .nilFunc]⟩),
 (30,⟨.int .i64,1,8,[.int .i64 0]⟩),
 (32,⟨.other,1,8,[.lit .nilFunc]⟩),
 (34,⟨.other,1,8,[.lit .nilFunc]⟩),
 (35,⟨.other,1,8,[.lit .nilFunc]⟩),
 (36,⟨.other,1,8,[.lit .nilFunc]⟩),
 (37,⟨.array 32 5,32,32,[.int .u8 0, .int .u8 0, .int .u8 0, .int .u8 0, .int .u8 0, .int .u8 0, .int .u8 0, .int .u8 0, .int .u8 0, .int .u8 0, .int .u8 0, .int .u8 0, .int .u8 0, .int .u8 0, .int .u8 0, .int .u8 0, .int .u8 0, .int .u8 0, .int .u8 0, .int .u8 0, .int .u8 0, .int .u8 0, .int .u8 0, .int .u8 0, .int .u8 0, .int .u8 0, .int .u8 0, .int .u8 0, .int .u8 0, .int .u8 0, .int .u8 0, .int .u8 0]⟩),
 (38,⟨.array 32 5,32,32,[.int .u8 0, .int .u8 0, .int .u8 0, .int .u8 0, .int .u8 0, .int .u8 0, .int .u8 0, .int .u8 0, .int .u8 0, .int .u8 0, .int .u8 0, .int .u8 0, .int .u8 0, .int .u8 0, .int .u8 0, .int .u8 0, .int .u8 0, .int .u8 0, .int .u8 0, .int .u8 0, .int .u8 0, .int .u8 0, .int .u8 0, .int .u8 0, .int .u8 0, .int .u8 0, .int .u8 0, .int .u8 0, .int .u8 0, .int .u8 0, .int .u8 0, .int .u8 0]⟩),
 (39,⟨.slice 116,1,24,[.nil]⟩),
 (40,⟨.slice 38,1,24,[.nil]⟩),
 (41,⟨.struct [(3,0),(40,1),(40,2)],3,56,[.int .i64 0, .nil, .nil]⟩),
 (42,⟨.struct [(3,0),(40,1),(40,2)],3,56,[.int .i64 0, .nil, .nil]⟩),
 (43,⟨.struct [(9,0),(38,1),(39,33),(38,34),(42,66)],69,160,[.str [], .int .u8 0, .int .u8 0, .int .u8 0, .int .u8 0, .int .u8 0, .int .u8 0, .int .u8 0, .int .u8 0, .int .u8 0, .int .u8 0, .int .u8 0, .int .u8 0, .int .u8 0, .int .u8 0, .int .u8 0, .int .u8 0, .int .u8 0, .int .u8 0, .int .u8 0, .int .u8 0, .int .u8 0, .int .u8 0, .int .u8 0, .int .u8 0, .int .u8 0, .int .u8 0, .int .u8 0, .int .u8 0, .int .u8 0, .int .u8 0, .int .u8 0, .int .u8 0, .nil, .int .u8 0, .int .u8 0, .int .u8 0, .int .u8 0, .int .u8 0, .int .u8 0, .int .u8 0, .int .u8 0, .int .u8 0, .int .u8 0, .int .u8 0, .int .u8 0, .int .u8 0, .int .u8 0, .int .u8 0, .int .u8 0, .int .u8 0, .int .u8 0, .int .u8 0, .int .u8 0, .int .u8 0, .int .u8 0, .int .u8 0, .int .u8 0, .int .u8 0, .int .u8 0, .int .u8 0, .int .u8 0, .int .u8 0, .int .u8 0, .int .u8 0, .int .u8 0, .int .i64 0, .nil, .nil]⟩),
 (44,⟨.struct [(9,0),(38,1),(39,33),(38,34),(42,66)],69,160,[.str [], .int .u8 0, .int .u8 0, .int .u8 0, .int .u8 0, .int .u8 0, .int .u8 0, .int .u8 0, .int .u8 0, .int .u8 0, .int .u8 0, .int .u8 0, .int .u8 0, .int .u8 0, .int .u8 0, .int .u8 0, .int .u8 0, .int .u8 0, .int .u8 0, .int .u8 0, .int .u8 0, .int .u8 0, .int .u8 0, .int .u8 0, .int .u8 0, .int .u8 0, .int .u8 0, .int .u8 0, .int .u8 0, .int .u8 0, .int .u8 0, .int .u8 0, .int .u8 0, .nil, .int .u8 0, .int .u8 0, .int .u8 0, .int .u8 0, .int .u8 0, .int .u8 0, .int .u8 0, .int .u8 0, .int .u8 0, .int .u8 0, .int .u8 0, .int .u8 0, .int .u8 0, .int .u8 0, .int .u8 0, .int .u8 0, .int .u8 0, .int .u8 0, .int .u8 0, .int .u8 0, .int .u8 0, .int .u8 0, .int .u8 0, .int .u8 0, .int .u8 0, .int .u8 0, .int .u8 0, .int .u8 0, .int .u8 0, .int .u8 0, .int .u8 0, .int .u8 0, .int .i64 0, .nil, .nil]⟩),
 (45,⟨.other,1,8,[.lit .nilFunc]⟩),
 (46,⟨.other,1,8,[.lit .nilFunc]⟩),
 (48,⟨.other,1,8,[.lit .nilFunc]⟩),
 (49,⟨.other,1,8,[.lit .nilFunc]⟩),
 (50,⟨.other,1,8,[.lit .nilFunc]⟩),
 (51,⟨.slice 3,1,24,[.nil]⟩),
 (52,⟨.struct [(3,0),(51,1),(38,2),(9,34)],35,80,[.int .i64 0, .nil, .int .u8 0, .int .u8 0, .int .u8 0, .int .u8 0, .int .u8 0, .int .u8 0, .int .u8 0, .int .u8 0, .int .u8 0, .int .u8 0, .int .u8 0, .int .u8 0, .int .u8 0, .int .u8 0, .int .u8 0, .int .u8 0, .int .u8 0, .int .u8 0, .int .u8 0, .int .u8 0, .int .u8 0, .int .u8 0, .int .u8 0, .int .u8 0, .int .u8 0, .int .u8 0, .int .u8 0, .int .u8 0, .int .u8 0, .int .u8 0, .int .u8 0, .int .u8 0, .str []]⟩),
 (53,⟨.struct [(3,0),(51,1),(38,2),(9,34)],35,80,[.int .i64 0, .nil, .int .u8 0, .int .u8 0, .int .u8 0, .int .u8 0, .int .u8 0, .int .u8 0, .int .u8 0, .int .u8 0, .int .u8 0, .int .u8 0, .int .u8 0, .int .u8 0, .int .u8 0, .int .u8 0, .int .u8 0, .int .u8 0, .int .u8 0, .int .u8 0, .int .u8 0, .int .u8 0, .int .u8 0, .int .u8 0, .int .u8 0, .int .u8 0, .int .u8 0, .int .u8 0, .int .u8 0, .int .u8 0, .int .u8 0, .int .u8 0, .int .u8 0, .int .u8 0, .str []]⟩),
 (54,⟨.other,1,8,[.lit .nilFunc]⟩),
 (55,⟨.other,1,8,[.lit .nilFunc]⟩),
 (57,⟨.other,1,8,[.lit .nilFunc]⟩),
 (59,⟨.other,1,8,[.lit .nilFunc]⟩),
 (60,⟨.other,1,8,[.lit .nilFunc]⟩),
 (61,⟨.other,1,8,[.lit .nilFunc]⟩),
 (62,⟨.int .u64,1,8,[.int .u64 0]⟩),
 (63,⟨.other,1,8,[.lit .nilFunc]⟩),
 (64,⟨.other,1,8,[.lit .nilFunc]⟩),
 (65,⟨.other,1,8,[.lit .nilFunc]⟩),
 (66,⟨.slice 70,1,24,[.nil]⟩),
 (67,⟨.struct [(66,0)],1,24,[.nil]⟩),
 (68,⟨.struct [(66,0)],1,24,[.nil]⟩),
 (69,⟨.struct [(3,0),(9,1),(9,2),(9,3),(3,4),(3,5)],6,72,[.int .i64 0, .str [], .str [], .str [], .int .i64 0, .int .i64 0]⟩),
 (70,⟨.struct [(3,0),(9,1),(9,2),(9,3),(3,4),(3,5)],6,72,[.int .i64 0, .str [], .str [], .str [], .int .i64 0, .int .i64 0]⟩),
 (71,⟨.other,1,8,[.lit .nilFunc]⟩),
 (72,⟨.struct [(26,0)],1,24,[.nil]⟩),
 (73,⟨.struct [(26,0)],1,24,[.nil]⟩),
 (74,⟨.other,1,8,[.lit .nilFunc]⟩),
 (75,⟨.other,1,8,[.lit .nilFunc]⟩),
 (76,⟨.other,1,8,[.lit .nilFunc]⟩),
 (77,⟨.int .u64,1,8,[.int .u64 0]⟩),
 (78,⟨.other,1,8,[.lit .nilFunc]⟩),
 (79,⟨.other,1,8,[.lit .nilFunc]⟩),
 (80,⟨.other,1,8,[.lit .nilFunc]⟩),
 (81,⟨.other,1,8,[.lit .nilFunc]⟩),
 (82,⟨.other,1,8,[.lit .nilFunc]⟩),
 (83,⟨.pointer 131,1,8,[.lit (.pointer none)]⟩),
 (84,⟨.pointer 86,1,8,[.lit (.pointer none)]⟩),
 (85,⟨.struct [(26,0),(4,1)],2,32,[.nil, .bool false]⟩),
 (86,⟨.struct [(26,0),(4,1)],2,32,[.nil, .bool false]⟩),
 (87,⟨.other,1,8,[.lit .nilFunc]⟩),
 (88,⟨.other,1,8,[.lit .nilFunc]⟩),
 (89,⟨.other,1,8,[.lit .nilFunc]⟩),
 (90,⟨.other,1,8,[.lit .nilFunc]⟩),
 (91,⟨.other,1,8,[.lit .nilFunc]⟩),
 (92,⟨.other,1,8,[.lit .nilFunc]⟩),
 (93,⟨.other,1,8,[.lit .nilFunc]⟩),
 (94,⟨.other,1,8,[.lit .nilFunc]⟩),
 (95,⟨.other,1,8,[.lit .nilFunc]⟩),
 (96,⟨.other,1,8,[.lit .nilFunc]⟩),
 (97,⟨.other,1,8,[.lit .nilFunc]⟩),
 (98,⟨.other,1,8,[.lit .nilFunc]⟩),
 (99,⟨.other,1,8,[.lit .nilFunc]⟩),
 (100,⟨.other,1,8,[.lit .nilFunc]⟩),
 (101,⟨.other,1,8,[.lit .nilFunc]⟩),
 (102,⟨.other,1,8,[.lit .nilFunc]⟩),
 (103,⟨.other,1,8,[.lit .nilFunc]⟩),
 (104,⟨.other,1,8,[.lit .nilFunc]⟩),
 (105,⟨.other,1,8,[.lit .nilFunc]⟩),
 (106,⟨.other,1,8,[.lit .nilFunc]⟩),
 (107,⟨.other,1,8,[.lit .nilFunc]⟩),
 (108,⟨.other,1,8,[.lit .nilFunc]⟩),
 (109,⟨.other,1,8,[.lit .nilFunc]⟩),
 (110,⟨.other,1,8,[.lit .nilFunc]⟩),
 (111,⟨.other,1,8,[.lit .nilFunc]⟩),
 (112,⟨.slice 114,1,24,[.nil]⟩),
 (113,⟨.struct [(3,0),(9,1),(3,2),(3,3),(112,4)],5,64,[.int .i64 0, .str [], .int .i64 0, .int .i64 0, .nil]⟩),
 (114,⟨.struct [(3,0),(9,1),(3,2),(3,3),(112,4)],5,64,[.int .i64 0, .str [], .int .i64 0, .int .i64 0, .nil]⟩),
 (115,⟨.struct [(3,0),(4,1),(114,2),(114,7),(22,12),(9,13),(9,14),(9,15)],16,216,[.int .i64 0, .bool false, .int .i64 0, .str [], .int .i64 0, .int .i64 0, .nil, .int .i64 0, .str [], .int .i64 0, .int .i64 0, .nil, .nil, .str [], .str [], .str []]⟩),
 (116,⟨.struct [(3,0),(4,1),(114,2),(114,7),(22,12),(9,13),(9,14),(9,15)],16,216,[.int .i64 0, .bool false, .int .i64 0, .str [], .int .i64 0, .int .i64 0, .nil, .int .i64 0, .str [], .int .i64 0, .int .i64 0, .nil, .nil, .str [], .str [], .str []]⟩),
 (117,⟨.other,1,8,[.lit .nilFunc]⟩),
 (118,⟨.other,1,8,[.lit .nilFunc]⟩),
 (119,⟨.other,1,8,[.lit .nilFunc]⟩),
 (120,⟨.other,1,8,[.lit .nilFunc]⟩),
 (121,⟨.pointer 73,1,8,[.lit (.pointer none)]⟩),
 (122,⟨.other,1,8,[.lit .nilFunc]⟩),
 (123,⟨.other,1,8,[.lit .nilFunc]⟩),
 (124,⟨.other,1,8,[.lit .nilFunc]⟩),
 (125,⟨.other,1,8,[.lit .nilFunc]⟩),
 (126,⟨.other,1,8,[.lit .nilFunc]⟩),
 (127,⟨.other,1,8,[.lit .nilFunc]⟩),
 (129,⟨.other,1,8,[.lit .nilFunc]⟩),
 (130,⟨.struct [(26,0)],1,24,[.nil]⟩),
 (131,⟨.struct [(26,0)],1,24,[.nil]⟩),
 (132,⟨.other,1,8,[.lit .nilFunc]⟩),
 (133,⟨.struct [],0,0,[]⟩),
 (134,⟨.struct [],0,0,[]⟩),
 (135,⟨.other,1,8,[.lit .nilFunc]⟩),
 (136,⟨.other,1,8,[.lit .nilFunc]⟩),
 (137,⟨.other,1,8,[.lit .nilFunc]⟩),
 (138,⟨.other,1,8,[.lit .nilFunc]⟩),
 (139,⟨.other,1,8,[.lit .nilFunc]⟩),
 (140,⟨.other,1,8,[.lit .nilFunc]⟩),
 (141,⟨.other,1,8,[.lit .nilFunc]⟩),
 (142,⟨.other,1,8,[.lit .nilFunc]⟩),
 (143,⟨.other,1,8,[.lit .nilFunc]⟩),
 (144,⟨.other,1,8,[.lit .nilFunc]⟩),
 (145,⟨.other,1,8,[.lit .nilFunc]⟩),
 (146,⟨.other,1,8,[.lit .nilFunc]⟩),
 (147,⟨.other,1,8,[.lit .nilFunc]⟩),
 (148,⟨.other,1,8,[.lit .nilFunc]⟩),
 (149,⟨.other,1,8,[.lit .nilFunc]⟩),
 (150,⟨.other,1,8,[.lit .nilFunc]⟩),
 (151,⟨.other,1,8,[.lit .nilFunc]⟩),
 (152,⟨.other,1,8,[.lit .nilFunc]⟩),
 (153,⟨.other,1,8,[.lit .nilFunc]⟩),
 (154,⟨.struct [(4,0),(4,1)],2,2,[.bool false, .bool false]⟩),
 (155,⟨.struct [(4,0),(4,1)],2,2,[.bool false, .bool false]⟩),
 (156,⟨.array 4 155,8,8,[.bool false, .bool false, .bool false, .bool false, .bool false, .bool false, .bool false, .bool false]⟩),
 (157,⟨.other,1,8,[.lit .nilFunc]⟩),
 (158,⟨.other,1,8,[.lit .nilFunc]⟩),
 (159,⟨.array 2 9,2,32,[.str [], .str []]⟩),
 (160,⟨.other,1,8,[.lit .nilFunc]⟩),
 (161,⟨.other,1,8,[.lit .nilFunc]⟩),
 (163,⟨.other,1,8,[.lit .nilFunc]⟩),
 (164,⟨.other,1,8,[.lit .nilFunc]⟩),
 (165,⟨.other,1,8,[.lit .nilFunc]⟩),
 (166,⟨.other,1,8,[.lit .nilFunc]⟩),
 (167,⟨.other,1,8,[.lit .nilFunc]⟩),
 (168,⟨.other,1,8,[.lit .nilFunc]⟩),
 (169,⟨.other,1,8,[.lit .nilFunc]⟩),
 (170,⟨.other,1,8,[.lit .nilFunc]⟩),
 (171,⟨.struct [(4,0),(4,1),(4,2),(4,3),(4,4),(3,5),(3,6)],7,24,[.bool false, .bool false, .bool false, .bool false, .bool false, .int .i64 0, .int .i64 0]⟩),
 (172,⟨.struct [(4,0),(4,1),(4,2),(4,3),(4,4),(3,5),(3,6)],7,24,[.bool false, .bool false, .bool false, .bool false, .bool false, .int .i64 0, .int .i64 0]⟩),
 (173,⟨.array 10 172,70,240,[.bool false, .bool false, .bool false, .bool false, .bool false, .int .i64 0, .int .i64 0, .bool false, .bool false, .bool false, .bool false, .bool false, .int .i64 0, .int .i64 0, .bool false, .bool false, .bool false, .bool false, .bool false, .int .i64 0, .int .i64 0, .bool false, .bool false, .bool false, .bool false, .bool false, .int .i64 0, .int .i64 0, .bool false, .bool false, .bool false, .bool false, .bool false, .int .i64 0, .int .i64 0, .bool false, .bool false, .bool false, .bool false, .bool false, .int .i64 0, .int .i64 0, .bool false, .bool false, .bool false, .bool false, .bool false, .int .i64 0, .int .i64 0, .bool false, .bool false, .bool false, .bool false, .bool false, .int .i64 0, .int .i64 0, .bool false, .bool false, .bool false, .bool false, .bool false, .int .i64 0, .int .i64 0, .bool false, .bool false, .bool false, .bool false, .bool false, .int .i64 0, .int .i64 0]⟩),
 (174,⟨.other,1,8,[.lit .nilFunc]⟩),
 (175,⟨.other,1,8,[.lit .nilFunc]⟩),
 (176,⟨.other,1,8,[.lit .nilFunc]⟩),
 (177,⟨.other,1,8,[.lit .nilFunc]⟩),
 (178,⟨.other,1,8,[.lit .nilFunc]⟩),
 (179,⟨.other,1,8,[.lit .nilFunc]⟩),
 (180,⟨.other,1,8,[.lit .nilFunc]⟩),
 (181,⟨.other,1,8,[.lit .nilFunc]⟩),
 (182,⟨.other,1,8,[.lit .nilFunc]⟩),
 (183,⟨.other,1,8,[.lit .nilFunc]⟩),
 (184,⟨.other,1,8,[.lit .nilFunc]⟩),
 (185,⟨.other,1,8,[.lit .nilFunc]⟩),
 (186,⟨.other,1,8,[.lit .nilFunc]⟩),
 (187,⟨.other,1,8,[.lit (.map none)]⟩),
 (188,⟨.other,1,8,[.lit (.map none)]⟩),
 (189,⟨.other,1,8,[.lit .nilFunc]⟩),
 (190,⟨.other,1,8,[.lit .nilFunc]⟩),
 (191,⟨.other,1,8,[.lit .nilFunc]⟩),
 (192,⟨.other,1,8,[.lit .nilFunc]⟩),
 (193,⟨.pointer 3,1,8,[.lit (.pointer none)]⟩),
 (194,⟨.other,1,8,[.lit .nilFunc]⟩),
 (195,⟨.other,1,8,[.lit .nilFunc]⟩),
 (196,⟨.other,1,8,[.lit .nilFunc]⟩),
 (197,⟨.other,1,8,[.lit .nilFunc]⟩),
 (198,⟨.other,1,8,[.lit .nilFunc]⟩),
 (199,⟨.other,1,8,[.lit .nilFunc]⟩),
 (200,⟨.other,1,8,[.lit .nilFunc]⟩),
 (201,⟨.int .i64,1,8,[.int .i64 0]⟩),
 (203,⟨.other,1,8,[.lit .nilFunc]⟩),
 (204,⟨.other,1,8,[.lit .nilFunc]⟩),
 (205,⟨.other,1,8,[.lit .nilFunc]⟩),
 (207,⟨.other,1,8,[.lit .nilFunc]⟩),
 (208,⟨.other,1,8,[.lit .nilFunc]⟩),
 (209,⟨.int .u32,1,4,[.int .u32 0]⟩),
 (210,⟨.other,1,8,[.lit .nilFunc]⟩),
 (212,⟨.other,1,8,[.lit .nilFunc]⟩),
 (213,⟨.other,1,8,[.lit .nilFunc]⟩),
 (214,⟨.struct [(3,0),(3,1),(3,2),(4,3)],4,32,[.int .i64 0, .int .i64 0, .int .i64 0, .bool false]⟩),
 (215,⟨.struct [(3,0),(3,1),(3,2),(4,3)],4,32,[.int .i64 0, .int .i64 0, .int .i64 0, .bool false]⟩),
 (216,⟨.array 8 215,32,256,[.int .i64 0, .int .i64 0, .int .i64 0, .bool false, .int .i64 0, .int .i64 0, .int .i64 0, .bool false, .int .i64 0, .int .i64 0, .int .i64 0, .bool false, .int .i64 0, .int .i64 0, .int .i64 0, .bool false, .int .i64 0, .int .i64 0, .int .i64 0, .bool false, .int .i64 0, .int .i64 0, .int .i64 0, .bool false, .int .i64 0, .int .i64 0, .int .i64 0, .bool false, .int .i64 0, .int .i64 0, .int .i64 0, .bool false]⟩),
 (217,⟨.other,1,8,[.lit .nilFunc]⟩),
 (218,⟨.int .u64,1,8,[.int .u64 0]⟩),
 (219,⟨.other,1,8,[.lit .nilFunc]⟩),
 (220,⟨.other,1,8,[.lit .nilFunc]⟩),
 (221,⟨.other,1,8,[.lit .nilFunc]⟩),
 (222,⟨.other,1,8,[.lit .nilFunc]⟩),
 (223,⟨.pointer 218,1,8,[.lit (.pointer none)]⟩),
 (225,⟨.other,1,8,[.lit .nilFunc]⟩),
 (226,⟨.other,1,8,[.lit .nilFunc]⟩),
 (228,⟨.other,1,8,[.lit .nilFunc]⟩),
 (229,⟨.struct [(17,0),(17,1),(17,2),(9,3)],4,40,[.lit (.pointer none), .lit (.pointer none), .lit (.pointer none), .str []]⟩),
 (230,⟨.struct [(17,0),(17,1),(17,2),(9,3)],4,40,[.lit (.pointer none), .lit (.pointer none), .lit (.pointer none), .str []]⟩),
 (231,⟨.array 0 16,0,0,[]⟩),
 (232,⟨.struct [(231,0)],0,0,[]⟩),
 (233,⟨.struct [(231,0)],0,0,[]⟩),
 (234,⟨.int .u8,1,1,[.int .u8 0]⟩),
 (235,⟨.int .u8,1,1,[.int .u8 0]⟩),
 (236,⟨.other,1,8,[.lit .nilFunc]⟩),
 (237,⟨.pointer 5,1,8,[.lit (.pointer none)]⟩),
 (238,⟨.int .i32,1,4,[.int .i32 0]⟩),
 (239,⟨.int .i32,1,4,[.int .i32 0]⟩),
 (240,⟨.struct [(12,0),(12,1),(209,2),(234,3),(5,4),(5,5),(235,6),(236,7),(237,8),(238,9),(239,10)],11,48,[.int .u64 0, .int .u64 0, .int .u32 0, .int .u8 0, .int .u8 0, .int .u8 0, .int .u8 0, .lit .nilFunc, .lit (.pointer none), .int .i32 0, .int .i32 0]⟩),
 (241,⟨.struct [(12,0),(12,1),(209,2),(234,3),(5,4),(5,5),(235,6),(236,7),(237,8),(238,9),(239,10)],11,48,[.int .u64 0, .int .u64 0, .int .u32 0, .int .u8 0, .int .u8 0, .int .u8 0, .int .u8 0, .lit .nilFunc, .lit (.pointer none), .int .i32 0, .int .i32 0]⟩),
 (242,⟨.other,1,8,[.lit (.pointer none)]⟩)]
def ty:TypeId->Option TI:=aSz tab
theorem hty:dT Tryz.prog ty:=aPq ⟨T1,T2,T3,T4,T5,T6,T7,T8,T9,T10,T11,T12,T13,T14,T15,T16,T17,T18,T19,T20,T21,T22,T23,T24,T25,T26,T27,T28,T29,T30,T32,T34,T35,T36,T37,T38,T39,T40,T41,T42,T43,T44,T45,T46,T48,T49,T50,T51,T52,T53,T54,T55,T57,T59,T60,T61,T62,T63,T64,T65,T66,T67,T68,T69,T70,T71,T72,T73,T74,T75,T76,T77,T78,T79,T80,T81,T82,T83,T84,T85,T86,T87,T88,T89,T90,T91,T92,T93,T94,T95,T96,T97,T98,T99,bA5,bA4,bA3,bA2,bA1,bA0,aZz,aZy,aZx,aZw,aZv,aZu,aZt,aZs,aZr,aZq,aZp,aZo,aZn,aZm,aZl,aZk,aZj,aZi,aZh,aZg,aZf,aZe,aZd,aZc,aZb,aZa,aZ9,aZ8,aZ7,aZ6,aZ5,aZ4,aZ3,aZ2,aZ1,aZ0,aYz,aYy,aYx,aYw,aYv,aYu,aYt,aYs,aYr,aYq,aYp,aYo,aYn,aYm,aYl,aYk,aYj,aYi,aYh,aYg,aYf,aYe,aYd,aYc,aYb,aYa,aY9,aY8,aY7,aY6,aY5,aY4,aY3,aY2,aY1,aY0,aXz,aXy,aXx,aXw,aXv,aXu,aXt,aXs,aXr,aXq,aXp,aXo,aXn,aXm,aXl,aXk,aXj,aXi,aXh,aXg,aXf,aXe,aXd,aXc,aXb,aXa,aX9,aX8,aX7,aX6,aX5,aX4,aX3,aX2,aX1,aX0,aWz,aWy,aWx,aWw,aWv,aWu,aWt,aWs,aWr,aWq,aWp,aWo,aWn,aWm,aWl,aWk,aWj,aWi,aWh,aWg,aWf,aWe,trivial⟩
end Go.Proofs.YtleihcnongldbaaGreatDoor
