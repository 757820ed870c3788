/-
  The types of the program in short: for each its shape, its cells, its bytes and its zero value.
  Conditions: none.
-/
import Derived.Test.YtcomlapnibckmaaGreatDoorVSs
import Derived.Test.YtcomlapnibckmaaGreatDoorProg
import Derived.KernelRfl
set_option linter.unusedSectionVars false
set_option linter.unusedSimpArgs false
set_option linter.unusedVariables false
namespace Go.Proofs.YtcomlapnibckmaaGreatDoor
open Go.Proofs
set_option maxRecDepth 100000
theorem T1:aJ Tryz.prog 1=some ⟨.other,1,8,[.lit .nilFunc]⟩:=by kernel_rfl
theorem T2:aJ Tryz.prog 2=some ⟨.int .i64,1,8,[.int .i64 0]⟩:=by kernel_rfl
theorem T3:aJ Tryz.prog 3=some ⟨.int .i64,1,8,[.int .i64 0]⟩:=by kernel_rfl
theorem T4:aJ Tryz.prog 4=some ⟨.bool,1,1,[.bool false]⟩:=by kernel_rfl
theorem T5:aJ Tryz.prog 5=some ⟨.int .u8,1,1,[.int .u8 0]⟩:=by kernel_rfl
theorem T6:aJ Tryz.prog 6=some ⟨.int .u8,1,1,[.int .u8 0]⟩:=by kernel_rfl
theorem T7:aJ Tryz.prog 7=some ⟨.struct [(2,0),(3,1),(4,2),(6,3)],4,24,[.int .i64 0, .int .i64 0, .bool false, .int .u8 0]⟩:=by kernel_rfl
theorem T8:aJ Tryz.prog 8=some ⟨.struct [(2,0),(3,1),(4,2),(6,3)],4,24,[.int .i64 0, .int .i64 0, .bool false, .int .u8 0]⟩:=by kernel_rfl
theorem T9:aJ Tryz.prog 9=some ⟨.string,1,16,[.str []]⟩:=by kernel_rfl
theorem T10:aJ Tryz.prog 10=some ⟨.string,1,16,[.str []]⟩:=by kernel_rfl
theorem T11:aJ Tryz.prog 11=some ⟨.string,1,16,[.str []]⟩:=by kernel_rfl
theorem T12:aJ Tryz.prog 12=some ⟨.int .u64,1,8,[.int .u64 0]⟩:=by kernel_rfl
theorem T13:aJ Tryz.prog 13=some ⟨.struct [(9,0),(12,1)],2,24,[.str [], .int .u64 0]⟩:=by kernel_rfl
theorem T14:aJ Tryz.prog 14=some ⟨.struct [(9,0),(12,1)],2,24,[.str [], .int .u64 0]⟩:=by kernel_rfl
theorem T15:aJ Tryz.prog 15=some ⟨.pointer 320,1,8,[.lit (.pointer none)]⟩:=by kernel_rfl
theorem T16:aJ Tryz.prog 16=some ⟨.pointer 323,1,8,[.lit (.pointer none)]⟩:=by kernel_rfl
theorem T17:aJ Tryz.prog 17=some ⟨.pointer 331,1,8,[.lit (.pointer none)]⟩:=by kernel_rfl
theorem T18:aJ Tryz.prog 18=some ⟨.struct [(17,0)],1,8,[.lit (.pointer none)]⟩:=by kernel_rfl
theorem T19:aJ Tryz.prog 19=some ⟨.struct [(17,0)],1,8,[.lit (.pointer none)]⟩:=by kernel_rfl
theorem T20:aJ Tryz.prog 20=some ⟨.other,1,16,[.lit .nilIface]⟩:=by kernel_rfl
theorem T21:aJ Tryz.prog 21=some ⟨.int .i32,1,4,[.int .i32 0]⟩:=by kernel_rfl
theorem T22:aJ Tryz.prog 22=some ⟨.slice 9,1,24,[.nil]⟩:=by kernel_rfl
theorem T23:aJ Tryz.prog 23=some ⟨.slice 84,1,24,[.nil]⟩:=by kernel_rfl
theorem T24:aJ Tryz.prog 24=some ⟨.struct [(22,0),(23,1)],2,48,[.nil, .nil]⟩:=by kernel_rfl
theorem T25:aJ Tryz.prog 25=some ⟨.struct [(22,0),(23,1)],2,48,[.nil, .nil]⟩:=by kernel_rfl
theorem T26:aJ Tryz.prog 26=some ⟨.slice 5,1,24,[.nil]⟩:=by kernel_rfl
theorem T27:aJ Tryz.prog 27=some ⟨.other,1,8,[.lit .nilFunc]⟩:=by kernel_rfl
theorem T28:aJ Tryz.prog 28=some ⟨.other,1,8,[.lit .nilFunc]⟩:=by kernel_rfl
theorem T29:aJ Tryz.prog 29=some ⟨.other,1,8,[.lit .nilFunc]⟩:=by kernel_rfl
theorem T30:aJ Tryz.prog 30=some ⟨.int .i64,1,8,[.int .i64 0]⟩:=by kernel_rfl
theorem T32:aJ Tryz.prog 32=some ⟨.other,1,8,[.lit .nilFunc]⟩:=by kernel_rfl
theorem T34:aJ Tryz.prog 34=some ⟨.other,1,8,[.lit .nilFunc]⟩:=by kernel_rfl
theorem T35:aJ Tryz.prog 35=some ⟨.other,1,8,[.lit .nilFunc]⟩:=by kernel_rfl
theorem T36:aJ Tryz.prog 36=some ⟨.other,1,8,[.lit .nilFunc]⟩:=by kernel_rfl
theorem T37:aJ Tryz.prog 37=some ⟨.slice 3,1,24,[.nil]⟩:=by kernel_rfl
theorem T38:aJ Tryz.prog 38=some ⟨.array 32 5,32,32,[.int .u8 0, .int .u8 0, .int .u8 0, .int .u8 0, .int .u8 0, .int .u8 0, .int .u8 0, .int .u8 0, .int .u8 0, .int .u8 0, .int .u8 0, .int .u8 0, .int .u8 0, .int .u8 0, .int .u8 0, .int .u8 0, .int .u8 0, .int .u8 0, .int .u8 0, .int .u8 0, .int .u8 0, .int .u8 0, .int .u8 0, .int .u8 0, .int .u8 0, .int .u8 0, .int .u8 0, .int .u8 0, .int .u8 0, .int .u8 0, .int .u8 0, .int .u8 0]⟩:=by kernel_rfl
theorem T39:aJ Tryz.prog 39=some ⟨.array 32 5,32,32,[.int .u8 0, .int .u8 0, .int .u8 0, .int .u8 0, .int .u8 0, .int .u8 0, .int .u8 0, .int .u8 0, .int .u8 0, .int .u8 0, .int .u8 0, .int .u8 0, .int .u8 0, .int .u8 0, .int .u8 0, .int .u8 0, .int .u8 0, .int .u8 0, .int .u8 0, .int .u8 0, .int .u8 0, .int .u8 0, .int .u8 0, .int .u8 0, .int .u8 0, .int .u8 0, .int .u8 0, .int .u8 0, .int .u8 0, .int .u8 0, .int .u8 0, .int .u8 0]⟩:=by kernel_rfl
theorem T40:aJ Tryz.prog 40=some ⟨.struct [(3,0),(37,1),(39,2),(9,34)],35,80,[.int .i64 0, .nil, .int .u8 0, .int .u8 0, .int .u8 0, .int .u8 0, .int .u8 0, .int .u8 0, .int .u8 0, .int .u8 0, .int .u8 0, .int .u8 0, .int .u8 0, .int .u8 0, .int .u8 0, .int .u8 0, .int .u8 0, .int .u8 0, .int .u8 0, .int .u8 0, .int .u8 0, .int .u8 0, .int .u8 0, .int .u8 0, .int .u8 0, .int .u8 0, .int .u8 0, .int .u8 0, .int .u8 0, .int .u8 0, .int .u8 0, .int .u8 0, .int .u8 0, .int .u8 0, .str []]⟩:=by kernel_rfl
theorem T41:aJ Tryz.prog 41=some ⟨.struct [(3,0),(37,1),(39,2),(9,34)],35,80,[.int .i64 0, .nil, .int .u8 0, .int .u8 0, .int .u8 0, .int .u8 0, .int .u8 0, .int .u8 0, .int .u8 0, .int .u8 0, .int .u8 0, .int .u8 0, .int .u8 0, .int .u8 0, .int .u8 0, .int .u8 0, .int .u8 0, .int .u8 0, .int .u8 0, .int .u8 0, .int .u8 0, .int .u8 0, .int .u8 0, .int .u8 0, .int .u8 0, .int .u8 0, .int .u8 0, .int .u8 0, .int .u8 0, .int .u8 0, .int .u8 0, .int .u8 0, .int .u8 0, .int .u8 0, .str []]⟩:=by kernel_rfl
theorem T42:aJ Tryz.prog 42=some ⟨.other,1,8,[.lit .nilFunc]⟩:=by kernel_rfl
theorem T44:aJ Tryz.prog 44=some ⟨.other,1,8,[.lit .nilFunc]⟩:=by kernel_rfl
theorem T45:aJ Tryz.prog 45=some ⟨.other,1,8,[.lit .nilFunc]⟩:=by kernel_rfl
theorem T46:aJ Tryz.prog 46=some ⟨.other,1,8,[.lit .nilFunc]⟩:=by kernel_rfl
theorem T47:aJ Tryz.prog 47=some ⟨.slice 80,1,24,[.nil]⟩:=by kernel_rfl
theorem T48:aJ Tryz.prog 48=some ⟨.slice 39,1,24,[.nil]⟩:=by kernel_rfl
theorem T49:aJ Tryz.prog 49=some ⟨.struct [(3,0),(48,1),(48,2)],3,56,[.int .i64 0, .nil, .nil]⟩:=by kernel_rfl
theorem T50:aJ Tryz.prog 50=some ⟨.struct [(3,0),(48,1),(48,2)],3,56,[.int .i64 0, .nil, .nil]⟩:=by kernel_rfl
theorem T51:aJ Tryz.prog 51=some ⟨.struct [(9,0),(39,1),(47,33),(39,34),(50,66)],69,160,[.str [], .int .u8 0, .int .u8 0, .int .u8 0, .int .u8 0, .int .u8 0, .int .u8 0, .int .u8 0, .int .u8 0, .int .u8 0, .int .u8 0, .int .u8 0, .int .u8 0, .int .u8 0, .int .u8 0, .int .u8 0, .int .u8 0, .int .u8 0, .int .u8 0, .int .u8 0, .int .u8 0, .int .u8 0, .int .u8 0, .int .u8 0, .int .u8 0, .int .u8 0, .int .u8 0, .int .u8 0, .int .u8 0, .int .u8 0, .int .u8 0, .int .u8 0, .int .u8 0, .nil, .int .u8 0, .int .u8 0, .int .u8 0, .int .u8 0, .int .u8 0, .int .u8 0, .int .u8 0, .int .u8 0, .int .u8 0, .int .u8 0, .int .u8 0, .int .u8 0, .int .u8 0, .int .u8 0, .int .u8 0, .int .u8 0, .int .u8 0, .int .u8 0, .int .u8 0, .int .u8 0, .int .u8 0, .int .u8 0, .int .u8 0, .int .u8 0, .int .u8 0, .int .u8 0, .int .u8 0, .int .u8 0, .int .u8 0, .int .u8 0, .int .u8 0, .int .u8 0, .int .i64 0, .nil, .nil]⟩:=by kernel_rfl
theorem T52:aJ Tryz.prog 52=some ⟨.struct [(9,0),(39,1),(47,33),(39,34),(50,66)],69,160,[.str [], .int .u8 0, .int .u8 0, .int .u8 0, .int .u8 0, .int .u8 0, .int .u8 0, .int .u8 0, .int .u8 0, .int .u8 0, .int .u8 0, .int .u8 0, .int .u8 0, .int .u8 0, .int .u8 0, .int .u8 0, .int .u8 0, .int .u8 0, .int .u8 0, .int .u8 0, .int .u8 0, .int .u8 0, .int .u8 0, .int .u8 0, .int .u8 0, .int .u8 0, .int .u8 0, .int .u8 0, .int .u8 0, .int .u8 0, .int .u8 0, .int .u8 0, .int .u8 0, .nil, .int .u8 0, .int .u8 0, .int .u8 0, .int .u8 0, .int .u8 0, .int .u8 0, .int .u8 0, .int .u8 0, .int .u8 0, .int .u8 0, .int .u8 0, .int .u8 0, .int .u8 0, .int .u8 0, .int .u8 0, .int .u8 0, .int .u8 0, .int .u8 0, .int .u8 0, .int .u8 0, .int .u8 0, .int .u8 0, .int .u8 0, .int .u8 0, .int .u8 0, .int .u8 0, .int .u8 0, .int .u8 0, .int .u8 0, .int .u8 0, .int .u8 0, .int .u8 0, .int .i64 0, .nil, .nil]⟩:=by kernel_rfl
theorem T53:aJ Tryz.prog 53=some ⟨.other,1,8,[.lit .nilFunc]⟩:=by kernel_rfl
theorem T54:aJ Tryz.prog 54=some ⟨.other,1,8,[.lit .nilFunc]⟩:=by kernel_rfl
theorem T56:aJ Tryz.prog 56=some ⟨.other,1,8,[.lit .nilFunc]⟩:=by kernel_rfl
theorem T57:aJ Tryz.prog 57=some ⟨.other,1,8,[.lit .nilFunc]⟩:=by kernel_rfl
theorem T58:aJ Tryz.prog 58=some ⟨.other,1,8,[.lit .nilFunc]⟩:=by kernel_rfl
theorem T59:aJ Tryz.prog 59=some ⟨.other,1,8,[.lit .nilFunc]⟩:=by kernel_rfl
theorem T61:aJ Tryz.prog 61=some ⟨.other,1,8,[.lit .nilFunc]⟩:=by kernel_rfl
theorem T62:aJ Tryz.prog 62=some ⟨.other,1,8,[.lit .nilFunc]⟩:=by kernel_rfl
theorem T63:aJ Tryz.prog 63=some ⟨.int .u64,1,8,[.int .u64 0]⟩:=by kernel_rfl
theorem T64:aJ Tryz.prog 64=some ⟨.other,1,8,[.lit .nilFunc]⟩:=by kernel_rfl
theorem T65:aJ Tryz.prog 65=some ⟨.other,1,8,[.lit .nilFunc]⟩:=by kernel_rfl
theorem T66:aJ Tryz.prog 66=some ⟨.other,1,8,[.lit .nilFunc]⟩:=by kernel_rfl
theorem T67:aJ Tryz.prog 67=some ⟨.other,1,8,[.lit .nilFunc]⟩:=by kernel_rfl
theorem T69:aJ Tryz.prog 69=some ⟨.other,1,8,[.lit .nilFunc]⟩:=by kernel_rfl
theorem T70:aJ Tryz.prog 70=some ⟨.struct [(47,0)],1,24,[.nil]⟩:=by kernel_rfl
theorem T71:aJ Tryz.prog 71=some ⟨.struct [(47,0)],1,24,[.nil]⟩:=by kernel_rfl
theorem T72:aJ Tryz.prog 72=some ⟨.other,1,8,[.lit .nilFunc]⟩:=by kernel_rfl
theorem T74:aJ Tryz.prog 74=some ⟨.other,1,8,[.lit .nilFunc]⟩:=by kernel_rfl
theorem T75:aJ Tryz.prog 75=some ⟨.other,1,8,[.lit .nilFunc]⟩:=by kernel_rfl
theorem T76:aJ Tryz.prog 76=some ⟨.slice 78,1,24,[.nil]⟩:=by kernel_rfl
theorem T77:aJ Tryz.prog 77=some ⟨.struct [(3,0),(9,1),(3,2),(3,3),(76,4)],5,64,[.int .i64 0, .str [], .int .i64 0, .int .i64 0, .nil]⟩:=by kernel_rfl
theorem T78:aJ Tryz.prog 78=some ⟨.struct [(3,0),(9,1),(3,2),(3,3),(76,4)],5,64,[.int .i64 0, .str [], .int .i64 0, .int .i64 0, .nil]⟩:=by kernel_rfl
theorem T79:aJ Tryz.prog 79=some ⟨.struct [(3,0),(4,1),(78,2),(78,7),(22,12),(9,13),(9,14),(9,15)],16,216,[.int .i64 0, .bool false, .int .i64 0, .str [], .int .i64 0, .int .i64 0, .nil, .int .i64 0, .str [], .int .i64 0, .int .i64 0, .nil, .nil, .str [], .str [], .str []]⟩:=by kernel_rfl
theorem T80:aJ Tryz.prog 80=some ⟨.struct [(3,0),(4,1),(78,2),(78,7),(22,12),(9,13),(9,14),(9,15)],16,216,[.int .i64 0, .bool false, .int .i64 0, .str [], .int .i64 0, .int .i64 0, .nil, .int .i64 0, .str [], .int .i64 0, .int .i64 0, .nil, .nil, .str [], .str [], .str []]⟩:=by kernel_rfl
theorem T81:aJ Tryz.prog 81=some ⟨.other,1,8,[.lit .nilFunc]⟩:=by kernel_rfl
theorem T82:aJ Tryz.prog 82=some ⟨.slice 86,1,24,[.nil]⟩:=by kernel_rfl
theorem T83:aJ Tryz.prog 83=some ⟨.struct [(82,0)],1,24,[.nil]⟩:=by kernel_rfl
theorem T84:aJ Tryz.prog 84=some ⟨.struct [(82,0)],1,24,[.nil]⟩:=by kernel_rfl
theorem T85:aJ Tryz.prog 85=some ⟨.struct [(3,0),(9,1),(9,2),(9,3),(3,4),(3,5)],6,72,[.int .i64 0, .str [], .str [], .str [], .int .i64 0, .int .i64 0]⟩:=by kernel_rfl
theorem T86:aJ Tryz.prog 86=some ⟨.struct [(3,0),(9,1),(9,2),(9,3),(3,4),(3,5)],6,72,[.int .i64 0, .str [], .str [], .str [], .int .i64 0, .int .i64 0]⟩:=by kernel_rfl
theorem T87:aJ Tryz.prog 87=some ⟨.struct [(26,0)],1,24,[.nil]⟩:=by kernel_rfl
theorem T88:aJ Tryz.prog 88=some ⟨.struct [(26,0)],1,24,[.nil]⟩:=by kernel_rfl
theorem T89:aJ Tryz.prog 89=some ⟨.other,1,8,[.lit .nilFunc]⟩:=by kernel_rfl
theorem T90:aJ Tryz.prog 90=some ⟨.other,1,8,[.lit .nilFunc]⟩:=by kernel_rfl
theorem T91:aJ Tryz.prog 91=some ⟨.other,1,8,[.lit .nilFunc]⟩:=by kernel_rfl
theorem T92:aJ Tryz.prog 92=some ⟨.int .u64,1,8,[.int .u64 0]⟩:=by kernel_rfl
theorem T93:aJ Tryz.prog 93=some ⟨.other,1,8,[.lit .nilFunc]⟩:=by kernel_rfl
theorem T94:aJ Tryz.prog 94=some ⟨.other,1,8,[.lit .nilFunc]⟩:=by kernel_rfl
theorem T95:aJ Tryz.prog 95=some ⟨.other,1,8,[.lit .nilFunc]⟩:=by kernel_rfl
theorem T96:aJ Tryz.prog 96=some ⟨.other,1,8,[.lit .nilFunc]⟩:=by kernel_rfl
theorem T97:aJ Tryz.prog 97=some ⟨.other,1,8,[.lit .nilFunc]⟩:=by kernel_rfl
theorem T98:aJ Tryz.prog 98=some ⟨.pointer 149,1,8,[.lit (.pointer none)]⟩:=by kernel_rfl
theorem T99:aJ Tryz.prog 99=some ⟨.pointer 101,1,8,[.lit (.pointer none)]⟩:=by kernel_rfl
theorem aPq:aJ Tryz.prog 100=some ⟨.struct [(26,0),(4,1)],2,32,[.nil, .bool false]⟩:=by kernel_rfl
theorem aPp:aJ Tryz.prog 101=some ⟨.struct [(26,0),(4,1)],2,32,[.nil, .bool false]⟩:=by kernel_rfl
theorem aPo:aJ Tryz.prog 102=some ⟨.other,1,8,[.lit .nilFunc]⟩:=by kernel_rfl
theorem aPn:aJ Tryz.prog 103=some ⟨.other,1,8,[.lit .nilFunc]⟩:=by kernel_rfl
theorem aPm:aJ Tryz.prog 104=some ⟨.other,1,8,[.lit .nilFunc]⟩:=by kernel_rfl
theorem aPl:aJ Tryz.prog 105=some ⟨.other,1,8,[.lit .nilFunc]⟩:=by kernel_rfl
theorem aPk:aJ Tryz.prog 106=some ⟨.other,1,8,[.lit .nilFunc]⟩:=by kernel_rfl
theorem aPj:aJ Tryz.prog 107=some ⟨.other,1,8,[.lit .nilFunc]⟩:=by kernel_rfl
theorem aPi:aJ Tryz.prog 108=some ⟨.other,1,8,[.lit .nilFunc]⟩:=by kernel_rfl
theorem aPh:aJ Tryz.prog 109=some ⟨.other,1,8,[.lit .nilFunc]⟩:=by kernel_rfl
theorem aPg:aJ Tryz.prog 110=some ⟨.other,1,8,[.lit .nilFunc]⟩:=by kernel_rfl
theorem aPf:aJ Tryz.prog 111=some ⟨.other,1,8,[.lit .nilFunc]⟩:=by kernel_rfl
theorem aPe:aJ Tryz.prog 112=some ⟨.other,1,8,[.lit .nilFunc]⟩:=by kernel_rfl
theorem aPd:aJ Tryz.prog 113=some ⟨.other,1,8,[.lit .nilFunc]⟩:=by kernel_rfl
theorem aPc:aJ Tryz.prog 114=some ⟨.other,1,8,[.lit .nilFunc]⟩:=by kernel_rfl
theorem aPb:aJ Tryz.prog 115=some ⟨.other,1,8,[.lit .nilFunc]⟩:=by kernel_rfl
theorem aPa:aJ Tryz.prog 116=some ⟨.other,1,8,[.lit .nilFunc]⟩:=by kernel_rfl
theorem aP9:aJ Tryz.prog 117=some ⟨.other,1,8,[.lit .nilFunc]⟩:=by kernel_rfl
theorem aP8:aJ Tryz.prog 118=some ⟨.other,1,8,[.lit .nilFunc]⟩:=by kernel_rfl
theorem aP7:aJ Tryz.prog 119=some ⟨.other,1,8,[.lit .nilFunc]⟩:=by kernel_rfl
theorem aP6:aJ Tryz.prog 120=some ⟨.other,1,8,[.lit .nilFunc]⟩:=by kernel_rfl
theorem aP5:aJ Tryz.prog 121=some ⟨.other,1,8,[.lit .nilFunc]⟩:=by kernel_rfl
theorem aP4:aJ Tryz.prog 122=some ⟨.other,1,8,[.lit .nilFunc]⟩:=by kernel_rfl
theorem aP3:aJ Tryz.prog 123=some ⟨.other,1,8,[.lit .nilFunc]⟩:=by kernel_rfl
theorem aP2:aJ Tryz.prog 124=some ⟨.other,1,8,[.lit .nilFunc]⟩:=by kernel_rfl
theorem aP1:aJ Tryz.prog 125=some ⟨.other,1,8,[.lit .nilFunc]⟩:=by kernel_rfl
theorem aP0:aJ Tryz.prog 126=some ⟨.other,1,8,[.lit .nilFunc]⟩:=by kernel_rfl
theorem aOz:aJ Tryz.prog 127=some ⟨.other,1,8,[.lit .nilFunc]⟩:=by kernel_rfl
theorem aOy:aJ Tryz.prog 128=some ⟨.other,1,8,[.lit .nilFunc]⟩:=by kernel_rfl
theorem aOx:aJ Tryz.prog 129=some ⟨.other,1,8,[.lit .nilFunc]⟩:=by kernel_rfl
theorem aOw:aJ Tryz.prog 130=some ⟨.other,1,8,[.lit .nilFunc]⟩:=by kernel_rfl
theorem aOv:aJ Tryz.prog 132=some ⟨.other,1,8,[.lit .nilFunc]⟩:=by kernel_rfl
theorem aOu:aJ Tryz.prog 133=some ⟨.other,1,8,[.lit .nilFunc]⟩:=by kernel_rfl
theorem aOt:aJ Tryz.prog 134=some ⟨.other,1,8,[.lit .nilFunc]⟩:=by kernel_rfl
theorem aOs:aJ Tryz.prog 135=some ⟨.struct [(80,0)],16,216,[.int .i64 0, .bool false, .int .i64 0, .str [], .int .i64 0, .int .i64 0, .nil, .int .i64 0, .str [], .int .i64 0, .int .i64 0, .nil, .nil, .str [], .str [], .str []]⟩:=by kernel_rfl
theorem aOr:aJ Tryz.prog 136=some ⟨.struct [(80,0)],16,216,[.int .i64 0, .bool false, .int .i64 0, .str [], .int .i64 0, .int .i64 0, .nil, .int .i64 0, .str [], .int .i64 0, .int .i64 0, .nil, .nil, .str [], .str [], .str []]⟩:=by kernel_rfl
theorem aOq:aJ Tryz.prog 137=some ⟨.other,1,8,[.lit .nilFunc]⟩:=by kernel_rfl
theorem aOp:aJ Tryz.prog 138=some ⟨.other,1,8,[.lit .nilFunc]⟩:=by kernel_rfl
theorem aOo:aJ Tryz.prog 139=some ⟨.pointer 88,1,8,[.lit (.pointer none)]⟩:=by kernel_rfl
theorem aOn:aJ Tryz.prog 140=some ⟨.other,1,8,[.lit .nilFunc]⟩:=by kernel_rfl
theorem aOm:aJ Tryz.prog 141=some ⟨.other,1,8,[.lit .nilFunc]⟩:=by kernel_rfl
theorem aOl:aJ Tryz.prog 142=some ⟨.other,1,8,[.lit .nilFunc]⟩:=by kernel_rfl
theorem aOk:aJ Tryz.prog 143=some ⟨.other,1,8,[.lit .nilFunc]⟩:=by kernel_rfl
theorem aOj:aJ Tryz.prog 144=some ⟨.other,1,8,[.lit .nilFunc]⟩:=by kernel_rfl
theorem aOi:aJ Tryz.prog 145=some ⟨.other,1,8,[.lit .nilFunc]⟩:=by kernel_rfl
theorem aOh:aJ Tryz.prog 147=some ⟨.other,1,8,[.lit .nilFunc]⟩:=by kernel_rfl
theorem aOg:aJ Tryz.prog 148=some ⟨.struct [(26,0)],1,24,[.nil]⟩:=by kernel_rfl
theorem aOf:aJ Tryz.prog 149=some ⟨.struct [(26,0)],1,24,[.nil]⟩:=by kernel_rfl
theorem aOe:aJ Tryz.prog 150=some ⟨.other,1,8,[.lit .nilFunc]⟩:=by kernel_rfl
theorem aOd:aJ Tryz.prog 151=some ⟨.struct [],0,0,[]⟩:=by kernel_rfl
theorem aOc:aJ Tryz.prog 152=some ⟨.struct [],0,0,[]⟩:=by kernel_rfl
theorem aOb:aJ Tryz.prog 153=some ⟨.other,1,8,[.lit .nilFunc]⟩:=by kernel_rfl
theorem aOa:aJ Tryz.prog 154=some ⟨.other,1,8,[.lit .nilFunc]⟩:=by kernel_rfl
theorem aO9:aJ Tryz.prog 155=some ⟨.other,1,8,[.lit .nilFunc]⟩:=by kernel_rfl
theorem aO8:aJ Tryz.prog 156=some ⟨.other,1,8,[.lit .nilFunc]⟩:=by kernel_rfl
theorem aO7:aJ Tryz.prog 157=some ⟨.other,1,8,[.lit .nilFunc]⟩:=by kernel_rfl
theorem aO6:aJ Tryz.prog 158=some ⟨.other,1,8,[.lit .nilFunc]⟩:=by kernel_rfl
theorem aO5:aJ Tryz.prog 159=some ⟨.other,1,8,[.lit .nilFunc]⟩:=by kernel_rfl
theorem aO4:aJ Tryz.prog 160=some ⟨.other,1,8,[.lit .nilFunc]⟩:=by kernel_rfl
theorem aO3:aJ Tryz.prog 161=some ⟨.other,1,8,[.lit .nilFunc]⟩:=by kernel_rfl
theorem aO2:aJ Tryz.prog 162=some ⟨.other,1,8,[.lit .nilFunc]⟩:=by kernel_rfl
theorem aO1:aJ Tryz.prog 163=some ⟨.other,1,8,[.lit .nilFunc]⟩:=by kernel_rfl
theorem aO0:aJ Tryz.prog 164=some ⟨.other,1,8,[.lit .nilFunc]⟩:=by kernel_rfl
theorem aNz:aJ Tryz.prog 165=some ⟨.other,1,8,[.lit .nilFunc]⟩:=by kernel_rfl
theorem aNy:aJ Tryz.prog 166=some ⟨.other,1,8,[.lit .nilFunc]⟩:=by kernel_rfl
theorem aNx:aJ Tryz.prog 167=some ⟨.other,1,8,[.lit .nilFunc]⟩:=by kernel_rfl
theorem aNw:aJ Tryz.prog 168=some ⟨.other,1,8,[.lit .nilFunc]⟩:=by kernel_rfl
theorem aNv:aJ Tryz.prog 169=some ⟨.other,1,8,[.lit .nilFunc]⟩:=by kernel_rfl
theorem aNu:aJ Tryz.prog 170=some ⟨.struct [(4,0),(4,1)],2,2,[.bool false, .bool false]⟩:=by kernel_rfl
theorem aNt:aJ Tryz.prog 171=some ⟨.struct [(4,0),(4,1)],2,2,[.bool false, .bool false]⟩:=by kernel_rfl
theorem aNs:aJ Tryz.prog 172=some ⟨.array 4 171,8,8,[.bool false, .bool false, .bool false, .bool false, .bool false, .bool false, .bool false, .bool false]⟩:=by kernel_rfl
theorem aNr:aJ Tryz.prog 173=some ⟨.other,1,8,[.lit .nilFunc]⟩:=by kernel_rfl
theorem aNq:aJ Tryz.prog 174=some ⟨.other,1,8,[.lit .nilFunc]⟩:=by kernel_rfl
theorem aNp:aJ Tryz.prog 175=some ⟨.array 2 9,2,32,[.str [], .str []]⟩:=by kernel_rfl
theorem aNo:aJ Tryz.prog 176=some ⟨.other,1,8,[.lit .nilFunc]⟩:=by kernel_rfl
theorem aNn:aJ Tryz.prog 178=some ⟨.other,1,8,[.lit .nilFunc]⟩:=by kernel_rfl
theorem aNm:aJ Tryz.prog 179=some ⟨.struct [(4,0),(4,1),(4,2),(4,3),(4,4),(3,5),(3,6)],7,24,[.bool false, .bool false, .bool false, .bool false, .bool false, .int .i64 0, .int .i64 0]⟩:=by kernel_rfl
theorem aNl:aJ Tryz.prog 180=some ⟨.struct [(4,0),(4,1),(4,2),(4,3),(4,4),(3,5),(3,6)],7,24,[.bool false, .bool false, .bool false, .bool false, .bool false, .int .i64 0, .int .i64 0]⟩:=by kernel_rfl
theorem aNk:aJ Tryz.prog 181=some ⟨.array 10 180,70,240,[.bool false, .bool false, .bool false, .bool false, .bool false, .int .i64 0, .int .i64 0, .bool false, .bool false, .bool false, .bool false, .bool false, .int .i64 0, .int .i64 0, .bool false, .bool false, .bool false, .bool false, .bool false, .int .i64 0, .int .i64 0, .bool false, .bool false, .bool false, .bool false, .bool false, .int .i64 0, .int .i64 0, .bool false, .bool false, .bool false, .bool false, .bool false, .int .i64 0, .int .i64 0, .bool false, .bool false, .bool false, .bool false, .bool false, .int .i64 0, .int .i64 0, .bool false, .bool false, .bool false, .bool false, .bool false, .int .i64 0, .int .i64 0, .bool false, .bool false, .bool false, .bool false, .bool false, .int .i64 0, .int .i64 0, .bool false, .bool false, .bool false, .bool false, .bool false, .int .i64 0, .int .i64 0, .bool false, .bool false, .bool false, .bool false, .bool false, .int .i64 0, .int .i64 0]⟩:=by kernel_rfl
theorem aNj:aJ Tryz.prog 183=some ⟨.other,1,8,[.lit .nilFunc]⟩:=by kernel_rfl
theorem aNi:aJ Tryz.prog 184=some ⟨.other,1,8,[.lit .nilFunc]⟩:=by kernel_rfl
theorem aNh:aJ Tryz.prog 185=some ⟨.other,1,8,[.lit .nilFunc]⟩:=by kernel_rfl
theorem aNg:aJ Tryz.prog 186=some ⟨.other,1,8,[.lit .nilFunc]⟩:=by kernel_rfl
theorem aNf:aJ Tryz.prog 187=some ⟨.other,1,8,[.lit .nilFunc]⟩:=by kernel_rfl
theorem aNe:aJ Tryz.prog 188=some ⟨.other,1,8,[.lit .nilFunc]⟩:=by kernel_rfl
theorem aNd:aJ Tryz.prog 189=some ⟨.other,1,8,[.lit .nilFunc]⟩:=by kernel_rfl
theorem aNc:aJ Tryz.prog 190=some ⟨.other,1,8,[.lit .nilFunc]⟩:=by kernel_rfl
theorem aNb:aJ Tryz.prog 191=some ⟨.int .u32,1,4,[.int .u32 0]⟩:=by kernel_rfl
theorem aNa:aJ Tryz.prog 192=some ⟨.array 8 191,8,32,[.int .u32 0, .int .u32 0, .int .u32 0, .int .u32 0, .int .u32 0, .int .u32 0, .int .u32 0, .int .u32 0]⟩:=by kernel_rfl
theorem aN9:aJ Tryz.prog 193=some ⟨.other,1,8,[.lit .nilFunc]⟩:=by kernel_rfl
theorem aN8:aJ Tryz.prog 194=some ⟨.other,1,8,[.lit .nilFunc]⟩:=by kernel_rfl
theorem aN7:aJ Tryz.prog 195=some ⟨.other,1,8,[.lit .nilFunc]⟩:=by kernel_rfl
theorem aN6:aJ Tryz.prog 197=some ⟨.other,1,8,[.lit .nilFunc]⟩:=by kernel_rfl
theorem aN5:aJ Tryz.prog 198=some ⟨.other,1,8,[.lit .nilFunc]⟩:=by kernel_rfl
theorem aN4:aJ Tryz.prog 199=some ⟨.other,1,8,[.lit .nilFunc]⟩:=by kernel_rfl
theorem aN3:aJ Tryz.prog 200=some ⟨.other,1,8,[.lit .nilFunc]⟩:=by kernel_rfl
theorem aN2:aJ Tryz.prog 201=some ⟨.other,1,8,[.lit .nilFunc]⟩:=by kernel_rfl
theorem aN1:aJ Tryz.prog 202=some ⟨.other,1,8,[.lit .nilFunc]⟩:=by kernel_rfl
theorem aN0:aJ Tryz.prog 203=some ⟨.other,1,8,[.lit .nilFunc]⟩:=by kernel_rfl
theorem aMz:aJ Tryz.prog 204=some ⟨.other,1,8,[.lit .nilFunc]⟩:=by kernel_rfl
theorem aMy:aJ Tryz.prog 205=some ⟨.other,1,8,[.lit .nilFunc]⟩:=by kernel_rfl
theorem aMx:aJ Tryz.prog 206=some ⟨.other,1,8,[.lit .nilFunc]⟩:=by kernel_rfl
theorem aMw:aJ Tryz.prog 207=some ⟨.other,1,8,[.lit .nilFunc]⟩:=by kernel_rfl
theorem aMv:aJ Tryz.prog 208=some ⟨.other,1,8,[.lit .nilFunc]⟩:=by kernel_rfl
theorem aMu:aJ Tryz.prog 209=some ⟨.other,1,8,[.lit .nilFunc]⟩:=by kernel_rfl
theorem aMt:aJ Tryz.prog 210=some ⟨.other,1,8,[.lit .nilFunc]⟩:=by kernel_rfl
theorem aMs:aJ Tryz.prog 211=some ⟨.other,1,8,[.lit .nilFunc]⟩:=by kernel_rfl
theorem aMr:aJ Tryz.prog 212=some ⟨.other,1,8,[.lit .nilFunc]⟩:=by kernel_rfl
theorem aMq:aJ Tryz.prog 213=some ⟨.other,1,8,[.lit (.map none)]⟩:=by kernel_rfl
theorem aMp:aJ Tryz.prog 214=some ⟨.other,1,8,[.lit (.map none)]⟩:=by kernel_rfl
theorem aMo:aJ Tryz.prog 215=some ⟨.other,1,8,[.lit .nilFunc]⟩:=by kernel_rfl
theorem aMn:aJ Tryz.prog 216=some ⟨.slice 269,1,24,[.nil]⟩:=by kernel_rfl
theorem aMm:aJ Tryz.prog 217=some ⟨.struct [(22,0),(216,1)],2,48,[.nil, .nil]⟩:=by kernel_rfl
theorem aMl:aJ Tryz.prog 218=some ⟨.struct [(22,0),(216,1)],2,48,[.nil, .nil]⟩:=by kernel_rfl
theorem aMk:aJ Tryz.prog 219=some ⟨.other,1,8,[.lit .nilFunc]⟩:=by kernel_rfl
theorem aMj:aJ Tryz.prog 220=some ⟨.other,1,8,[.lit (.map none)]⟩:=by kernel_rfl
theorem aMi:aJ Tryz.prog 221=some ⟨.other,1,8,[.lit .nilFunc]⟩:=by kernel_rfl
theorem aMh:aJ Tryz.prog 222=some ⟨.other,1,8,[.lit .nilFunc]⟩:=by kernel_rfl
theorem aMg:aJ Tryz.prog 223=some ⟨.slice 283,1,24,[.nil]⟩:=by kernel_rfl
theorem aMf:aJ Tryz.prog 224=some ⟨.other,1,8,[.lit .nilFunc]⟩:=by kernel_rfl
theorem aMe:aJ Tryz.prog 225=some ⟨.other,1,8,[.lit .nilFunc]⟩:=by kernel_rfl
theorem aMd:aJ Tryz.prog 226=some ⟨.slice 229,1,24,[.nil]⟩:=by kernel_rfl
theorem aMc:aJ Tryz.prog 227=some ⟨.struct [(22,0),(4,1)],2,32,[.nil, .bool false]⟩:=by kernel_rfl
theorem aMb:aJ Tryz.prog 228=some ⟨.struct [(22,0),(4,1)],2,32,[.nil, .bool false]⟩:=by kernel_rfl
theorem aMa:aJ Tryz.prog 229=some ⟨.slice 228,1,24,[.nil]⟩:=by kernel_rfl
theorem aM9:aJ Tryz.prog 230=some ⟨.other,1,8,[.lit .nilFunc]⟩:=by kernel_rfl
theorem aM8:aJ Tryz.prog 231=some ⟨.other,1,8,[.lit .nilFunc]⟩:=by kernel_rfl
theorem aM7:aJ Tryz.prog 232=some ⟨.other,1,8,[.lit .nilFunc]⟩:=by kernel_rfl
theorem aM6:aJ Tryz.prog 233=some ⟨.other,1,8,[.lit .nilFunc]⟩:=by kernel_rfl
theorem aM5:aJ Tryz.prog 234=some ⟨.slice 236,1,24,[.nil]⟩:=by kernel_rfl
theorem aM4:aJ Tryz.prog 235=some ⟨.struct [(78,0),(3,5),(234,6)],7,96,[.int .i64 0, .str [], .int .i64 0, .int .i64 0, .nil, .int .i64 0, .nil]⟩:=by kernel_rfl
theorem aM3:aJ Tryz.prog 236=some ⟨.struct [(78,0),(3,5),(234,6)],7,96,[.int .i64 0, .str [], .int .i64 0, .int .i64 0, .nil, .int .i64 0, .nil]⟩:=by kernel_rfl
theorem aM2:aJ Tryz.prog 237=some ⟨.other,1,8,[.lit .nilFunc]⟩:=by kernel_rfl
theorem aM1:aJ Tryz.prog 238=some ⟨.other,1,8,[.lit .nilFunc]⟩:=by kernel_rfl
theorem aM0:aJ Tryz.prog 239=some ⟨.other,1,8,[.lit .nilFunc]⟩:=by kernel_rfl
theorem aLz:aJ Tryz.prog 240=some ⟨.other,1,8,[.lit .nilFunc]⟩:=by kernel_rfl
theorem aLy:aJ Tryz.prog 241=some ⟨.other,1,8,[.lit .nilFunc]⟩:=by kernel_rfl
theorem aLx:aJ Tryz.prog 242=some ⟨.other,1,8,[.lit .nilFunc]⟩:=by kernel_rfl
theorem aLw:aJ Tryz.prog 243=some ⟨.array 64 191,64,256,List.replicate 64 (.int .u32 0)⟩:=by kernel_rfl
theorem aLv:aJ Tryz.prog 244=some ⟨.other,1,8,[.lit .nilFunc]⟩:=by kernel_rfl
theorem aLu:aJ Tryz.prog 245=some ⟨.other,1,8,[.lit .nilFunc]⟩:=by kernel_rfl
theorem aLt:aJ Tryz.prog 246=some ⟨.other,1,8,[.lit .nilFunc]⟩:=by kernel_rfl
theorem aLs:aJ Tryz.prog 247=some ⟨.other,1,8,[.lit .nilFunc]⟩:=by kernel_rfl
theorem aLr:aJ Tryz.prog 248=some ⟨.pointer 3,1,8,[.lit (.pointer none)]⟩:=by kernel_rfl
theorem aLq:aJ Tryz.prog 249=some ⟨.other,1,8,[.lit .nilFunc]⟩:=by kernel_rfl
theorem aLp:aJ Tryz.prog 250=some ⟨.other,1,8,[.lit .nilFunc]⟩:=by kernel_rfl
theorem aLo:aJ Tryz.prog 251=some ⟨.other,1,8,[.lit .nilFunc]⟩:=by kernel_rfl
theorem aLn:aJ Tryz.prog 252=some ⟨.other,1,8,[.lit .nilFunc]⟩:=by kernel_rfl
theorem aLm:aJ Tryz.prog 253=some ⟨.other,1,8,[.lit .nilFunc]⟩:=by kernel_rfl
theorem aLl:aJ Tryz.prog 254=some ⟨.other,1,8,[.lit .nilFunc]⟩:=by kernel_rfl
theorem aLk:aJ Tryz.prog 255=some ⟨.other,1,8,[.lit .nilFunc]⟩:=by kernel_rfl
theorem aLj:aJ Tryz.prog 256=some ⟨.int .i64,1,8,[.int .i64 0]⟩:=by kernel_rfl
theorem aLi:aJ Tryz.prog 258=some ⟨.other,1,8,[.lit .nilFunc]⟩:=by kernel_rfl
theorem aLh:aJ Tryz.prog 259=some ⟨.other,1,8,[.lit .nilFunc]⟩:=by kernel_rfl
theorem aLg:aJ Tryz.prog 260=some ⟨.other,1,8,[.lit .nilFunc]⟩:=by kernel_rfl
theorem aLf:aJ Tryz.prog 262=some ⟨.other,1,8,[.lit .nilFunc]⟩:=by kernel_rfl
theorem aLe:aJ Tryz.prog 263=some ⟨.other,1,8,[.lit .nilFunc]⟩:=by kernel_rfl
theorem aLd:aJ Tryz.prog 264=some ⟨.other,1,8,[.lit .nilFunc]⟩:=by kernel_rfl
theorem aLc:aJ Tryz.prog 265=some ⟨.other,1,8,[.lit .nilFunc]⟩:=by kernel_rfl
theorem aLb:aJ Tryz.prog 266=some ⟨.other,1,8,[.lit .nilFunc]⟩:=by kernel_rfl
theorem aLa:aJ Tryz.prog 267=some ⟨.other,1,8,[.lit .nilFunc]⟩:=by kernel_rfl
theorem aL9:aJ Tryz.prog 268=some ⟨.other,1,8,[.lit .nilFunc]⟩:=by kernel_rfl
theorem aL8:aJ Tryz.prog 269=some ⟨.slice 273,1,24,[.nil]⟩:=by kernel_rfl
theorem aL7:aJ Tryz.prog 270=some ⟨.other,1,8,[.lit .nilFunc]⟩:=by kernel_rfl
theorem aL6:aJ Tryz.prog 271=some ⟨.other,1,8,[.lit .nilFunc]⟩:=by kernel_rfl
theorem aL5:aJ Tryz.prog 272=some ⟨.struct [(3,0),(4,1)],2,16,[.int .i64 0, .bool false]⟩:=by kernel_rfl
theorem aL4:aJ Tryz.prog 273=some ⟨.struct [(3,0),(4,1)],2,16,[.int .i64 0, .bool false]⟩:=by kernel_rfl
theorem aL3:aJ Tryz.prog 274=some ⟨.other,1,8,[.lit .nilFunc]⟩:=by kernel_rfl
theorem aL2:aJ Tryz.prog 275=some ⟨.other,1,8,[.lit .nilFunc]⟩:=by kernel_rfl
theorem aL1:aJ Tryz.prog 276=some ⟨.struct [(3,0),(4,1),(3,2),(3,3)],4,32,[.int .i64 0, .bool false, .int .i64 0, .int .i64 0]⟩:=by kernel_rfl
theorem aL0:aJ Tryz.prog 277=some ⟨.struct [(3,0),(4,1),(3,2),(3,3)],4,32,[.int .i64 0, .bool false, .int .i64 0, .int .i64 0]⟩:=by kernel_rfl
theorem aKz:aJ Tryz.prog 278=some ⟨.slice 277,1,24,[.nil]⟩:=by kernel_rfl
theorem aKy:aJ Tryz.prog 279=some ⟨.slice 280,1,24,[.nil]⟩:=by kernel_rfl
theorem aKx:aJ Tryz.prog 280=some ⟨.array 2 4,2,2,[.bool false, .bool false]⟩:=by kernel_rfl
theorem aKw:aJ Tryz.prog 281=some ⟨.other,1,8,[.lit .nilFunc]⟩:=by kernel_rfl
theorem aKv:aJ Tryz.prog 282=some ⟨.struct [(9,0),(9,1),(4,2)],3,40,[.str [], .str [], .bool false]⟩:=by kernel_rfl
theorem aKu:aJ Tryz.prog 283=some ⟨.struct [(9,0),(9,1),(4,2)],3,40,[.str [], .str [], .bool false]⟩:=by kernel_rfl
theorem aKt:aJ Tryz.prog 284=some ⟨.other,1,8,[.lit .nilFunc]⟩:=by kernel_rfl
theorem aKs:aJ Tryz.prog 285=some ⟨.other,1,8,[.lit .nilFunc]⟩:=by kernel_rfl
theorem aKr:aJ Tryz.prog 286=some ⟨.other,1,8,[.lit .nilFunc]⟩:=by kernel_rfl
theorem aKq:aJ Tryz.prog 287=some ⟨.other,1,8,[.lit .nilFunc]⟩:=by kernel_rfl
theorem aKp:aJ Tryz.prog 288=some ⟨.other,1,8,[.lit .nilFunc]⟩:=by kernel_rfl
theorem aKo:aJ Tryz.prog 289=some ⟨.other,1,8,[.lit .nilFunc]⟩:=by kernel_rfl
theorem aKn:aJ Tryz.prog 291=some ⟨.other,1,8,[.lit .nilFunc]⟩:=by kernel_rfl
theorem aKm:aJ Tryz.prog 292=some ⟨.other,1,8,[.lit .nilFunc]⟩:=by kernel_rfl
theorem aKl:aJ Tryz.prog 293=some ⟨.struct [(3,0),(3,1),(3,2),(4,3)],4,32,[.int .i64 0, .int .i64 0, .int .i64 0, .bool false]⟩:=by kernel_rfl
theorem aKk:aJ Tryz.prog 294=some ⟨.struct [(3,0),(3,1),(3,2),(4,3)],4,32,[.int .i64 0, .int .i64 0, .int .i64 0, .bool false]⟩:=by kernel_rfl
theorem aKj:aJ Tryz.prog 295=some ⟨.array 8 294,32,256,[.int .i64 0, .int .i64 0, .int .i64 0, .bool false, .int .i64 0, .int .i64 0, .int .i64 0, .bool false, .int .i64 0, .int .i64 0, .int .i64 0, .bool false, .int .i64 0, .int .i64 0, .int .i64 0, .bool false, .int .i64 0, .int .i64 0, .int .i64 0, .bool false, .int .i64 0, .int .i64 0, .int .i64 0, .bool false, .int .i64 0, .int .i64 0, .int .i64 0, .bool false, .int .i64 0, .int .i64 0, .int .i64 0, .bool false]⟩:=by kernel_rfl
theorem aKi:aJ Tryz.prog 296=some ⟨.other,1,8,[.lit .nilFunc]⟩:=by kernel_rfl
theorem aKh:aJ Tryz.prog 297=some ⟨.int .u64,1,8,[.int .u64 0]⟩:=by kernel_rfl
theorem aKg:aJ Tryz.prog 298=some ⟨.other,1,8,[.lit .nilFunc]⟩:=by kernel_rfl
theorem aKf:aJ Tryz.prog 299=some ⟨.other,1,8,[.lit .nilFunc]⟩:=by kernel_rfl
theorem aKe:aJ Tryz.prog 300=some ⟨.other,1,8,[.lit .nilFunc]⟩:=by kernel_rfl
theorem aKd:aJ Tryz.prog 301=some ⟨.other,1,8,[.lit .nilFunc]⟩:=by kernel_rfl
theorem aKc:aJ Tryz.prog 302=some ⟨.other,1,8,[.lit .nilFunc]⟩:=by kernel_rfl
theorem aKb:aJ Tryz.prog 303=some ⟨.other,1,8,[.lit .nilFunc]⟩:=by kernel_rfl
theorem aKa:aJ Tryz.prog 304=some ⟨.pointer 297,1,8,[.lit (.pointer none)]⟩:=by kernel_rfl
theorem aK9:aJ Tryz.prog 306=some ⟨.other,1,8,[.lit .nilFunc]⟩:=by kernel_rfl
theorem aK8:aJ Tryz.prog 307=some ⟨.other,1,8,[.lit .nilFunc]⟩:=by kernel_rfl
theorem aK7:aJ Tryz.prog 308=some ⟨.other,1,8,[.lit .nilFunc]⟩:=by kernel_rfl
theorem aK6:aJ Tryz.prog 309=some ⟨.other,1,8,[.lit .nilFunc]⟩:=by kernel_rfl
theorem aK5:aJ Tryz.prog 310=some ⟨.other,1,8,[.lit .nilFunc]⟩:=by kernel_rfl
theorem aK4:aJ Tryz.prog 311=some ⟨.other,1,8,[.lit .nilFunc]⟩:=by kernel_rfl
theorem aK3:aJ Tryz.prog 312=some ⟨.other,1,8,[.lit .nilFunc]⟩:=by kernel_rfl
theorem aK2:aJ Tryz.prog 313=some ⟨.other,1,8,[.lit .nilFunc]⟩:=by kernel_rfl
theorem aK1:aJ Tryz.prog 314=some ⟨.other,1,8,[.lit .nilFunc]⟩:=by kernel_rfl
theorem aK0:aJ Tryz.prog 315=some ⟨.other,1,8,[.lit .nilFunc]⟩:=by kernel_rfl
theorem aJz:aJ Tryz.prog 316=some ⟨.other,1,8,[.lit .nilFunc]⟩:=by kernel_rfl
theorem aJy:aJ Tryz.prog 318=some ⟨.other,1,8,[.lit .nilFunc]⟩:=by kernel_rfl
theorem aJx:aJ Tryz.prog 319=some ⟨.struct [(17,0),(17,1),(17,2),(9,3)],4,40,[.lit (.pointer none), .lit (.pointer none), .lit (.pointer none), .str []]⟩:=by kernel_rfl
theorem aJw:aJ Tryz.prog 320=some ⟨.struct [(17,0),(17,1),(17,2),(9,3)],4,40,[.lit (.pointer none), .lit (.pointer none), .lit (.pointer none), .str []]⟩:=by kernel_rfl
theorem aJv:aJ Tryz.prog 321=some ⟨.array 0 16,0,0,[]⟩:=by kernel_rfl
theorem aJu:aJ Tryz.prog 322=some ⟨.struct [(321,0)],0,0,[]⟩:=by kernel_rfl
theorem aJt:aJ Tryz.prog 323=some ⟨.struct [(321,0)],0,0,[]⟩:=by kernel_rfl
theorem aJs:aJ Tryz.prog 324=some ⟨.int .u8,1,1,[.int .u8 0]⟩:=by kernel_rfl
theorem aJr:aJ Tryz.prog 325=some ⟨.int .u8,1,1,[.int .u8 0]⟩:=by kernel_rfl
theorem aJq:aJ Tryz.prog 326=some ⟨.other,1,8,[.lit .nilFunc]⟩:=by kernel_rfl
theorem aJp:aJ Tryz.prog 327=some ⟨.pointer 5,1,8,[.lit (.pointer none)]⟩:=by kernel_rfl
theorem aJo:aJ Tryz.prog 328=some ⟨.int .i32,1,4,[.int .i32 0]⟩:=by kernel_rfl
theorem aJn:aJ Tryz.prog 329=some ⟨.int .i32,1,4,[.int .i32 0]⟩:=by kernel_rfl
theorem aJm:aJ Tryz.prog 330=some ⟨.struct [(12,0),(12,1),(191,2),(324,3),(5,4),(5,5),(325,6),(326,7),(327,8),(328,9),(329,10)],11,48,[.int .u64 0, .int .u64 0, .int .u32 0, .int .u8 0, .int .u8 0, .int .u8 0, .int .u8 0, .lit .nilFunc, .lit (.pointer none), .int .i32 0, .int .i32 0]⟩:=by kernel_rfl
theorem aJl:aJ Tryz.prog 331=some ⟨.struct [(12,0),(12,1),(191,2),(324,3),(5,4),(5,5),(325,6),(326,7),(327,8),(328,9),(329,10)],11,48,[.int .u64 0, .int .u64 0, .int .u32 0, .int .u8 0, .int .u8 0, .int .u8 0, .int .u8 0, .lit .nilFunc, .lit (.pointer none), .int .i32 0, .int .i32 0]⟩:=by kernel_rfl
theorem aJk:aJ Tryz.prog 332=some ⟨.other,1,8,[.lit (.pointer none)]⟩:=by kernel_rfl
def tab : List (Nat × TI) := [(1, ⟨.other, 1, 8, [.lit .nilFunc]⟩),
 (2,⟨.int .i64,1,8,[.int .i64 0]⟩),
 (3,⟨.int .i64,1,8,[.int .i64 0]⟩),
 (4,⟨.bool,1,1,[.bool false]⟩),
 (5,⟨.int .u8,1,1,[.int .u8 0]⟩),
 (6,⟨.int .u8,1,1,[.int .u8 0]⟩),
 (7,⟨.struct [(2,0),(3,1),(4,2),(6,3)],4,24,[.int .i64 0, .int .i64 0, .bool false, .int .u8 0]⟩),
 (8,⟨.struct [(2,0),(3,1),(4,2),(6,3)],4,24,[.int .i64 0, .int .i64 0, .bool false, .int .u8 0]⟩),
 (9,⟨.string,1,16,[.str []]⟩),
 (10,⟨.string,1,16,[.str []]⟩),
 (11,⟨.string,1,16,[.str []]⟩),
 (12,⟨.int .u64,1,8,[.int .u64 0]⟩),
 (13,⟨.struct [(9,0),(12,1)],2,24,[.str [], .int .u64 0]⟩),
 (14,⟨.struct [(9,0),(12,1)],2,24,[.str [], .int .u64 0]⟩),
 (15,⟨.pointer 320,1,8,[.lit (.pointer none)]⟩),
 (16,⟨.pointer 323,1,8,[.lit (.pointer none)]⟩),
 (17,⟨.pointer 331,1,8,[.lit (.pointer none)]⟩),
 (18,⟨.struct [(17,0)],1,8,[.lit (.pointer none)]⟩),
 (19,⟨.struct [(17,0)],1,8,[.lit (.pointer none)]⟩),
 (20,⟨.other,1,16,[.lit .nilIface]⟩),
 (21,⟨.int .i32,1,4,[.int .i32 0]⟩),
 (22,⟨.slice 9,1,24,[.nil]⟩),
 (23,⟨.slice 84,1,24,[.nil]⟩),
 (24,⟨.struct [(22,0),(23,1)],2,48,[.nil, .nil]⟩),
 (25,⟨.struct [(22,0),(23,1)],2,48,[.nil, .nil]⟩),
 (26,⟨.slice 5,1,24,[.nil]⟩),
 (27,⟨.other,1,8,[.lit .nilFunc]⟩),
 (28,⟨.other,1,8,[.lit .nilFunc]⟩),
 (29,⟨.other,1,8,[.lit .nilFunc]⟩),
 (30,⟨.int .i64,1,8,[.int .i64 0]⟩),
 (32,⟨.other,1,8,[.lit .nilFunc]⟩),
 (34,⟨.other,1,8,[.lit .nilFunc]⟩),
 (35,⟨.other,1,8,[.lit .nilFunc]⟩),
 (36,⟨.other,1,8,[.lit .nilFunc]⟩),
 (37,⟨.slice 3,1,24,[.nil]⟩),
 (38,⟨.array 32 5,32,32,[.int .u8 0, .int .u8 0, .int .u8 0, .int .u8 0, .int .u8 0, .int .u8 0, .int .u8 0, .int .u8 0, .int .u8 0, .int .u8 0, .int .u8 0, .int .u8 0, .int .u8 0, .int .u8 0, .int .u8 0, .int .u8 0, .int .u8 0, .int .u8 0, .int .u8 0, .int .u8 0, .int .u8 0, .int .u8 0, .int .u8 0, .int .u8 0, .int .u8 0, .int .u8 0, .int .u8 0, .int .u8 0, .int .u8 0, .int .u8 0, .int .u8 0, .int .u8 0]⟩),
 (39,⟨.array 32 5,32,32,[.int .u8 0, .int .u8 0, .int .u8 0, .int .u8 0, .int .u8 0, .int .u8 0, .int .u8 0, .int .u8 0, .int .u8 0, .int .u8 0, .int .u8 0, .int .u8 0, .int .u8 0, .int .u8 0, .int .u8 0, .int .u8 0, .int .u8 0, .int .u8 0, .int .u8 0, .int .u8 0, .int .u8 0, .int .u8 0, .int .u8 0, .int .u8 0, .int .u8 0, .int .u8 0, .int .u8 0, .int .u8 0, .int .u8 0, .int .u8 0, .int .u8 0, .int .u8 0]⟩),
 (40,⟨.struct [(3,0),(37,1),(39,2),(9,34)],35,80,[.int .i64 0, .nil, .int .u8 0, .int .u8 0, .int .u8 0, .int .u8 0, .int .u8 0, .int .u8 0, .int .u8 0, .int .u8 0, .int .u8 0, .int .u8 0, .int .u8 0, .int .u8 0, .int .u8 0, .int .u8 0, .int .u8 0, .int .u8 0, .int .u8 0, .int .u8 0, .int .u8 0, .int .u8 0, .int .u8 0, .int .u8 0, .int .u8 0, .int .u8 0, .int .u8 0, .int .u8 0, .int .u8 0, .int .u8 0, .int .u8 0, .int .u8 0, .int .u8 0, .int .u8 0, .str []]⟩),
 (41,⟨.struct [(3,0),(37,1),(39,2),(9,34)],35,80,[.int .i64 0, .nil, .int .u8 0, .int .u8 0, .int .u8 0, .int .u8 0, .int .u8 0, .int .u8 0, .int .u8 0, .int .u8 0, .int .u8 0, .int .u8 0, .int .u8 0, .int .u8 0, .int .u8 0, .int .u8 0, .int .u8 0, .int .u8 0, .int .u8 0, .int .u8 0, .int .u8 0, .int .u8 0, .int .u8 0, .int .u8 0, .int .u8 0, .int .u8 0, .int .u8 0, .int .u8 0, .int .u8 0, .int .u8 0, .int .u8 0, .int .u8 0, .int .u8 0, .int .u8 0, .str []]⟩),
 (42,⟨.other,1,8,[.lit .nilFunc]⟩),
 (44,⟨.other,1,8,[.lit .nilFunc]⟩),
 (45,⟨.other,1,8,[.lit .nilFunc]⟩),
 (46,⟨.other,1,8,[.lit .nilFunc]⟩),
 (47,⟨.slice 80,1,24,[.nil]⟩),
 (48,⟨.slice 39,1,24,[.nil]⟩),
 (49,⟨.struct [(3,0),(48,1),(48,2)],3,56,[.int .i64 0, .nil, .nil]⟩),
 (50,⟨.struct [(3,0),(48,1),(48,2)],3,56,[.int .i64 0, .nil, .nil]⟩),
 (51,⟨.struct [(9,0),(39,1),(47,33),(39,34),(50,66)],69,160,[.str [], .int .u8 0, .int .u8 0, .int .u8 0, .int .u8 0, .int .u8 0, .int .u8 0, .int .u8 0, .int .u8 0, .int .u8 0, .int .u8 0, .int .u8 0, .int .u8 0, .int .u8 0, .int .u8 0, .int .u8 0, .int .u8 0, .int .u8 0, .int .u8 0, .int .u8 0, .int .u8 0, .int .u8 0, .int .u8 0, .int .u8 0, .int .u8 0, .int .u8 0, .int .u8 0, .int .u8 0, .int .u8 0, .int .u8 0, .int .u8 0, .int .u8 0, .int .u8 0, .nil, .int .u8 0, .int .u8 0, .int .u8 0, .int .u8 0, .int .u8 0, .int .u8 0, .int .u8 0, .int .u8 0, .int .u8 0, .int .u8 0, .int .u8 0, .int .u8 0, .int .u8 0, .int .u8 0, .int .u8 0, .int .u8 0, .int .u8 0, .int .u8 0, .int .u8 0, .int .u8 0, .int .u8 0, .int .u8 0, .int .u8 0, .int .u8 0, .int .u8 0, .int .u8 0, .int .u8 0, .int .u8 0, .int .u8 0, .int .u8 0, .int .u8 0, .int .u8 0, .int .i64 0, .nil, .nil]⟩),
 (52,⟨.struct [(9,0),(39,1),(47,33),(39,34),(50,66)],69,160,[.str [], .int .u8 0, .int .u8 0, .int .u8 0, .int .u8 0, .int .u8 0, .int .u8 0, .int .u8 0, .int .u8 0, .int .u8 0, .int .u8 0, .int .u8 0, .int .u8 0, .int .u8 0, .int .u8 0, .int .u8 0, .int .u8 0, .int .u8 0, .int .u8 0, .int .u8 0, .int .u8 0, .int .u8 0, .int .u8 0, .int .u8 0, .int .u8 0, .int .u8 0, .int .u8 0, .int .u8 0, .int .u8 0, .int .u8 0, .int .u8 0, .int .u8 0, .int .u8 0, .nil, .int .u8 0, .int .u8 0, .int .u8 0, .int .u8 0, .int .u8 0, .int .u8 0, .int .u8 0, .int .u8 0, .int .u8 0, .int .u8 0, .int .u8 0, .int .u8 0, .int .u8 0, .int .u8 0, .int .u8 0, .int .u8 0, .int .u8 0, .int .u8 0, .int .u8 0, .int .u8 0, .int .u8 0, .int .u8 0, .int .u8 0, .int .u8 0, .int .u8 0, .int .u8 0, .int .u8 0, .int .u8 0, .int .u8 0, .int .u8 0, .int .u8 0, .int .u8 0, .int .i64 0, .nil, .nil]⟩),
 (53,⟨.other,1,8,[.lit .nilFunc]⟩),
 (54,⟨.other,1,8,[.lit .nilFunc]⟩),
 (56,⟨.other,1,8,[.lit .nilFunc]⟩),
 (57,⟨.other,1,8,[.lit .nilFunc]⟩),
 (58,⟨.other,1,8,[.lit .nilFunc]⟩),
 (59,⟨.other,1,8,[.lit .nilFunc]⟩),
 (61,⟨.other,1,8,[.lit .nilFunc]⟩),
 (62,⟨.other,1,8,[.lit .nilFunc]⟩),
 (63,⟨.int .u64,1,8,[.int .u64 0]⟩),
 (64,⟨.other,1,8,[.lit .nilFunc]⟩),
 (65,⟨.other,1,8,[.lit .nilFunc]⟩),
 (66,⟨.other,1,8,[.lit .nilFunc]⟩),
 (67,⟨.other,1,8,[.lit .nilFunc]⟩),
 (69,⟨.other,1,8,[.lit .nilFunc]⟩),
 (70,⟨.struct [(47,0)],1,24,[.nil]⟩),
 (71,⟨.struct [(47,0)],1,24,[.nil]⟩),
 (72,⟨.other,1,8,[.lit .nilFunc]⟩),
 (74,⟨.other,1,8,[.lit .nilFunc]⟩),
 (75,⟨.other,1,8,[.lit .nilFunc]⟩),
 (76,⟨.slice 78,1,24,[.nil]⟩),
 (77,⟨.struct [(3,0),(9,1),(3,2),(3,3),(76,4)],5,64,[.int .i64 0, .str [], .int .i64 0, .int .i64 0, .nil]⟩),
 (78,⟨.struct [(3,0),(9,1),(3,2),(3,3),(76,4)],5,64,[.int .i64 0, .str [], .int .i64 0, .int .i64 0, .nil]⟩),
 (79,⟨.struct [(3,0),(4,1),(78,2),(78,7),(22,12),(9,13),(9,14),(9,15)],16,216,[.int .i64 0, .bool false, .int .i64 0, .str [], .int .i64 0, .int .i64 0, .nil, .int .i64 0, .str [], .int .i64 0, .int .i64 0, .nil, .nil, .str [], .str [], .str []]⟩),
 (80,⟨.struct [(3,0),(4,1),(78,2),(78,7),(22,12),(9,13),(9,14),(9,15)],16,216,[.int .i64 0, .bool false, .int .i64 0, .str [], .int .i64 0, .int .i64 0, .nil, .int .i64 0, .str [], .int .i64 0, .int .i64 0, .nil, .nil, .str [], .str [], .str []]⟩),
 (81,⟨.other,1,8,[.lit .nilFunc]⟩),
 (82,⟨.slice 86,1,24,[.nil]⟩),
 (83,⟨.struct [(82,0)],1,24,[.nil]⟩),
 (84,⟨.struct [(82,0)],1,24,[.nil]⟩),
 (85,⟨.struct [(3,0),(9,1),(9,2),(9,3),(3,4),(3,5)],6,72,[.int .i64 0, .str [], .str [], .str [], .int .i64 0, .int .i64 0]⟩),
 (86,⟨.struct [(3,0),(9,1),(9,2),(9,3),(3,4),(3,5)],6,72,[.int .i64 0, .str [], .str [], .str [], .int .i64 0, .int .i64 0]⟩),
 (87,⟨.struct [(26,0)],1,24,[.nil]⟩),
 (88,⟨.struct [(26,0)],1,24,[.nil]⟩),
 (89,⟨.other,1,8,[.lit .nilFunc]⟩),
 (90,⟨.other,1,8,[.lit .nilFunc]⟩),
 (91,⟨.other,1,8,[.lit .nilFunc]⟩),
 (92,⟨.int .u64,1,8,[.int .u64 0]⟩),
 (93,⟨.other,1,8,[.lit .nilFunc]⟩),
 (94,⟨.other,1,8,[.lit .nilFunc]⟩),
 (95,⟨.other,1,8,[.lit .nilFunc]⟩),
 (96,⟨.other,1,8,[.lit .nilFunc]⟩),
 (97,⟨.other,1,8,[.lit .nilFunc]⟩),
 (98,⟨.pointer 149,1,8,[.lit (.pointer none)]⟩),
 (99,⟨.pointer 101,1,8,[.lit (.pointer none)]⟩),
 (100,⟨.struct [(26,0),(4,1)],2,32,[.nil, .bool false]⟩),
 (101,⟨.struct [(26,0),(4,1)],2,32,[.nil, .bool false]⟩),
 (102,⟨.other,1,8,[.lit .nilFunc]⟩),
 (103,⟨.other,1,8,[.lit .nilFunc]⟩),
 (104,⟨.other,1,8,[.lit .nilFunc]⟩),
 (105,⟨.other,1,8,[.lit .nilFunc]⟩),
 (106,⟨.other,1,8,[.lit .nilFunc]⟩),
 (107,⟨.other,1,8,[.lit .nilFunc]⟩),
 (108,⟨.other,1,8,[.lit .nilFunc]⟩),
 (109,⟨.other,1,8,[.lit .nilFunc]⟩),
 (110,⟨.other,1,8,[.lit .nilFunc]⟩),
 (111,⟨.other,1,8,[.lit .nilFunc]⟩),
 (112,⟨.other,1,8,[.lit .nilFunc]⟩),
 (113,⟨.other,1,8,[.lit .nilFunc]⟩),
 (114,⟨.other,1,8,[.lit .nilFunc]⟩),
 (115,⟨.other,1,8,[.lit .nilFunc]⟩),
 (116,⟨.other,1,8,[.lit .nilFunc]⟩),
 (117,⟨.other,1,8,[.lit .nilFunc]⟩),
 (118,⟨.other,1,8,[.lit .nilFunc]⟩),
 (119,⟨.other,1,8,[.lit .nilFunc]⟩),
 (120,⟨.other,1,8,[.lit .nilFunc]⟩),
 (121,⟨.other,1,8,[.lit .nilFunc]⟩),
 (122,⟨.other,1,8,[.lit .nilFunc]⟩),
 (123,⟨.other,1,8,[.lit .nilFunc]⟩),
 (124,⟨.other,1,8,[.lit .nilFunc]⟩),
 (125,⟨.other,1,8,[.lit .nilFunc]⟩),
 (126,⟨.other,1,8,[.lit .nilFunc]⟩),
 (127,⟨.other,1,8,[.lit .nilFunc]⟩),
 (128,⟨.other,1,8,[.lit .nilFunc]⟩),
 (129,⟨.other,1,8,[.lit .nilFunc]⟩),
 (130,⟨.other,1,8,[.lit .nilFunc]⟩),
 (132,⟨.other,1,8,[.lit .nilFunc]⟩),
 (133,⟨.other,1,8,[.lit .nilFunc]⟩),
 (134,⟨.other,1,8,[.lit .nilFunc]⟩),
 (135,⟨.struct [(80,0)],16,216,[.int .i64 0, .bool false, .int .i64 0, .str [], .int .i64 0, .int .i64 0, .nil, .int .i64 0, .str [], .int .i64 0, .int .i64 0, .nil, .nil, .str [], .str [], .str []]⟩),
 (136,⟨.struct [(80,0)],16,216,[.int .i64 0, .bool false, .int .i64 0, .str [], .int .i64 0, .int .i64 0, .nil, .int .i64 0, .str [], .int .i64 0, .int .i64 0, .nil, .nil, .str [], .str [], .str []]⟩),
 (137,⟨.other,1,8,[.lit .nilFunc]⟩),
 (138,⟨.other,1,8,[.lit .nilFunc]⟩),
 (139,⟨.pointer 88,1,8,[.lit (.pointer none)]⟩),
 (140,⟨.other,1,8,[.lit .nilFunc]⟩),
 (141,⟨.other,1,8,[.lit .nilFunc]⟩),
 (142,⟨.other,1,8,[.lit .nilFunc]⟩),
 (143,⟨.other,1,8,[.lit .nilFunc]⟩),
 (144,⟨.other,1,8,[.lit .nilFunc]⟩),
 (145,⟨.other,1,8,[.lit .nilFunc]⟩),
 (147,⟨.other,1,8,[.lit .nilFunc]⟩),
 (148,⟨.struct [(26,0)],1,24,[.nil]⟩),
 (149,⟨.struct [(26,0)],1,24,[.nil]⟩),
 (150,⟨.other,1,8,[.lit .nilFunc]⟩),
 (151,⟨.struct [],0,0,[]⟩),
 (152,⟨.struct [],0,0,[]⟩),
 (153,⟨.other,1,8,[.lit .nilFunc]⟩),
 (154,⟨.other,1,8,[.lit .nilFunc]⟩),
 (155,⟨.other,1,8,[.lit .nilFunc]⟩),
 (156,⟨.other,1,8,[.lit .nilFunc]⟩),
 (157,⟨.other,1,8,[.lit .nilFunc]⟩),
 (158,⟨.other,1,8,[.lit .nilFunc]⟩),
 (159,⟨.other,1,8,[.lit .nilFunc]⟩),
 (160,⟨.other,1,8,[.lit .nilFunc]⟩),
 (161,⟨.other,1,8,[.lit .nilFunc]⟩),
 (162,⟨.other,1,8,[.lit .nilFunc]⟩),
 (163,⟨.other,1,8,[.lit .nilFunc]⟩),
 (164,⟨.other,1,8,[.lit .nilFunc]⟩),
 (165,⟨.other,1,8,[.lit .nilFunc]⟩),
 (166,⟨.other,1,8,[.lit .nilFunc]⟩),
 (167,⟨.other,1,8,[.lit .nilFunc]⟩),
 (168,⟨.other,1,8,[.lit .nilFunc]⟩),
 (169,⟨.other,1,8,[.lit .nilFunc]⟩),
 (170,⟨.struct [(4,0),(4,1)],2,2,[.bool false, .bool false]⟩),
 (171,⟨.struct [(4,0),(4,1)],2,2,[.bool false, .bool false]⟩),
 (172,⟨.array 4 171,8,8,[.bool false, .bool false, .bool false, .bool false, .bool false, .bool false, .bool false, .bool false]⟩),
 (173,⟨.other,1,8,[.lit .nilFunc]⟩),
 (174,⟨.other,1,8,[.lit .nilFunc]⟩),
 (175,⟨.array 2 9,2,32,[.str [], .str []]⟩),
 (176,⟨.other,1,8,[.lit .nilFunc]⟩),
 (178,⟨.other,1,8,[.lit .nilFunc]⟩),
 (179,⟨.struct [(4,0),(4,1),(4,2),(4,3),(4,4),(3,5),(3,6)],7,24,[.bool false, .bool false, .bool false, .bool false, .bool false, .int .i64 0, .int .i64 0]⟩),
 (180,⟨.struct [(4,0),(4,1),(4,2),(4,3),(4,4),(3,5),(3,6)],7,24,[.bool false, .bool false, .bool false, .bool false, .bool false, .int .i64 0, .int .i64 0]⟩),
 (181,⟨.array 10 180,70,240,[.bool false, .bool false, .bool false, .bool false, .bool false, .int .i64 0, .int .i64 0, .bool false, .bool false, .bool false, .bool false, .bool false, .int .i64 0, .int .i64 0, .bool false, .bool false, .bool false, .bool false, .bool false, .int .i64 0, .int .i64 0, .bool false, .bool false, .bool false, .bool false, .bool false, .int .i64 0, .int .i64 0, .bool false, .bool false, .bool false, .bool false, .bool false, .int .i64 0, .int .i64 0, .bool false, .bool false, .bool false, .bool false, .bool false, .int .i64 0, .int .i64 0, .bool false, .bool false, .bool false, .bool false, .bool false, .int .i64 0, .int .i64 0, .bool false, .bool false, .bool false, .bool false, .bool false, .int .i64 0, .int .i64 0, .bool false, .bool false, .bool false, .bool false, .bool false, .int .i64 0, .int .i64 0, .bool false, .bool false, .bool false, .bool false, .bool false, .int .i64 0, .int .i64 0]⟩),
 (183,⟨.other,1,8,[.lit .nilFunc]⟩),
 (184,⟨.other,1,8,[.lit .nilFunc]⟩),
 (185,⟨.other,1,8,[.lit .nilFunc]⟩),
 (186,⟨.other,1,8,[.lit .nilFunc]⟩),
 (187,⟨.other,1,8,[.lit .nilFunc]⟩),
 (188,⟨.other,1,8,[.lit .nilFunc]⟩),
 (189,⟨.other,1,8,[.lit .nilFunc]⟩),
 (190,⟨.other,1,8,[.lit .nilFunc]⟩),
 (191,⟨.int .u32,1,4,[.int .u32 0]⟩),
 (192,⟨.array 8 191,8,32,[.int .u32 0, .int .u32 0, .int .u32 0, .int .u32 0, .int .u32 0, .int .u32 0, .int .u32 0, .int .u32 0]⟩),
 (193,⟨.other,1,8,[.lit .nilFunc]⟩),
 (194,⟨.other,1,8,[.lit .nilFunc]⟩),
 (195,⟨.other,1,8,[.lit .nilFunc]⟩),
 (197,⟨.other,1,8,[.lit .nilFunc]⟩),
 (198,⟨.other,1,8,[.lit .nilFunc]⟩),
 (199,⟨.other,1,8,[.lit .nilFunc]⟩),
 (200,⟨.other,1,8,[.lit .nilFunc]⟩),
 (201,⟨.other,1,8,[.lit .nilFunc]⟩),
 (202,⟨.other,1,8,[.lit .nilFunc]⟩),
 (203,⟨.other,1,8,[.lit .nilFunc]⟩),
 (204,⟨.other,1,8,[.lit .nilFunc]⟩),
 (205,⟨.other,1,8,[.lit .nilFunc]⟩),
 (206,⟨.other,1,8,[.lit .nilFunc]⟩),
 (207,⟨.other,1,8,[.lit .nilFunc]⟩),
 (208,⟨.other,1,8,[.lit .nilFunc]⟩),
 (209,⟨.other,1,8,[.lit .nilFunc]⟩),
 (210,⟨.other,1,8,[.lit .nilFunc]⟩),
 (211,⟨.other,1,8,[.lit .nilFunc]⟩),
 (212,⟨.other,1,8,[.lit .nilFunc]⟩),
 (213,⟨.other,1,8,[.lit (.map none)]⟩),
 (214,⟨.other,1,8,[.lit (.map none)]⟩),
 (215,⟨.other,1,8,[.lit .nilFunc]⟩),
 (216,⟨.slice 269,1,24,[.nil]⟩),
 (217,⟨.struct [(22,0),(216,1)],2,48,[.nil, .nil]⟩),
 (218,⟨.struct [(22,0),(216,1)],2,48,[.nil, .nil]⟩),
 (219,⟨.other,1,8,[.lit .nilFunc]⟩),
 (220,⟨.other,1,8,[.lit (.map none)]⟩),
 (221,⟨.other,1,8,[.lit .nilFunc]⟩),
 (222,⟨.other,1,8,[.lit .nilFunc]⟩),
 (223,⟨.slice 283,1,24,[.nil]⟩),
 (224,⟨.other,1,8,[.lit .nilFunc]⟩),
 (225,⟨.other,1,8,[.lit .nilFunc]⟩),
 (226,⟨.slice 229,1,24,[.nil]⟩),
 (227,⟨.struct [(22,0),(4,1)],2,32,[.nil, .bool false]⟩),
 (228,⟨.struct [(22,0),(4,1)],2,32,[.nil, .bool false]⟩),
 (229,⟨.slice 228,1,24,[.nil]⟩),
 (230,⟨.other,1,8,[.lit .nilFunc]⟩),
 (231,⟨.other,1,8,[.lit .nilFunc]⟩),
 (232,⟨.other,1,8,[.lit .nilFunc]⟩),
 (233,⟨.other,1,8,[.lit .nilFunc]⟩),
 (234,⟨.slice 236,1,24,[.nil]⟩),
 (235,⟨.struct [(78,0),(3,5),(234,6)],7,96,[.int .i64 0, .str [], .int .i64 0, .int .i64 0, .nil, .int .i64 0, .nil]⟩),
 (236,⟨.struct [(78,0),(3,5),(234,6)],7,96,[.int .i64 0, .str [], .int .i64 0, .int .i64 0, .nil, .int .i64 0, .nil]⟩),
 (237,⟨.other,1,8,[.lit .nilFunc]⟩),
 (238,⟨.other,1,8,[.lit .nilFunc]⟩),
 (239,⟨.other,1,8,[.lit .nilFunc]⟩),
 (240,⟨.other,1,8,[.lit .nilFunc]⟩),
 (241,⟨.other,1,8,[.lit .nilFunc]⟩),
 (242,⟨.other,1,8,[.lit .nilFunc]⟩),
 (243,⟨.array 64 191,64,256,List.replicate 64 (.int .u32 0)⟩),
 (244,⟨.other,1,8,[.lit .nilFunc]⟩),
 (245,⟨.other,1,8,[.lit .nilFunc]⟩),
 (246,⟨.other,1,8,[.lit .nilFunc]⟩),
 (247,⟨.other,1,8,[.lit .nilFunc]⟩),
 (248,⟨.pointer 3,1,8,[.lit (.pointer none)]⟩),
 (249,⟨.other,1,8,[.lit .nilFunc]⟩),
 (250,⟨.other,1,8,[.lit .nilFunc]⟩),
 (251,⟨.other,1,8,[.lit .nilFunc]⟩),
 (252,⟨.other,1,8,[.lit .nilFunc]⟩),
 (253,⟨.other,1,8,[.lit .nilFunc]⟩),
 (254,⟨.other,1,8,[.lit .nilFunc]⟩),
 (255,⟨.other,1,8,[.lit .nilFunc]⟩),
 (256,⟨.int .i64,1,8,[.int .i64 0]⟩),
 (258,⟨.other,1,8,[.lit .nilFunc]⟩),
 (259,⟨.other,1,8,[.lit .nilFunc]⟩),
 (260,⟨.other,1,8,[.lit .nilFunc]⟩),
 (262,⟨.other,1,8,[.lit .nilFunc]⟩),
 (263,⟨.other,1,8,[.lit .nilFunc]⟩),
 (264,⟨.other,1,8,[.lit .nilFunc]⟩),
 (265,⟨.other,1,8,[.lit .nilFunc]⟩),
 (266,⟨.other,1,8,[.lit .nilFunc]⟩),
 (267,⟨.other,1,8,[.lit .nilFunc]⟩),
 (268,⟨.other,1,8,[.lit .nilFunc]⟩),
 (269,⟨.slice 273,1,24,[.nil]⟩),
 (270,⟨.other,1,8,[.lit .nilFunc]⟩),
 (271,⟨.other,1,8,[.lit .nilFunc]⟩),
 (272,⟨.struct [(3,0),(4,1)],2,16,[.int .i64 0, .bool false]⟩),
 (273,⟨.struct [(3,0),(4,1)],2,16,[.int .i64 0, .bool false]⟩),
 (274,⟨.other,1,8,[.lit .nilFunc]⟩),
 (275,⟨.other,1,8,[.lit .nilFunc]⟩),
 (276,⟨.struct [(3,0),(4,1),(3,2),(3,3)],4,32,[.int .i64 0, .bool false, .int .i64 0, .int .i64 0]⟩),
 (277,⟨.struct [(3,0),(4,1),(3,2),(3,3)],4,32,[.int .i64 0, .bool false, .int .i64 0, .int .i64 0]⟩),
 (278,⟨.slice 277,1,24,[.nil]⟩),
 (279,⟨.slice 280,1,24,[.nil]⟩),
 (280,⟨.array 2 4,2,2,[.bool false, .bool false]⟩),
 (281,⟨.other,1,8,[.lit .nilFunc]⟩),
 (282,⟨.struct [(9,0),(9,1),(4,2)],3,40,[.str [], .str [], .bool false]⟩),
 (283,⟨.struct [(9,0),(9,1),(4,2)],3,40,[.str [], .str [], .bool false]⟩),
 (284,⟨.other,1,8,[.lit .nilFunc]⟩),
 (285,⟨.other,1,8,[.lit .nilFunc]⟩),
 (286,⟨.other,1,8,[.lit .nilFunc]⟩),
 (287,⟨.other,1,8,[.lit .nilFunc]⟩),
 (288,⟨.other,1,8,[.lit .nilFunc]⟩),
 (289,⟨.other,1,8,[.lit .nilFunc]⟩),
 (291,⟨.other,1,8,[.lit .nilFunc]⟩),
 (292,⟨.other,1,8,[.lit .nilFunc]⟩),
 (293,⟨.struct [(3,0),(3,1),(3,2),(4,3)],4,32,[.int .i64 0, .int .i64 0, .int .i64 0, .bool false]⟩),
 (294,⟨.struct [(3,0),(3,1),(3,2),(4,3)],4,32,[.int .i64 0, .int .i64 0, .int .i64 0, .bool false]⟩),
 (295,⟨.array 8 294,32,256,[.int .i64 0, .int .i64 0, .int .i64 0, .bool false, .int .i64 0, .int .i64 0, .int .i64 0, .bool false, .int .i64 0, .int .i64 0, .int .i64 0, .bool false, .int .i64 0, .int .i64 0, .int .i64 0, .bool false, .int .i64 0, .int .i64 0, .int .i64 0, .bool false, .int .i64 0, .int .i64 0, .int .i64 0, .bool false, .int .i64 0, .int .i64 0, .int .i64 0, .bool false, .int .i64 0, .int .i64 0, .int .i64 0, .bool false]⟩),
 (296,⟨.other,1,8,[.lit .nilFunc]⟩),
 (297,⟨.int .u64,1,8,[.int .u64 0]⟩),
 (298,⟨.other,1,8,[.lit .nilFunc]⟩),
 (299,⟨.other,1,8,[.lit .nilFunc]⟩),
 (300,⟨.other,1,8,[.lit .nilFunc]⟩),
 (301,⟨.other,1,8,[.lit .nilFunc]⟩),
 (302,⟨.other,1,8,[.lit .nilFunc]⟩),
 (303,⟨.other,1,8,[.lit .nilFunc]⟩),
 (304,⟨.pointer 297,1,8,[.lit (.pointer none)]⟩),
 (306,⟨.other,1,8,[.lit .nilFunc]⟩),
 (307,⟨.other,1,8,[.lit .nilFunc]⟩),
 (308,⟨.other,1,8,[.lit .nilFunc]⟩),
 (309,⟨.other,1,8,[.lit .nilFunc]⟩),
 (310,⟨.other,1,8,[.lit .nilFunc]⟩),
 (311,⟨.other,1,8,[.lit .nilFunc]⟩),
 (312,⟨.other,1,8,[.lit .nilFunc]⟩),
 (313,⟨.other,1,8,[.lit .nilFunc]⟩),
 (314,⟨.other,1,8,[.lit .nilFunc]⟩),
 (315,⟨.other,1,8,[.lit .nilFunc]⟩),
 (316,⟨.other,1,8,[.lit .nilFunc]⟩),
 (318,⟨.other,1,8,[.lit .nilFunc]⟩),
 (319,⟨.struct [(17,0),(17,1),(17,2),(9,3)],4,40,[.lit (.pointer none), .lit (.pointer none), .lit (.pointer none), .str []]⟩),
 (320,⟨.struct [(17,0),(17,1),(17,2),(9,3)],4,40,[.lit (.pointer none), .lit (.pointer none), .lit (.pointer none), .str []]⟩),
 (321,⟨.array 0 16,0,0,[]⟩),
 (322,⟨.struct [(321,0)],0,0,[]⟩),
 (323,⟨.struct [(321,0)],0,0,[]⟩),
 (324,⟨.int .u8,1,1,[.int .u8 0]⟩),
 (325,⟨.int .u8,1,1,[.int .u8 0]⟩),
 (326,⟨.other,1,8,[.lit .nilFunc]⟩),
 (327,⟨.pointer 5,1,8,[.lit (.pointer none)]⟩),
 (328,⟨.int .i32,1,4,[.int .i32 0]⟩),
 (329,⟨.int .i32,1,4,[.int .i32 0]⟩),
 (330,⟨.struct [(12,0),(12,1),(191,2),(324,3),(5,4),(5,5),(325,6),(326,7),(327,8),(328,9),(329,10)],11,48,[.int .u64 0, .int .u64 0, .int .u32 0, .int .u8 0, .int .u8 0, .int .u8 0, .int .u8 0, .lit .nilFunc, .lit (.pointer none), .int .i32 0, .int .i32 0]⟩),
 (331,⟨.struct [(12,0),(12,1),(191,2),(324,3),(5,4),(5,5),(325,6),(326,7),(327,8),(328,9),(329,10)],11,48,[.int .u64 0, .int .u64 0, .int .u32 0, .int .u8 0, .int .u8 0, .int .u8 0, .int .u8 0, .lit .nilFunc, .lit (.pointer none), .int .i32 0, .int .i32 0]⟩),
 (332,⟨.other,1,8,[.lit (.pointer none)]⟩)]
def ty:TypeId->Option TI:=aH0 tab
theorem hty:cW Tryz.prog ty:=aF1 ⟨T1,T2,T3,T4,T5,T6,T7,T8,T9,T10,T11,T12,T13,T14,T15,T16,T17,T18,T19,T20,T21,T22,T23,T24,T25,T26,T27,T28,T29,T30,T32,T34,T35,T36,T37,T38,T39,T40,T41,T42,T44,T45,T46,T47,T48,T49,T50,T51,T52,T53,T54,T56,T57,T58,T59,T61,T62,T63,T64,T65,T66,T67,T69,T70,T71,T72,T74,T75,T76,T77,T78,T79,T80,T81,T82,T83,T84,T85,T86,T87,T88,T89,T90,T91,T92,T93,T94,T95,T96,T97,T98,T99,aPq,aPp,aPo,aPn,aPm,aPl,aPk,aPj,aPi,aPh,aPg,aPf,aPe,aPd,aPc,aPb,aPa,aP9,aP8,aP7,aP6,aP5,aP4,aP3,aP2,aP1,aP0,aOz,aOy,aOx,aOw,aOv,aOu,aOt,aOs,aOr,aOq,aOp,aOo,aOn,aOm,aOl,aOk,aOj,aOi,aOh,aOg,aOf,aOe,aOd,aOc,aOb,aOa,aO9,aO8,aO7,aO6,aO5,aO4,aO3,aO2,aO1,aO0,aNz,aNy,aNx,aNw,aNv,aNu,aNt,aNs,aNr,aNq,aNp,aNo,aNn,aNm,aNl,aNk,aNj,aNi,aNh,aNg,aNf,aNe,aNd,aNc,aNb,aNa,aN9,aN8,aN7,aN6,aN5,aN4,aN3,aN2,aN1,aN0,aMz,aMy,aMx,aMw,aMv,aMu,aMt,aMs,aMr,aMq,aMp,aMo,aMn,aMm,aMl,aMk,aMj,aMi,aMh,aMg,aMf,aMe,aMd,aMc,aMb,aMa,aM9,aM8,aM7,aM6,aM5,aM4,aM3,aM2,aM1,aM0,aLz,aLy,aLx,aLw,aLv,aLu,aLt,aLs,aLr,aLq,aLp,aLo,aLn,aLm,aLl,aLk,aLj,aLi,aLh,aLg,aLf,aLe,aLd,aLc,aLb,aLa,aL9,aL8,aL7,aL6,aL5,aL4,aL3,aL2,aL1,aL0,aKz,aKy,aKx,aKw,aKv,aKu,aKt,aKs,aKr,aKq,aKp,aKo,aKn,aKm,aKl,aKk,aKj,aKi,aKh,aKg,aKf,aKe,aKd,aKc,aKb,aKa,aK9,aK8,aK7,aK6,aK5,aK4,aK3,aK2,aK1,aK0,aJz,aJy,aJx,aJw,aJv,aJu,aJt,aJs,aJr,aJq,aJp,aJo,aJn,aJm,aJl,aJk,trivial⟩
end Go.Proofs.YtcomlapnibckmaaGreatDoor
