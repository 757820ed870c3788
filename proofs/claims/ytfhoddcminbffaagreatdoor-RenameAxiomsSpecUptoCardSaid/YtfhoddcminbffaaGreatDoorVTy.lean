/-
  The types of the program in short: for each its shape, its cells, its bytes and its zero value.
  Conditions: none.
-/
import Derived.Test.YtfhoddcminbffaaGreatDoorVSs
import Derived.Test.YtfhoddcminbffaaGreatDoorProg
import Derived.KernelRfl
set_option linter.unusedSectionVars false
set_option linter.unusedSimpArgs false
set_option linter.unusedVariables false
namespace Go.Proofs.YtfhoddcminbffaaGreatDoor
open Go.Proofs
set_option maxRecDepth 100000
theorem T1:aR Tryz.prog 1=some ⟨.other,1,8,[.lit .nilFunc]⟩:=by kernel_rfl
theorem T2:aR Tryz.prog 2=some ⟨.int .i64,1,8,[.int .i64 0]⟩:=by kernel_rfl
theorem T3:aR Tryz.prog 3=some ⟨.int .i64,1,8,[.int .i64 0]⟩:=by kernel_rfl
theorem T4:aR Tryz.prog 4=some ⟨.bool,1,1,[.bool false]⟩:=by kernel_rfl
theorem T5:aR Tryz.prog 5=some ⟨.int .u8,1,1,[.int .u8 0]⟩:=by kernel_rfl
theorem T6:aR Tryz.prog 6=some ⟨.int .u8,1,1,[.int .u8 0]⟩:=by kernel_rfl
theorem T7:aR Tryz.prog 7=some ⟨.struct [(2,0),(3,1),(4,2),(6,3)],4,24,[.int .i64 0, .int .i64 0, .bool false, .int .u8 0]⟩:=by kernel_rfl
theorem T8:aR Tryz.prog 8=some ⟨.struct [(2,0),(3,1),(4,2),(6,3)],4,24,[.int .i64 0, .int .i64 0, .bool false, .int .u8 0]⟩:=by kernel_rfl
theorem T9:aR Tryz.prog 9=some ⟨.string,1,16,[.str []]⟩:=by kernel_rfl
theorem T10:aR Tryz.prog 10=some ⟨.string,1,16,[.str []]⟩:=by kernel_rfl
theorem T11:aR Tryz.prog 11=some ⟨.string,1,16,[.str []]⟩:=by kernel_rfl
theorem T12:aR Tryz.prog 12=some ⟨.int .u64,1,8,[.int .u64 0]⟩:=by kernel_rfl
theorem T13:aR Tryz.prog 13=some ⟨.struct [(9,0),(12,1)],2,24,[.str [], .int .u64 0]⟩:=by kernel_rfl
theorem T14:aR Tryz.prog 14=some ⟨.struct [(9,0),(12,1)],2,24,[.str [], .int .u64 0]⟩:=by kernel_rfl
theorem T15:aR Tryz.prog 15=some ⟨.pointer 240,1,8,[.lit (.pointer none)]⟩:=by kernel_rfl
theorem T16:aR Tryz.prog 16=some ⟨.pointer 243,1,8,[.lit (.pointer none)]⟩:=by kernel_rfl
theorem T17:aR Tryz.prog 17=some ⟨.pointer 252,1,8,[.lit (.pointer none)]⟩:=by kernel_rfl
theorem T18:aR Tryz.prog 18=some ⟨.struct [(17,0)],1,8,[.lit (.pointer none)]⟩:=by kernel_rfl
theorem T19:aR Tryz.prog 19=some ⟨.struct [(17,0)],1,8,[.lit (.pointer none)]⟩:=by kernel_rfl
theorem T20:aR Tryz.prog 20=some ⟨.other,1,16,[.lit .nilIface]⟩:=by kernel_rfl
theorem T21:aR Tryz.prog 21=some ⟨.int .i32,1,4,[.int .i32 0]⟩:=by kernel_rfl
theorem T22:aR Tryz.prog 22=some ⟨.slice 68,1,24,[.nil]⟩:=by kernel_rfl
theorem T23:aR Tryz.prog 23=some ⟨.slice 48,1,24,[.nil]⟩:=by kernel_rfl
theorem T24:aR Tryz.prog 24=some ⟨.other,1,8,[.lit .nilFunc]⟩:=by kernel_rfl
theorem T25:aR Tryz.prog 25=some ⟨.other,1,8,[.lit .nilFunc]⟩:=by kernel_rfl
theorem T26:aR Tryz.prog 26=some ⟨.int .i64,1,8,[.int .i64 0]⟩:=by kernel_rfl
theorem T28:aR Tryz.prog 28=some ⟨.other,1,8,[.lit .nilFunc]⟩:=by kernel_rfl
theorem T29:aR Tryz.prog 29=some ⟨.other,1,8,[.lit .nilFunc]⟩:=by kernel_rfl
theorem T30:aR Tryz.prog 30=some ⟨.other,1,8,[.lit .nilFunc]⟩:=by kernel_rfl
theorem T31:aR Tryz.prog 31=some ⟨.slice 3,1,24,[.nil]⟩:=by kernel_rfl
theorem T32:aR Tryz.prog 32=some ⟨.slice 9,1,24,[.nil]⟩:=by kernel_rfl
theorem T33:aR Tryz.prog 33=some ⟨.other,1,8,[.lit .nilFunc]⟩:=by kernel_rfl
theorem T34:aR Tryz.prog 34=some ⟨.other,1,8,[.lit .nilFunc]⟩:=by kernel_rfl
theorem T35:aR Tryz.prog 35=some ⟨.other,1,8,[.lit .nilFunc]⟩:=by kernel_rfl
theorem T36:aR Tryz.prog 36=some ⟨.other,1,8,[.lit .nilFunc]⟩:=by kernel_rfl
theorem T37:aR Tryz.prog 37=some ⟨.struct [(23,0)],1,24,[.nil]⟩:=by kernel_rfl
theorem T38:aR Tryz.prog 38=some ⟨.struct [(23,0)],1,24,[.nil]⟩:=by kernel_rfl
theorem T40:aR Tryz.prog 40=some ⟨.other,1,8,[.lit .nilFunc]⟩:=by kernel_rfl
theorem T41:aR Tryz.prog 41=some ⟨.other,1,8,[.lit .nilFunc]⟩:=by kernel_rfl
theorem T42:aR Tryz.prog 42=some ⟨.other,1,8,[.lit .nilFunc]⟩:=by kernel_rfl
theorem T43:aR Tryz.prog 43=some ⟨.other,1,8,[.lit .nilFunc]⟩:=by kernel_rfl
theorem T44:aR Tryz.prog 44=some ⟨.slice 46,1,24,[.nil]⟩:=by kernel_rfl
theorem T45:aR Tryz.prog 45=some ⟨.struct [(3,0),(9,1),(3,2),(3,3),(44,4)],5,64,[.int .i64 0, .str [], .int .i64 0, .int .i64 0, .nil]⟩:=by kernel_rfl
theorem T46:aR Tryz.prog 46=some ⟨.struct [(3,0),(9,1),(3,2),(3,3),(44,4)],5,64,[.int .i64 0, .str [], .int .i64 0, .int .i64 0, .nil]⟩:=by kernel_rfl
theorem T47:aR Tryz.prog 47=some ⟨.struct [(3,0),(4,1),(46,2),(46,7),(32,12),(9,13),(9,14),(9,15)],16,216,[.int .i64 0, .bool false, .int .i64 0, .str [], .int .i64 0, .int .i64 0, .nil, .int .i64 0, .str [], .int .i64 0, .int .i64 0, .nil, .nil, .str [], .str [], .str []]⟩:=by kernel_rfl
theorem T48:aR Tryz.prog 48=some ⟨.struct [(3,0),(4,1),(46,2),(46,7),(32,12),(9,13),(9,14),(9,15)],16,216,[.int .i64 0, .bool false, .int .i64 0, .str [], .int .i64 0, .int .i64 0, .nil, .int .i64 0, .str [], .int .i64 0, .int .i64 0, .nil, .nil, .str [], .str [], .str []]⟩:=by kernel_rfl
theorem T49:aR Tryz.prog 49=some ⟨.other,1,8,[.lit .nilFunc]⟩:=by kernel_rfl
theorem T51:aR Tryz.prog 51=some ⟨.other,1,8,[.lit .nilFunc]⟩:=by kernel_rfl
theorem T52:aR Tryz.prog 52=some ⟨.other,1,8,[.lit .nilFunc]⟩:=by kernel_rfl
theorem T53:aR Tryz.prog 53=some ⟨.other,1,8,[.lit .nilFunc]⟩:=by kernel_rfl
theorem T54:aR Tryz.prog 54=some ⟨.other,1,8,[.lit .nilFunc]⟩:=by kernel_rfl
theorem T56:aR Tryz.prog 56=some ⟨.other,1,8,[.lit .nilFunc]⟩:=by kernel_rfl
theorem T57:aR Tryz.prog 57=some ⟨.other,1,8,[.lit .nilFunc]⟩:=by kernel_rfl
theorem T58:aR Tryz.prog 58=some ⟨.other,1,8,[.lit .nilFunc]⟩:=by kernel_rfl
theorem T59:aR Tryz.prog 59=some ⟨.other,1,8,[.lit .nilFunc]⟩:=by kernel_rfl
theorem T60:aR Tryz.prog 60=some ⟨.other,1,8,[.lit .nilFunc]⟩:=by kernel_rfl
theorem T61:aR Tryz.prog 61=some ⟨.other,1,8,[.lit .nilFunc]⟩:=by kernel_rfl
theorem T63:aR Tryz.prog 63=some ⟨.other,1,8,[.lit .nilFunc]⟩:=by kernel_rfl
theorem T64:aR Tryz.prog 64=some ⟨.other,1,8,[.lit .nilFunc]⟩:=by kernel_rfl
theorem T65:aR Tryz.prog 65=some ⟨.other,1,8,[.lit .nilFunc]⟩:=by kernel_rfl
theorem T66:aR Tryz.prog 66=some ⟨.other,1,8,[.lit (.map none)]⟩:=by kernel_rfl
theorem T67:aR Tryz.prog 67=some ⟨.struct [(3,0),(9,1),(9,2)],3,40,[.int .i64 0, .str [], .str []]⟩:=by kernel_rfl
theorem T68:aR Tryz.prog 68=some ⟨.struct [(3,0),(9,1),(9,2)],3,40,[.int .i64 0, .str [], .str []]⟩:=by kernel_rfl
theorem T69:aR Tryz.prog 69=some ⟨.other,1,8,[.lit .nilFunc]⟩:=by kernel_rfl
theorem T70:aR Tryz.prog 70=some ⟨.other,1,8,[.lit .nilFunc]⟩:=by kernel_rfl
theorem T71:aR Tryz.prog 71=some ⟨.struct [(3,0),(9,1)],2,24,[.int .i64 0, .str []]⟩:=by kernel_rfl
theorem T72:aR Tryz.prog 72=some ⟨.struct [(3,0),(9,1)],2,24,[.int .i64 0, .str []]⟩:=by kernel_rfl
theorem T73:aR Tryz.prog 73=some ⟨.other,1,8,[.lit .nilFunc]⟩:=by kernel_rfl
theorem T74:aR Tryz.prog 74=some ⟨.other,1,8,[.lit .nilFunc]⟩:=by kernel_rfl
theorem T75:aR Tryz.prog 75=some ⟨.slice 23,1,24,[.nil]⟩:=by kernel_rfl
theorem T76:aR Tryz.prog 76=some ⟨.other,1,8,[.lit .nilFunc]⟩:=by kernel_rfl
theorem T77:aR Tryz.prog 77=some ⟨.other,1,8,[.lit .nilFunc]⟩:=by kernel_rfl
theorem T78:aR Tryz.prog 78=some ⟨.other,1,8,[.lit .nilFunc]⟩:=by kernel_rfl
theorem T79:aR Tryz.prog 79=some ⟨.struct [(48,0)],16,216,[.int .i64 0, .bool false, .int .i64 0, .str [], .int .i64 0, .int .i64 0, .nil, .int .i64 0, .str [], .int .i64 0, .int .i64 0, .nil, .nil, .str [], .str [], .str []]⟩:=by kernel_rfl
theorem T80:aR Tryz.prog 80=some ⟨.struct [(48,0)],16,216,[.int .i64 0, .bool false, .int .i64 0, .str [], .int .i64 0, .int .i64 0, .nil, .int .i64 0, .str [], .int .i64 0, .int .i64 0, .nil, .nil, .str [], .str [], .str []]⟩:=by kernel_rfl
theorem T81:aR Tryz.prog 81=some ⟨.other,1,8,[.lit .nilFunc]⟩:=by kernel_rfl
theorem T82:aR Tryz.prog 82=some ⟨.other,1,8,[.lit .nilFunc]⟩:=by kernel_rfl
theorem T84:aR Tryz.prog 84=some ⟨.other,1,8,[.lit .nilFunc]⟩:=by kernel_rfl
theorem T85:aR Tryz.prog 85=some ⟨.other,1,8,[.lit .nilFunc]⟩:=by kernel_rfl
theorem T86:aR Tryz.prog 86=some ⟨.other,1,8,[.lit .nilFunc]⟩:=by kernel_rfl
theorem T87:aR Tryz.prog 87=some ⟨.other,1,8,[.lit .nilFunc]⟩:=by kernel_rfl
theorem T88:aR Tryz.prog 88=some ⟨.other,1,8,[.lit .nilFunc]⟩:=by kernel_rfl
theorem T89:aR Tryz.prog 89=some ⟨.other,1,8,[.lit .nilFunc]⟩:=by kernel_rfl
theorem T90:aR Tryz.prog 90=some ⟨.other,1,8,[.lit .nilFunc]⟩:=by kernel_rfl
theorem T91:aR Tryz.prog 91=some ⟨.other,1,8,[.lit .nilFunc]⟩:=by kernel_rfl
theorem T92:aR Tryz.prog 92=some ⟨.other,1,8,[.lit .nilFunc]⟩:=by kernel_rfl
theorem T93:aR Tryz.prog 93=some ⟨.other,1,8,[.lit .nilFunc]⟩:=by kernel_rfl
theorem T94:aR Tryz.prog 94=some ⟨.other,1,8,[.lit .nilFunc]⟩:=by kernel_rfl
theorem T95:aR Tryz.prog 95=some ⟨.other,1,8,[.lit .nilFunc]⟩:=by kernel_rfl
theorem T96:aR Tryz.prog 96=some ⟨.struct [(4,0),(4,1),(4,2),(4,3),(4,4),(3,5),(3,6)],7,24,[.bool false, .bool false, .bool false, .bool false, .bool false, .int .i64 0, .int .i64 0]⟩:=by kernel_rfl
theorem T97:aR Tryz.prog 97=some ⟨.struct [(4,0),(4,1),(4,2),(4,3),(4,4),(3,5),(3,6)],7,24,[.bool false, .bool false, .bool false, .bool false, .bool false, .int .i64 0, .int .i64 0]⟩:=by kernel_rfl
theorem T98:aR Tryz.prog 98=some ⟨.array 10 97,70,240,[.bool false, .bool false, .bool false, .bool false, .bool false, .int .i64 0, .int .i64 0, .bool false, .bool false, .bool false, .bool false, .bool false, .int .i64 0, .int .i64 0, .bool false, .bool false, .bool false, .bool false, .bool false, .int .i64 0, .int .i64 0, .bool false, .bool false, .bool false, .bool false, .bool false, .int .i64 0, .int .i64 0, .bool false, .bool false, .bool false, .bool false, .bool false, .int .i64 0, .int .i64 0, .bool false, .bool false, .bool false, .bool false, .bool false, .int .i64 0, .int .i64 0, .bool false, .bool false, .bool false, .bool false, .bool false, .int .i64 0, .int .i64 0, .bool false, .bool false, .bool false, .bool false, .bool false, .int .i64 0, .int .i64 0, .bool false, .bool false, .bool false, .bool false, .bool false, .int .i64 0, .int .i64 0, .bool false, .bool false, .bool false, .bool false, .bool false, .int .i64 0, .int .i64 0]⟩:=by kernel_rfl
theorem T99:aR Tryz.prog 99=some ⟨.other,1,8,[.lit .nilFunc]⟩:=by kernel_rfl
theorem aR2:aR Tryz.prog 100=some ⟨.other,1,8,[.lit .nilFunc]⟩:=by kernel_rfl
theorem aR1:aR Tryz.prog 101=some ⟨.other,1,8,[.lit .nilFunc]⟩:=by kernel_rfl
theorem aR0:aR Tryz.prog 102=some ⟨.other,1,8,[.lit (.map none)]⟩:=by kernel_rfl
theorem aQz:aR Tryz.prog 105=some ⟨.other,1,8,[.lit .nilFunc]⟩:=by kernel_rfl
theorem aQy:aR Tryz.prog 106=some ⟨.other,1,8,[.lit .nilFunc]⟩:=by kernel_rfl
theorem aQx:aR Tryz.prog 107=some ⟨.other,1,8,[.lit .nilFunc]⟩:=by kernel_rfl
theorem aQw:aR Tryz.prog 109=some ⟨.other,1,8,[.lit .nilFunc]⟩:=by kernel_rfl
theorem aQv:aR Tryz.prog 110=some ⟨.other,1,8,[.lit .nilFunc]⟩:=by kernel_rfl
theorem aQu:aR Tryz.prog 111=some ⟨.other,1,8,[.lit .nilFunc]⟩:=by kernel_rfl
theorem aQt:aR Tryz.prog 112=some ⟨.other,1,8,[.lit .nilFunc]⟩:=by kernel_rfl
theorem aQs:aR Tryz.prog 113=some ⟨.other,1,8,[.lit .nilFunc]⟩:=by kernel_rfl
theorem aQr:aR Tryz.prog 114=some ⟨.other,1,8,[.lit .nilFunc]⟩:=by kernel_rfl
theorem aQq:aR Tryz.prog 115=some ⟨.other,1,8,[.lit .nilFunc]⟩:=by kernel_rfl
theorem aQp:aR Tryz.prog 116=some ⟨.other,1,8,[.lit .nilFunc]⟩:=by kernel_rfl
theorem aQo:aR Tryz.prog 117=some ⟨.other,1,8,[.lit .nilFunc]⟩:=by kernel_rfl
theorem aQn:aR Tryz.prog 118=some ⟨.other,1,8,[.lit .nilFunc]⟩:=by kernel_rfl
theorem aQm:aR Tryz.prog 119=some ⟨.slice 165,1,24,[.nil]⟩:=by kernel_rfl
theorem aQl:aR Tryz.prog 120=some ⟨.struct [(32,0),(119,1)],2,48,[.nil, .nil]⟩:=by kernel_rfl
theorem aQk:aR Tryz.prog 121=some ⟨.struct [(32,0),(119,1)],2,48,[.nil, .nil]⟩:=by kernel_rfl
theorem aQj:aR Tryz.prog 122=some ⟨.other,1,8,[.lit .nilFunc]⟩:=by kernel_rfl
theorem aQi:aR Tryz.prog 123=some ⟨.other,1,8,[.lit (.map none)]⟩:=by kernel_rfl
theorem aQh:aR Tryz.prog 124=some ⟨.other,1,8,[.lit .nilFunc]⟩:=by kernel_rfl
theorem aQg:aR Tryz.prog 125=some ⟨.other,1,8,[.lit .nilFunc]⟩:=by kernel_rfl
theorem aQf:aR Tryz.prog 126=some ⟨.slice 179,1,24,[.nil]⟩:=by kernel_rfl
theorem aQe:aR Tryz.prog 127=some ⟨.other,1,8,[.lit .nilFunc]⟩:=by kernel_rfl
theorem aQd:aR Tryz.prog 128=some ⟨.other,1,8,[.lit .nilFunc]⟩:=by kernel_rfl
theorem aQc:aR Tryz.prog 129=some ⟨.slice 132,1,24,[.nil]⟩:=by kernel_rfl
theorem aQb:aR Tryz.prog 130=some ⟨.struct [(32,0),(4,1)],2,32,[.nil, .bool false]⟩:=by kernel_rfl
theorem aQa:aR Tryz.prog 131=some ⟨.struct [(32,0),(4,1)],2,32,[.nil, .bool false]⟩:=by kernel_rfl
theorem aQ9:aR Tryz.prog 132=some ⟨.slice 131,1,24,[.nil]⟩:=by kernel_rfl
theorem aQ8:aR Tryz.prog 133=some ⟨.other,1,8,[.lit .nilFunc]⟩:=by kernel_rfl
theorem aQ7:aR Tryz.prog 134=some ⟨.other,1,8,[.lit .nilFunc]⟩:=by kernel_rfl
theorem aQ6:aR Tryz.prog 135=some ⟨.other,1,8,[.lit .nilFunc]⟩:=by kernel_rfl
theorem aQ5:aR Tryz.prog 136=some ⟨.other,1,8,[.lit .nilFunc]⟩:=by kernel_rfl
theorem aQ4:aR Tryz.prog 138=some ⟨.other,1,8,[.lit .nilFunc]⟩:=by kernel_rfl
theorem aQ3:aR Tryz.prog 139=some ⟨.other,1,8,[.lit .nilFunc]⟩:=by kernel_rfl
theorem aQ2:aR Tryz.prog 140=some ⟨.other,1,8,[.lit .nilFunc]⟩:=by kernel_rfl
theorem aQ1:aR Tryz.prog 141=some ⟨.slice 22,1,24,[.nil]⟩:=by kernel_rfl
theorem aQ0:aR Tryz.prog 142=some ⟨.other,1,8,[.lit .nilFunc]⟩:=by kernel_rfl
theorem aPz:aR Tryz.prog 143=some ⟨.other,1,8,[.lit .nilFunc]⟩:=by kernel_rfl
theorem aPy:aR Tryz.prog 144=some ⟨.pointer 3,1,8,[.lit (.pointer none)]⟩:=by kernel_rfl
theorem aPx:aR Tryz.prog 145=some ⟨.other,1,8,[.lit .nilFunc]⟩:=by kernel_rfl
theorem aPw:aR Tryz.prog 146=some ⟨.other,1,8,[.lit .nilFunc]⟩:=by kernel_rfl
theorem aPv:aR Tryz.prog 147=some ⟨.other,1,8,[.lit .nilFunc]⟩:=by kernel_rfl
theorem aPu:aR Tryz.prog 148=some ⟨.other,1,8,[.lit .nilFunc]⟩:=by kernel_rfl
theorem aPt:aR Tryz.prog 149=some ⟨.other,1,8,[.lit .nilFunc]⟩:=by kernel_rfl
theorem aPs:aR Tryz.prog 150=some ⟨.slice 152,1,24,[.nil]⟩:=by kernel_rfl
theorem aPr:aR Tryz.prog 151=some ⟨.struct [(46,0),(3,5),(150,6)],7,96,[.int .i64 0, .str [], .int .i64 0, .int .i64 0, .nil, .int .i64 0, .nil]⟩:=by kernel_rfl
theorem aPq:aR Tryz.prog 152=some ⟨.struct [(46,0),(3,5),(150,6)],7,96,[.int .i64 0, .str [], .int .i64 0, .int .i64 0, .nil, .int .i64 0, .nil]⟩:=by kernel_rfl
theorem aPp:aR Tryz.prog 153=some ⟨.other,1,8,[.lit .nilFunc]⟩:=by kernel_rfl
theorem aPo:aR Tryz.prog 154=some ⟨.other,1,8,[.lit .nilFunc]⟩:=by kernel_rfl
theorem aPn:aR Tryz.prog 155=some ⟨.other,1,8,[.lit .nilFunc]⟩:=by kernel_rfl
theorem aPm:aR Tryz.prog 156=some ⟨.other,1,8,[.lit .nilFunc]⟩:=by kernel_rfl
theorem aPl:aR Tryz.prog 157=some ⟨.other,1,8,[.lit .nilFunc]⟩:=by kernel_rfl
theorem aPk:aR Tryz.prog 158=some ⟨.other,1,8,[.lit .nilFunc]⟩:=by kernel_rfl
theorem aPj:aR Tryz.prog 159=some ⟨.other,1,8,[.lit .nilFunc]⟩:=by kernel_rfl
theorem aPi:aR Tryz.prog 160=some ⟨.other,1,8,[.lit .nilFunc]⟩:=by kernel_rfl
theorem aPh:aR Tryz.prog 161=some ⟨.other,1,8,[.lit .nilFunc]⟩:=by kernel_rfl
theorem aPg:aR Tryz.prog 162=some ⟨.other,1,8,[.lit .nilFunc]⟩:=by kernel_rfl
theorem aPf:aR Tryz.prog 163=some ⟨.other,1,8,[.lit .nilFunc]⟩:=by kernel_rfl
theorem aPe:aR Tryz.prog 164=some ⟨.other,1,8,[.lit (.map none)]⟩:=by kernel_rfl
theorem aPd:aR Tryz.prog 165=some ⟨.slice 169,1,24,[.nil]⟩:=by kernel_rfl
theorem aPc:aR Tryz.prog 166=some ⟨.other,1,8,[.lit .nilFunc]⟩:=by kernel_rfl
theorem aPb:aR Tryz.prog 167=some ⟨.other,1,8,[.lit .nilFunc]⟩:=by kernel_rfl
theorem aPa:aR Tryz.prog 168=some ⟨.struct [(3,0),(4,1)],2,16,[.int .i64 0, .bool false]⟩:=by kernel_rfl
theorem aP9:aR Tryz.prog 169=some ⟨.struct [(3,0),(4,1)],2,16,[.int .i64 0, .bool false]⟩:=by kernel_rfl
theorem aP8:aR Tryz.prog 170=some ⟨.other,1,8,[.lit .nilFunc]⟩:=by kernel_rfl
theorem aP7:aR Tryz.prog 171=some ⟨.other,1,8,[.lit .nilFunc]⟩:=by kernel_rfl
theorem aP6:aR Tryz.prog 172=some ⟨.struct [(3,0),(4,1),(3,2),(3,3)],4,32,[.int .i64 0, .bool false, .int .i64 0, .int .i64 0]⟩:=by kernel_rfl
theorem aP5:aR Tryz.prog 173=some ⟨.struct [(3,0),(4,1),(3,2),(3,3)],4,32,[.int .i64 0, .bool false, .int .i64 0, .int .i64 0]⟩:=by kernel_rfl
theorem aP4:aR Tryz.prog 174=some ⟨.slice 173,1,24,[.nil]⟩:=by kernel_rfl
theorem aP3:aR Tryz.prog 175=some ⟨.slice 176,1,24,[.nil]⟩:=by kernel_rfl
theorem aP2:aR Tryz.prog 176=some ⟨.array 2 4,2,2,[.bool false, .bool false]⟩:=by kernel_rfl
theorem aP1:aR Tryz.prog 177=some ⟨.other,1,8,[.lit .nilFunc]⟩:=by kernel_rfl
theorem aP0:aR Tryz.prog 178=some ⟨.struct [(9,0),(9,1),(4,2)],3,40,[.str [], .str [], .bool false]⟩:=by kernel_rfl
theorem aOz:aR Tryz.prog 179=some ⟨.struct [(9,0),(9,1),(4,2)],3,40,[.str [], .str [], .bool false]⟩:=by kernel_rfl
theorem aOy:aR Tryz.prog 180=some ⟨.other,1,8,[.lit .nilFunc]⟩:=by kernel_rfl
theorem aOx:aR Tryz.prog 181=some ⟨.other,1,8,[.lit .nilFunc]⟩:=by kernel_rfl
theorem aOw:aR Tryz.prog 182=some ⟨.other,1,8,[.lit .nilFunc]⟩:=by kernel_rfl
theorem aOv:aR Tryz.prog 184=some ⟨.other,1,8,[.lit .nilFunc]⟩:=by kernel_rfl
theorem aOu:aR Tryz.prog 185=some ⟨.other,1,8,[.lit .nilFunc]⟩:=by kernel_rfl
theorem aOt:aR Tryz.prog 186=some ⟨.struct [(3,0),(3,1),(3,2),(4,3)],4,32,[.int .i64 0, .int .i64 0, .int .i64 0, .bool false]⟩:=by kernel_rfl
theorem aOs:aR Tryz.prog 187=some ⟨.struct [(3,0),(3,1),(3,2),(4,3)],4,32,[.int .i64 0, .int .i64 0, .int .i64 0, .bool false]⟩:=by kernel_rfl
theorem aOr:aR Tryz.prog 188=some ⟨.array 8 187,32,256,[.int .i64 0, .int .i64 0, .int .i64 0, .bool false, .int .i64 0, .int .i64 0, .int .i64 0, .bool false, .int .i64 0, .int .i64 0, .int .i64 0, .bool false, .int .i64 0, .int .i64 0, .int .i64 0, .bool false, .int .i64 0, .int .i64 0, .int .i64 0, .bool false, .int .i64 0, .int .i64 0, .int .i64 0, .bool false, .int .i64 0, .int .i64 0, .int .i64 0, .bool false, .int .i64 0, .int .i64 0, .int .i64 0, .bool false]⟩:=by kernel_rfl
theorem aOq:aR Tryz.prog 189=some ⟨.other,1,8,[.lit .nilFunc]⟩:=by kernel_rfl
theorem aOp:aR Tryz.prog 190=some ⟨.other,1,8,[.lit .nilFunc]⟩:=by kernel_rfl
theorem aOo:aR Tryz.prog 191=some ⟨.other,1,8,[.lit .nilFunc]⟩:=by kernel_rfl
theorem aOn:aR Tryz.prog 192=some ⟨.other,1,8,[.lit .nilFunc]⟩:=by kernel_rfl
theorem aOm:aR Tryz.prog 193=some ⟨.other,1,8,[.lit .nilFunc]⟩:=by kernel_rfl
theorem aOl:aR Tryz.prog 194=some ⟨.other,1,8,[.lit .nilFunc]⟩:=by kernel_rfl
theorem aOk:aR Tryz.prog 195=some ⟨.other,1,8,[.lit .nilFunc]⟩:=by kernel_rfl
theorem aOj:aR Tryz.prog 196=some ⟨.other,1,8,[.lit .nilFunc]⟩:=by kernel_rfl
theorem aOi:aR Tryz.prog 197=some ⟨.other,1,8,[.lit .nilFunc]⟩:=by kernel_rfl
theorem aOh:aR Tryz.prog 198=some ⟨.int .u64,1,8,[.int .u64 0]⟩:=by kernel_rfl
theorem aOg:aR Tryz.prog 199=some ⟨.other,1,8,[.lit .nilFunc]⟩:=by kernel_rfl
theorem aOf:aR Tryz.prog 200=some ⟨.other,1,8,[.lit .nilFunc]⟩:=by kernel_rfl
theorem aOe:aR Tryz.prog 201=some ⟨.other,1,8,[.lit .nilFunc]⟩:=by kernel_rfl
theorem aOd:aR Tryz.prog 202=some ⟨.other,1,8,[.lit .nilFunc]⟩:=by kernel_rfl
theorem aOc:aR Tryz.prog 203=some ⟨.other,1,8,[.lit .nilFunc]⟩:=by kernel_rfl
theorem aOb:aR Tryz.prog 204=some ⟨.other,1,8,[.lit .nilFunc]⟩:=by kernel_rfl
theorem aOa:aR Tryz.prog 205=some ⟨.other,1,8,[.lit .nilFunc]⟩:=by kernel_rfl
theorem aO9:aR Tryz.prog 206=some ⟨.slice 5,1,24,[.nil]⟩:=by kernel_rfl
theorem aO8:aR Tryz.prog 207=some ⟨.other,1,8,[.lit .nilFunc]⟩:=by kernel_rfl
theorem aO7:aR Tryz.prog 208=some ⟨.int .i64,1,8,[.int .i64 0]⟩:=by kernel_rfl
theorem aO6:aR Tryz.prog 210=some ⟨.other,1,8,[.lit .nilFunc]⟩:=by kernel_rfl
theorem aO5:aR Tryz.prog 211=some ⟨.other,1,8,[.lit .nilFunc]⟩:=by kernel_rfl
theorem aO4:aR Tryz.prog 212=some ⟨.other,1,8,[.lit .nilFunc]⟩:=by kernel_rfl
theorem aO3:aR Tryz.prog 213=some ⟨.other,1,8,[.lit .nilFunc]⟩:=by kernel_rfl
theorem aO2:aR Tryz.prog 214=some ⟨.other,1,8,[.lit .nilFunc]⟩:=by kernel_rfl
theorem aO1:aR Tryz.prog 215=some ⟨.int .u32,1,4,[.int .u32 0]⟩:=by kernel_rfl
theorem aO0:aR Tryz.prog 216=some ⟨.other,1,8,[.lit .nilFunc]⟩:=by kernel_rfl
theorem aNz:aR Tryz.prog 217=some ⟨.int .u64,1,8,[.int .u64 0]⟩:=by kernel_rfl
theorem aNy:aR Tryz.prog 218=some ⟨.other,1,8,[.lit .nilFunc]⟩:=by kernel_rfl
theorem aNx:aR Tryz.prog 219=some ⟨.other,1,8,[.lit .nilFunc]⟩:=by kernel_rfl
theorem aNw:aR Tryz.prog 220=some ⟨.other,1,8,[.lit .nilFunc]⟩:=by kernel_rfl
theorem aNv:aR Tryz.prog 221=some ⟨.other,1,8,[.lit .nilFunc]⟩:=by kernel_rfl
theorem aNu:aR Tryz.prog 222=some ⟨.other,1,8,[.lit .nilFunc]⟩:=by kernel_rfl
theorem aNt:aR Tryz.prog 223=some ⟨.other,1,8,[.lit .nilFunc]⟩:=by kernel_rfl
theorem aNs:aR Tryz.prog 224=some ⟨.other,1,8,[.lit .nilFunc]⟩:=by kernel_rfl
theorem aNr:aR Tryz.prog 225=some ⟨.int .u64,1,8,[.int .u64 0]⟩:=by kernel_rfl
theorem aNq:aR Tryz.prog 226=some ⟨.other,1,8,[.lit .nilFunc]⟩:=by kernel_rfl
theorem aNp:aR Tryz.prog 227=some ⟨.other,1,8,[.lit .nilFunc]⟩:=by kernel_rfl
theorem aNo:aR Tryz.prog 228=some ⟨.other,1,8,[.lit .nilFunc]⟩:=by kernel_rfl
theorem aNn:aR Tryz.prog 229=some ⟨.other,1,8,[.lit .nilFunc]⟩:=by kernel_rfl
theorem aNm:aR Tryz.prog 230=some ⟨.other,1,8,[.lit .nilFunc]⟩:=by kernel_rfl
theorem aNl:aR Tryz.prog 231=some ⟨.other,1,8,[.lit .nilFunc]⟩:=by kernel_rfl
theorem aNk:aR Tryz.prog 233=some ⟨.other,1,8,[.lit .nilFunc]⟩:=by kernel_rfl
theorem aNj:aR Tryz.prog 234=some ⟨.pointer 225,1,8,[.lit (.pointer none)]⟩:=by kernel_rfl
theorem aNi:aR Tryz.prog 236=some ⟨.other,1,8,[.lit .nilFunc]⟩:=by kernel_rfl
theorem aNh:aR Tryz.prog 237=some ⟨.other,1,8,[.lit .nilFunc]⟩:=by kernel_rfl
theorem aNg:aR Tryz.prog 238=some ⟨.other,1,8,[.lit .nilFunc]⟩:=by kernel_rfl
theorem aNf:aR Tryz.prog 239=some ⟨.struct [(17,0),(17,1),(17,2),(9,3)],4,40,[.lit (.pointer none), .lit (.pointer none), .lit (.pointer none), .str []]⟩:=by kernel_rfl
theorem aNe:aR Tryz.prog 240=some ⟨.struct [(17,0),(17,1),(17,2),(9,3)],4,40,[.lit (.pointer none), .lit (.pointer none), .lit (.pointer none), .str []]⟩:=by kernel_rfl
theorem aNd:aR Tryz.prog 241=some ⟨.array 0 16,0,0,[]⟩:=by kernel_rfl
theorem aNc:aR Tryz.prog 242=some ⟨.struct [(241,0)],0,0,[]⟩:=by kernel_rfl
theorem aNb:aR Tryz.prog 243=some ⟨.struct [(241,0)],0,0,[]⟩:=by kernel_rfl
theorem aNa:aR Tryz.prog 244=some ⟨.other,1,8,[.lit .nilFunc]⟩:=by kernel_rfl
theorem aN9:aR Tryz.prog 245=some ⟨.int .u8,1,1,[.int .u8 0]⟩:=by kernel_rfl
theorem aN8:aR Tryz.prog 246=some ⟨.int .u8,1,1,[.int .u8 0]⟩:=by kernel_rfl
theorem aN7:aR Tryz.prog 247=some ⟨.other,1,8,[.lit .nilFunc]⟩:=by kernel_rfl
theorem aN6:aR Tryz.prog 248=some ⟨.pointer 5,1,8,[.lit (.pointer none)]⟩:=by kernel_rfl
theorem aN5:aR Tryz.prog 249=some ⟨.int .i32,1,4,[.int .i32 0]⟩:=by kernel_rfl
theorem aN4:aR Tryz.prog 250=some ⟨.int .i32,1,4,[.int .i32 0]⟩:=by kernel_rfl
theorem aN3:aR Tryz.prog 251=some ⟨.struct [(12,0),(12,1),(215,2),(245,3),(5,4),(5,5),(246,6),(247,7),(248,8),(249,9),(250,10)],11,48,[.int .u64 0, .int .u64 0, .int .u32 0, .int .u8 0, .int .u8 0, .int .u8 0, .int .u8 0, .lit .nilFunc, .lit (.pointer none), .int .i32 0, .int .i32 0]⟩:=by kernel_rfl
theorem aN2:aR Tryz.prog 252=some ⟨.struct [(12,0),(12,1),(215,2),(245,3),(5,4),(5,5),(246,6),(247,7),(248,8),(249,9),(250,10)],11,48,[.int .u64 0, .int .u64 0, .int .u32 0, .int .u8 0, .int .u8 0, .int .u8 0, .int .u8 0, .lit .nilFunc, .lit (.pointer none), .int .i32 0, .int .i32 0]⟩:=by kernel_rfl
theorem aN1:aR Tryz.prog 253=some ⟨.other,1,8,[.lit (.pointer none)]⟩:=by kernel_rfl
def tab : List (Nat × TI) := [(1, ⟨.other, 1, 8, [.lit .nilFunc]⟩),
 (2,⟨.int .i64,1,8,[.int .i64 0]⟩),
 (3,⟨.int .i64,1,8,[.int .i64 0]⟩),
 (4,⟨.bool,1,1,[.bool false]⟩),
 (5,⟨.int .u8,1,1,[.int .u8 0]⟩),
 (6,⟨.int .u8,1,1,[.int .u8 0]⟩),
 (7,⟨.struct [(2,0),(3,1),(4,2),(6,3)],4,24,[.int .i64 0, .int .i64 0, .bool false, .int .u8 0]⟩),
 (8,⟨.struct [(2,0),(3,1),(4,2),(6,3)],4,24,[.int .i64 0, .int .i64 0, .bool false, .int .u8 0]⟩),
 (9,⟨.string,1,16,[.str []]⟩),
 (10,⟨.string,1,16,[.str []]⟩),
 (11,⟨.string,1,16,[.str []]⟩),
 (12,⟨.int .u64,1,8,[.int .u64 0]⟩),
 (13,⟨.struct [(9,0),(12,1)],2,24,[.str [], .int .u64 0]⟩),
 (14,⟨.struct [(9,0),(12,1)],2,24,[.str [], .int .u64 0]⟩),
 (15,⟨.pointer 240,1,8,[.lit (.pointer none)]⟩),
 (16,⟨.pointer 243,1,8,[.lit (.pointer none)]⟩),
 (17,⟨.pointer 252,1,8,[.lit (.pointer none)]⟩),
 (18,⟨.struct [(17,0)],1,8,[.lit (.pointer none)]⟩),
 (19,⟨.struct [(17,0)],1,8,[.lit (.pointer none)]⟩),
 (20,⟨.other,1,16,[.lit .nilIface]⟩),
 (21,⟨.int .i32,1,4,[.int .i32 0]⟩),
 (22,⟨.slice 68,1,24,[.nil]⟩),
 (23,⟨.slice 48,1,24,[.nil]⟩),
 (24,⟨.other,1,8,[.lit .nilFunc]⟩),
 (25,⟨.other,1,8,[.lit .nilFunc]⟩),
 (26,⟨.int .i64,1,8,[.int .i64 0]⟩),
 (28,⟨.other,1,8,[.lit .nilFunc]⟩),
 (29,⟨.other,1,8,[.lit .nilFunc]⟩),
 (30,⟨.other,1,8,[.lit .nilFunc]⟩),
 (31,⟨.slice 3,1,24,[.nil]⟩),
 (32,⟨.slice 9,1,24,[.nil]⟩),
 (33,⟨.other,1,8,[.lit .nilFunc]⟩),
 (34,⟨.other,1,8,[.lit .nilFunc]⟩),
 (35,⟨.other,1,8,[.lit .nilFunc]⟩),
 (36,⟨.other,1,8,[.lit .nilFunc]⟩),
 (37,⟨.struct [(23,0)],1,24,[.nil]⟩),
 (38,⟨.struct [(23,0)],1,24,[.nil]⟩),
 (40,⟨.other,1,8,[.lit .nilFunc]⟩),
 (41,⟨.other,1,8,[.lit .nilFunc]⟩),
 (42,⟨.other,1,8,[.lit .nilFunc]⟩),
 (43,⟨.other,1,8,[.lit .nilFunc]⟩),
 (44,⟨.slice 46,1,24,[.nil]⟩),
 (45,⟨.struct [(3,0),(9,1),(3,2),(3,3),(44,4)],5,64,[.int .i64 0, .str [], .int .i64 0, .int .i64 0, .nil]⟩),
 (46,⟨.struct [(3,0),(9,1),(3,2),(3,3),(44,4)],5,64,[.int .i64 0, .str [], .int .i64 0, .int .i64 0, .nil]⟩),
 (47,⟨.struct [(3,0),(4,1),(46,2),(46,7),(32,12),(9,13),(9,14),(9,15)],16,216,[.int .i64 0, .bool false, .int .i64 0, .str [], .int .i64 0, .int .i64 0, .nil, .int .i64 0, .str [], .int .i64 0, .int .i64 0, .nil, .nil, .str [], .str [], .str []]⟩),
 (48,⟨.struct [(3,0),(4,1),(46,2),(46,7),(32,12),(9,13),(9,14),(9,15)],16,216,[.int .i64 0, .bool false, .int .i64 0, .str [], .int .i64 0, .int .i64 0, .nil, .int .i64 0, .str [], .int .i64 0, .int .i64 0, .nil, .nil, .str [], .str [], .str []]⟩),
 (49,⟨.other,1,8,[.lit .nilFunc]⟩),
 (51,⟨.other,1,8,[.lit .nilFunc]⟩),
 (52,⟨.other,1,8,[.lit .nilFunc]⟩),
 (53,⟨.other,1,8,[.lit .nilFunc]⟩),
 (54,⟨.other,1,8,[.lit .nilFunc]⟩),
 (56,⟨.other,1,8,[.lit .nilFunc]⟩),
 (57,⟨.other,1,8,[.lit .nilFunc]⟩),
 (58,⟨.other,1,8,[.lit .nilFunc]⟩),
 (59,⟨.other,1,8,[.lit .nilFunc]⟩),
 (60,⟨.other,1,8,[.lit .nilFunc]⟩),
 (61,⟨.other,1,8,[.lit .nilFunc]⟩),
 (63,⟨.other,1,8,[.lit .nilFunc]⟩),
 (64,⟨.other,1,8,[.lit .nilFunc]⟩),
 (65,⟨.other,1,8,[.lit .nilFunc]⟩),
 (66,⟨.other,1,8,[.lit (.map none)]⟩),
 (67,⟨.struct [(3,0),(9,1),(9,2)],3,40,[.int .i64 0, .str [], .str []]⟩),
 (68,⟨.struct [(3,0),(9,1),(9,2)],3,40,[.int .i64 0, .str [], .str []]⟩),
 (69,⟨.other,1,8,[.lit .nilFunc]⟩),
 (70,⟨.other,1,8,[.lit .nilFunc]⟩),
 (71,⟨.struct [(3,0),(9,1)],2,24,[.int .i64 0, .str []]⟩),
 (72,⟨.struct [(3,0),(9,1)],2,24,[.int .i64 0, .str []]⟩),
 (73,⟨.other,1,8,[.lit .nilFunc]⟩),
 (74,⟨.other,1,8,[.lit .nilFunc]⟩),
 (75,⟨.slice 23,1,24,[.nil]⟩),
 (76,⟨.other,1,8,[.lit .nilFunc]⟩),
 (77,⟨.other,1,8,[.lit .nilFunc]⟩),
 (78,⟨.other,1,8,[.lit .nilFunc]⟩),
 (79,⟨.struct [(48,0)],16,216,[.int .i64 0, .bool false, .int .i64 0, .str [], .int .i64 0, .int .i64 0, .nil, .int .i64 0, .str [], .int .i64 0, .int .i64 0, .nil, .nil, .str [], .str [], .str []]⟩),
 (80,⟨.struct [(48,0)],16,216,[.int .i64 0, .bool false, .int .i64 0, .str [], .int .i64 0, .int .i64 0, .nil, .int .i64 0, .str [], .int .i64 0, .int .i64 0, .nil, .nil, .str [], .str [], .str []]⟩),
 (81,⟨.other,1,8,[.lit .nilFunc]⟩),
 (82,⟨.other,1,8,[.lit .nilFunc]⟩),
 (84,⟨.other,1,8,[.lit .nilFunc]⟩),
 (85,⟨.other,1,8,[.lit .nilFunc]⟩),
 (86,⟨.other,1,8,[.lit .nilFunc]⟩),
 (87,⟨.other,1,8,[.lit .nilFunc]⟩),
 (88,⟨.other,1,8,[.lit .nilFunc]⟩),
 (89,⟨.other,1,8,[.lit .nilFunc]⟩),
 (90,⟨.other,1,8,[.lit .nilFunc]⟩),
 (91,⟨.other,1,8,[.lit .nilFunc]⟩),
 (92,⟨.other,1,8,[.lit .nilFunc]⟩),
 (93,⟨.other,1,8,[.lit .nilFunc]⟩),
 (94,⟨.other,1,8,[.lit .nilFunc]⟩),
 (95,⟨.other,1,8,[.lit .nilFunc]⟩),
 (96,⟨.struct [(4,0),(4,1),(4,2),(4,3),(4,4),(3,5),(3,6)],7,24,[.bool false, .bool false, .bool false, .bool false, .bool false, .int .i64 0, .int .i64 0]⟩),
 (97,⟨.struct [(4,0),(4,1),(4,2),(4,3),(4,4),(3,5),(3,6)],7,24,[.bool false, .bool false, .bool false, .bool false, .bool false, .int .i64 0, .int .i64 0]⟩),
 (98,⟨.array 10 97,70,240,[.bool false, .bool false, .bool false, .bool false, .bool false, .int .i64 0, .int .i64 0, .bool false, .bool false, .bool false, .bool false, .bool false, .int .i64 0, .int .i64 0, .bool false, .bool false, .bool false, .bool false, .bool false, .int .i64 0, .int .i64 0, .bool false, .bool false, .bool false, .bool false, .bool false, .int .i64 0, .int .i64 0, .bool false, .bool false, .bool false, .bool false, .bool false, .int .i64 0, .int .i64 0, .bool false, .bool false, .bool false, .bool false, .bool false, .int .i64 0, .int .i64 0, .bool false, .bool false, .bool false, .bool false, .bool false, .int .i64 0, .int .i64 0, .bool false, .bool false, .bool false, .bool false, .bool false, .int .i64 0, .int .i64 0, .bool false, .bool false, .bool false, .bool false, .bool false, .int .i64 0, .int .i64 0, .bool false, .bool false, .bool false, .bool false, .bool false, .int .i64 0, .int .i64 0]⟩),
 (99,⟨.other,1,8,[.lit .nilFunc]⟩),
 (100,⟨.other,1,8,[.lit .nilFunc]⟩),
 (101,⟨.other,1,8,[.lit .nilFunc]⟩),
 (102,⟨.other,1,8,[.lit (.map none)]⟩),
 (105,⟨.other,1,8,[.lit .nilFunc]⟩),
 (106,⟨.other,1,8,[.lit .nilFunc]⟩),
 (107,⟨.other,1,8,[.lit .nilFunc]⟩),
 (109,⟨.other,1,8,[.lit .nilFunc]⟩),
 (110,⟨.other,1,8,[.lit .nilFunc]⟩),
 (111,⟨.other,1,8,[.lit .nilFunc]⟩),
 (112,⟨.other,1,8,[.lit .nilFunc]⟩),
 (113,⟨.other,1,8,[.lit .nilFunc]⟩),
 (114,⟨.other,1,8,[.lit .nilFunc]⟩),
 (115,⟨.other,1,8,[.lit .nilFunc]⟩),
 (116,⟨.other,1,8,[.lit .nilFunc]⟩),
 (117,⟨.other,1,8,[.lit .nilFunc]⟩),
 (118,⟨.other,1,8,[.lit .nilFunc]⟩),
 (119,⟨.slice 165,1,24,[.nil]⟩),
 (120,⟨.struct [(32,0),(119,1)],2,48,[.nil, .nil]⟩),
 (121,⟨.struct [(32,0),(119,1)],2,48,[.nil, .nil]⟩),
 (122,⟨.other,1,8,[.lit .nilFunc]⟩),
 (123,⟨.other,1,8,[.lit (.map none)]⟩),
 (124,⟨.other,1,8,[.lit .nilFunc]⟩),
 (125,⟨.other,1,8,[.lit .nilFunc]⟩),
 (126,⟨.slice 179,1,24,[.nil]⟩),
 (127,⟨.other,1,8,[.lit .nilFunc]⟩),
 (128,⟨.other,1,8,[.lit .nilFunc]⟩),
 (129,⟨.slice 132,1,24,[.nil]⟩),
 (130,⟨.struct [(32,0),(4,1)],2,32,[.nil, .bool false]⟩),
 (131,⟨.struct [(32,0),(4,1)],2,32,[.nil, .bool false]⟩),
 (132,⟨.slice 131,1,24,[.nil]⟩),
 (133,⟨.other,1,8,[.lit .nilFunc]⟩),
 (134,⟨.other,1,8,[.lit .nilFunc]⟩),
 (135,⟨.other,1,8,[.lit .nilFunc]⟩),
 (136,⟨.other,1,8,[.lit .nilFunc]⟩),
 (138,⟨.other,1,8,[.lit .nilFunc]⟩),
 (139,⟨.other,1,8,[.lit .nilFunc]⟩),
 (140,⟨.other,1,8,[.lit .nilFunc]⟩),
 (141,⟨.slice 22,1,24,[.nil]⟩),
 (142,⟨.other,1,8,[.lit .nilFunc]⟩),
 (143,⟨.other,1,8,[.lit .nilFunc]⟩),
 (144,⟨.pointer 3,1,8,[.lit (.pointer none)]⟩),
 (145,⟨.other,1,8,[.lit .nilFunc]⟩),
 (146,⟨.other,1,8,[.lit .nilFunc]⟩),
 (147,⟨.other,1,8,[.lit .nilFunc]⟩),
 (148,⟨.other,1,8,[.lit .nilFunc]⟩),
 (149,⟨.other,1,8,[.lit .nilFunc]⟩),
 (150,⟨.slice 152,1,24,[.nil]⟩),
 (151,⟨.struct [(46,0),(3,5),(150,6)],7,96,[.int .i64 0, .str [], .int .i64 0, .int .i64 0, .nil, .int .i64 0, .nil]⟩),
 (152,⟨.struct [(46,0),(3,5),(150,6)],7,96,[.int .i64 0, .str [], .int .i64 0, .int .i64 0, .nil, .int .i64 0, .nil]⟩),
 (153,⟨.other,1,8,[.lit .nilFunc]⟩),
 (154,⟨.other,1,8,[.lit .nilFunc]⟩),
 (155,⟨.other,1,8,[.lit .nilFunc]⟩),
 (156,⟨.other,1,8,[.lit .nilFunc]⟩),
 (157,⟨.other,1,8,[.lit .nilFunc]⟩),
 (158,⟨.other,1,8,[.lit .nilFunc]⟩),
 (159,⟨.other,1,8,[.lit .nilFunc]⟩),
 (160,⟨.other,1,8,[.lit .nilFunc]⟩),
 (161,⟨.other,1,8,[.lit .nilFunc]⟩),
 (162,⟨.other,1,8,[.lit .nilFunc]⟩),
 (163,⟨.other,1,8,[.lit .nilFunc]⟩),
 (164,⟨.other,1,8,[.lit (.map none)]⟩),
 (165,⟨.slice 169,1,24,[.nil]⟩),
 (166,⟨.other,1,8,[.lit .nilFunc]⟩),
 (167,⟨.other,1,8,[.lit .nilFunc]⟩),
 (168,⟨.struct [(3,0),(4,1)],2,16,[.int .i64 0, .bool false]⟩),
 (169,⟨.struct [(3,0),(4,1)],2,16,[.int .i64 0, .bool false]⟩),
 (170,⟨.other,1,8,[.lit .nilFunc]⟩),
 (171,⟨.other,1,8,[.lit .nilFunc]⟩),
 (172,⟨.struct [(3,0),(4,1),(3,2),(3,3)],4,32,[.int .i64 0, .bool false, .int .i64 0, .int .i64 0]⟩),
 (173,⟨.struct [(3,0),(4,1),(3,2),(3,3)],4,32,[.int .i64 0, .bool false, .int .i64 0, .int .i64 0]⟩),
 (174,⟨.slice 173,1,24,[.nil]⟩),
 (175,⟨.slice 176,1,24,[.nil]⟩),
 (176,⟨.array 2 4,2,2,[.bool false, .bool false]⟩),
 (177,⟨.other,1,8,[.lit .nilFunc]⟩),
 (178,⟨.struct [(9,0),(9,1),(4,2)],3,40,[.str [], .str [], .bool false]⟩),
 (179,⟨.struct [(9,0),(9,1),(4,2)],3,40,[.str [], .str [], .bool false]⟩),
 (180,⟨.other,1,8,[.lit .nilFunc]⟩),
 (181,⟨.other,1,8,[.lit .nilFunc]⟩),
 (182,⟨.other,1,8,[.lit .nilFunc]⟩),
 (184,⟨.other,1,8,[.lit .nilFunc]⟩),
 (185,⟨.other,1,8,[.lit .nilFunc]⟩),
 (186,⟨.struct [(3,0),(3,1),(3,2),(4,3)],4,32,[.int .i64 0, .int .i64 0, .int .i64 0, .bool false]⟩),
 (187,⟨.struct [(3,0),(3,1),(3,2),(4,3)],4,32,[.int .i64 0, .int .i64 0, .int .i64 0, .bool false]⟩),
 (188,⟨.array 8 187,32,256,[.int .i64 0, .int .i64 0, .int .i64 0, .bool false, .int .i64 0, .int .i64 0, .int .i64 0, .bool false, .int .i64 0, .int .i64 0, .int .i64 0, .bool false, .int .i64 0, .int .i64 0, .int .i64 0, .bool false, .int .i64 0, .int .i64 0, .int .i64 0, .bool false, .int .i64 0, .int .i64 0, .int .i64 0, .bool false, .int .i64 0, .int .i64 0, .int .i64 0, .bool false, .int .i64 0, .int .i64 0, .int .i64 0, .bool false]⟩),
 (189,⟨.other,1,8,[.lit .nilFunc]⟩),
 (190,⟨.other,1,8,[.lit .nilFunc]⟩),
 (191,⟨.other,1,8,[.lit .nilFunc]⟩),
 (192,⟨.other,1,8,[.lit .nilFunc]⟩),
 (193,⟨.other,1,8,[.lit .nilFunc]⟩),
 (194,⟨.other,1,8,[.lit .nilFunc]⟩),
 (195,⟨.other,1,8,[.lit .nilFunc]⟩),
 (196,⟨.other,1,8,[.lit .nilFunc]⟩),
 (197,⟨.other,1,8,[.lit .nilFunc]⟩),
 (198,⟨.int .u64,1,8,[.int .u64 0]⟩),
 (199,⟨.other,1,8,[.lit .nilFunc]⟩),
 (200,⟨.other,1,8,[.lit .nilFunc]⟩),
 (201,⟨.other,1,8,[.lit .nilFunc]⟩),
 (202,⟨.other,1,8,[.lit .nilFunc]⟩),
 (203,⟨.other,1,8,[.lit .nilFunc]⟩),
 (204,⟨.other,1,8,[.lit .nilFunc]⟩),
 (205,⟨.other,1,8,[.lit .nilFunc]⟩),
 (206,⟨.slice 5,1,24,[.nil]⟩),
 (207,⟨.other,1,8,[.lit .nilFunc]⟩),
 (208,⟨.int .i64,1,8,[.int .i64 0]⟩),
 (210,⟨.other,1,8,[.lit .nilFunc]⟩),
 (211,⟨.other,1,8,[.lit .nilFunc]⟩),
 (212,⟨.other,1,8,[.lit .nilFunc]⟩),
 (213,⟨.other,1,8,[.lit .nilFunc]⟩),
 (214,⟨.other,1,8,[.lit .nilFunc]⟩),
 (215,⟨.int .u32,1,4,[.int .u32 0]⟩),
 (216,⟨.other,1,8,[.lit .nilFunc]⟩),
 (217,⟨.int .u64,1,8,[.int .u64 0]⟩),
 (218,⟨.other,1,8,[.lit .nilFunc]⟩),
 (219,⟨.other,1,8,[.lit .nilFunc]⟩),
 (220,⟨.other,1,8,[.lit .nilFunc]⟩),
 (221,⟨.other,1,8,[.lit .nilFunc]⟩),
 (222,⟨.other,1,8,[.lit .nilFunc]⟩),
 (223,⟨.other,1,8,[.lit .nilFunc]⟩),
 (224,⟨.other,1,8,[.lit .nilFunc]⟩),
 (225,⟨.int .u64,1,8,[.int .u64 0]⟩),
 (226,⟨.other,1,8,[.lit .nilFunc]⟩),
 (227,⟨.other,1,8,[.lit .nilFunc]⟩),
 (228,⟨.other,1,8,[.lit .nilFunc]⟩),
 (229,⟨.other,1,8,[.lit .nilFunc]⟩),
 (230,⟨.other,1,8,[.lit .nilFunc]⟩),
 (231,⟨.other,1,8,[.lit .nilFunc]⟩),
 (233,⟨.other,1,8,[.lit .nilFunc]⟩),
 (234,⟨.pointer 225,1,8,[.lit (.pointer none)]⟩),
 (236,⟨.other,1,8,[.lit .nilFunc]⟩),
 (237,⟨.other,1,8,[.lit .nilFunc]⟩),
 (238,⟨.other,1,8,[.lit .nilFunc]⟩),
 (239,⟨.struct [(17,0),(17,1),(17,2),(9,3)],4,40,[.lit (.pointer none), .lit (.pointer none), .lit (.pointer none), .str []]⟩),
 (240,⟨.struct [(17,0),(17,1),(17,2),(9,3)],4,40,[.lit (.pointer none), .lit (.pointer none), .lit (.pointer none), .str []]⟩),
 (241,⟨.array 0 16,0,0,[]⟩),
 (242,⟨.struct [(241,0)],0,0,[]⟩),
 (243,⟨.struct [(241,0)],0,0,[]⟩),
 (244,⟨.other,1,8,[.lit .nilFunc]⟩),
 (245,⟨.int .u8,1,1,[.int .u8 0]⟩),
 (246,⟨.int .u8,1,1,[.int .u8 0]⟩),
 (247,⟨.other,1,8,[.lit .nilFunc]⟩),
 (248,⟨.pointer 5,1,8,[.lit (.pointer none)]⟩),
 (249,⟨.int .i32,1,4,[.int .i32 0]⟩),
 (250,⟨.int .i32,1,4,[.int .i32 0]⟩),
 (251,⟨.struct [(12,0),(12,1),(215,2),(245,3),(5,4),(5,5),(246,6),(247,7),(248,8),(249,9),(250,10)],11,48,[.int .u64 0, .int .u64 0, .int .u32 0, .int .u8 0, .int .u8 0, .int .u8 0, .int .u8 0, .lit .nilFunc, .lit (.pointer none), .int .i32 0, .int .i32 0]⟩),
 (252,⟨.struct [(12,0),(12,1),(215,2),(245,3),(5,4),(5,5),(246,6),(247,7),(248,8),(249,9),(250,10)],11,48,[.int .u64 0, .int .u64 0, .int .u32 0, .int .u8 0, .int .u8 0, .int .u8 0, .int .u8 0, .lit .nilFunc, .lit (.pointer none), .int .i32 0, .int .i32 0]⟩),
 (253,⟨.other,1,8,[.lit (.pointer none)]⟩)]
def ty:TypeId->Option TI:=aKx tab
theorem hty:dS Tryz.prog ty:=aJ7 ⟨T1,T2,T3,T4,T5,T6,T7,T8,T9,T10,T11,T12,T13,T14,T15,T16,T17,T18,T19,T20,T21,T22,T23,T24,T25,T26,T28,T29,T30,T31,T32,T33,T34,T35,T36,T37,T38,T40,T41,T42,T43,T44,T45,T46,T47,T48,T49,T51,T52,T53,T54,T56,T57,T58,T59,T60,T61,T63,T64,T65,T66,T67,T68,T69,T70,T71,T72,T73,T74,T75,T76,T77,T78,T79,T80,T81,T82,T84,T85,T86,T87,T88,T89,T90,T91,T92,T93,T94,T95,T96,T97,T98,T99,aR2,aR1,aR0,aQz,aQy,aQx,aQw,aQv,aQu,aQt,aQs,aQr,aQq,aQp,aQo,aQn,aQm,aQl,aQk,aQj,aQi,aQh,aQg,aQf,aQe,aQd,aQc,aQb,aQa,aQ9,aQ8,aQ7,aQ6,aQ5,aQ4,aQ3,aQ2,aQ1,aQ0,aPz,aPy,aPx,aPw,aPv,aPu,aPt,aPs,aPr,aPq,aPp,aPo,aPn,aPm,aPl,aPk,aPj,aPi,aPh,aPg,aPf,aPe,aPd,aPc,aPb,aPa,aP9,aP8,aP7,aP6,aP5,aP4,aP3,aP2,aP1,aP0,aOz,aOy,aOx,aOw,aOv,aOu,aOt,aOs,aOr,aOq,aOp,aOo,aOn,aOm,aOl,aOk,aOj,aOi,aOh,aOg,aOf,aOe,aOd,aOc,aOb,aOa,aO9,aO8,aO7,aO6,aO5,aO4,aO3,aO2,aO1,aO0,aNz,aNy,aNx,aNw,aNv,aNu,aNt,aNs,aNr,aNq,aNp,aNo,aNn,aNm,aNl,aNk,aNj,aNi,aNh,aNg,aNf,aNe,aNd,aNc,aNb,aNa,aN9,aN8,aN7,aN6,aN5,aN4,aN3,aN2,aN1,trivial⟩
end Go.Proofs.YtfhoddcminbffaaGreatDoor
