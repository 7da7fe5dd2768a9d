/- Lemmas and contracts of functions, several texts in one. -/
import Derived.Test.YtfiipaodjpiooaaGreatDoorProg
import Derived.Test.YtfiipaodjpiooaaGreatDoorQ05
set_option maxRecDepth 100000
set_option maxHeartbeats 4000000
set_option linter.all false
namespace Go.Proofs.YtfiipaodjpiooaaGreatDoor
open Tryz
theorem ty1:bQ prog 1=some ⟨.other,1,8,some [.nilFunc]⟩:=by kernel_rfl
theorem ty2:bQ prog 2=some ⟨.int .i64,1,8,some [.int .i64 0]⟩:=by kernel_rfl
theorem PF:bQ prog 3=some ⟨.int .i64,1,8,some [.int .i64 0]⟩:=by kernel_rfl
theorem ty4:bQ prog 4=some ⟨.bool,1,1,some [.bool false]⟩:=by kernel_rfl
theorem ty5:bQ prog 5=some ⟨.int .u8,1,1,some [.int .u8 0]⟩:=by kernel_rfl
theorem ty6:bQ prog 6=some ⟨.int .u8,1,1,some [.int .u8 0]⟩:=by kernel_rfl
theorem ty7:bQ prog 7=some ⟨.struct [(0,2),(1,3),(2,4),(3,6)],4,24,some [.int .i64 0,.int .i64 0,.bool false,.int .u8 0]⟩:=by kernel_rfl
theorem ty8:bQ prog 8=some ⟨.struct [(0,2),(1,3),(2,4),(3,6)],4,24,some [.int .i64 0,.int .i64 0,.bool false,.int .u8 0]⟩:=by kernel_rfl
theorem ty9:bQ prog 9=some ⟨.string,1,16,some [.string ByteArray.empty]⟩:=by kernel_rfl
theorem aZX:bQ prog 10=some ⟨.string,1,16,some [.string ByteArray.empty]⟩:=by kernel_rfl
theorem aZY:bQ prog 11=some ⟨.string,1,16,some [.string ByteArray.empty]⟩:=by kernel_rfl
theorem aZZ:bQ prog 12=some ⟨.int .u64,1,8,some [.int .u64 0]⟩:=by kernel_rfl
theorem aZ0:bQ prog 13=some ⟨.struct [(0,9),(1,12)],2,24,some [.string ByteArray.empty,.int .u64 0]⟩:=by kernel_rfl
theorem aZ1:bQ prog 14=some ⟨.struct [(0,9),(1,12)],2,24,some [.string ByteArray.empty,.int .u64 0]⟩:=by kernel_rfl
theorem aZ2:bQ prog 15=some ⟨.ptr 299,1,8,some [.pointer none]⟩:=by kernel_rfl
theorem aZ3:bQ prog 16=some ⟨.ptr 302,1,8,some [.pointer none]⟩:=by kernel_rfl
theorem aZ4:bQ prog 17=some ⟨.ptr 311,1,8,some [.pointer none]⟩:=by kernel_rfl
theorem aZ5:bQ prog 18=some ⟨.struct [(0,17)],1,8,some [.pointer none]⟩:=by kernel_rfl
theorem aZ6:bQ prog 19=some ⟨.struct [(0,17)],1,8,some [.pointer none]⟩:=by kernel_rfl
theorem aZ7:bQ prog 21=some ⟨.int .i32,1,4,some [.int .i32 0]⟩:=by kernel_rfl
theorem aPY:bQ prog 22=some ⟨.slice 9,1,24,some [.slice none 0 0]⟩:=by kernel_rfl
theorem vY:bQ prog 23=some ⟨.slice 48,1,24,some [.slice none 0 0]⟩:=by kernel_rfl
theorem aIq:bQ prog 24=some ⟨.slice 154,1,24,some [.slice none 0 0]⟩:=by kernel_rfl
theorem aZ8:bQ prog 25=some ⟨.slice 111,1,24,some [.slice none 0 0]⟩:=by kernel_rfl
theorem aML:bQ prog 26=some ⟨.slice 40,1,24,some [.slice none 0 0]⟩:=by kernel_rfl
theorem aZ9:bQ prog 27=some ⟨.struct [(0,9),(1,22),(2,23),(3,24),(4,25),(5,3),(6,26)],7,144,some [.string ByteArray.empty,.slice none 0 0,.slice none 0 0,.slice none 0 0,.slice none 0 0,.int .i64 0,.slice none 0 0]⟩:=by kernel_rfl
theorem aZa:bQ prog 28=some ⟨.struct [(0,9),(1,22),(2,23),(3,24),(4,25),(5,3),(6,26)],7,144,some [.string ByteArray.empty,.slice none 0 0,.slice none 0 0,.slice none 0 0,.slice none 0 0,.int .i64 0,.slice none 0 0]⟩:=by kernel_rfl
theorem aZb:bQ prog 29=some ⟨.other,1,8,some [.nilFunc]⟩:=by kernel_rfl
theorem aZc:bQ prog 30=some ⟨.other,1,8,some [.nilFunc]⟩:=by kernel_rfl
theorem aPZ:bQ prog 31=some ⟨.slice 44,1,24,some [.slice none 0 0]⟩:=by kernel_rfl
theorem kZ:bQ prog 32=some ⟨.slice 3,1,24,some [.slice none 0 0]⟩:=by kernel_rfl
theorem aZd:bQ prog 33=some ⟨.slice 169,1,24,some [.slice none 0 0]⟩:=by kernel_rfl
theorem aP0:bQ prog 34=some ⟨.slice 119,1,24,some [.slice none 0 0]⟩:=by kernel_rfl
theorem aZe:bQ prog 35=some ⟨.struct [(0,3),(1,34)],2,32,some [.int .i64 0,.slice none 0 0]⟩:=by kernel_rfl
theorem aZf:bQ prog 36=some ⟨.struct [(0,3),(1,34)],2,32,some [.int .i64 0,.slice none 0 0]⟩:=by kernel_rfl
theorem aZg:bQ prog 37=some ⟨.struct [(0,3),(1,32),(2,33),(3,36),(5,9)],6,104,some [.int .i64 0,.slice none 0 0,.slice none 0 0,.int .i64 0,.slice none 0 0,.string ByteArray.empty]⟩:=by kernel_rfl
theorem aZh:bQ prog 38=some ⟨.struct [(0,3),(1,32),(2,33),(3,36),(5,9)],6,104,some [.int .i64 0,.slice none 0 0,.slice none 0 0,.int .i64 0,.slice none 0 0,.string ByteArray.empty]⟩:=by kernel_rfl
theorem aZi:bQ prog 39=some ⟨.struct [(0,31),(1,38)],7,128,some [.slice none 0 0,.int .i64 0,.slice none 0 0,.slice none 0 0,.int .i64 0,.slice none 0 0,.string ByteArray.empty]⟩:=by kernel_rfl
theorem aP1:bQ prog 40=some ⟨.struct [(0,31),(1,38)],7,128,some [.slice none 0 0,.int .i64 0,.slice none 0 0,.slice none 0 0,.int .i64 0,.slice none 0 0,.string ByteArray.empty]⟩:=by kernel_rfl
theorem aZj:bQ prog 41=some ⟨.struct [(0,3),(1,3),(2,3),(3,4),(4,36),(6,33)],7,88,some [.int .i64 0,.int .i64 0,.int .i64 0,.bool false,.int .i64 0,.slice none 0 0,.slice none 0 0]⟩:=by kernel_rfl
theorem aZk:bQ prog 42=some ⟨.struct [(0,3),(1,3),(2,3),(3,4),(4,36),(6,33)],7,88,some [.int .i64 0,.int .i64 0,.int .i64 0,.bool false,.int .i64 0,.slice none 0 0,.slice none 0 0]⟩:=by kernel_rfl
theorem aZl:bQ prog 43=some ⟨.struct [(0,3),(1,36),(3,42),(10,3)],11,136,some [.int .i64 0,.int .i64 0,.slice none 0 0,.int .i64 0,.int .i64 0,.int .i64 0,.bool false,.int .i64 0,.slice none 0 0,.slice none 0 0,.int .i64 0]⟩:=by kernel_rfl
theorem aUr:bQ prog 44=some ⟨.struct [(0,3),(1,36),(3,42),(10,3)],11,136,some [.int .i64 0,.int .i64 0,.slice none 0 0,.int .i64 0,.int .i64 0,.int .i64 0,.bool false,.int .i64 0,.slice none 0 0,.slice none 0 0,.int .i64 0]⟩:=by kernel_rfl
theorem aZm:bQ prog 45=some ⟨.int .i64,1,8,some [.int .i64 0]⟩:=by kernel_rfl
theorem aZn:bQ prog 47=some ⟨.other,1,8,some [.nilFunc]⟩:=by kernel_rfl
theorem ML:bQ prog 48=some ⟨.array 2 3,2,16,some [.int .i64 0,.int .i64 0]⟩:=by kernel_rfl
theorem aZo:bQ prog 50=some ⟨.other,1,8,some [.nilFunc]⟩:=by kernel_rfl
theorem aZp:bQ prog 51=some ⟨.other,1,8,some [.nilFunc]⟩:=by kernel_rfl
theorem aZq:bQ prog 52=some ⟨.other,1,8,some [.nilFunc]⟩:=by kernel_rfl
theorem aZr:bQ prog 53=some ⟨.other,1,8,some [.nilFunc]⟩:=by kernel_rfl
theorem aP2:bQ prog 54=some ⟨.slice 75,1,24,some [.slice none 0 0]⟩:=by kernel_rfl
theorem aZs:bQ prog 55=some ⟨.struct [(0,54),(1,23),(2,23),(3,23),(4,23)],5,120,some [.slice none 0 0,.slice none 0 0,.slice none 0 0,.slice none 0 0,.slice none 0 0]⟩:=by kernel_rfl
theorem aZt:bQ prog 56=some ⟨.struct [(0,54),(1,23),(2,23),(3,23),(4,23)],5,120,some [.slice none 0 0,.slice none 0 0,.slice none 0 0,.slice none 0 0,.slice none 0 0]⟩:=by kernel_rfl
theorem aZu:bQ prog 58=some ⟨.other,1,8,some [.nilFunc]⟩:=by kernel_rfl
theorem aZv:bQ prog 59=some ⟨.array 2 5,2,2,some [.int .u8 0,.int .u8 0]⟩:=by kernel_rfl
theorem aZw:bQ prog 60=some ⟨.other,1,8,some [.nilFunc]⟩:=by kernel_rfl
theorem aZx:bQ prog 61=some ⟨.other,1,8,some [.nilFunc]⟩:=by kernel_rfl
theorem aZy:bQ prog 62=some ⟨.other,1,8,some [.nilFunc]⟩:=by kernel_rfl
theorem aZz:bQ prog 63=some ⟨.other,1,8,some [.nilFunc]⟩:=by kernel_rfl
theorem a0A:bQ prog 64=some ⟨.other,1,8,some [.nilFunc]⟩:=by kernel_rfl
theorem a0B:bQ prog 65=some ⟨.other,1,8,some [.nilFunc]⟩:=by kernel_rfl
theorem a0C:bQ prog 66=some ⟨.other,1,8,some [.nilFunc]⟩:=by kernel_rfl
theorem a0D:bQ prog 67=some ⟨.other,1,8,some [.nilFunc]⟩:=by kernel_rfl
theorem a0E:bQ prog 68=some ⟨.other,1,8,some [.nilFunc]⟩:=by kernel_rfl
theorem a0F:bQ prog 69=some ⟨.other,1,8,some [.nilFunc]⟩:=by kernel_rfl
theorem a0G:bQ prog 70=some ⟨.other,1,8,some [.nilFunc]⟩:=by kernel_rfl
theorem a0H:bQ prog 71=some ⟨.other,1,8,some [.nilFunc]⟩:=by kernel_rfl
theorem a0I:bQ prog 72=some ⟨.other,1,8,some [.nilFunc]⟩:=by kernel_rfl
theorem a0J:bQ prog 73=some ⟨.other,1,8,some [.nilFunc]⟩:=by kernel_rfl
theorem a0K:bQ prog 74=some ⟨.struct [(0,3),(1,3),(2,4),(3,36)],5,56,some [.int .i64 0,.int .i64 0,.bool false,.int .i64 0,.slice none 0 0]⟩:=by kernel_rfl
theorem aUs:bQ prog 75=some ⟨.struct [(0,3),(1,3),(2,4),(3,36)],5,56,some [.int .i64 0,.int .i64 0,.bool false,.int .i64 0,.slice none 0 0]⟩:=by kernel_rfl
theorem a0L:bQ prog 76=some ⟨.other,1,8,some [.nilFunc]⟩:=by kernel_rfl
theorem a0M:bQ prog 77=some ⟨.other,1,8,some [.nilFunc]⟩:=by kernel_rfl
theorem a0N:bQ prog 78=some ⟨.other,1,8,some [.nilFunc]⟩:=by kernel_rfl
theorem a0O:bQ prog 79=some ⟨.other,1,8,some [.nilFunc]⟩:=by kernel_rfl
theorem a0P:bQ prog 80=some ⟨.int .u64,1,8,some [.int .u64 0]⟩:=by kernel_rfl
theorem a0Q:bQ prog 81=some ⟨.other,1,8,some [.nilFunc]⟩:=by kernel_rfl
theorem a0R:bQ prog 82=some ⟨.map 3 3,1,8,some [.map none]⟩:=by kernel_rfl
theorem a0S:bQ prog 83=some ⟨.ptr 96,1,8,some [.pointer none]⟩:=by kernel_rfl
theorem a0T:bQ prog 84=some ⟨.other,1,8,some [.nilFunc]⟩:=by kernel_rfl
theorem a0U:bQ prog 85=some ⟨.other,1,8,some [.nilFunc]⟩:=by kernel_rfl
theorem a0V:bQ prog 87=some ⟨.other,1,8,some [.nilFunc]⟩:=by kernel_rfl
theorem a0W:bQ prog 88=some ⟨.other,1,8,some [.nilFunc]⟩:=by kernel_rfl
theorem a0X:bQ prog 89=some ⟨.other,1,8,some [.nilFunc]⟩:=by kernel_rfl
theorem a0Y:bQ prog 90=some ⟨.other,1,8,some [.nilFunc]⟩:=by kernel_rfl
theorem a0Z:bQ prog 91=some ⟨.other,1,8,some [.nilFunc]⟩:=by kernel_rfl
theorem a00:bQ prog 92=some ⟨.other,1,8,some [.nilFunc]⟩:=by kernel_rfl
theorem a01:bQ prog 93=some ⟨.map 3 32,1,8,some [.map none]⟩:=by kernel_rfl
theorem a02:bQ prog 94=some ⟨.map 48 4,1,8,some [.map none]⟩:=by kernel_rfl
theorem a03:bQ prog 95=some ⟨.struct [(0,56),(5,93),(6,94),(7,94),(8,94)],9,152,some [.slice none 0 0,.slice none 0 0,.slice none 0 0,.slice none 0 0,.slice none 0 0,.map none,.map none,.map none,.map none]⟩:=by kernel_rfl
theorem a04:bQ prog 96=some ⟨.struct [(0,56),(5,93),(6,94),(7,94),(8,94)],9,152,some [.slice none 0 0,.slice none 0 0,.slice none 0 0,.slice none 0 0,.slice none 0 0,.map none,.map none,.map none,.map none]⟩:=by kernel_rfl
theorem a05:bQ prog 97=some ⟨.other,1,8,some [.nilFunc]⟩:=by kernel_rfl
theorem a06:bQ prog 98=some ⟨.ptr 185,1,8,some [.pointer none]⟩:=by kernel_rfl
theorem a07:bQ prog 99=some ⟨.struct [(0,28),(7,98)],8,152,some [.string ByteArray.empty,.slice none 0 0,.slice none 0 0,.slice none 0 0,.slice none 0 0,.int .i64 0,.slice none 0 0,.pointer none]⟩:=by kernel_rfl
theorem aRc:bQ prog 100=some ⟨.struct [(0,28),(7,98)],8,152,some [.string ByteArray.empty,.slice none 0 0,.slice none 0 0,.slice none 0 0,.slice none 0 0,.int .i64 0,.slice none 0 0,.pointer none]⟩:=by kernel_rfl
theorem aRd:bQ prog 101=some ⟨.other,1,8,some [.nilFunc]⟩:=by kernel_rfl
theorem aRe:bQ prog 102=some ⟨.other,1,8,some [.nilFunc]⟩:=by kernel_rfl
theorem aRf:bQ prog 103=some ⟨.other,1,8,some [.nilFunc]⟩:=by kernel_rfl
theorem aRg:bQ prog 105=some ⟨.other,1,8,some [.nilFunc]⟩:=by kernel_rfl
theorem aRh:bQ prog 106=some ⟨.map 48 4,1,8,some [.map none]⟩:=by kernel_rfl
theorem aRi:bQ prog 107=some ⟨.slice 32,1,24,some [.slice none 0 0]⟩:=by kernel_rfl
theorem aRj:bQ prog 108=some ⟨.other,1,8,some [.nilFunc]⟩:=by kernel_rfl
theorem aRk:bQ prog 109=some ⟨.other,1,8,some [.nilFunc]⟩:=by kernel_rfl
theorem aRl:bQ prog 110=some ⟨.struct [(0,9),(1,3)],2,24,some [.string ByteArray.empty,.int .i64 0]⟩:=by kernel_rfl
theorem aRm:bQ prog 111=some ⟨.struct [(0,9),(1,3)],2,24,some [.string ByteArray.empty,.int .i64 0]⟩:=by kernel_rfl
theorem aRn:bQ prog 112=some ⟨.other,1,8,some [.nilFunc]⟩:=by kernel_rfl
theorem aRo:bQ prog 113=some ⟨.other,1,8,some [.nilFunc]⟩:=by kernel_rfl
theorem aRp:bQ prog 114=some ⟨.other,1,8,some [.nilFunc]⟩:=by kernel_rfl
theorem aRq:bQ prog 115=some ⟨.other,1,8,some [.nilFunc]⟩:=by kernel_rfl
theorem aRr:bQ prog 116=some ⟨.other,1,8,some [.nilFunc]⟩:=by kernel_rfl
theorem aRs:bQ prog 117=some ⟨.other,1,8,some [.nilFunc]⟩:=by kernel_rfl
theorem aRt:bQ prog 118=some ⟨.struct [(0,3),(1,3)],2,16,some [.int .i64 0,.int .i64 0]⟩:=by kernel_rfl
theorem aMt:bQ prog 119=some ⟨.struct [(0,3),(1,3)],2,16,some [.int .i64 0,.int .i64 0]⟩:=by kernel_rfl
theorem aRu:bQ prog 120=some ⟨.other,1,8,some [.nilFunc]⟩:=by kernel_rfl
theorem aRv:bQ prog 121=some ⟨.other,1,8,some [.nilFunc]⟩:=by kernel_rfl
theorem aRw:bQ prog 122=some ⟨.other,1,8,some [.nilFunc]⟩:=by kernel_rfl
theorem aRx:bQ prog 123=some ⟨.other,1,8,some [.nilFunc]⟩:=by kernel_rfl
theorem aRy:bQ prog 124=some ⟨.struct [(0,3),(1,3)],2,16,some [.int .i64 0,.int .i64 0]⟩:=by kernel_rfl
theorem aRz:bQ prog 125=some ⟨.struct [(0,3),(1,3)],2,16,some [.int .i64 0,.int .i64 0]⟩:=by kernel_rfl
theorem aSA:bQ prog 126=some ⟨.other,1,8,some [.nilFunc]⟩:=by kernel_rfl
theorem aSB:bQ prog 128=some ⟨.other,1,8,some [.nilFunc]⟩:=by kernel_rfl
theorem aSC:bQ prog 129=some ⟨.other,1,8,some [.nilFunc]⟩:=by kernel_rfl
theorem aSD:bQ prog 130=some ⟨.other,1,8,some [.nilFunc]⟩:=by kernel_rfl
theorem aSE:bQ prog 131=some ⟨.other,1,8,some [.nilFunc]⟩:=by kernel_rfl
theorem aSF:bQ prog 132=some ⟨.other,1,8,some [.nilFunc]⟩:=by kernel_rfl
theorem aSG:bQ prog 133=some ⟨.other,1,8,some [.nilFunc]⟩:=by kernel_rfl
theorem aSH:bQ prog 134=some ⟨.struct [(0,36),(2,4),(3,4)],4,40,some [.int .i64 0,.slice none 0 0,.bool false,.bool false]⟩:=by kernel_rfl
theorem aSI:bQ prog 135=some ⟨.struct [(0,36),(2,4),(3,4)],4,40,some [.int .i64 0,.slice none 0 0,.bool false,.bool false]⟩:=by kernel_rfl
theorem aSJ:bQ prog 136=some ⟨.other,1,8,some [.nilFunc]⟩:=by kernel_rfl
theorem aSK:bQ prog 137=some ⟨.other,1,8,some [.nilFunc]⟩:=by kernel_rfl
theorem aSL:bQ prog 138=some ⟨.int .i64,1,8,some [.int .i64 0]⟩:=by kernel_rfl
theorem aSM:bQ prog 140=some ⟨.other,1,8,some [.nilFunc]⟩:=by kernel_rfl
theorem aSN:bQ prog 141=some ⟨.other,1,8,some [.nilFunc]⟩:=by kernel_rfl
theorem aSO:bQ prog 142=some ⟨.other,1,8,some [.nilFunc]⟩:=by kernel_rfl
theorem aSP:bQ prog 143=some ⟨.other,1,8,some [.nilFunc]⟩:=by kernel_rfl
theorem aSQ:bQ prog 144=some ⟨.other,1,8,some [.nilFunc]⟩:=by kernel_rfl
theorem aSR:bQ prog 145=some ⟨.int .u32,1,4,some [.int .u32 0]⟩:=by kernel_rfl
theorem aSS:bQ prog 146=some ⟨.other,1,8,some [.nilFunc]⟩:=by kernel_rfl
theorem aST:bQ prog 147=some ⟨.int .u64,1,8,some [.int .u64 0]⟩:=by kernel_rfl
theorem aSU:bQ prog 148=some ⟨.other,1,8,some [.nilFunc]⟩:=by kernel_rfl
theorem aSV:bQ prog 149=some ⟨.other,1,8,some [.nilFunc]⟩:=by kernel_rfl
theorem aSW:bQ prog 150=some ⟨.other,1,8,some [.nilFunc]⟩:=by kernel_rfl
theorem aSX:bQ prog 151=some ⟨.other,1,8,some [.nilFunc]⟩:=by kernel_rfl
theorem aSY:bQ prog 152=some ⟨.other,1,8,some [.nilFunc]⟩:=by kernel_rfl
theorem aSZ:bQ prog 153=some ⟨.struct [(0,3),(1,4),(2,3),(3,3),(4,32)],5,56,some [.int .i64 0,.bool false,.int .i64 0,.int .i64 0,.slice none 0 0]⟩:=by kernel_rfl
theorem aIp:bQ prog 154=some ⟨.struct [(0,3),(1,4),(2,3),(3,3),(4,32)],5,56,some [.int .i64 0,.bool false,.int .i64 0,.int .i64 0,.slice none 0 0]⟩:=by kernel_rfl
theorem aS0:bQ prog 155=some ⟨.other,1,8,some [.nilFunc]⟩:=by kernel_rfl
theorem aS1:bQ prog 156=some ⟨.other,1,8,some [.nilFunc]⟩:=by kernel_rfl
theorem aS2:bQ prog 157=some ⟨.other,1,8,some [.nilFunc]⟩:=by kernel_rfl
theorem aS3:bQ prog 158=some ⟨.other,1,8,some [.nilFunc]⟩:=by kernel_rfl
theorem aS4:bQ prog 159=some ⟨.other,1,8,some [.nilFunc]⟩:=by kernel_rfl
theorem aS5:bQ prog 161=some ⟨.other,1,8,some [.nilFunc]⟩:=by kernel_rfl
theorem aS6:bQ prog 162=some ⟨.other,1,8,some [.nilFunc]⟩:=by kernel_rfl
theorem aS7:bQ prog 163=some ⟨.other,1,8,some [.nilFunc]⟩:=by kernel_rfl
theorem aS8:bQ prog 164=some ⟨.other,1,8,some [.nilFunc]⟩:=by kernel_rfl
theorem aS9:bQ prog 165=some ⟨.other,1,8,some [.nilFunc]⟩:=by kernel_rfl
theorem aSa:bQ prog 166=some ⟨.array 6 3,6,48,some [.int .i64 0,.int .i64 0,.int .i64 0,.int .i64 0,.int .i64 0,.int .i64 0]⟩:=by kernel_rfl
theorem aSb:bQ prog 167=some ⟨.other,1,8,some [.nilFunc]⟩:=by kernel_rfl
theorem aSc:bQ prog 168=some ⟨.struct [(0,3),(1,36),(3,2)],4,48,some [.int .i64 0,.int .i64 0,.slice none 0 0,.int .i64 0]⟩:=by kernel_rfl
theorem aSd:bQ prog 169=some ⟨.struct [(0,3),(1,36),(3,2)],4,48,some [.int .i64 0,.int .i64 0,.slice none 0 0,.int .i64 0]⟩:=by kernel_rfl
theorem aSe:bQ prog 170=some ⟨.other,1,8,some [.nilFunc]⟩:=by kernel_rfl
theorem aSf:bQ prog 171=some ⟨.other,1,8,some [.nilFunc]⟩:=by kernel_rfl
theorem aSg:bQ prog 172=some ⟨.other,1,8,some [.nilFunc]⟩:=by kernel_rfl
theorem aSh:bQ prog 173=some ⟨.other,1,8,some [.nilFunc]⟩:=by kernel_rfl
theorem aSi:bQ prog 174=some ⟨.other,1,8,some [.nilFunc]⟩:=by kernel_rfl
theorem aSj:bQ prog 175=some ⟨.other,1,8,some [.nilFunc]⟩:=by kernel_rfl
theorem aSk:bQ prog 177=some ⟨.other,1,8,some [.nilFunc]⟩:=by kernel_rfl
theorem aSl:bQ prog 178=some ⟨.other,1,8,some [.nilFunc]⟩:=by kernel_rfl
theorem aSm:bQ prog 179=some ⟨.other,1,8,some [.nilFunc]⟩:=by kernel_rfl
theorem aSn:bQ prog 180=some ⟨.other,1,8,some [.nilFunc]⟩:=by kernel_rfl
theorem aSo:bQ prog 181=some ⟨.other,1,8,some [.nilFunc]⟩:=by kernel_rfl
theorem aSp:bQ prog 182=some ⟨.other,1,8,some [.nilFunc]⟩:=by kernel_rfl
theorem aSq:bQ prog 183=some ⟨.other,1,8,some [.nilFunc]⟩:=by kernel_rfl
theorem aSr:bQ prog 184=some ⟨.struct [(0,3),(1,93),(2,93)],3,24,some [.int .i64 0,.map none,.map none]⟩:=by kernel_rfl
theorem aSs:bQ prog 185=some ⟨.struct [(0,3),(1,93),(2,93)],3,24,some [.int .i64 0,.map none,.map none]⟩:=by kernel_rfl
theorem aSt:bQ prog 186=some ⟨.slice 191,1,24,some [.slice none 0 0]⟩:=by kernel_rfl
theorem aSu:bQ prog 187=some ⟨.slice 189,1,24,some [.slice none 0 0]⟩:=by kernel_rfl
theorem aSv:bQ prog 188=some ⟨.map 3 4,1,8,some [.map none]⟩:=by kernel_rfl
theorem aSw:bQ prog 189=some ⟨.map 3 4,1,8,some [.map none]⟩:=by kernel_rfl
theorem aSx:bQ prog 190=some ⟨.struct [(0,189),(1,3),(2,4)],3,24,some [.map none,.int .i64 0,.bool false]⟩:=by kernel_rfl
theorem aSy:bQ prog 191=some ⟨.struct [(0,189),(1,3),(2,4)],3,24,some [.map none,.int .i64 0,.bool false]⟩:=by kernel_rfl
theorem aSz:bQ prog 192=some ⟨.other,1,8,some [.nilFunc]⟩:=by kernel_rfl
theorem aTA:bQ prog 193=some ⟨.other,1,8,some [.nilFunc]⟩:=by kernel_rfl
theorem aTB:bQ prog 194=some ⟨.other,1,8,some [.nilFunc]⟩:=by kernel_rfl
theorem aTC:bQ prog 195=some ⟨.other,1,8,some [.nilFunc]⟩:=by kernel_rfl
theorem aTD:bQ prog 196=some ⟨.other,1,8,some [.nilFunc]⟩:=by kernel_rfl
theorem aTE:bQ prog 197=some ⟨.other,1,8,some [.nilFunc]⟩:=by kernel_rfl
theorem aTF:bQ prog 198=some ⟨.other,1,8,some [.nilFunc]⟩:=by kernel_rfl
theorem aTG:bQ prog 199=some ⟨.other,1,8,some [.nilFunc]⟩:=by kernel_rfl
theorem aTH:bQ prog 200=some ⟨.other,1,8,some [.nilFunc]⟩:=by kernel_rfl
theorem aTI:bQ prog 201=some ⟨.other,1,8,some [.nilFunc]⟩:=by kernel_rfl
theorem aTJ:bQ prog 202=some ⟨.other,1,8,some [.nilFunc]⟩:=by kernel_rfl
theorem aTK:bQ prog 203=some ⟨.int .u64,1,8,some [.int .u64 0]⟩:=by kernel_rfl
theorem aTL:bQ prog 204=some ⟨.other,1,8,some [.nilFunc]⟩:=by kernel_rfl
theorem aTM:bQ prog 205=some ⟨.other,1,8,some [.nilFunc]⟩:=by kernel_rfl
theorem aTN:bQ prog 206=some ⟨.other,1,8,some [.nilFunc]⟩:=by kernel_rfl
theorem aTO:bQ prog 207=some ⟨.ptr 3,1,8,some [.pointer none]⟩:=by kernel_rfl
theorem aTP:bQ prog 208=some ⟨.other,1,8,some [.nilFunc]⟩:=by kernel_rfl
theorem aTQ:bQ prog 209=some ⟨.other,1,8,some [.nilFunc]⟩:=by kernel_rfl
theorem aTR:bQ prog 210=some ⟨.other,1,8,some [.nilFunc]⟩:=by kernel_rfl
theorem aTS:bQ prog 211=some ⟨.other,1,8,some [.nilFunc]⟩:=by kernel_rfl
theorem aTT:bQ prog 212=some ⟨.other,1,8,some [.nilFunc]⟩:=by kernel_rfl
theorem aTU:bQ prog 213=some ⟨.other,1,8,some [.nilFunc]⟩:=by kernel_rfl
theorem aTV:bQ prog 214=some ⟨.other,1,8,some [.nilFunc]⟩:=by kernel_rfl
theorem aTW:bQ prog 215=some ⟨.other,1,8,some [.nilFunc]⟩:=by kernel_rfl
theorem aTX:bQ prog 216=some ⟨.slice 45,1,24,some [.slice none 0 0]⟩:=by kernel_rfl
theorem aTY:bQ prog 217=some ⟨.map 9 4,1,8,some [.map none]⟩:=by kernel_rfl
theorem aTZ:bQ prog 218=some ⟨.ptr 220,1,8,some [.pointer none]⟩:=by kernel_rfl
theorem aT0:bQ prog 219=some ⟨.struct [(0,3),(1,32)],2,32,some [.int .i64 0,.slice none 0 0]⟩:=by kernel_rfl
theorem aT1:bQ prog 220=some ⟨.struct [(0,3),(1,32)],2,32,some [.int .i64 0,.slice none 0 0]⟩:=by kernel_rfl
theorem aT2:bQ prog 221=some ⟨.other,1,8,some [.nilFunc]⟩:=by kernel_rfl
theorem aT3:bQ prog 222=some ⟨.other,1,8,some [.nilFunc]⟩:=by kernel_rfl
theorem aT4:bQ prog 223=some ⟨.other,1,8,some [.nilFunc]⟩:=by kernel_rfl
theorem aT5:bQ prog 224=some ⟨.slice 226,1,24,some [.slice none 0 0]⟩:=by kernel_rfl
theorem aT6:bQ prog 225=some ⟨.struct [(0,3),(1,3)],2,16,some [.int .i64 0,.int .i64 0]⟩:=by kernel_rfl
theorem aT7:bQ prog 226=some ⟨.struct [(0,3),(1,3)],2,16,some [.int .i64 0,.int .i64 0]⟩:=by kernel_rfl
theorem aT8:bQ prog 227=some ⟨.array 2 226,4,32,some [.int .i64 0,.int .i64 0,.int .i64 0,.int .i64 0]⟩:=by kernel_rfl
theorem aT9:bQ prog 228=some ⟨.array 6 226,12,96,some [.int .i64 0,.int .i64 0,.int .i64 0,.int .i64 0,.int .i64 0,.int .i64 0,.int .i64 0,.int .i64 0,.int .i64 0,.int .i64 0,.int .i64 0,.int .i64 0]⟩:=by kernel_rfl
theorem aTa:bQ prog 229=some ⟨.other,1,8,some [.nilFunc]⟩:=by kernel_rfl
theorem aTb:bQ prog 230=some ⟨.other,1,8,some [.nilFunc]⟩:=by kernel_rfl
theorem aTc:bQ prog 231=some ⟨.other,1,8,some [.nilFunc]⟩:=by kernel_rfl
theorem aTd:bQ prog 232=some ⟨.other,1,8,some [.nilFunc]⟩:=by kernel_rfl
theorem aTe:bQ prog 233=some ⟨.other,1,8,some [.nilFunc]⟩:=by kernel_rfl
theorem aTf:bQ prog 234=some ⟨.other,1,8,some [.nilFunc]⟩:=by kernel_rfl
theorem aTg:bQ prog 235=some ⟨.other,1,8,some [.nilFunc]⟩:=by kernel_rfl
theorem aTh:bQ prog 236=some ⟨.other,1,8,some [.nilFunc]⟩:=by kernel_rfl
theorem aTi:bQ prog 237=some ⟨.other,1,8,some [.nilFunc]⟩:=by kernel_rfl
theorem aTj:bQ prog 238=some ⟨.ptr 203,1,8,some [.pointer none]⟩:=by kernel_rfl
theorem aTk:bQ prog 239=some ⟨.other,1,8,some [.nilFunc]⟩:=by kernel_rfl
theorem aTl:bQ prog 240=some ⟨.other,1,8,some [.nilFunc]⟩:=by kernel_rfl
theorem aTm:bQ prog 241=some ⟨.other,1,8,some [.nilFunc]⟩:=by kernel_rfl
theorem aTn:bQ prog 242=some ⟨.other,1,8,some [.nilFunc]⟩:=by kernel_rfl
theorem aTo:bQ prog 243=some ⟨.other,1,8,some [.nilFunc]⟩:=by kernel_rfl
theorem aTp:bQ prog 244=some ⟨.other,1,8,some [.nilFunc]⟩:=by kernel_rfl
theorem aTq:bQ prog 245=some ⟨.other,1,8,some [.nilFunc]⟩:=by kernel_rfl
theorem aTr:bQ prog 246=some ⟨.other,1,8,some [.nilFunc]⟩:=by kernel_rfl
theorem aTs:bQ prog 247=some ⟨.array 256 4,256,256,some [.bool false,.bool false,.bool false,.bool false,.bool false,.bool false,.bool false,.bool false,.bool false,.bool false,.bool false,.bool false,.bool false,.bool false,.bool false,.bool false,.bool false,.bool false,.bool false,.bool false,.bool false,.bool false,.bool false,.bool false,.bool false,.bool false,.bool false,.bool false,.bool false,.bool false,.bool false,.bool false,.bool false,.bool false,.bool false,.bool false,.bool false,.bool false,.bool false,.bool false,.bool false,.bool false,.bool false,.bool false,.bool false,.bool false,.bool false,.bool false,.bool false,.bool false,.bool false,.bool false,.bool false,.bool false,.bool false,.bool false,.bool false,.bool false,.bool false,.bool false,.bool false,.bool false,.bool false,.bool false,.bool false,.bool false,.bool false,.bool false,.bool false,.bool false,.bool false,.bool false,.bool false,.bool false,.bool false,.bool false,.bool false,.bool false,.bool false,.bool false,.bool false,.bool false,.bool false,.bool false,.bool false,.bool false,.bool false,.bool false,.bool false,.bool false,.bool false,.bool false,.bool false,.bool false,.bool false,.bool false,.bool false,.bool false,.bool false,.bool false,.bool false,.bool false,.bool false,.bool false,.bool false,.bool false,.bool false,.bool false,.bool false,.bool false,.bool false,.bool false,.bool false,.bool false,.bool false,.bool false,.bool false,.bool false,.bool false,.bool false,.bool false,.bool false,.bool false,.bool false,.bool false,.bool false,.bool false,.bool false,.bool false,.bool false,.bool false,.bool false,.bool false,.bool false,.bool false,.bool false,.bool false,.bool false,.bool false,.bool false,.bool false,.bool false,.bool false,.bool false,.bool false,.bool false,.bool false,.bool false,.bool false,.bool false,.bool false,.bool false,.bool false,.bool false,.bool false,.bool false,.bool false,.bool false,.bool false,.bool false,.bool false,.bool false,.bool false,.bool false,.bool false,.bool false,.bool false,.bool false,.bool false,.bool false,.bool false,.bool false,.bool false,.bool false,.bool false,.bool false,.bool false,.bool false,.bool false,.bool false,.bool false,.bool false,.bool false,.bool false,.bool false,.bool false,.bool false,.bool false,.bool false,.bool false,.bool false,.bool false,.bool false,.bool false,.bool false,.bool false,.bool false,.bool false,.bool false,.bool false,.bool false,.bool false,.bool false,.bool false,.bool false,.bool false,.bool false,.bool false,.bool false,.bool false,.bool false,.bool false,.bool false,.bool false,.bool false,.bool false,.bool false,.bool false,.bool false,.bool false,.bool false,.bool false,.bool false,.bool false,.bool false,.bool false,.bool false,.bool false,.bool false,.bool false,.bool false,.bool false,.bool false,.bool false,.bool false,.bool false,.bool false,.bool false,.bool false,.bool false,.bool false,.bool false,.bool false,.bool false,.bool false,.bool false,.bool false,.bool false,.bool false,.bool false,.bool false,.bool false,.bool false,.bool false,.bool false,.bool false]⟩:=by kernel_rfl
theorem aTt:bQ prog 248=some ⟨.array 256 4,256,256,some [.bool false,.bool false,.bool false,.bool false,.bool false,.bool false,.bool false,.bool false,.bool false,.bool false,.bool false,.bool false,.bool false,.bool false,.bool false,.bool false,.bool false,.bool false,.bool false,.bool false,.bool false,.bool false,.bool false,.bool false,.bool false,.bool false,.bool false,.bool false,.bool false,.bool false,.bool false,.bool false,.bool false,.bool false,.bool false,.bool false,.bool false,.bool false,.bool false,.bool false,.bool false,.bool false,.bool false,.bool false,.bool false,.bool false,.bool false,.bool false,.bool false,.bool false,.bool false,.bool false,.bool false,.bool false,.bool false,.bool false,.bool false,.bool false,.bool false,.bool false,.bool false,.bool false,.bool false,.bool false,.bool false,.bool false,.bool false,.bool false,.bool false,.bool false,.bool false,.bool false,.bool false,.bool false,.bool false,.bool false,.bool false,.bool false,.bool false,.bool false,.bool false,.bool false,.bool false,.bool false,.bool false,.bool false,.bool false,.bool false,.bool false,.bool false,.bool false,.bool false,.bool false,.bool false,.bool false,.bool false,.bool false,.bool false,.bool false,.bool false,.bool false,.bool false,.bool false,.bool false,.bool false,.bool false,.bool false,.bool false,.bool false,.bool false,.bool false,.bool false,.bool false,.bool false,.bool false,.bool false,.bool false,.bool false,.bool false,.bool false,.bool false,.bool false,.bool false,.bool false,.bool false,.bool false,.bool false,.bool false,.bool false,.bool false,.bool false,.bool false,.bool false,.bool false,.bool false,.bool false,.bool false,.bool false,.bool false,.bool false,.bool false,.bool false,.bool false,.bool false,.bool false,.bool false,.bool false,.bool false,.bool false,.bool false,.bool false,.bool false,.bool false,.bool false,.bool false,.bool false,.bool false,.bool false,.bool false,.bool false,.bool false,.bool false,.bool false,.bool false,.bool false,.bool false,.bool false,.bool false,.bool false,.bool false,.bool false,.bool false,.bool false,.bool false,.bool false,.bool false,.bool false,.bool false,.bool false,.bool false,.bool false,.bool false,.bool false,.bool false,.bool false,.bool false,.bool false,.bool false,.bool false,.bool false,.bool false,.bool false,.bool false,.bool false,.bool false,.bool false,.bool false,.bool false,.bool false,.bool false,.bool false,.bool false,.bool false,.bool false,.bool false,.bool false,.bool false,.bool false,.bool false,.bool false,.bool false,.bool false,.bool false,.bool false,.bool false,.bool false,.bool false,.bool false,.bool false,.bool false,.bool false,.bool false,.bool false,.bool false,.bool false,.bool false,.bool false,.bool false,.bool false,.bool false,.bool false,.bool false,.bool false,.bool false,.bool false,.bool false,.bool false,.bool false,.bool false,.bool false,.bool false,.bool false,.bool false,.bool false,.bool false,.bool false,.bool false,.bool false,.bool false,.bool false,.bool false,.bool false,.bool false,.bool false,.bool false,.bool false]⟩:=by kernel_rfl
theorem aTu:bQ prog 250=some ⟨.other,1,8,some [.nilFunc]⟩:=by kernel_rfl
theorem aTv:bQ prog 251=some ⟨.other,1,8,some [.nilFunc]⟩:=by kernel_rfl
theorem aTw:bQ prog 252=some ⟨.ptr 248,1,8,some [.pointer none]⟩:=by kernel_rfl
theorem aTx:bQ prog 253=some ⟨.other,1,8,some [.nilFunc]⟩:=by kernel_rfl
theorem aTy:bQ prog 254=some ⟨.other,1,8,some [.nilFunc]⟩:=by kernel_rfl
theorem aTz:bQ prog 255=some ⟨.other,1,8,some [.nilFunc]⟩:=by kernel_rfl
theorem aUA:bQ prog 257=some ⟨.other,1,8,some [.nilFunc]⟩:=by kernel_rfl
theorem aUB:bQ prog 258=some ⟨.other,1,8,some [.nilFunc]⟩:=by kernel_rfl
theorem aUC:bQ prog 259=some ⟨.other,1,8,some [.nilFunc]⟩:=by kernel_rfl
theorem aUD:bQ prog 260=some ⟨.other,1,8,some [.nilFunc]⟩:=by kernel_rfl
theorem aUE:bQ prog 261=some ⟨.struct [(0,3),(1,45)],2,16,some [.int .i64 0,.int .i64 0]⟩:=by kernel_rfl
theorem aUF:bQ prog 262=some ⟨.struct [(0,3),(1,45)],2,16,some [.int .i64 0,.int .i64 0]⟩:=by kernel_rfl
theorem aUG:bQ prog 263=some ⟨.other,1,8,some [.nilFunc]⟩:=by kernel_rfl
theorem aUH:bQ prog 264=some ⟨.other,1,8,some [.nilFunc]⟩:=by kernel_rfl
theorem aUI:bQ prog 265=some ⟨.other,1,8,some [.nilFunc]⟩:=by kernel_rfl
theorem aUJ:bQ prog 266=some ⟨.other,1,8,some [.nilFunc]⟩:=by kernel_rfl
theorem aUK:bQ prog 267=some ⟨.other,1,8,some [.nilFunc]⟩:=by kernel_rfl
theorem aUL:bQ prog 268=some ⟨.other,1,8,some [.nilFunc]⟩:=by kernel_rfl
theorem aUM:bQ prog 269=some ⟨.other,1,8,some [.nilFunc]⟩:=by kernel_rfl
theorem aUN:bQ prog 270=some ⟨.other,1,8,some [.nilFunc]⟩:=by kernel_rfl
theorem aUO:bQ prog 271=some ⟨.other,1,8,some [.nilFunc]⟩:=by kernel_rfl
theorem aUP:bQ prog 272=some ⟨.other,1,8,some [.nilFunc]⟩:=by kernel_rfl
theorem aUQ:bQ prog 273=some ⟨.other,1,8,some [.nilFunc]⟩:=by kernel_rfl
theorem aUR:bQ prog 274=some ⟨.other,1,8,some [.nilFunc]⟩:=by kernel_rfl
theorem aUS:bQ prog 275=some ⟨.other,1,8,some [.nilFunc]⟩:=by kernel_rfl
theorem aUT:bQ prog 277=some ⟨.other,1,8,some [.nilFunc]⟩:=by kernel_rfl
theorem aUU:bQ prog 278=some ⟨.other,1,8,some [.nilFunc]⟩:=by kernel_rfl
theorem aUV:bQ prog 279=some ⟨.other,1,8,some [.nilFunc]⟩:=by kernel_rfl
theorem aUW:bQ prog 280=some ⟨.other,1,8,some [.nilFunc]⟩:=by kernel_rfl
theorem aUX:bQ prog 282=some ⟨.other,1,8,some [.nilFunc]⟩:=by kernel_rfl
theorem aUY:bQ prog 283=some ⟨.other,1,8,some [.nilFunc]⟩:=by kernel_rfl
theorem aUZ:bQ prog 284=some ⟨.other,1,8,some [.nilFunc]⟩:=by kernel_rfl
theorem aU0:bQ prog 285=some ⟨.ptr 191,1,8,some [.pointer none]⟩:=by kernel_rfl
theorem aU1:bQ prog 286=some ⟨.other,1,8,some [.nilFunc]⟩:=by kernel_rfl
theorem aU2:bQ prog 287=some ⟨.other,1,8,some [.nilFunc]⟩:=by kernel_rfl
theorem aU3:bQ prog 288=some ⟨.other,1,8,some [.nilFunc]⟩:=by kernel_rfl
theorem aU4:bQ prog 289=some ⟨.other,1,8,some [.nilFunc]⟩:=by kernel_rfl
theorem aU5:bQ prog 290=some ⟨.array 256 5,256,256,some [.int .u8 0,.int .u8 0,.int .u8 0,.int .u8 0,.int .u8 0,.int .u8 0,.int .u8 0,.int .u8 0,.int .u8 0,.int .u8 0,.int .u8 0,.int .u8 0,.int .u8 0,.int .u8 0,.int .u8 0,.int .u8 0,.int .u8 0,.int .u8 0,.int .u8 0,.int .u8 0,.int .u8 0,.int .u8 0,.int .u8 0,.int .u8 0,.int .u8 0,.int .u8 0,.int .u8 0,.int .u8 0,.int .u8 0,.int .u8 0,.int .u8 0,.int .u8 0,.int .u8 0,.int .u8 0,.int .u8 0,.int .u8 0,.int .u8 0,.int .u8 0,.int .u8 0,.int .u8 0,.int .u8 0,.int .u8 0,.int .u8 0,.int .u8 0,.int .u8 0,.int .u8 0,.int .u8 0,.int .u8 0,.int .u8 0,.int .u8 0,.int .u8 0,.int .u8 0,.int .u8 0,.int .u8 0,.int .u8 0,.int .u8 0,.int .u8 0,.int .u8 0,.int .u8 0,.int .u8 0,.int .u8 0,.int .u8 0,.int .u8 0,.int .u8 0,.int .u8 0,.int .u8 0,.int .u8 0,.int .u8 0,.int .u8 0,.int .u8 0,.int .u8 0,.int .u8 0,.int .u8 0,.int .u8 0,.int .u8 0,.int .u8 0,.int .u8 0,.int .u8 0,.int .u8 0,.int .u8 0,.int .u8 0,.int .u8 0,.int .u8 0,.int .u8 0,.int .u8 0,.int .u8 0,.int .u8 0,.int .u8 0,.int .u8 0,.int .u8 0,.int .u8 0,.int .u8 0,.int .u8 0,.int .u8 0,.int .u8 0,.int .u8 0,.int .u8 0,.int .u8 0,.int .u8 0,.int .u8 0,.int .u8 0,.int .u8 0,.int .u8 0,.int .u8 0,.int .u8 0,.int .u8 0,.int .u8 0,.int .u8 0,.int .u8 0,.int .u8 0,.int .u8 0,.int .u8 0,.int .u8 0,.int .u8 0,.int .u8 0,.int .u8 0,.int .u8 0,.int .u8 0,.int .u8 0,.int .u8 0,.int .u8 0,.int .u8 0,.int .u8 0,.int .u8 0,.int .u8 0,.int .u8 0,.int .u8 0,.int .u8 0,.int .u8 0,.int .u8 0,.int .u8 0,.int .u8 0,.int .u8 0,.int .u8 0,.int .u8 0,.int .u8 0,.int .u8 0,.int .u8 0,.int .u8 0,.int .u8 0,.int .u8 0,.int .u8 0,.int .u8 0,.int .u8 0,.int .u8 0,.int .u8 0,.int .u8 0,.int .u8 0,.int .u8 0,.int .u8 0,.int .u8 0,.int .u8 0,.int .u8 0,.int .u8 0,.int .u8 0,.int .u8 0,.int .u8 0,.int .u8 0,.int .u8 0,.int .u8 0,.int .u8 0,.int .u8 0,.int .u8 0,.int .u8 0,.int .u8 0,.int .u8 0,.int .u8 0,.int .u8 0,.int .u8 0,.int .u8 0,.int .u8 0,.int .u8 0,.int .u8 0,.int .u8 0,.int .u8 0,.int .u8 0,.int .u8 0,.int .u8 0,.int .u8 0,.int .u8 0,.int .u8 0,.int .u8 0,.int .u8 0,.int .u8 0,.int .u8 0,.int .u8 0,.int .u8 0,.int .u8 0,.int .u8 0,.int .u8 0,.int .u8 0,.int .u8 0,.int .u8 0,.int .u8 0,.int .u8 0,.int .u8 0,.int .u8 0,.int .u8 0,.int .u8 0,.int .u8 0,.int .u8 0,.int .u8 0,.int .u8 0,.int .u8 0,.int .u8 0,.int .u8 0,.int .u8 0,.int .u8 0,.int .u8 0,.int .u8 0,.int .u8 0,.int .u8 0,.int .u8 0,.int .u8 0,.int .u8 0,.int .u8 0,.int .u8 0,.int .u8 0,.int .u8 0,.int .u8 0,.int .u8 0,.int .u8 0,.int .u8 0,.int .u8 0,.int .u8 0,.int .u8 0,.int .u8 0,.int .u8 0,.int .u8 0,.int .u8 0,.int .u8 0,.int .u8 0,.int .u8 0,.int .u8 0,.int .u8 0,.int .u8 0,.int .u8 0,.int .u8 0,.int .u8 0,.int .u8 0,.int .u8 0,.int .u8 0,.int .u8 0,.int .u8 0,.int .u8 0,.int .u8 0,.int .u8 0,.int .u8 0,.int .u8 0,.int .u8 0,.int .u8 0,.int .u8 0,.int .u8 0,.int .u8 0,.int .u8 0,.int .u8 0]⟩:=by kernel_rfl
theorem aU6:bQ prog 291=some ⟨.struct [(0,5),(1,5)],2,2,some [.int .u8 0,.int .u8 0]⟩:=by kernel_rfl
theorem aU7:bQ prog 292=some ⟨.struct [(0,5),(1,5)],2,2,some [.int .u8 0,.int .u8 0]⟩:=by kernel_rfl
theorem aU8:bQ prog 293=some ⟨.array 16 292,32,32,some [.int .u8 0,.int .u8 0,.int .u8 0,.int .u8 0,.int .u8 0,.int .u8 0,.int .u8 0,.int .u8 0,.int .u8 0,.int .u8 0,.int .u8 0,.int .u8 0,.int .u8 0,.int .u8 0,.int .u8 0,.int .u8 0,.int .u8 0,.int .u8 0,.int .u8 0,.int .u8 0,.int .u8 0,.int .u8 0,.int .u8 0,.int .u8 0,.int .u8 0,.int .u8 0,.int .u8 0,.int .u8 0,.int .u8 0,.int .u8 0,.int .u8 0,.int .u8 0]⟩:=by kernel_rfl
theorem aU9:bQ prog 294=some ⟨.other,1,8,some [.nilFunc]⟩:=by kernel_rfl
theorem aUa:bQ prog 295=some ⟨.other,1,8,some [.nilFunc]⟩:=by kernel_rfl
theorem aUb:bQ prog 296=some ⟨.other,1,8,some [.nilFunc]⟩:=by kernel_rfl
theorem aUc:bQ prog 297=some ⟨.other,1,8,some [.nilFunc]⟩:=by kernel_rfl
theorem aUd:bQ prog 298=some ⟨.struct [(0,17),(1,17),(2,17),(3,9)],4,40,some [.pointer none,.pointer none,.pointer none,.string ByteArray.empty]⟩:=by kernel_rfl
theorem aUe:bQ prog 299=some ⟨.struct [(0,17),(1,17),(2,17),(3,9)],4,40,some [.pointer none,.pointer none,.pointer none,.string ByteArray.empty]⟩:=by kernel_rfl
theorem aUf:bQ prog 300=some ⟨.array 0 16,0,0,some []⟩:=by kernel_rfl
theorem aUg:bQ prog 301=some ⟨.struct [(0,300)],0,0,some []⟩:=by kernel_rfl
theorem aUh:bQ prog 302=some ⟨.struct [(0,300)],0,0,some []⟩:=by kernel_rfl
theorem aUi:bQ prog 303=some ⟨.other,1,8,some [.nilFunc]⟩:=by kernel_rfl
theorem aUj:bQ prog 304=some ⟨.int .u8,1,1,some [.int .u8 0]⟩:=by kernel_rfl
theorem aUk:bQ prog 305=some ⟨.int .u8,1,1,some [.int .u8 0]⟩:=by kernel_rfl
theorem aUl:bQ prog 306=some ⟨.other,1,8,some [.nilFunc]⟩:=by kernel_rfl
theorem aUm:bQ prog 307=some ⟨.ptr 5,1,8,some [.pointer none]⟩:=by kernel_rfl
theorem aUn:bQ prog 308=some ⟨.int .i32,1,4,some [.int .i32 0]⟩:=by kernel_rfl
theorem aUo:bQ prog 309=some ⟨.int .i32,1,4,some [.int .i32 0]⟩:=by kernel_rfl
theorem aUp:bQ prog 310=some ⟨.struct [(0,12),(1,12),(2,145),(3,304),(4,5),(5,5),(6,305),(7,306),(8,307),(9,308),(10,309)],11,48,some [.int .u64 0,.int .u64 0,.int .u32 0,.int .u8 0,.int .u8 0,.int .u8 0,.int .u8 0,.nilFunc,.pointer none,.int .i32 0,.int .i32 0]⟩:=by kernel_rfl
theorem aUq:bQ prog 311=some ⟨.struct [(0,12),(1,12),(2,145),(3,304),(4,5),(5,5),(6,305),(7,306),(8,307),(9,308),(10,309)],11,48,some [.int .u64 0,.int .u64 0,.int .u32 0,.int .u8 0,.int .u8 0,.int .u8 0,.int .u8 0,.nilFunc,.pointer none,.int .i32 0,.int .i32 0]⟩:=by kernel_rfl
end Go.Proofs.YtfiipaodjpiooaaGreatDoor
namespace Go.Proofs.YtfiipaodjpiooaaGreatDoor
open Go.RowKit
open Tryz
theorem ZG {α β:Type} (f:α->β) (l:List α):List.take l.length (List.map f l)=List.map f l:=cW (by rw[bC];exact dI _)
def vB0:=And.intro @zG (And.intro @aIM (And.intro @nA (And.intro @jN (And.intro @HU (And.intro @s5 (And.intro @IC (And.intro @lX (And.intro @aJF (And.intro @BQ (And.intro @aNf (@aGf)))))))))))
def vB1:=And.intro @aKC (And.intro @aEw (And.intro @aKg (And.intro @aCL (And.intro @aKf (And.intro @aKD (And.intro @aFX (And.intro @aLQ (And.intro @aHu (And.intro @aCY (And.intro @aFV (@aBB)))))))))))
def vB2:=And.intro @aLR (And.intro @aBA (And.intro @aCk (And.intro @aJw (And.intro @eU.{0,0} (And.intro @nE.{0,0} (And.intro @qO.{0} (And.intro @AI.{0} (And.intro @List.getElem?_nil.{0} (And.intro @List.getD_cons_zero.{0} (And.intro @List.getD_cons_succ.{0} (@List.getD_nil.{0})))))))))))
def vB3:=And.intro @jB.{0} (And.intro @List.drop_succ_cons.{0} (And.intro @List.take_succ_cons.{0} (And.intro @wZ.{0} (And.intro @eO.{0} (And.intro @wF.{0} (And.intro @gZ.{0} (And.intro @gP.{0} (And.intro @iJ.{0} (And.intro @List.set_cons_zero.{0} (And.intro @List.set_cons_succ.{0} (@pX.{0})))))))))))
def vB4:=And.intro @tI.{0} (And.intro @Option.isSome_some.{0} (And.intro @mG.{0,0} (And.intro @Option.map_none.{0,0} (And.intro @Option.bind_some.{0,0} (And.intro @lR (And.intro @kI (And.intro @eI (And.intro @fV (And.intro @FX (And.intro @wY (@Bool.not_eq_false')))))))))))
def vB5:=And.intro @rN (And.intro @uU (And.intro @and_true (And.intro @true_and (And.intro @not_false_eq_true (And.intro @mF (And.intro @aGF (And.intro @aGI (And.intro @aGH (And.intro @aGG (And.intro @aJ9 (@bI)))))))))))
def vB6:=And.intro @mI (And.intro @u6 (And.intro @aO (And.intro @wC (And.intro @bC.{0,0} (And.intro @dI (And.intro @nC.{0} (And.intro @List.replicate_zero.{0} (And.intro @List.replicate_succ.{0} (And.intro @beq_true (And.intro @beq_false (@qP)))))))))))
def vB7:=And.intro @not_true_eq_false (And.intro @decide_true (And.intro @decide_false (And.intro @Int.cast_ofNat_Int (And.intro @Int.natCast_zero (And.intro @Int.natCast_one (@aKj))))))
def vB:=And.intro @vB0 (And.intro @vB1 (And.intro @vB2 (And.intro @vB3 (And.intro @vB4 (And.intro @vB5 (And.intro @vB6 (@vB7)))))))
def vX:=And.intro @F9 (And.intro @rO (And.intro @ZG (And.intro @sG (@pJ))))
def vT:=And.intro (And.intro (And.intro (And.intro (And.intro (And.intro (And.intro (And.intro ty1 ty2) (And.intro PF ty4)) (And.intro (And.intro ty5 ty6) (And.intro ty7 (And.intro ty8 ty9)))) (And.intro (And.intro (And.intro aZX aZY) (And.intro aZZ aZ0)) (And.intro (And.intro aZ1 aZ2) (And.intro aZ3 (And.intro aZ4 aZ5))))) (And.intro (And.intro (And.intro (And.intro aZ6 aZ7) (And.intro aPY vY)) (And.intro (And.intro aIq aZ8) (And.intro aML (And.intro aZ9 aZa)))) (And.intro (And.intro (And.intro aZb aZc) (And.intro aPZ (And.intro kZ aZd))) (And.intro (And.intro aP0 aZe) (And.intro aZf (And.intro aZg aZh)))))) (And.intro (And.intro (And.intro (And.intro (And.intro aZi aP1) (And.intro aZj aZk)) (And.intro (And.intro aZl aUr) (And.intro aZm (And.intro aZn ML)))) (And.intro (And.intro (And.intro aZo aZp) (And.intro aZq aZr)) (And.intro (And.intro aP2 aZs) (And.intro aZt (And.intro aZu aZv))))) (And.intro (And.intro (And.intro (And.intro aZw aZx) (And.intro aZy aZz)) (And.intro (And.intro a0A a0B) (And.intro a0C (And.intro a0D a0E)))) (And.intro (And.intro (And.intro a0F a0G) (And.intro a0H (And.intro a0I a0J))) (And.intro (And.intro a0K aUs) (And.intro a0L (And.intro a0M a0N))))))) (And.intro (And.intro (And.intro (And.intro (And.intro (And.intro a0O a0P) (And.intro a0Q a0R)) (And.intro (And.intro a0S a0T) (And.intro a0U (And.intro a0V a0W)))) (And.intro (And.intro (And.intro a0X a0Y) (And.intro a0Z a00)) (And.intro (And.intro a01 a02) (And.intro a03 (And.intro a04 a05))))) (And.intro (And.intro (And.intro (And.intro a06 a07) (And.intro aRc aRd)) (And.intro (And.intro aRe aRf) (And.intro aRg (And.intro aRh aRi)))) (And.intro (And.intro (And.intro aRj aRk) (And.intro aRl (And.intro aRm aRn))) (And.intro (And.intro aRo aRp) (And.intro aRq (And.intro aRr aRs)))))) (And.intro (And.intro (And.intro (And.intro (And.intro aRt aMt) (And.intro aRu aRv)) (And.intro (And.intro aRw aRx) (And.intro aRy (And.intro aRz aSA)))) (And.intro (And.intro (And.intro aSB aSC) (And.intro aSD aSE)) (And.intro (And.intro aSF aSG) (And.intro aSH (And.intro aSI aSJ))))) (And.intro (And.intro (And.intro (And.intro aSK aSL) (And.intro aSM aSN)) (And.intro (And.intro aSO aSP) (And.intro aSQ (And.intro aSR aSS)))) (And.intro (And.intro (And.intro aST aSU) (And.intro aSV (And.intro aSW aSX))) (And.intro (And.intro aSY aSZ) (And.intro aIp (And.intro aS0 aS1)))))))) (And.intro (And.intro (And.intro (And.intro (And.intro (And.intro (And.intro aS2 aS3) (And.intro aS4 aS5)) (And.intro (And.intro aS6 aS7) (And.intro aS8 (And.intro aS9 aSa)))) (And.intro (And.intro (And.intro aSb aSc) (And.intro aSd aSe)) (And.intro (And.intro aSf aSg) (And.intro aSh (And.intro aSi aSj))))) (And.intro (And.intro (And.intro (And.intro aSk aSl) (And.intro aSm aSn)) (And.intro (And.intro aSo aSp) (And.intro aSq (And.intro aSr aSs)))) (And.intro (And.intro (And.intro aSt aSu) (And.intro aSv (And.intro aSw aSx))) (And.intro (And.intro aSy aSz) (And.intro aTA (And.intro aTB aTC)))))) (And.intro (And.intro (And.intro (And.intro (And.intro aTD aTE) (And.intro aTF aTG)) (And.intro (And.intro aTH aTI) (And.intro aTJ (And.intro aTK aTL)))) (And.intro (And.intro (And.intro aTM aTN) (And.intro aTO aTP)) (And.intro (And.intro aTQ aTR) (And.intro aTS (And.intro aTT aTU))))) (And.intro (And.intro (And.intro (And.intro aTV aTW) (And.intro aTX aTY)) (And.intro (And.intro aTZ aT0) (And.intro aT1 (And.intro aT2 aT3)))) (And.intro (And.intro (And.intro aT4 aT5) (And.intro aT6 (And.intro aT7 aT8))) (And.intro (And.intro aT9 aTa) (And.intro aTb (And.intro aTc aTd))))))) (And.intro (And.intro (And.intro (And.intro (And.intro (And.intro aTe aTf) (And.intro aTg aTh)) (And.intro (And.intro aTi aTj) (And.intro aTk (And.intro aTl aTm)))) (And.intro (And.intro (And.intro aTn aTo) (And.intro aTp aTq)) (And.intro (And.intro aTr aTs) (And.intro aTt (And.intro aTu aTv))))) (And.intro (And.intro (And.intro (And.intro aTw aTx) (And.intro aTy aTz)) (And.intro (And.intro aUA aUB) (And.intro aUC (And.intro aUD aUE)))) (And.intro (And.intro (And.intro aUF aUG) (And.intro aUH (And.intro aUI aUJ))) (And.intro (And.intro aUK aUL) (And.intro aUM (And.intro aUN aUO)))))) (And.intro (And.intro (And.intro (And.intro (And.intro aUP aUQ) (And.intro aUR aUS)) (And.intro (And.intro aUT aUU) (And.intro aUV (And.intro aUW aUX)))) (And.intro (And.intro (And.intro aUY aUZ) (And.intro aU0 (And.intro aU1 aU2))) (And.intro (And.intro aU3 aU4) (And.intro aU5 (And.intro aU6 aU7))))) (And.intro (And.intro (And.intro (And.intro aU8 aU9) (And.intro aUa aUb)) (And.intro (And.intro aUc aUd) (And.intro aUe (And.intro aUf aUg)))) (And.intro (And.intro (And.intro aUh aUi) (And.intro aUj (And.intro aUk aUl))) (And.intro (And.intro aUm aUn) (And.intro aUo (And.intro aUp aUq))))))))
theorem zv1:aP prog 1=some (.nilFunc):=by kernel_rfl
theorem zv2:aP prog 2=some (.int .i64 0):=by kernel_rfl
theorem zv3:aP prog 3=some (.int .i64 0):=by kernel_rfl
theorem zv4:aP prog 4=some (.bool false):=by kernel_rfl
theorem zv5:aP prog 5=some (.int .u8 0):=by kernel_rfl
theorem zv6:aP prog 6=some (.int .u8 0):=by kernel_rfl
theorem zv9:aP prog 9=some (.string ByteArray.empty):=by kernel_rfl
theorem a0a:aP prog 10=some (.string ByteArray.empty):=by kernel_rfl
theorem a0b:aP prog 11=some (.string ByteArray.empty):=by kernel_rfl
theorem a0c:aP prog 12=some (.int .u64 0):=by kernel_rfl
theorem a0d:aP prog 15=some (.pointer none):=by kernel_rfl
theorem a0e:aP prog 16=some (.pointer none):=by kernel_rfl
theorem a0f:aP prog 17=some (.pointer none):=by kernel_rfl
theorem a0g:aP prog 21=some (.int .i32 0):=by kernel_rfl
theorem a0h:aP prog 22=some (.slice none 0 0):=by kernel_rfl
theorem a0i:aP prog 23=some (.slice none 0 0):=by kernel_rfl
theorem a0j:aP prog 24=some (.slice none 0 0):=by kernel_rfl
theorem a0k:aP prog 25=some (.slice none 0 0):=by kernel_rfl
theorem a0l:aP prog 26=some (.slice none 0 0):=by kernel_rfl
theorem a0m:aP prog 29=some (.nilFunc):=by kernel_rfl
theorem a0n:aP prog 30=some (.nilFunc):=by kernel_rfl
theorem a0o:aP prog 31=some (.slice none 0 0):=by kernel_rfl
theorem a0p:aP prog 32=some (.slice none 0 0):=by kernel_rfl
theorem a0q:aP prog 33=some (.slice none 0 0):=by kernel_rfl
theorem a0r:aP prog 34=some (.slice none 0 0):=by kernel_rfl
theorem a0s:aP prog 45=some (.int .i64 0):=by kernel_rfl
theorem a0t:aP prog 47=some (.nilFunc):=by kernel_rfl
theorem a0u:aP prog 50=some (.nilFunc):=by kernel_rfl
theorem a0v:aP prog 51=some (.nilFunc):=by kernel_rfl
theorem a0w:aP prog 52=some (.nilFunc):=by kernel_rfl
theorem a0x:aP prog 53=some (.nilFunc):=by kernel_rfl
theorem a0y:aP prog 54=some (.slice none 0 0):=by kernel_rfl
theorem a0z:aP prog 58=some (.nilFunc):=by kernel_rfl
theorem a1A:aP prog 60=some (.nilFunc):=by kernel_rfl
theorem a1B:aP prog 61=some (.nilFunc):=by kernel_rfl
theorem a1C:aP prog 62=some (.nilFunc):=by kernel_rfl
theorem a1D:aP prog 63=some (.nilFunc):=by kernel_rfl
theorem a1E:aP prog 64=some (.nilFunc):=by kernel_rfl
theorem a1F:aP prog 65=some (.nilFunc):=by kernel_rfl
theorem a1G:aP prog 66=some (.nilFunc):=by kernel_rfl
theorem a1H:aP prog 67=some (.nilFunc):=by kernel_rfl
theorem a1I:aP prog 68=some (.nilFunc):=by kernel_rfl
theorem a1J:aP prog 69=some (.nilFunc):=by kernel_rfl
theorem a1K:aP prog 70=some (.nilFunc):=by kernel_rfl
theorem a1L:aP prog 71=some (.nilFunc):=by kernel_rfl
theorem a1M:aP prog 72=some (.nilFunc):=by kernel_rfl
theorem a1N:aP prog 73=some (.nilFunc):=by kernel_rfl
theorem a1O:aP prog 76=some (.nilFunc):=by kernel_rfl
theorem a1P:aP prog 77=some (.nilFunc):=by kernel_rfl
theorem a1Q:aP prog 78=some (.nilFunc):=by kernel_rfl
theorem a1R:aP prog 79=some (.nilFunc):=by kernel_rfl
theorem a1S:aP prog 80=some (.int .u64 0):=by kernel_rfl
theorem a1T:aP prog 81=some (.nilFunc):=by kernel_rfl
theorem a1U:aP prog 82=some (.map none):=by kernel_rfl
theorem a1V:aP prog 83=some (.pointer none):=by kernel_rfl
theorem a1W:aP prog 84=some (.nilFunc):=by kernel_rfl
theorem a1X:aP prog 85=some (.nilFunc):=by kernel_rfl
theorem a1Y:aP prog 87=some (.nilFunc):=by kernel_rfl
theorem a1Z:aP prog 88=some (.nilFunc):=by kernel_rfl
theorem a1a:aP prog 89=some (.nilFunc):=by kernel_rfl
theorem a1b:aP prog 90=some (.nilFunc):=by kernel_rfl
theorem a1c:aP prog 91=some (.nilFunc):=by kernel_rfl
theorem a1d:aP prog 92=some (.nilFunc):=by kernel_rfl
theorem a1e:aP prog 93=some (.map none):=by kernel_rfl
theorem a1f:aP prog 94=some (.map none):=by kernel_rfl
theorem a1g:aP prog 97=some (.nilFunc):=by kernel_rfl
theorem a1h:aP prog 98=some (.pointer none):=by kernel_rfl
theorem aUy:aP prog 101=some (.nilFunc):=by kernel_rfl
theorem aUz:aP prog 102=some (.nilFunc):=by kernel_rfl
theorem aVA:aP prog 103=some (.nilFunc):=by kernel_rfl
theorem aVB:aP prog 105=some (.nilFunc):=by kernel_rfl
theorem aVC:aP prog 106=some (.map none):=by kernel_rfl
theorem aVD:aP prog 107=some (.slice none 0 0):=by kernel_rfl
theorem aVE:aP prog 108=some (.nilFunc):=by kernel_rfl
theorem aVF:aP prog 109=some (.nilFunc):=by kernel_rfl
theorem aVG:aP prog 112=some (.nilFunc):=by kernel_rfl
theorem aVH:aP prog 113=some (.nilFunc):=by kernel_rfl
theorem aVI:aP prog 114=some (.nilFunc):=by kernel_rfl
theorem aVJ:aP prog 115=some (.nilFunc):=by kernel_rfl
theorem aVK:aP prog 116=some (.nilFunc):=by kernel_rfl
theorem aVL:aP prog 117=some (.nilFunc):=by kernel_rfl
theorem aVM:aP prog 120=some (.nilFunc):=by kernel_rfl
theorem aVN:aP prog 121=some (.nilFunc):=by kernel_rfl
theorem aVO:aP prog 122=some (.nilFunc):=by kernel_rfl
theorem aVP:aP prog 123=some (.nilFunc):=by kernel_rfl
theorem aVQ:aP prog 126=some (.nilFunc):=by kernel_rfl
theorem aVR:aP prog 128=some (.nilFunc):=by kernel_rfl
theorem aVS:aP prog 129=some (.nilFunc):=by kernel_rfl
theorem aVT:aP prog 130=some (.nilFunc):=by kernel_rfl
theorem aVU:aP prog 131=some (.nilFunc):=by kernel_rfl
theorem aVV:aP prog 132=some (.nilFunc):=by kernel_rfl
theorem aVW:aP prog 133=some (.nilFunc):=by kernel_rfl
theorem aVX:aP prog 136=some (.nilFunc):=by kernel_rfl
theorem aVY:aP prog 137=some (.nilFunc):=by kernel_rfl
theorem aVZ:aP prog 138=some (.int .i64 0):=by kernel_rfl
theorem aV0:aP prog 140=some (.nilFunc):=by kernel_rfl
theorem aV1:aP prog 141=some (.nilFunc):=by kernel_rfl
theorem aV2:aP prog 142=some (.nilFunc):=by kernel_rfl
theorem aV3:aP prog 143=some (.nilFunc):=by kernel_rfl
theorem aV4:aP prog 144=some (.nilFunc):=by kernel_rfl
theorem aV5:aP prog 145=some (.int .u32 0):=by kernel_rfl
theorem aV6:aP prog 146=some (.nilFunc):=by kernel_rfl
theorem aV7:aP prog 147=some (.int .u64 0):=by kernel_rfl
theorem aV8:aP prog 148=some (.nilFunc):=by kernel_rfl
theorem aV9:aP prog 149=some (.nilFunc):=by kernel_rfl
theorem aVa:aP prog 150=some (.nilFunc):=by kernel_rfl
theorem aVb:aP prog 151=some (.nilFunc):=by kernel_rfl
theorem aVc:aP prog 152=some (.nilFunc):=by kernel_rfl
theorem aVd:aP prog 155=some (.nilFunc):=by kernel_rfl
theorem aVe:aP prog 156=some (.nilFunc):=by kernel_rfl
theorem aVf:aP prog 157=some (.nilFunc):=by kernel_rfl
theorem aVg:aP prog 158=some (.nilFunc):=by kernel_rfl
theorem aVh:aP prog 159=some (.nilFunc):=by kernel_rfl
theorem aVi:aP prog 161=some (.nilFunc):=by kernel_rfl
theorem aVj:aP prog 162=some (.nilFunc):=by kernel_rfl
theorem aVk:aP prog 163=some (.nilFunc):=by kernel_rfl
theorem aVl:aP prog 164=some (.nilFunc):=by kernel_rfl
theorem aVm:aP prog 165=some (.nilFunc):=by kernel_rfl
theorem aVn:aP prog 167=some (.nilFunc):=by kernel_rfl
theorem aVo:aP prog 170=some (.nilFunc):=by kernel_rfl
theorem aVp:aP prog 171=some (.nilFunc):=by kernel_rfl
theorem aVq:aP prog 172=some (.nilFunc):=by kernel_rfl
theorem aVr:aP prog 173=some (.nilFunc):=by kernel_rfl
theorem aVs:aP prog 174=some (.nilFunc):=by kernel_rfl
theorem aVt:aP prog 175=some (.nilFunc):=by kernel_rfl
theorem aVu:aP prog 177=some (.nilFunc):=by kernel_rfl
theorem aVv:aP prog 178=some (.nilFunc):=by kernel_rfl
theorem aVw:aP prog 179=some (.nilFunc):=by kernel_rfl
theorem aVx:aP prog 180=some (.nilFunc):=by kernel_rfl
theorem aVy:aP prog 181=some (.nilFunc):=by kernel_rfl
theorem aVz:aP prog 182=some (.nilFunc):=by kernel_rfl
theorem aWA:aP prog 183=some (.nilFunc):=by kernel_rfl
theorem aWB:aP prog 186=some (.slice none 0 0):=by kernel_rfl
theorem aWC:aP prog 187=some (.slice none 0 0):=by kernel_rfl
theorem aWD:aP prog 188=some (.map none):=by kernel_rfl
theorem aWE:aP prog 189=some (.map none):=by kernel_rfl
theorem aWF:aP prog 192=some (.nilFunc):=by kernel_rfl
theorem aWG:aP prog 193=some (.nilFunc):=by kernel_rfl
theorem aWH:aP prog 194=some (.nilFunc):=by kernel_rfl
theorem aWI:aP prog 195=some (.nilFunc):=by kernel_rfl
theorem aWJ:aP prog 196=some (.nilFunc):=by kernel_rfl
theorem aWK:aP prog 197=some (.nilFunc):=by kernel_rfl
theorem aWL:aP prog 198=some (.nilFunc):=by kernel_rfl
theorem aWM:aP prog 199=some (.nilFunc):=by kernel_rfl
theorem aWN:aP prog 200=some (.nilFunc):=by kernel_rfl
theorem aWO:aP prog 201=some (.nilFunc):=by kernel_rfl
theorem aWP:aP prog 202=some (.nilFunc):=by kernel_rfl
theorem aWQ:aP prog 203=some (.int .u64 0):=by kernel_rfl
theorem aWR:aP prog 204=some (.nilFunc):=by kernel_rfl
theorem aWS:aP prog 205=some (.nilFunc):=by kernel_rfl
theorem aWT:aP prog 206=some (.nilFunc):=by kernel_rfl
theorem aWU:aP prog 207=some (.pointer none):=by kernel_rfl
theorem aWV:aP prog 208=some (.nilFunc):=by kernel_rfl
theorem aWW:aP prog 209=some (.nilFunc):=by kernel_rfl
theorem aWX:aP prog 210=some (.nilFunc):=by kernel_rfl
theorem aWY:aP prog 211=some (.nilFunc):=by kernel_rfl
theorem aWZ:aP prog 212=some (.nilFunc):=by kernel_rfl
theorem aW0:aP prog 213=some (.nilFunc):=by kernel_rfl
theorem aW1:aP prog 214=some (.nilFunc):=by kernel_rfl
theorem aW2:aP prog 215=some (.nilFunc):=by kernel_rfl
theorem aW3:aP prog 216=some (.slice none 0 0):=by kernel_rfl
theorem aW4:aP prog 217=some (.map none):=by kernel_rfl
theorem aW5:aP prog 218=some (.pointer none):=by kernel_rfl
theorem aW6:aP prog 221=some (.nilFunc):=by kernel_rfl
theorem aW7:aP prog 222=some (.nilFunc):=by kernel_rfl
theorem aW8:aP prog 223=some (.nilFunc):=by kernel_rfl
theorem aW9:aP prog 224=some (.slice none 0 0):=by kernel_rfl
theorem aWa:aP prog 229=some (.nilFunc):=by kernel_rfl
theorem aWb:aP prog 230=some (.nilFunc):=by kernel_rfl
theorem aWc:aP prog 231=some (.nilFunc):=by kernel_rfl
theorem aWd:aP prog 232=some (.nilFunc):=by kernel_rfl
theorem aWe:aP prog 233=some (.nilFunc):=by kernel_rfl
theorem aWf:aP prog 234=some (.nilFunc):=by kernel_rfl
theorem aWg:aP prog 235=some (.nilFunc):=by kernel_rfl
theorem aWh:aP prog 236=some (.nilFunc):=by kernel_rfl
theorem aWi:aP prog 237=some (.nilFunc):=by kernel_rfl
theorem aWj:aP prog 238=some (.pointer none):=by kernel_rfl
theorem aWk:aP prog 239=some (.nilFunc):=by kernel_rfl
theorem aWl:aP prog 240=some (.nilFunc):=by kernel_rfl
theorem aWm:aP prog 241=some (.nilFunc):=by kernel_rfl
theorem aWn:aP prog 242=some (.nilFunc):=by kernel_rfl
theorem aWo:aP prog 243=some (.nilFunc):=by kernel_rfl
theorem aWp:aP prog 244=some (.nilFunc):=by kernel_rfl
theorem aWq:aP prog 245=some (.nilFunc):=by kernel_rfl
theorem aWr:aP prog 246=some (.nilFunc):=by kernel_rfl
theorem aWs:aP prog 250=some (.nilFunc):=by kernel_rfl
theorem aWt:aP prog 251=some (.nilFunc):=by kernel_rfl
theorem aWu:aP prog 252=some (.pointer none):=by kernel_rfl
theorem aWv:aP prog 253=some (.nilFunc):=by kernel_rfl
theorem aWw:aP prog 254=some (.nilFunc):=by kernel_rfl
theorem aWx:aP prog 255=some (.nilFunc):=by kernel_rfl
theorem aWy:aP prog 257=some (.nilFunc):=by kernel_rfl
theorem aWz:aP prog 258=some (.nilFunc):=by kernel_rfl
theorem aXA:aP prog 259=some (.nilFunc):=by kernel_rfl
theorem aXB:aP prog 260=some (.nilFunc):=by kernel_rfl
theorem aXC:aP prog 263=some (.nilFunc):=by kernel_rfl
theorem aXD:aP prog 264=some (.nilFunc):=by kernel_rfl
theorem aXE:aP prog 265=some (.nilFunc):=by kernel_rfl
theorem aXF:aP prog 266=some (.nilFunc):=by kernel_rfl
theorem aXG:aP prog 267=some (.nilFunc):=by kernel_rfl
theorem aXH:aP prog 268=some (.nilFunc):=by kernel_rfl
theorem aXI:aP prog 269=some (.nilFunc):=by kernel_rfl
theorem aXJ:aP prog 270=some (.nilFunc):=by kernel_rfl
theorem aXK:aP prog 271=some (.nilFunc):=by kernel_rfl
theorem aXL:aP prog 272=some (.nilFunc):=by kernel_rfl
theorem aXM:aP prog 273=some (.nilFunc):=by kernel_rfl
theorem aXN:aP prog 274=some (.nilFunc):=by kernel_rfl
theorem aXO:aP prog 275=some (.nilFunc):=by kernel_rfl
theorem aXP:aP prog 277=some (.nilFunc):=by kernel_rfl
theorem aXQ:aP prog 278=some (.nilFunc):=by kernel_rfl
theorem aXR:aP prog 279=some (.nilFunc):=by kernel_rfl
theorem aXS:aP prog 280=some (.nilFunc):=by kernel_rfl
theorem aXT:aP prog 282=some (.nilFunc):=by kernel_rfl
theorem aXU:aP prog 283=some (.nilFunc):=by kernel_rfl
theorem aXV:aP prog 284=some (.nilFunc):=by kernel_rfl
theorem aXW:aP prog 285=some (.pointer none):=by kernel_rfl
theorem aXX:aP prog 286=some (.nilFunc):=by kernel_rfl
theorem aXY:aP prog 287=some (.nilFunc):=by kernel_rfl
theorem aXZ:aP prog 288=some (.nilFunc):=by kernel_rfl
theorem aX0:aP prog 289=some (.nilFunc):=by kernel_rfl
theorem aX1:aP prog 294=some (.nilFunc):=by kernel_rfl
theorem aX2:aP prog 295=some (.nilFunc):=by kernel_rfl
theorem aX3:aP prog 296=some (.nilFunc):=by kernel_rfl
theorem aX4:aP prog 297=some (.nilFunc):=by kernel_rfl
theorem aX5:aP prog 303=some (.nilFunc):=by kernel_rfl
theorem aX6:aP prog 304=some (.int .u8 0):=by kernel_rfl
theorem aX7:aP prog 305=some (.int .u8 0):=by kernel_rfl
theorem aX8:aP prog 306=some (.nilFunc):=by kernel_rfl
theorem aX9:aP prog 307=some (.pointer none):=by kernel_rfl
theorem aXa:aP prog 308=some (.int .i32 0):=by kernel_rfl
theorem aXb:aP prog 309=some (.int .i32 0):=by kernel_rfl
def vZ:=And.intro zv1 (And.intro zv2 (And.intro zv3 (And.intro zv4 (And.intro zv5 (And.intro zv6 (And.intro zv9 (And.intro a0a (And.intro a0b (And.intro a0c (And.intro a0d (And.intro a0e (And.intro a0f (And.intro a0g (And.intro a0h (And.intro a0i (And.intro a0j (And.intro a0k (And.intro a0l (And.intro a0m (And.intro a0n (And.intro a0o (And.intro a0p (And.intro a0q (And.intro a0r (And.intro a0s (And.intro a0t (And.intro a0u (And.intro a0v (And.intro a0w (And.intro a0x (And.intro a0y (And.intro a0z (And.intro a1A (And.intro a1B (And.intro a1C (And.intro a1D (And.intro a1E (And.intro a1F (And.intro a1G (And.intro a1H (And.intro a1I (And.intro a1J (And.intro a1K (And.intro a1L (And.intro a1M (And.intro a1N (And.intro a1O (And.intro a1P (And.intro a1Q (And.intro a1R (And.intro a1S (And.intro a1T (And.intro a1U (And.intro a1V (And.intro a1W (And.intro a1X (And.intro a1Y (And.intro a1Z (And.intro a1a (And.intro a1b (And.intro a1c (And.intro a1d (And.intro a1e (And.intro a1f (And.intro a1g (And.intro a1h (And.intro aUy (And.intro aUz (And.intro aVA (And.intro aVB (And.intro aVC (And.intro aVD (And.intro aVE (And.intro aVF (And.intro aVG (And.intro aVH (And.intro aVI (And.intro aVJ (And.intro aVK (And.intro aVL (And.intro aVM (And.intro aVN (And.intro aVO (And.intro aVP (And.intro aVQ (And.intro aVR (And.intro aVS (And.intro aVT (And.intro aVU (And.intro aVV (And.intro aVW (And.intro aVX (And.intro aVY (And.intro aVZ (And.intro aV0 (And.intro aV1 (And.intro aV2 (And.intro aV3 (And.intro aV4 (And.intro aV5 (And.intro aV6 (And.intro aV7 (And.intro aV8 (And.intro aV9 (And.intro aVa (And.intro aVb (And.intro aVc (And.intro aVd (And.intro aVe (And.intro aVf (And.intro aVg (And.intro aVh (And.intro aVi (And.intro aVj (And.intro aVk (And.intro aVl (And.intro aVm (And.intro aVn (And.intro aVo (And.intro aVp (And.intro aVq (And.intro aVr (And.intro aVs (And.intro aVt (And.intro aVu (And.intro aVv (And.intro aVw (And.intro aVx (And.intro aVy (And.intro aVz (And.intro aWA (And.intro aWB (And.intro aWC (And.intro aWD (And.intro aWE (And.intro aWF (And.intro aWG (And.intro aWH (And.intro aWI (And.intro aWJ (And.intro aWK (And.intro aWL (And.intro aWM (And.intro aWN (And.intro aWO (And.intro aWP (And.intro aWQ (And.intro aWR (And.intro aWS (And.intro aWT (And.intro aWU (And.intro aWV (And.intro aWW (And.intro aWX (And.intro aWY (And.intro aWZ (And.intro aW0 (And.intro aW1 (And.intro aW2 (And.intro aW3 (And.intro aW4 (And.intro aW5 (And.intro aW6 (And.intro aW7 (And.intro aW8 (And.intro aW9 (And.intro aWa (And.intro aWb (And.intro aWc (And.intro aWd (And.intro aWe (And.intro aWf (And.intro aWg (And.intro aWh (And.intro aWi (And.intro aWj (And.intro aWk (And.intro aWl (And.intro aWm (And.intro aWn (And.intro aWo (And.intro aWp (And.intro aWq (And.intro aWr (And.intro aWs (And.intro aWt (And.intro aWu (And.intro aWv (And.intro aWw (And.intro aWx (And.intro aWy (And.intro aWz (And.intro aXA (And.intro aXB (And.intro aXC (And.intro aXD (And.intro aXE (And.intro aXF (And.intro aXG (And.intro aXH (And.intro aXI (And.intro aXJ (And.intro aXK (And.intro aXL (And.intro aXM (And.intro aXN (And.intro aXO (And.intro aXP (And.intro aXQ (And.intro aXR (And.intro aXS (And.intro aXT (And.intro aXU (And.intro aXV (And.intro aXW (And.intro aXX (And.intro aXY (And.intro aXZ (And.intro aX0 (And.intro aX1 (And.intro aX2 (And.intro aX3 (And.intro aX4 (And.intro aX5 (And.intro aX6 (And.intro aX7 (And.intro aX8 (And.intro aX9 (And.intro aXa (aXb))))))))))))))))))))))))))))))))))))))))))))))))))))))))))))))))))))))))))))))))))))))))))))))))))))))))))))))))))))))))))))))))))))))))))))))))))))))))))))))))))))))))))))))))))))))))))))))))))))))))))))))))))))))))))))))))))))))
end Go.Proofs.YtfiipaodjpiooaaGreatDoor

