/- Lemmas and contracts of functions, several texts in one. -/
import Derived.Test.YtelbfbioomcmeaaGreatDoorProg
import Derived.Test.YtelbfbioomcmeaaGreatDoorQ04
set_option maxRecDepth 100000
set_option maxHeartbeats 4000000
set_option linter.all false
namespace Go.Proofs.YtelbfbioomcmeaaGreatDoor
open Tryz
theorem ty1:aS prog 1=some ⟨.other,1,8,some [.nilFunc]⟩:=by kernel_rfl
theorem ty2:aS prog 2=some ⟨.int .i64,1,8,some [.int .i64 0]⟩:=by kernel_rfl
theorem ty3:aS prog 3=some ⟨.int .i64,1,8,some [.int .i64 0]⟩:=by kernel_rfl
theorem ty4:aS prog 4=some ⟨.bool,1,1,some [.bool false]⟩:=by kernel_rfl
theorem ty5:aS prog 5=some ⟨.int .u8,1,1,some [.int .u8 0]⟩:=by kernel_rfl
theorem ty6:aS prog 6=some ⟨.int .u8,1,1,some [.int .u8 0]⟩:=by kernel_rfl
theorem ty7:aS prog 7=some ⟨.struct [(0,2),(1,3),(2,4),(3,6)],4,24,some [.int .i64 0,.int .i64 0,.bool false,.int .u8 0]⟩:=by kernel_rfl
theorem ty8:aS prog 8=some ⟨.struct [(0,2),(1,3),(2,4),(3,6)],4,24,some [.int .i64 0,.int .i64 0,.bool false,.int .u8 0]⟩:=by kernel_rfl
theorem ty9:aS prog 9=some ⟨.string,1,16,some [.string ByteArray.empty]⟩:=by kernel_rfl
theorem aYE:aS prog 10=some ⟨.string,1,16,some [.string ByteArray.empty]⟩:=by kernel_rfl
theorem aYF:aS prog 11=some ⟨.string,1,16,some [.string ByteArray.empty]⟩:=by kernel_rfl
theorem aYG:aS prog 12=some ⟨.int .u64,1,8,some [.int .u64 0]⟩:=by kernel_rfl
theorem aYH:aS prog 13=some ⟨.struct [(0,9),(1,12)],2,24,some [.string ByteArray.empty,.int .u64 0]⟩:=by kernel_rfl
theorem aYI:aS prog 14=some ⟨.struct [(0,9),(1,12)],2,24,some [.string ByteArray.empty,.int .u64 0]⟩:=by kernel_rfl
theorem aYJ:aS prog 15=some ⟨.ptr 550,1,8,some [.pointer none]⟩:=by kernel_rfl
theorem aYK:aS prog 16=some ⟨.ptr 553,1,8,some [.pointer none]⟩:=by kernel_rfl
theorem aYL:aS prog 17=some ⟨.ptr 560,1,8,some [.pointer none]⟩:=by kernel_rfl
theorem aYM:aS prog 18=some ⟨.struct [(0,17)],1,8,some [.pointer none]⟩:=by kernel_rfl
theorem aYN:aS prog 19=some ⟨.struct [(0,17)],1,8,some [.pointer none]⟩:=by kernel_rfl
theorem aYO:aS prog 21=some ⟨.int .i32,1,4,some [.int .i32 0]⟩:=by kernel_rfl
theorem EW:aS prog 22=some ⟨.slice 9,1,24,some [.slice none 0 0]⟩:=by kernel_rfl
theorem aYP:aS prog 23=some ⟨.slice 60,1,24,some [.slice none 0 0]⟩:=by kernel_rfl
theorem aCo:aS prog 24=some ⟨.slice 82,1,24,some [.slice none 0 0]⟩:=by kernel_rfl
theorem aYQ:aS prog 25=some ⟨.slice 36,1,24,some [.slice none 0 0]⟩:=by kernel_rfl
theorem aIC:aS prog 26=some ⟨.slice 46,1,24,some [.slice none 0 0]⟩:=by kernel_rfl
theorem aYR:aS prog 27=some ⟨.struct [(0,9),(1,22),(2,23),(3,24),(4,25),(5,3),(6,26)],7,144,some [.string ByteArray.empty,.slice none 0 0,.slice none 0 0,.slice none 0 0,.slice none 0 0,.int .i64 0,.slice none 0 0]⟩:=by kernel_rfl
theorem aYS:aS prog 28=some ⟨.struct [(0,9),(1,22),(2,23),(3,24),(4,25),(5,3),(6,26)],7,144,some [.string ByteArray.empty,.slice none 0 0,.slice none 0 0,.slice none 0 0,.slice none 0 0,.int .i64 0,.slice none 0 0]⟩:=by kernel_rfl
theorem aYT:aS prog 29=some ⟨.other,1,8,some [.nilFunc]⟩:=by kernel_rfl
theorem aYU:aS prog 30=some ⟨.other,1,8,some [.nilFunc]⟩:=by kernel_rfl
theorem aYV:aS prog 31=some ⟨.other,1,8,some [.nilFunc]⟩:=by kernel_rfl
theorem aYW:aS prog 32=some ⟨.other,1,8,some [.nilFunc]⟩:=by kernel_rfl
theorem aYX:aS prog 33=some ⟨.other,1,8,some [.nilFunc]⟩:=by kernel_rfl
theorem aYY:aS prog 34=some ⟨.other,1,8,some [.nilFunc]⟩:=by kernel_rfl
theorem aYZ:aS prog 35=some ⟨.struct [(0,9),(1,3)],2,24,some [.string ByteArray.empty,.int .i64 0]⟩:=by kernel_rfl
theorem aY0:aS prog 36=some ⟨.struct [(0,9),(1,3)],2,24,some [.string ByteArray.empty,.int .i64 0]⟩:=by kernel_rfl
theorem sS:aS prog 37=some ⟨.slice 3,1,24,some [.slice none 0 0]⟩:=by kernel_rfl
theorem aY1:aS prog 38=some ⟨.slice 156,1,24,some [.slice none 0 0]⟩:=by kernel_rfl
theorem aY2:aS prog 39=some ⟨.slice 154,1,24,some [.slice none 0 0]⟩:=by kernel_rfl
theorem aY3:aS prog 40=some ⟨.struct [(0,3),(1,39)],2,32,some [.int .i64 0,.slice none 0 0]⟩:=by kernel_rfl
theorem aY4:aS prog 41=some ⟨.struct [(0,3),(1,39)],2,32,some [.int .i64 0,.slice none 0 0]⟩:=by kernel_rfl
theorem aY5:aS prog 42=some ⟨.struct [(0,3),(1,37),(2,38),(3,41),(5,9)],6,104,some [.int .i64 0,.slice none 0 0,.slice none 0 0,.int .i64 0,.slice none 0 0,.string ByteArray.empty]⟩:=by kernel_rfl
theorem aY6:aS prog 43=some ⟨.struct [(0,3),(1,37),(2,38),(3,41),(5,9)],6,104,some [.int .i64 0,.slice none 0 0,.slice none 0 0,.int .i64 0,.slice none 0 0,.string ByteArray.empty]⟩:=by kernel_rfl
theorem aY7:aS prog 44=some ⟨.slice 90,1,24,some [.slice none 0 0]⟩:=by kernel_rfl
theorem aY8:aS prog 45=some ⟨.struct [(0,44),(1,43)],7,128,some [.slice none 0 0,.int .i64 0,.slice none 0 0,.slice none 0 0,.int .i64 0,.slice none 0 0,.string ByteArray.empty]⟩:=by kernel_rfl
theorem aPP:aS prog 46=some ⟨.struct [(0,44),(1,43)],7,128,some [.slice none 0 0,.int .i64 0,.slice none 0 0,.slice none 0 0,.int .i64 0,.slice none 0 0,.string ByteArray.empty]⟩:=by kernel_rfl
theorem u9:aS prog 47=some ⟨.slice 5,1,24,some [.slice none 0 0]⟩:=by kernel_rfl
theorem aY9:aS prog 48=some ⟨.int .i64,1,8,some [.int .i64 0]⟩:=by kernel_rfl
theorem aYa:aS prog 50=some ⟨.other,1,8,some [.nilFunc]⟩:=by kernel_rfl
theorem aID:aS prog 51=some ⟨.slice 58,1,24,some [.slice none 0 0]⟩:=by kernel_rfl
theorem aYb:aS prog 53=some ⟨.other,1,8,some [.nilFunc]⟩:=by kernel_rfl
theorem aYc:aS prog 55=some ⟨.other,1,8,some [.nilFunc]⟩:=by kernel_rfl
theorem aYd:aS prog 56=some ⟨.other,1,8,some [.nilFunc]⟩:=by kernel_rfl
theorem aYe:aS prog 57=some ⟨.struct [(0,3),(1,47)],2,32,some [.int .i64 0,.slice none 0 0]⟩:=by kernel_rfl
theorem aQn:aS prog 58=some ⟨.struct [(0,3),(1,47)],2,32,some [.int .i64 0,.slice none 0 0]⟩:=by kernel_rfl
theorem aYf:aS prog 59=some ⟨.other,1,8,some [.nilFunc]⟩:=by kernel_rfl
theorem aYg:aS prog 60=some ⟨.array 2 3,2,16,some [.int .i64 0,.int .i64 0]⟩:=by kernel_rfl
theorem aYh:aS prog 61=some ⟨.other,1,8,some [.nilFunc]⟩:=by kernel_rfl
theorem aYi:aS prog 62=some ⟨.other,1,8,some [.nilFunc]⟩:=by kernel_rfl
theorem aYj:aS prog 63=some ⟨.slice 118,1,24,some [.slice none 0 0]⟩:=by kernel_rfl
theorem aYk:aS prog 64=some ⟨.struct [(0,63),(1,23),(2,23),(3,23),(4,23)],5,120,some [.slice none 0 0,.slice none 0 0,.slice none 0 0,.slice none 0 0,.slice none 0 0]⟩:=by kernel_rfl
theorem aYl:aS prog 65=some ⟨.struct [(0,63),(1,23),(2,23),(3,23),(4,23)],5,120,some [.slice none 0 0,.slice none 0 0,.slice none 0 0,.slice none 0 0,.slice none 0 0]⟩:=by kernel_rfl
theorem aYm:aS prog 67=some ⟨.other,1,8,some [.nilFunc]⟩:=by kernel_rfl
theorem aYn:aS prog 69=some ⟨.other,1,8,some [.nilFunc]⟩:=by kernel_rfl
theorem aYo:aS prog 70=some ⟨.other,1,8,some [.nilFunc]⟩:=by kernel_rfl
theorem aYp:aS prog 71=some ⟨.other,1,8,some [.nilFunc]⟩:=by kernel_rfl
theorem aYq:aS prog 72=some ⟨.other,1,8,some [.nilFunc]⟩:=by kernel_rfl
theorem aYr:aS prog 73=some ⟨.other,1,8,some [.nilFunc]⟩:=by kernel_rfl
theorem aYs:aS prog 75=some ⟨.other,1,8,some [.nilFunc]⟩:=by kernel_rfl
theorem aYt:aS prog 76=some ⟨.other,1,8,some [.nilFunc]⟩:=by kernel_rfl
theorem aYu:aS prog 77=some ⟨.other,1,8,some [.nilFunc]⟩:=by kernel_rfl
theorem aYv:aS prog 78=some ⟨.other,1,8,some [.nilFunc]⟩:=by kernel_rfl
theorem aYw:aS prog 79=some ⟨.other,1,8,some [.nilFunc]⟩:=by kernel_rfl
theorem aYx:aS prog 80=some ⟨.other,1,8,some [.nilFunc]⟩:=by kernel_rfl
theorem aYy:aS prog 81=some ⟨.struct [(0,3),(1,4),(2,3),(3,3),(4,37)],5,56,some [.int .i64 0,.bool false,.int .i64 0,.int .i64 0,.slice none 0 0]⟩:=by kernel_rfl
theorem aIE:aS prog 82=some ⟨.struct [(0,3),(1,4),(2,3),(3,3),(4,37)],5,56,some [.int .i64 0,.bool false,.int .i64 0,.int .i64 0,.slice none 0 0]⟩:=by kernel_rfl
theorem aYz:aS prog 83=some ⟨.other,1,8,some [.nilFunc]⟩:=by kernel_rfl
theorem aZA:aS prog 84=some ⟨.other,1,8,some [.nilFunc]⟩:=by kernel_rfl
theorem aZB:aS prog 85=some ⟨.ptr 46,1,8,some [.pointer none]⟩:=by kernel_rfl
theorem aZC:aS prog 86=some ⟨.other,1,8,some [.nilFunc]⟩:=by kernel_rfl
theorem aZD:aS prog 87=some ⟨.struct [(0,3),(1,3),(2,3),(3,4),(4,41),(6,38)],7,88,some [.int .i64 0,.int .i64 0,.int .i64 0,.bool false,.int .i64 0,.slice none 0 0,.slice none 0 0]⟩:=by kernel_rfl
theorem aZE:aS prog 88=some ⟨.struct [(0,3),(1,3),(2,3),(3,4),(4,41),(6,38)],7,88,some [.int .i64 0,.int .i64 0,.int .i64 0,.bool false,.int .i64 0,.slice none 0 0,.slice none 0 0]⟩:=by kernel_rfl
theorem aZF:aS prog 89=some ⟨.struct [(0,3),(1,41),(3,88),(10,3)],11,136,some [.int .i64 0,.int .i64 0,.slice none 0 0,.int .i64 0,.int .i64 0,.int .i64 0,.bool false,.int .i64 0,.slice none 0 0,.slice none 0 0,.int .i64 0]⟩:=by kernel_rfl
theorem aZG:aS prog 90=some ⟨.struct [(0,3),(1,41),(3,88),(10,3)],11,136,some [.int .i64 0,.int .i64 0,.slice none 0 0,.int .i64 0,.int .i64 0,.int .i64 0,.bool false,.int .i64 0,.slice none 0 0,.slice none 0 0,.int .i64 0]⟩:=by kernel_rfl
theorem aZH:aS prog 91=some ⟨.ptr 90,1,8,some [.pointer none]⟩:=by kernel_rfl
theorem aZI:aS prog 92=some ⟨.other,1,8,some [.nilFunc]⟩:=by kernel_rfl
theorem aZJ:aS prog 93=some ⟨.other,1,8,some [.nilFunc]⟩:=by kernel_rfl
theorem aZK:aS prog 94=some ⟨.other,1,8,some [.nilFunc]⟩:=by kernel_rfl
theorem aZL:aS prog 95=some ⟨.other,1,8,some [.nilFunc]⟩:=by kernel_rfl
theorem aZM:aS prog 96=some ⟨.other,1,8,some [.nilFunc]⟩:=by kernel_rfl
theorem aZN:aS prog 97=some ⟨.ptr 163,1,8,some [.pointer none]⟩:=by kernel_rfl
theorem aZO:aS prog 99=some ⟨.other,1,8,some [.nilFunc]⟩:=by kernel_rfl
theorem aJk:aS prog 100=some ⟨.other,1,8,some [.nilFunc]⟩:=by kernel_rfl
theorem aJl:aS prog 101=some ⟨.other,1,8,some [.nilFunc]⟩:=by kernel_rfl
theorem aJm:aS prog 102=some ⟨.other,1,8,some [.nilFunc]⟩:=by kernel_rfl
theorem aJn:aS prog 103=some ⟨.other,1,8,some [.nilFunc]⟩:=by kernel_rfl
theorem aJo:aS prog 104=some ⟨.other,1,8,some [.nilFunc]⟩:=by kernel_rfl
theorem aJp:aS prog 105=some ⟨.other,1,8,some [.nilFunc]⟩:=by kernel_rfl
theorem aJq:aS prog 106=some ⟨.struct [(0,3),(1,3),(2,3),(3,48)],4,32,some [.int .i64 0,.int .i64 0,.int .i64 0,.int .i64 0]⟩:=by kernel_rfl
theorem aJr:aS prog 107=some ⟨.struct [(0,3),(1,3),(2,3),(3,48)],4,32,some [.int .i64 0,.int .i64 0,.int .i64 0,.int .i64 0]⟩:=by kernel_rfl
theorem aJs:aS prog 108=some ⟨.other,1,8,some [.nilFunc]⟩:=by kernel_rfl
theorem aJt:aS prog 109=some ⟨.other,1,8,some [.nilFunc]⟩:=by kernel_rfl
theorem aJu:aS prog 110=some ⟨.other,1,8,some [.nilFunc]⟩:=by kernel_rfl
theorem aJv:aS prog 111=some ⟨.other,1,8,some [.nilFunc]⟩:=by kernel_rfl
theorem aJw:aS prog 112=some ⟨.other,1,8,some [.nilFunc]⟩:=by kernel_rfl
theorem aJx:aS prog 113=some ⟨.other,1,8,some [.nilFunc]⟩:=by kernel_rfl
theorem aJy:aS prog 114=some ⟨.array 3 50,3,24,some [.nilFunc,.nilFunc,.nilFunc]⟩:=by kernel_rfl
theorem aJz:aS prog 115=some ⟨.other,1,8,some [.nilFunc]⟩:=by kernel_rfl
theorem aKA:aS prog 116=some ⟨.other,1,8,some [.nilFunc]⟩:=by kernel_rfl
theorem aKB:aS prog 117=some ⟨.struct [(0,3),(1,3),(2,4),(3,41)],5,56,some [.int .i64 0,.int .i64 0,.bool false,.int .i64 0,.slice none 0 0]⟩:=by kernel_rfl
theorem aKC:aS prog 118=some ⟨.struct [(0,3),(1,3),(2,4),(3,41)],5,56,some [.int .i64 0,.int .i64 0,.bool false,.int .i64 0,.slice none 0 0]⟩:=by kernel_rfl
theorem aKD:aS prog 119=some ⟨.other,1,8,some [.nilFunc]⟩:=by kernel_rfl
theorem aKE:aS prog 120=some ⟨.ptr 122,1,8,some [.pointer none]⟩:=by kernel_rfl
theorem aKF:aS prog 121=some ⟨.struct [(0,120),(1,47)],2,32,some [.pointer none,.slice none 0 0]⟩:=by kernel_rfl
theorem aKG:aS prog 122=some ⟨.struct [(0,120),(1,47)],2,32,some [.pointer none,.slice none 0 0]⟩:=by kernel_rfl
theorem aKH:aS prog 123=some ⟨.other,1,8,some [.nilFunc]⟩:=by kernel_rfl
theorem aKI:aS prog 127=some ⟨.other,1,8,some [.nilFunc]⟩:=by kernel_rfl
theorem aKJ:aS prog 128=some ⟨.other,1,8,some [.nilFunc]⟩:=by kernel_rfl
theorem aKK:aS prog 129=some ⟨.other,1,8,some [.nilFunc]⟩:=by kernel_rfl
theorem aKL:aS prog 130=some ⟨.other,1,8,some [.nilFunc]⟩:=by kernel_rfl
theorem aKM:aS prog 131=some ⟨.other,1,8,some [.nilFunc]⟩:=by kernel_rfl
theorem aKN:aS prog 132=some ⟨.struct [(0,41),(2,4),(3,4)],4,40,some [.int .i64 0,.slice none 0 0,.bool false,.bool false]⟩:=by kernel_rfl
theorem aKO:aS prog 133=some ⟨.struct [(0,41),(2,4),(3,4)],4,40,some [.int .i64 0,.slice none 0 0,.bool false,.bool false]⟩:=by kernel_rfl
theorem aKP:aS prog 134=some ⟨.other,1,8,some [.nilFunc]⟩:=by kernel_rfl
theorem aKQ:aS prog 135=some ⟨.ptr 325,1,8,some [.pointer none]⟩:=by kernel_rfl
theorem aKR:aS prog 136=some ⟨.struct [(0,28),(7,135)],8,152,some [.string ByteArray.empty,.slice none 0 0,.slice none 0 0,.slice none 0 0,.slice none 0 0,.int .i64 0,.slice none 0 0,.pointer none]⟩:=by kernel_rfl
theorem aKS:aS prog 137=some ⟨.struct [(0,28),(7,135)],8,152,some [.string ByteArray.empty,.slice none 0 0,.slice none 0 0,.slice none 0 0,.slice none 0 0,.int .i64 0,.slice none 0 0,.pointer none]⟩:=by kernel_rfl
theorem aKT:aS prog 138=some ⟨.other,1,8,some [.nilFunc]⟩:=by kernel_rfl
theorem aKU:aS prog 139=some ⟨.other,1,8,some [.nilFunc]⟩:=by kernel_rfl
theorem aKV:aS prog 140=some ⟨.other,1,8,some [.nilFunc]⟩:=by kernel_rfl
theorem aKW:aS prog 141=some ⟨.other,1,8,some [.nilFunc]⟩:=by kernel_rfl
theorem aKX:aS prog 142=some ⟨.other,1,8,some [.nilFunc]⟩:=by kernel_rfl
theorem aKY:aS prog 143=some ⟨.other,1,8,some [.nilFunc]⟩:=by kernel_rfl
theorem aKZ:aS prog 144=some ⟨.struct [(0,23),(1,3),(2,3)],3,40,some [.slice none 0 0,.int .i64 0,.int .i64 0]⟩:=by kernel_rfl
theorem aK0:aS prog 145=some ⟨.struct [(0,23),(1,3),(2,3)],3,40,some [.slice none 0 0,.int .i64 0,.int .i64 0]⟩:=by kernel_rfl
theorem aK1:aS prog 146=some ⟨.other,1,8,some [.nilFunc]⟩:=by kernel_rfl
theorem aK2:aS prog 147=some ⟨.other,1,8,some [.nilFunc]⟩:=by kernel_rfl
theorem aK3:aS prog 148=some ⟨.other,1,8,some [.nilFunc]⟩:=by kernel_rfl
theorem aK4:aS prog 150=some ⟨.other,1,8,some [.nilFunc]⟩:=by kernel_rfl
theorem aK5:aS prog 151=some ⟨.other,1,8,some [.nilFunc]⟩:=by kernel_rfl
theorem aK6:aS prog 152=some ⟨.other,1,8,some [.nilFunc]⟩:=by kernel_rfl
theorem aK7:aS prog 153=some ⟨.struct [(0,3),(1,3)],2,16,some [.int .i64 0,.int .i64 0]⟩:=by kernel_rfl
theorem aK8:aS prog 154=some ⟨.struct [(0,3),(1,3)],2,16,some [.int .i64 0,.int .i64 0]⟩:=by kernel_rfl
theorem aK9:aS prog 155=some ⟨.struct [(0,3),(1,41),(3,2)],4,48,some [.int .i64 0,.int .i64 0,.slice none 0 0,.int .i64 0]⟩:=by kernel_rfl
theorem aKa:aS prog 156=some ⟨.struct [(0,3),(1,41),(3,2)],4,48,some [.int .i64 0,.int .i64 0,.slice none 0 0,.int .i64 0]⟩:=by kernel_rfl
theorem aKb:aS prog 157=some ⟨.other,1,8,some [.nilFunc]⟩:=by kernel_rfl
theorem aKc:aS prog 158=some ⟨.other,1,8,some [.nilFunc]⟩:=by kernel_rfl
theorem aKd:aS prog 159=some ⟨.other,1,8,some [.nilFunc]⟩:=by kernel_rfl
theorem aKe:aS prog 160=some ⟨.other,1,8,some [.nilFunc]⟩:=by kernel_rfl
theorem aKf:aS prog 161=some ⟨.other,1,8,some [.nilFunc]⟩:=by kernel_rfl
theorem aKg:aS prog 162=some ⟨.struct [(0,22)],1,24,some [.slice none 0 0]⟩:=by kernel_rfl
theorem aKh:aS prog 163=some ⟨.struct [(0,22)],1,24,some [.slice none 0 0]⟩:=by kernel_rfl
theorem aKi:aS prog 164=some ⟨.ptr 168,1,8,some [.pointer none]⟩:=by kernel_rfl
theorem aKj:aS prog 165=some ⟨.ptr 287,1,8,some [.pointer none]⟩:=by kernel_rfl
theorem aKk:aS prog 166=some ⟨.other,1,8,some [.nilFunc]⟩:=by kernel_rfl
theorem aKl:aS prog 167=some ⟨.struct [(0,165),(1,97),(2,48)],3,24,some [.pointer none,.pointer none,.int .i64 0]⟩:=by kernel_rfl
theorem aKm:aS prog 168=some ⟨.struct [(0,165),(1,97),(2,48)],3,24,some [.pointer none,.pointer none,.int .i64 0]⟩:=by kernel_rfl
theorem aKn:aS prog 169=some ⟨.other,1,8,some [.nilFunc]⟩:=by kernel_rfl
theorem aKo:aS prog 170=some ⟨.other,1,8,some [.nilFunc]⟩:=by kernel_rfl
theorem aKp:aS prog 171=some ⟨.other,1,8,some [.nilFunc]⟩:=by kernel_rfl
theorem aKq:aS prog 172=some ⟨.other,1,8,some [.nilFunc]⟩:=by kernel_rfl
theorem aKr:aS prog 173=some ⟨.other,1,8,some [.nilFunc]⟩:=by kernel_rfl
theorem aKs:aS prog 174=some ⟨.other,1,8,some [.nilFunc]⟩:=by kernel_rfl
theorem aKt:aS prog 175=some ⟨.other,1,8,some [.nilFunc]⟩:=by kernel_rfl
theorem aKu:aS prog 176=some ⟨.other,1,8,some [.nilFunc]⟩:=by kernel_rfl
theorem aKv:aS prog 177=some ⟨.other,1,8,some [.nilFunc]⟩:=by kernel_rfl
theorem aKw:aS prog 178=some ⟨.ptr 180,1,8,some [.pointer none]⟩:=by kernel_rfl
theorem aKx:aS prog 179=some ⟨.struct [(0,165),(1,97),(2,48)],3,24,some [.pointer none,.pointer none,.int .i64 0]⟩:=by kernel_rfl
theorem aKy:aS prog 180=some ⟨.struct [(0,165),(1,97),(2,48)],3,24,some [.pointer none,.pointer none,.int .i64 0]⟩:=by kernel_rfl
theorem aKz:aS prog 181=some ⟨.other,1,8,some [.nilFunc]⟩:=by kernel_rfl
theorem aLA:aS prog 182=some ⟨.other,1,8,some [.nilFunc]⟩:=by kernel_rfl
theorem aLB:aS prog 183=some ⟨.other,1,8,some [.nilFunc]⟩:=by kernel_rfl
theorem aLC:aS prog 184=some ⟨.int .u64,1,8,some [.int .u64 0]⟩:=by kernel_rfl
theorem aLD:aS prog 185=some ⟨.other,1,8,some [.nilFunc]⟩:=by kernel_rfl
theorem aLE:aS prog 186=some ⟨.other,1,8,some [.nilFunc]⟩:=by kernel_rfl
theorem aLF:aS prog 187=some ⟨.other,1,8,some [.nilFunc]⟩:=by kernel_rfl
theorem aLG:aS prog 188=some ⟨.other,1,8,some [.nilFunc]⟩:=by kernel_rfl
theorem aLH:aS prog 189=some ⟨.ptr 195,1,8,some [.pointer none]⟩:=by kernel_rfl
theorem aLI:aS prog 190=some ⟨.other,1,8,some [.nilFunc]⟩:=by kernel_rfl
theorem aLJ:aS prog 191=some ⟨.other,1,8,some [.nilFunc]⟩:=by kernel_rfl
theorem aLK:aS prog 192=some ⟨.map 3 37,1,8,some [.map none]⟩:=by kernel_rfl
theorem aLL:aS prog 193=some ⟨.map 60 4,1,8,some [.map none]⟩:=by kernel_rfl
theorem aLM:aS prog 194=some ⟨.struct [(0,65),(5,192),(6,193),(7,193),(8,193)],9,152,some [.slice none 0 0,.slice none 0 0,.slice none 0 0,.slice none 0 0,.slice none 0 0,.map none,.map none,.map none,.map none]⟩:=by kernel_rfl
theorem aLN:aS prog 195=some ⟨.struct [(0,65),(5,192),(6,193),(7,193),(8,193)],9,152,some [.slice none 0 0,.slice none 0 0,.slice none 0 0,.slice none 0 0,.slice none 0 0,.map none,.map none,.map none,.map none]⟩:=by kernel_rfl
theorem aLO:aS prog 196=some ⟨.other,1,8,some [.nilFunc]⟩:=by kernel_rfl
theorem aLP:aS prog 197=some ⟨.other,1,8,some [.nilFunc]⟩:=by kernel_rfl
theorem aLQ:aS prog 198=some ⟨.other,1,8,some [.nilFunc]⟩:=by kernel_rfl
theorem aLR:aS prog 199=some ⟨.other,1,8,some [.nilFunc]⟩:=by kernel_rfl
theorem aLS:aS prog 200=some ⟨.other,1,8,some [.nilFunc]⟩:=by kernel_rfl
theorem aLT:aS prog 201=some ⟨.other,1,8,some [.nilFunc]⟩:=by kernel_rfl
theorem aLU:aS prog 202=some ⟨.other,1,8,some [.nilFunc]⟩:=by kernel_rfl
theorem aLV:aS prog 204=some ⟨.other,1,8,some [.nilFunc]⟩:=by kernel_rfl
theorem aLW:aS prog 205=some ⟨.other,1,8,some [.nilFunc]⟩:=by kernel_rfl
theorem aLX:aS prog 206=some ⟨.other,1,8,some [.nilFunc]⟩:=by kernel_rfl
theorem aLY:aS prog 207=some ⟨.other,1,8,some [.nilFunc]⟩:=by kernel_rfl
theorem aLZ:aS prog 208=some ⟨.other,1,8,some [.nilFunc]⟩:=by kernel_rfl
theorem aL0:aS prog 209=some ⟨.array 6 3,6,48,some [.int .i64 0,.int .i64 0,.int .i64 0,.int .i64 0,.int .i64 0,.int .i64 0]⟩:=by kernel_rfl
theorem aL1:aS prog 210=some ⟨.other,1,8,some [.nilFunc]⟩:=by kernel_rfl
theorem aL2:aS prog 211=some ⟨.other,1,8,some [.nilFunc]⟩:=by kernel_rfl
theorem aL3:aS prog 212=some ⟨.other,1,8,some [.nilFunc]⟩:=by kernel_rfl
theorem aL4:aS prog 213=some ⟨.other,1,8,some [.nilFunc]⟩:=by kernel_rfl
theorem aL5:aS prog 215=some ⟨.other,1,8,some [.nilFunc]⟩:=by kernel_rfl
theorem aL6:aS prog 216=some ⟨.map 60 4,1,8,some [.map none]⟩:=by kernel_rfl
theorem aL7:aS prog 217=some ⟨.slice 37,1,24,some [.slice none 0 0]⟩:=by kernel_rfl
theorem aL8:aS prog 218=some ⟨.other,1,8,some [.nilFunc]⟩:=by kernel_rfl
theorem aL9:aS prog 219=some ⟨.other,1,8,some [.nilFunc]⟩:=by kernel_rfl
theorem aLa:aS prog 220=some ⟨.other,1,8,some [.nilFunc]⟩:=by kernel_rfl
theorem aLb:aS prog 221=some ⟨.other,1,8,some [.nilFunc]⟩:=by kernel_rfl
theorem aLc:aS prog 222=some ⟨.other,1,8,some [.nilFunc]⟩:=by kernel_rfl
theorem aLd:aS prog 223=some ⟨.other,1,8,some [.nilFunc]⟩:=by kernel_rfl
theorem aLe:aS prog 224=some ⟨.other,1,8,some [.nilFunc]⟩:=by kernel_rfl
theorem aLf:aS prog 225=some ⟨.other,1,8,some [.nilFunc]⟩:=by kernel_rfl
theorem aLg:aS prog 226=some ⟨.other,1,8,some [.nilFunc]⟩:=by kernel_rfl
theorem aLh:aS prog 227=some ⟨.other,1,8,some [.nilFunc]⟩:=by kernel_rfl
theorem aLi:aS prog 228=some ⟨.other,1,8,some [.nilFunc]⟩:=by kernel_rfl
theorem aLj:aS prog 229=some ⟨.struct [(0,3),(1,3)],2,16,some [.int .i64 0,.int .i64 0]⟩:=by kernel_rfl
theorem aLk:aS prog 230=some ⟨.struct [(0,3),(1,3)],2,16,some [.int .i64 0,.int .i64 0]⟩:=by kernel_rfl
theorem aLl:aS prog 231=some ⟨.other,1,8,some [.nilFunc]⟩:=by kernel_rfl
theorem aLm:aS prog 233=some ⟨.other,1,8,some [.nilFunc]⟩:=by kernel_rfl
theorem aLn:aS prog 235=some ⟨.other,1,8,some [.nilFunc]⟩:=by kernel_rfl
theorem aLo:aS prog 236=some ⟨.other,1,8,some [.nilFunc]⟩:=by kernel_rfl
theorem aLp:aS prog 237=some ⟨.other,1,8,some [.nilFunc]⟩:=by kernel_rfl
theorem aLq:aS prog 238=some ⟨.other,1,8,some [.nilFunc]⟩:=by kernel_rfl
theorem aLr:aS prog 239=some ⟨.ptr 241,1,8,some [.pointer none]⟩:=by kernel_rfl
theorem aLs:aS prog 240=some ⟨.struct [(0,122),(2,28),(9,3)],10,184,some [.pointer none,.slice none 0 0,.string ByteArray.empty,.slice none 0 0,.slice none 0 0,.slice none 0 0,.slice none 0 0,.int .i64 0,.slice none 0 0,.int .i64 0]⟩:=by kernel_rfl
theorem aLt:aS prog 241=some ⟨.struct [(0,122),(2,28),(9,3)],10,184,some [.pointer none,.slice none 0 0,.string ByteArray.empty,.slice none 0 0,.slice none 0 0,.slice none 0 0,.slice none 0 0,.int .i64 0,.slice none 0 0,.int .i64 0]⟩:=by kernel_rfl
theorem aLu:aS prog 242=some ⟨.other,1,8,some [.nilFunc]⟩:=by kernel_rfl
theorem aLv:aS prog 243=some ⟨.other,1,8,some [.nilFunc]⟩:=by kernel_rfl
theorem aLw:aS prog 244=some ⟨.slice 133,1,24,some [.slice none 0 0]⟩:=by kernel_rfl
theorem aLx:aS prog 245=some ⟨.other,1,8,some [.nilFunc]⟩:=by kernel_rfl
theorem aLy:aS prog 246=some ⟨.ptr 5,1,8,some [.pointer none]⟩:=by kernel_rfl
theorem aLz:aS prog 247=some ⟨.other,1,8,some [.nilFunc]⟩:=by kernel_rfl
theorem aMA:aS prog 248=some ⟨.other,1,8,some [.nilFunc]⟩:=by kernel_rfl
theorem aMB:aS prog 249=some ⟨.other,1,8,some [.nilFunc]⟩:=by kernel_rfl
theorem aMC:aS prog 250=some ⟨.other,1,8,some [.nilFunc]⟩:=by kernel_rfl
theorem aMD:aS prog 252=some ⟨.other,1,8,some [.nilFunc]⟩:=by kernel_rfl
theorem aME:aS prog 253=some ⟨.other,1,8,some [.nilFunc]⟩:=by kernel_rfl
theorem aMF:aS prog 254=some ⟨.other,1,8,some [.nilFunc]⟩:=by kernel_rfl
theorem aMG:aS prog 255=some ⟨.other,1,8,some [.nilFunc]⟩:=by kernel_rfl
theorem aMH:aS prog 256=some ⟨.other,1,8,some [.nilFunc]⟩:=by kernel_rfl
theorem aMI:aS prog 257=some ⟨.other,1,8,some [.nilFunc]⟩:=by kernel_rfl
theorem aMJ:aS prog 258=some ⟨.other,1,8,some [.nilFunc]⟩:=by kernel_rfl
theorem aMK:aS prog 259=some ⟨.other,1,8,some [.nilFunc]⟩:=by kernel_rfl
theorem aML:aS prog 260=some ⟨.ptr 369,1,8,some [.pointer none]⟩:=by kernel_rfl
theorem aMM:aS prog 261=some ⟨.other,1,8,some [.nilFunc]⟩:=by kernel_rfl
theorem aMN:aS prog 262=some ⟨.other,1,8,some [.nilFunc]⟩:=by kernel_rfl
theorem aMO:aS prog 263=some ⟨.other,1,8,some [.nilFunc]⟩:=by kernel_rfl
theorem aMP:aS prog 264=some ⟨.other,1,8,some [.nilFunc]⟩:=by kernel_rfl
theorem aMQ:aS prog 265=some ⟨.ptr 267,1,8,some [.pointer none]⟩:=by kernel_rfl
theorem aMR:aS prog 266=some ⟨.struct [(0,260),(1,97)],2,16,some [.pointer none,.pointer none]⟩:=by kernel_rfl
theorem aMS:aS prog 267=some ⟨.struct [(0,260),(1,97)],2,16,some [.pointer none,.pointer none]⟩:=by kernel_rfl
theorem aMT:aS prog 268=some ⟨.other,1,8,some [.nilFunc]⟩:=by kernel_rfl
theorem aMU:aS prog 269=some ⟨.other,1,8,some [.nilFunc]⟩:=by kernel_rfl
theorem aMV:aS prog 270=some ⟨.other,1,8,some [.nilFunc]⟩:=by kernel_rfl
theorem aMW:aS prog 271=some ⟨.other,1,8,some [.nilFunc]⟩:=by kernel_rfl
theorem aMX:aS prog 272=some ⟨.other,1,8,some [.nilFunc]⟩:=by kernel_rfl
theorem aMY:aS prog 273=some ⟨.other,1,8,some [.nilFunc]⟩:=by kernel_rfl
theorem aMZ:aS prog 274=some ⟨.other,1,8,some [.nilFunc]⟩:=by kernel_rfl
theorem aM0:aS prog 275=some ⟨.ptr 277,1,8,some [.pointer none]⟩:=by kernel_rfl
theorem aM1:aS prog 276=some ⟨.struct [(0,260),(1,97)],2,16,some [.pointer none,.pointer none]⟩:=by kernel_rfl
theorem aM2:aS prog 277=some ⟨.struct [(0,260),(1,97)],2,16,some [.pointer none,.pointer none]⟩:=by kernel_rfl
theorem aM3:aS prog 278=some ⟨.other,1,8,some [.nilFunc]⟩:=by kernel_rfl
theorem aM4:aS prog 279=some ⟨.other,1,8,some [.nilFunc]⟩:=by kernel_rfl
theorem aM5:aS prog 280=some ⟨.other,1,8,some [.nilFunc]⟩:=by kernel_rfl
theorem aM6:aS prog 281=some ⟨.other,1,8,some [.nilFunc]⟩:=by kernel_rfl
theorem aM7:aS prog 282=some ⟨.other,1,8,some [.nilFunc]⟩:=by kernel_rfl
theorem aM8:aS prog 283=some ⟨.other,1,8,some [.nilFunc]⟩:=by kernel_rfl
theorem aM9:aS prog 284=some ⟨.other,1,8,some [.nilFunc]⟩:=by kernel_rfl
theorem aMa:aS prog 285=some ⟨.int .u64,1,8,some [.int .u64 0]⟩:=by kernel_rfl
theorem aMb:aS prog 286=some ⟨.struct [(0,47)],1,24,some [.slice none 0 0]⟩:=by kernel_rfl
theorem aMc:aS prog 287=some ⟨.struct [(0,47)],1,24,some [.slice none 0 0]⟩:=by kernel_rfl
theorem aMd:aS prog 289=some ⟨.other,1,8,some [.nilFunc]⟩:=by kernel_rfl
theorem aMe:aS prog 290=some ⟨.other,1,8,some [.nilFunc]⟩:=by kernel_rfl
theorem aMf:aS prog 291=some ⟨.other,1,8,some [.nilFunc]⟩:=by kernel_rfl
theorem aMg:aS prog 292=some ⟨.other,1,8,some [.nilFunc]⟩:=by kernel_rfl
theorem aMh:aS prog 293=some ⟨.other,1,8,some [.nilFunc]⟩:=by kernel_rfl
theorem aMi:aS prog 294=some ⟨.other,1,8,some [.nilFunc]⟩:=by kernel_rfl
theorem aMj:aS prog 295=some ⟨.int .u32,1,4,some [.int .u32 0]⟩:=by kernel_rfl
theorem aMk:aS prog 296=some ⟨.other,1,8,some [.nilFunc]⟩:=by kernel_rfl
theorem aMl:aS prog 298=some ⟨.other,1,8,some [.nilFunc]⟩:=by kernel_rfl
theorem aMm:aS prog 299=some ⟨.other,1,8,some [.nilFunc]⟩:=by kernel_rfl
theorem aMn:aS prog 300=some ⟨.other,1,8,some [.nilFunc]⟩:=by kernel_rfl
theorem aMo:aS prog 301=some ⟨.other,1,8,some [.nilFunc]⟩:=by kernel_rfl
theorem aMp:aS prog 302=some ⟨.map 3 3,1,8,some [.map none]⟩:=by kernel_rfl
theorem aMq:aS prog 303=some ⟨.other,1,8,some [.nilFunc]⟩:=by kernel_rfl
theorem aMr:aS prog 304=some ⟨.other,1,8,some [.nilFunc]⟩:=by kernel_rfl
theorem aMs:aS prog 305=some ⟨.other,1,8,some [.nilFunc]⟩:=by kernel_rfl
theorem aMt:aS prog 306=some ⟨.other,1,8,some [.nilFunc]⟩:=by kernel_rfl
theorem aMu:aS prog 307=some ⟨.other,1,8,some [.nilFunc]⟩:=by kernel_rfl
theorem aMv:aS prog 308=some ⟨.other,1,8,some [.nilFunc]⟩:=by kernel_rfl
theorem aMw:aS prog 309=some ⟨.other,1,8,some [.nilFunc]⟩:=by kernel_rfl
theorem aMx:aS prog 310=some ⟨.other,1,8,some [.nilFunc]⟩:=by kernel_rfl
theorem aMy:aS prog 311=some ⟨.other,1,8,some [.nilFunc]⟩:=by kernel_rfl
theorem aMz:aS prog 312=some ⟨.other,1,8,some [.nilFunc]⟩:=by kernel_rfl
theorem aNA:aS prog 313=some ⟨.other,1,8,some [.nilFunc]⟩:=by kernel_rfl
theorem aNB:aS prog 314=some ⟨.other,1,8,some [.nilFunc]⟩:=by kernel_rfl
theorem aNC:aS prog 315=some ⟨.ptr 65,1,8,some [.pointer none]⟩:=by kernel_rfl
theorem aND:aS prog 316=some ⟨.ptr 23,1,8,some [.pointer none]⟩:=by kernel_rfl
theorem aNE:aS prog 317=some ⟨.other,1,8,some [.nilFunc]⟩:=by kernel_rfl
theorem aNF:aS prog 318=some ⟨.other,1,8,some [.nilFunc]⟩:=by kernel_rfl
theorem aNG:aS prog 319=some ⟨.other,1,8,some [.nilFunc]⟩:=by kernel_rfl
theorem aNH:aS prog 320=some ⟨.other,1,8,some [.nilFunc]⟩:=by kernel_rfl
theorem aNI:aS prog 321=some ⟨.other,1,8,some [.nilFunc]⟩:=by kernel_rfl
theorem aNJ:aS prog 322=some ⟨.other,1,8,some [.nilFunc]⟩:=by kernel_rfl
theorem aNK:aS prog 323=some ⟨.other,1,8,some [.nilFunc]⟩:=by kernel_rfl
theorem aNL:aS prog 324=some ⟨.struct [(0,3),(1,192),(2,192)],3,24,some [.int .i64 0,.map none,.map none]⟩:=by kernel_rfl
theorem aNM:aS prog 325=some ⟨.struct [(0,3),(1,192),(2,192)],3,24,some [.int .i64 0,.map none,.map none]⟩:=by kernel_rfl
theorem aNN:aS prog 326=some ⟨.slice 331,1,24,some [.slice none 0 0]⟩:=by kernel_rfl
theorem aNO:aS prog 327=some ⟨.slice 329,1,24,some [.slice none 0 0]⟩:=by kernel_rfl
theorem aNP:aS prog 328=some ⟨.map 3 4,1,8,some [.map none]⟩:=by kernel_rfl
theorem aNQ:aS prog 329=some ⟨.map 3 4,1,8,some [.map none]⟩:=by kernel_rfl
theorem aNR:aS prog 330=some ⟨.struct [(0,329),(1,3),(2,4)],3,24,some [.map none,.int .i64 0,.bool false]⟩:=by kernel_rfl
theorem aNS:aS prog 331=some ⟨.struct [(0,329),(1,3),(2,4)],3,24,some [.map none,.int .i64 0,.bool false]⟩:=by kernel_rfl
theorem aNT:aS prog 332=some ⟨.other,1,8,some [.nilFunc]⟩:=by kernel_rfl
theorem aNU:aS prog 333=some ⟨.other,1,8,some [.nilFunc]⟩:=by kernel_rfl
theorem aNV:aS prog 334=some ⟨.other,1,8,some [.nilFunc]⟩:=by kernel_rfl
theorem aNW:aS prog 335=some ⟨.other,1,8,some [.nilFunc]⟩:=by kernel_rfl
theorem aNX:aS prog 336=some ⟨.other,1,8,some [.nilFunc]⟩:=by kernel_rfl
theorem aNY:aS prog 337=some ⟨.other,1,8,some [.nilFunc]⟩:=by kernel_rfl
theorem aNZ:aS prog 338=some ⟨.other,1,8,some [.nilFunc]⟩:=by kernel_rfl
theorem aN0:aS prog 339=some ⟨.other,1,8,some [.nilFunc]⟩:=by kernel_rfl
theorem aN1:aS prog 340=some ⟨.other,1,8,some [.nilFunc]⟩:=by kernel_rfl
theorem aN2:aS prog 341=some ⟨.other,1,8,some [.nilFunc]⟩:=by kernel_rfl
theorem aN3:aS prog 342=some ⟨.other,1,8,some [.nilFunc]⟩:=by kernel_rfl
theorem aN4:aS prog 343=some ⟨.other,1,8,some [.nilFunc]⟩:=by kernel_rfl
theorem aN5:aS prog 344=some ⟨.other,1,8,some [.nilFunc]⟩:=by kernel_rfl
theorem aN6:aS prog 345=some ⟨.other,1,8,some [.nilFunc]⟩:=by kernel_rfl
theorem aN7:aS prog 346=some ⟨.other,1,8,some [.nilFunc]⟩:=by kernel_rfl
theorem aN8:aS prog 348=some ⟨.other,1,8,some [.nilFunc]⟩:=by kernel_rfl
theorem aN9:aS prog 349=some ⟨.other,1,8,some [.nilFunc]⟩:=by kernel_rfl
theorem aNa:aS prog 350=some ⟨.slice 48,1,24,some [.slice none 0 0]⟩:=by kernel_rfl
theorem aNb:aS prog 351=some ⟨.map 9 4,1,8,some [.map none]⟩:=by kernel_rfl
theorem aNc:aS prog 352=some ⟨.ptr 354,1,8,some [.pointer none]⟩:=by kernel_rfl
theorem aNd:aS prog 353=some ⟨.struct [(0,3),(1,37)],2,32,some [.int .i64 0,.slice none 0 0]⟩:=by kernel_rfl
theorem aNe:aS prog 354=some ⟨.struct [(0,3),(1,37)],2,32,some [.int .i64 0,.slice none 0 0]⟩:=by kernel_rfl
theorem aNf:aS prog 355=some ⟨.other,1,8,some [.nilFunc]⟩:=by kernel_rfl
theorem aNg:aS prog 356=some ⟨.other,1,8,some [.nilFunc]⟩:=by kernel_rfl
theorem aNh:aS prog 357=some ⟨.other,1,8,some [.nilFunc]⟩:=by kernel_rfl
theorem aNi:aS prog 358=some ⟨.slice 360,1,24,some [.slice none 0 0]⟩:=by kernel_rfl
theorem aNj:aS prog 359=some ⟨.struct [(0,3),(1,3)],2,16,some [.int .i64 0,.int .i64 0]⟩:=by kernel_rfl
theorem aNk:aS prog 360=some ⟨.struct [(0,3),(1,3)],2,16,some [.int .i64 0,.int .i64 0]⟩:=by kernel_rfl
theorem aNl:aS prog 361=some ⟨.array 2 360,4,32,some [.int .i64 0,.int .i64 0,.int .i64 0,.int .i64 0]⟩:=by kernel_rfl
theorem aNm:aS prog 362=some ⟨.array 6 360,12,96,some [.int .i64 0,.int .i64 0,.int .i64 0,.int .i64 0,.int .i64 0,.int .i64 0,.int .i64 0,.int .i64 0,.int .i64 0,.int .i64 0,.int .i64 0,.int .i64 0]⟩:=by kernel_rfl
theorem aNn:aS prog 363=some ⟨.other,1,8,some [.nilFunc]⟩:=by kernel_rfl
theorem aNo:aS prog 364=some ⟨.other,1,8,some [.nilFunc]⟩:=by kernel_rfl
theorem aNp:aS prog 365=some ⟨.other,1,8,some [.nilFunc]⟩:=by kernel_rfl
theorem aNq:aS prog 366=some ⟨.struct [(0,47),(1,3)],2,32,some [.slice none 0 0,.int .i64 0]⟩:=by kernel_rfl
theorem aNr:aS prog 367=some ⟨.struct [(0,47),(1,3)],2,32,some [.slice none 0 0,.int .i64 0]⟩:=by kernel_rfl
theorem aNs:aS prog 368=some ⟨.struct [(0,367),(2,48)],3,40,some [.slice none 0 0,.int .i64 0,.int .i64 0]⟩:=by kernel_rfl
theorem aNt:aS prog 369=some ⟨.struct [(0,367),(2,48)],3,40,some [.slice none 0 0,.int .i64 0,.int .i64 0]⟩:=by kernel_rfl
theorem aNu:aS prog 370=some ⟨.other,1,8,some [.nilFunc]⟩:=by kernel_rfl
theorem aNv:aS prog 371=some ⟨.other,1,8,some [.nilFunc]⟩:=by kernel_rfl
theorem aNw:aS prog 372=some ⟨.other,1,8,some [.nilFunc]⟩:=by kernel_rfl
theorem aNx:aS prog 374=some ⟨.other,1,8,some [.nilFunc]⟩:=by kernel_rfl
theorem aNy:aS prog 375=some ⟨.other,1,8,some [.nilFunc]⟩:=by kernel_rfl
theorem aNz:aS prog 376=some ⟨.other,1,8,some [.nilFunc]⟩:=by kernel_rfl
theorem aOA:aS prog 377=some ⟨.other,1,8,some [.nilFunc]⟩:=by kernel_rfl
theorem aOB:aS prog 378=some ⟨.other,1,8,some [.nilFunc]⟩:=by kernel_rfl
theorem aOC:aS prog 379=some ⟨.other,1,8,some [.nilFunc]⟩:=by kernel_rfl
theorem aOD:aS prog 380=some ⟨.other,1,8,some [.nilFunc]⟩:=by kernel_rfl
theorem aOE:aS prog 381=some ⟨.other,1,8,some [.nilFunc]⟩:=by kernel_rfl
theorem aOF:aS prog 382=some ⟨.other,1,8,some [.nilFunc]⟩:=by kernel_rfl
theorem aOG:aS prog 383=some ⟨.array 256 4,256,256,some [.bool false,.bool false,.bool false,.bool false,.bool false,.bool false,.bool false,.bool false,.bool false,.bool false,.bool false,.bool false,.bool false,.bool false,.bool false,.bool false,.bool false,.bool false,.bool false,.bool false,.bool false,.bool false,.bool false,.bool false,.bool false,.bool false,.bool false,.bool false,.bool false,.bool false,.bool false,.bool false,.bool false,.bool false,.bool false,.bool false,.bool false,.bool false,.bool false,.bool false,.bool false,.bool false,.bool false,.bool false,.bool false,.bool false,.bool false,.bool false,.bool false,.bool false,.bool false,.bool false,.bool false,.bool false,.bool false,.bool false,.bool false,.bool false,.bool false,.bool false,.bool false,.bool false,.bool false,.bool false,.bool false,.bool false,.bool false,.bool false,.bool false,.bool false,.bool false,.bool false,.bool false,.bool false,.bool false,.bool false,.bool false,.bool false,.bool false,.bool false,.bool false,.bool false,.bool false,.bool false,.bool false,.bool false,.bool false,.bool false,.bool false,.bool false,.bool false,.bool false,.bool false,.bool false,.bool false,.bool false,.bool false,.bool false,.bool false,.bool false,.bool false,.bool false,.bool false,.bool false,.bool false,.bool false,.bool false,.bool false,.bool false,.bool false,.bool false,.bool false,.bool false,.bool false,.bool false,.bool false,.bool false,.bool false,.bool false,.bool false,.bool false,.bool false,.bool false,.bool false,.bool false,.bool false,.bool false,.bool false,.bool false,.bool false,.bool false,.bool false,.bool false,.bool false,.bool false,.bool false,.bool false,.bool false,.bool false,.bool false,.bool false,.bool false,.bool false,.bool false,.bool false,.bool false,.bool false,.bool false,.bool false,.bool false,.bool false,.bool false,.bool false,.bool false,.bool false,.bool false,.bool false,.bool false,.bool false,.bool false,.bool false,.bool false,.bool false,.bool false,.bool false,.bool false,.bool false,.bool false,.bool false,.bool false,.bool false,.bool false,.bool false,.bool false,.bool false,.bool false,.bool false,.bool false,.bool false,.bool false,.bool false,.bool false,.bool false,.bool false,.bool false,.bool false,.bool false,.bool false,.bool false,.bool false,.bool false,.bool false,.bool false,.bool false,.bool false,.bool false,.bool false,.bool false,.bool false,.bool false,.bool false,.bool false,.bool false,.bool false,.bool false,.bool false,.bool false,.bool false,.bool false,.bool false,.bool false,.bool false,.bool false,.bool false,.bool false,.bool false,.bool false,.bool false,.bool false,.bool false,.bool false,.bool false,.bool false,.bool false,.bool false,.bool false,.bool false,.bool false,.bool false,.bool false,.bool false,.bool false,.bool false,.bool false,.bool false,.bool false,.bool false,.bool false,.bool false,.bool false,.bool false,.bool false,.bool false,.bool false,.bool false,.bool false,.bool false,.bool false,.bool false,.bool false,.bool false,.bool false,.bool false,.bool false,.bool false,.bool false]⟩:=by kernel_rfl
theorem aOH:aS prog 384=some ⟨.array 256 4,256,256,some [.bool false,.bool false,.bool false,.bool false,.bool false,.bool false,.bool false,.bool false,.bool false,.bool false,.bool false,.bool false,.bool false,.bool false,.bool false,.bool false,.bool false,.bool false,.bool false,.bool false,.bool false,.bool false,.bool false,.bool false,.bool false,.bool false,.bool false,.bool false,.bool false,.bool false,.bool false,.bool false,.bool false,.bool false,.bool false,.bool false,.bool false,.bool false,.bool false,.bool false,.bool false,.bool false,.bool false,.bool false,.bool false,.bool false,.bool false,.bool false,.bool false,.bool false,.bool false,.bool false,.bool false,.bool false,.bool false,.bool false,.bool false,.bool false,.bool false,.bool false,.bool false,.bool false,.bool false,.bool false,.bool false,.bool false,.bool false,.bool false,.bool false,.bool false,.bool false,.bool false,.bool false,.bool false,.bool false,.bool false,.bool false,.bool false,.bool false,.bool false,.bool false,.bool false,.bool false,.bool false,.bool false,.bool false,.bool false,.bool false,.bool false,.bool false,.bool false,.bool false,.bool false,.bool false,.bool false,.bool false,.bool false,.bool false,.bool false,.bool false,.bool false,.bool false,.bool false,.bool false,.bool false,.bool false,.bool false,.bool false,.bool false,.bool false,.bool false,.bool false,.bool false,.bool false,.bool false,.bool false,.bool false,.bool false,.bool false,.bool false,.bool false,.bool false,.bool false,.bool false,.bool false,.bool false,.bool false,.bool false,.bool false,.bool false,.bool false,.bool false,.bool false,.bool false,.bool false,.bool false,.bool false,.bool false,.bool false,.bool false,.bool false,.bool false,.bool false,.bool false,.bool false,.bool false,.bool false,.bool false,.bool false,.bool false,.bool false,.bool false,.bool false,.bool false,.bool false,.bool false,.bool false,.bool false,.bool false,.bool false,.bool false,.bool false,.bool false,.bool false,.bool false,.bool false,.bool false,.bool false,.bool false,.bool false,.bool false,.bool false,.bool false,.bool false,.bool false,.bool false,.bool false,.bool false,.bool false,.bool false,.bool false,.bool false,.bool false,.bool false,.bool false,.bool false,.bool false,.bool false,.bool false,.bool false,.bool false,.bool false,.bool false,.bool false,.bool false,.bool false,.bool false,.bool false,.bool false,.bool false,.bool false,.bool false,.bool false,.bool false,.bool false,.bool false,.bool false,.bool false,.bool false,.bool false,.bool false,.bool false,.bool false,.bool false,.bool false,.bool false,.bool false,.bool false,.bool false,.bool false,.bool false,.bool false,.bool false,.bool false,.bool false,.bool false,.bool false,.bool false,.bool false,.bool false,.bool false,.bool false,.bool false,.bool false,.bool false,.bool false,.bool false,.bool false,.bool false,.bool false,.bool false,.bool false,.bool false,.bool false,.bool false,.bool false,.bool false,.bool false,.bool false,.bool false,.bool false,.bool false,.bool false,.bool false,.bool false,.bool false]⟩:=by kernel_rfl
theorem aOI:aS prog 386=some ⟨.other,1,8,some [.nilFunc]⟩:=by kernel_rfl
theorem aOJ:aS prog 387=some ⟨.other,1,8,some [.nilFunc]⟩:=by kernel_rfl
theorem aOK:aS prog 388=some ⟨.ptr 384,1,8,some [.pointer none]⟩:=by kernel_rfl
theorem aOL:aS prog 389=some ⟨.other,1,8,some [.nilFunc]⟩:=by kernel_rfl
theorem aOM:aS prog 390=some ⟨.int .i64,1,8,some [.int .i64 0]⟩:=by kernel_rfl
theorem aON:aS prog 392=some ⟨.other,1,8,some [.nilFunc]⟩:=by kernel_rfl
theorem aOO:aS prog 393=some ⟨.other,1,8,some [.nilFunc]⟩:=by kernel_rfl
theorem aOP:aS prog 394=some ⟨.other,1,8,some [.nilFunc]⟩:=by kernel_rfl
theorem aOQ:aS prog 395=some ⟨.other,1,8,some [.nilFunc]⟩:=by kernel_rfl
theorem aOR:aS prog 396=some ⟨.other,1,8,some [.nilFunc]⟩:=by kernel_rfl
theorem aOS:aS prog 397=some ⟨.other,1,8,some [.nilFunc]⟩:=by kernel_rfl
theorem aOT:aS prog 398=some ⟨.other,1,8,some [.nilFunc]⟩:=by kernel_rfl
theorem aOU:aS prog 399=some ⟨.other,1,8,some [.nilFunc]⟩:=by kernel_rfl
theorem aOV:aS prog 400=some ⟨.other,1,8,some [.nilFunc]⟩:=by kernel_rfl
theorem aOW:aS prog 401=some ⟨.other,1,8,some [.nilFunc]⟩:=by kernel_rfl
theorem aOX:aS prog 402=some ⟨.other,1,8,some [.nilFunc]⟩:=by kernel_rfl
theorem aOY:aS prog 403=some ⟨.other,1,8,some [.nilFunc]⟩:=by kernel_rfl
theorem aOZ:aS prog 404=some ⟨.other,1,8,some [.nilFunc]⟩:=by kernel_rfl
theorem aO0:aS prog 405=some ⟨.other,1,8,some [.nilFunc]⟩:=by kernel_rfl
theorem aO1:aS prog 406=some ⟨.other,1,8,some [.nilFunc]⟩:=by kernel_rfl
theorem aO2:aS prog 407=some ⟨.other,1,8,some [.nilFunc]⟩:=by kernel_rfl
theorem aO3:aS prog 408=some ⟨.other,1,8,some [.nilFunc]⟩:=by kernel_rfl
theorem aO4:aS prog 409=some ⟨.other,1,8,some [.nilFunc]⟩:=by kernel_rfl
theorem aO5:aS prog 410=some ⟨.other,1,8,some [.nilFunc]⟩:=by kernel_rfl
theorem aO6:aS prog 411=some ⟨.other,1,8,some [.nilFunc]⟩:=by kernel_rfl
theorem aO7:aS prog 412=some ⟨.slice 316,1,24,some [.slice none 0 0]⟩:=by kernel_rfl
theorem aO8:aS prog 413=some ⟨.other,1,8,some [.nilFunc]⟩:=by kernel_rfl
theorem aO9:aS prog 414=some ⟨.other,1,8,some [.nilFunc]⟩:=by kernel_rfl
theorem aOa:aS prog 415=some ⟨.other,1,8,some [.nilFunc]⟩:=by kernel_rfl
theorem aOb:aS prog 416=some ⟨.other,1,8,some [.nilFunc]⟩:=by kernel_rfl
theorem aOc:aS prog 417=some ⟨.other,1,8,some [.nilFunc]⟩:=by kernel_rfl
theorem aOd:aS prog 418=some ⟨.other,1,8,some [.nilFunc]⟩:=by kernel_rfl
theorem aOe:aS prog 419=some ⟨.other,1,8,some [.nilFunc]⟩:=by kernel_rfl
theorem aOf:aS prog 420=some ⟨.other,1,8,some [.nilFunc]⟩:=by kernel_rfl
theorem aOg:aS prog 421=some ⟨.other,1,8,some [.nilFunc]⟩:=by kernel_rfl
theorem aOh:aS prog 422=some ⟨.other,1,8,some [.nilFunc]⟩:=by kernel_rfl
theorem aOi:aS prog 423=some ⟨.array 24 5,24,24,some [.int .u8 0,.int .u8 0,.int .u8 0,.int .u8 0,.int .u8 0,.int .u8 0,.int .u8 0,.int .u8 0,.int .u8 0,.int .u8 0,.int .u8 0,.int .u8 0,.int .u8 0,.int .u8 0,.int .u8 0,.int .u8 0,.int .u8 0,.int .u8 0,.int .u8 0,.int .u8 0,.int .u8 0,.int .u8 0,.int .u8 0,.int .u8 0]⟩:=by kernel_rfl
theorem aOj:aS prog 424=some ⟨.other,1,8,some [.nilFunc]⟩:=by kernel_rfl
theorem aOk:aS prog 426=some ⟨.other,1,8,some [.nilFunc]⟩:=by kernel_rfl
theorem aOl:aS prog 427=some ⟨.other,1,8,some [.nilFunc]⟩:=by kernel_rfl
theorem aOm:aS prog 428=some ⟨.other,1,8,some [.nilFunc]⟩:=by kernel_rfl
theorem aOn:aS prog 429=some ⟨.other,1,8,some [.nilFunc]⟩:=by kernel_rfl
theorem aOo:aS prog 431=some ⟨.other,1,8,some [.nilFunc]⟩:=by kernel_rfl
theorem aOp:aS prog 432=some ⟨.other,1,8,some [.nilFunc]⟩:=by kernel_rfl
theorem aOq:aS prog 433=some ⟨.other,1,8,some [.nilFunc]⟩:=by kernel_rfl
theorem aOr:aS prog 434=some ⟨.other,1,8,some [.nilFunc]⟩:=by kernel_rfl
theorem aOs:aS prog 435=some ⟨.struct [(0,3),(1,48)],2,16,some [.int .i64 0,.int .i64 0]⟩:=by kernel_rfl
theorem aOt:aS prog 436=some ⟨.struct [(0,3),(1,48)],2,16,some [.int .i64 0,.int .i64 0]⟩:=by kernel_rfl
theorem aOu:aS prog 437=some ⟨.other,1,8,some [.nilFunc]⟩:=by kernel_rfl
theorem aOv:aS prog 438=some ⟨.other,1,8,some [.nilFunc]⟩:=by kernel_rfl
theorem aOw:aS prog 439=some ⟨.other,1,8,some [.nilFunc]⟩:=by kernel_rfl
theorem aOx:aS prog 441=some ⟨.other,1,8,some [.nilFunc]⟩:=by kernel_rfl
theorem aOy:aS prog 442=some ⟨.other,1,8,some [.nilFunc]⟩:=by kernel_rfl
theorem aOz:aS prog 443=some ⟨.other,1,8,some [.nilFunc]⟩:=by kernel_rfl
theorem aPA:aS prog 444=some ⟨.other,1,8,some [.nilFunc]⟩:=by kernel_rfl
theorem aPB:aS prog 445=some ⟨.other,1,8,some [.nilFunc]⟩:=by kernel_rfl
theorem aPC:aS prog 446=some ⟨.other,1,8,some [.nilFunc]⟩:=by kernel_rfl
theorem aPD:aS prog 447=some ⟨.other,1,8,some [.nilFunc]⟩:=by kernel_rfl
theorem aPE:aS prog 448=some ⟨.other,1,8,some [.nilFunc]⟩:=by kernel_rfl
theorem aPF:aS prog 449=some ⟨.other,1,8,some [.nilFunc]⟩:=by kernel_rfl
theorem aPG:aS prog 450=some ⟨.array 6 449,6,48,some [.nilFunc,.nilFunc,.nilFunc,.nilFunc,.nilFunc,.nilFunc]⟩:=by kernel_rfl
theorem aPH:aS prog 451=some ⟨.other,1,8,some [.nilFunc]⟩:=by kernel_rfl
theorem aPI:aS prog 453=some ⟨.other,1,8,some [.nilFunc]⟩:=by kernel_rfl
theorem aPJ:aS prog 454=some ⟨.other,1,8,some [.nilFunc]⟩:=by kernel_rfl
theorem aPK:aS prog 455=some ⟨.int .u64,1,8,some [.int .u64 0]⟩:=by kernel_rfl
theorem aPL:aS prog 456=some ⟨.other,1,8,some [.nilFunc]⟩:=by kernel_rfl
theorem aPM:aS prog 457=some ⟨.other,1,8,some [.nilFunc]⟩:=by kernel_rfl
theorem aPN:aS prog 458=some ⟨.other,1,8,some [.nilFunc]⟩:=by kernel_rfl
theorem aPO:aS prog 459=some ⟨.ptr 3,1,8,some [.pointer none]⟩:=by kernel_rfl
theorem aPQ:aS prog 460=some ⟨.other,1,8,some [.nilFunc]⟩:=by kernel_rfl
theorem aPR:aS prog 461=some ⟨.other,1,8,some [.nilFunc]⟩:=by kernel_rfl
theorem aPS:aS prog 462=some ⟨.other,1,8,some [.nilFunc]⟩:=by kernel_rfl
theorem aPT:aS prog 463=some ⟨.array 256 295,256,1024,some [.int .u32 0,.int .u32 0,.int .u32 0,.int .u32 0,.int .u32 0,.int .u32 0,.int .u32 0,.int .u32 0,.int .u32 0,.int .u32 0,.int .u32 0,.int .u32 0,.int .u32 0,.int .u32 0,.int .u32 0,.int .u32 0,.int .u32 0,.int .u32 0,.int .u32 0,.int .u32 0,.int .u32 0,.int .u32 0,.int .u32 0,.int .u32 0,.int .u32 0,.int .u32 0,.int .u32 0,.int .u32 0,.int .u32 0,.int .u32 0,.int .u32 0,.int .u32 0,.int .u32 0,.int .u32 0,.int .u32 0,.int .u32 0,.int .u32 0,.int .u32 0,.int .u32 0,.int .u32 0,.int .u32 0,.int .u32 0,.int .u32 0,.int .u32 0,.int .u32 0,.int .u32 0,.int .u32 0,.int .u32 0,.int .u32 0,.int .u32 0,.int .u32 0,.int .u32 0,.int .u32 0,.int .u32 0,.int .u32 0,.int .u32 0,.int .u32 0,.int .u32 0,.int .u32 0,.int .u32 0,.int .u32 0,.int .u32 0,.int .u32 0,.int .u32 0,.int .u32 0,.int .u32 0,.int .u32 0,.int .u32 0,.int .u32 0,.int .u32 0,.int .u32 0,.int .u32 0,.int .u32 0,.int .u32 0,.int .u32 0,.int .u32 0,.int .u32 0,.int .u32 0,.int .u32 0,.int .u32 0,.int .u32 0,.int .u32 0,.int .u32 0,.int .u32 0,.int .u32 0,.int .u32 0,.int .u32 0,.int .u32 0,.int .u32 0,.int .u32 0,.int .u32 0,.int .u32 0,.int .u32 0,.int .u32 0,.int .u32 0,.int .u32 0,.int .u32 0,.int .u32 0,.int .u32 0,.int .u32 0,.int .u32 0,.int .u32 0,.int .u32 0,.int .u32 0,.int .u32 0,.int .u32 0,.int .u32 0,.int .u32 0,.int .u32 0,.int .u32 0,.int .u32 0,.int .u32 0,.int .u32 0,.int .u32 0,.int .u32 0,.int .u32 0,.int .u32 0,.int .u32 0,.int .u32 0,.int .u32 0,.int .u32 0,.int .u32 0,.int .u32 0,.int .u32 0,.int .u32 0,.int .u32 0,.int .u32 0,.int .u32 0,.int .u32 0,.int .u32 0,.int .u32 0,.int .u32 0,.int .u32 0,.int .u32 0,.int .u32 0,.int .u32 0,.int .u32 0,.int .u32 0,.int .u32 0,.int .u32 0,.int .u32 0,.int .u32 0,.int .u32 0,.int .u32 0,.int .u32 0,.int .u32 0,.int .u32 0,.int .u32 0,.int .u32 0,.int .u32 0,.int .u32 0,.int .u32 0,.int .u32 0,.int .u32 0,.int .u32 0,.int .u32 0,.int .u32 0,.int .u32 0,.int .u32 0,.int .u32 0,.int .u32 0,.int .u32 0,.int .u32 0,.int .u32 0,.int .u32 0,.int .u32 0,.int .u32 0,.int .u32 0,.int .u32 0,.int .u32 0,.int .u32 0,.int .u32 0,.int .u32 0,.int .u32 0,.int .u32 0,.int .u32 0,.int .u32 0,.int .u32 0,.int .u32 0,.int .u32 0,.int .u32 0,.int .u32 0,.int .u32 0,.int .u32 0,.int .u32 0,.int .u32 0,.int .u32 0,.int .u32 0,.int .u32 0,.int .u32 0,.int .u32 0,.int .u32 0,.int .u32 0,.int .u32 0,.int .u32 0,.int .u32 0,.int .u32 0,.int .u32 0,.int .u32 0,.int .u32 0,.int .u32 0,.int .u32 0,.int .u32 0,.int .u32 0,.int .u32 0,.int .u32 0,.int .u32 0,.int .u32 0,.int .u32 0,.int .u32 0,.int .u32 0,.int .u32 0,.int .u32 0,.int .u32 0,.int .u32 0,.int .u32 0,.int .u32 0,.int .u32 0,.int .u32 0,.int .u32 0,.int .u32 0,.int .u32 0,.int .u32 0,.int .u32 0,.int .u32 0,.int .u32 0,.int .u32 0,.int .u32 0,.int .u32 0,.int .u32 0,.int .u32 0,.int .u32 0,.int .u32 0,.int .u32 0,.int .u32 0,.int .u32 0,.int .u32 0,.int .u32 0,.int .u32 0,.int .u32 0,.int .u32 0,.int .u32 0,.int .u32 0,.int .u32 0,.int .u32 0,.int .u32 0,.int .u32 0,.int .u32 0,.int .u32 0,.int .u32 0,.int .u32 0,.int .u32 0,.int .u32 0,.int .u32 0,.int .u32 0,.int .u32 0]⟩:=by kernel_rfl
theorem aPU:aS prog 464=some ⟨.other,1,8,some [.nilFunc]⟩:=by kernel_rfl
theorem aPV:aS prog 465=some ⟨.other,1,8,some [.nilFunc]⟩:=by kernel_rfl
theorem aPW:aS prog 466=some ⟨.other,1,8,some [.nilFunc]⟩:=by kernel_rfl
theorem aPX:aS prog 467=some ⟨.other,1,8,some [.nilFunc]⟩:=by kernel_rfl
theorem aPY:aS prog 468=some ⟨.other,1,8,some [.nilFunc]⟩:=by kernel_rfl
theorem aPZ:aS prog 469=some ⟨.other,1,8,some [.nilFunc]⟩:=by kernel_rfl
theorem aP0:aS prog 470=some ⟨.other,1,8,some [.nilFunc]⟩:=by kernel_rfl
theorem aP1:aS prog 471=some ⟨.other,1,8,some [.nilFunc]⟩:=by kernel_rfl
theorem aP2:aS prog 473=some ⟨.other,1,8,some [.nilFunc]⟩:=by kernel_rfl
theorem aP3:aS prog 474=some ⟨.other,1,8,some [.nilFunc]⟩:=by kernel_rfl
theorem aP4:aS prog 475=some ⟨.other,1,8,some [.nilFunc]⟩:=by kernel_rfl
theorem aP5:aS prog 476=some ⟨.other,1,8,some [.nilFunc]⟩:=by kernel_rfl
theorem aP6:aS prog 477=some ⟨.other,1,8,some [.nilFunc]⟩:=by kernel_rfl
theorem aP7:aS prog 478=some ⟨.other,1,8,some [.nilFunc]⟩:=by kernel_rfl
theorem aP8:aS prog 479=some ⟨.other,1,8,some [.nilFunc]⟩:=by kernel_rfl
theorem aP9:aS prog 480=some ⟨.other,1,8,some [.nilFunc]⟩:=by kernel_rfl
theorem aPa:aS prog 481=some ⟨.other,1,8,some [.nilFunc]⟩:=by kernel_rfl
theorem aPb:aS prog 482=some ⟨.other,1,8,some [.nilFunc]⟩:=by kernel_rfl
theorem aPc:aS prog 483=some ⟨.other,1,8,some [.nilFunc]⟩:=by kernel_rfl
theorem aPd:aS prog 484=some ⟨.other,1,8,some [.nilFunc]⟩:=by kernel_rfl
theorem aPe:aS prog 485=some ⟨.array 20 184,20,160,some [.int .u64 0,.int .u64 0,.int .u64 0,.int .u64 0,.int .u64 0,.int .u64 0,.int .u64 0,.int .u64 0,.int .u64 0,.int .u64 0,.int .u64 0,.int .u64 0,.int .u64 0,.int .u64 0,.int .u64 0,.int .u64 0,.int .u64 0,.int .u64 0,.int .u64 0,.int .u64 0]⟩:=by kernel_rfl
theorem aPf:aS prog 486=some ⟨.array 65 5,65,65,some [.int .u8 0,.int .u8 0,.int .u8 0,.int .u8 0,.int .u8 0,.int .u8 0,.int .u8 0,.int .u8 0,.int .u8 0,.int .u8 0,.int .u8 0,.int .u8 0,.int .u8 0,.int .u8 0,.int .u8 0,.int .u8 0,.int .u8 0,.int .u8 0,.int .u8 0,.int .u8 0,.int .u8 0,.int .u8 0,.int .u8 0,.int .u8 0,.int .u8 0,.int .u8 0,.int .u8 0,.int .u8 0,.int .u8 0,.int .u8 0,.int .u8 0,.int .u8 0,.int .u8 0,.int .u8 0,.int .u8 0,.int .u8 0,.int .u8 0,.int .u8 0,.int .u8 0,.int .u8 0,.int .u8 0,.int .u8 0,.int .u8 0,.int .u8 0,.int .u8 0,.int .u8 0,.int .u8 0,.int .u8 0,.int .u8 0,.int .u8 0,.int .u8 0,.int .u8 0,.int .u8 0,.int .u8 0,.int .u8 0,.int .u8 0,.int .u8 0,.int .u8 0,.int .u8 0,.int .u8 0,.int .u8 0,.int .u8 0,.int .u8 0,.int .u8 0,.int .u8 0]⟩:=by kernel_rfl
theorem aPg:aS prog 487=some ⟨.other,1,8,some [.nilFunc]⟩:=by kernel_rfl
theorem aPh:aS prog 489=some ⟨.other,1,8,some [.nilFunc]⟩:=by kernel_rfl
theorem aPi:aS prog 490=some ⟨.other,1,8,some [.nilFunc]⟩:=by kernel_rfl
theorem aPj:aS prog 493=some ⟨.other,1,8,some [.nilFunc]⟩:=by kernel_rfl
theorem aPk:aS prog 494=some ⟨.other,1,8,some [.nilFunc]⟩:=by kernel_rfl
theorem aPl:aS prog 495=some ⟨.other,1,8,some [.nilFunc]⟩:=by kernel_rfl
theorem aPm:aS prog 496=some ⟨.other,1,8,some [.nilFunc]⟩:=by kernel_rfl
theorem aPn:aS prog 497=some ⟨.array 5 496,5,40,some [.nilFunc,.nilFunc,.nilFunc,.nilFunc,.nilFunc]⟩:=by kernel_rfl
theorem aPo:aS prog 498=some ⟨.other,1,8,some [.nilFunc]⟩:=by kernel_rfl
theorem aPp:aS prog 499=some ⟨.other,1,8,some [.nilFunc]⟩:=by kernel_rfl
theorem aPq:aS prog 500=some ⟨.other,1,8,some [.nilFunc]⟩:=by kernel_rfl
theorem aPr:aS prog 501=some ⟨.other,1,8,some [.nilFunc]⟩:=by kernel_rfl
theorem aPs:aS prog 502=some ⟨.ptr 455,1,8,some [.pointer none]⟩:=by kernel_rfl
theorem aPt:aS prog 503=some ⟨.other,1,8,some [.nilFunc]⟩:=by kernel_rfl
theorem aPu:aS prog 504=some ⟨.other,1,8,some [.nilFunc]⟩:=by kernel_rfl
theorem aPv:aS prog 505=some ⟨.other,1,8,some [.nilFunc]⟩:=by kernel_rfl
theorem aPw:aS prog 506=some ⟨.other,1,8,some [.nilFunc]⟩:=by kernel_rfl
theorem aPx:aS prog 508=some ⟨.other,1,8,some [.nilFunc]⟩:=by kernel_rfl
theorem aPy:aS prog 510=some ⟨.other,1,8,some [.nilFunc]⟩:=by kernel_rfl
theorem aPz:aS prog 511=some ⟨.array 256 5,256,256,some [.int .u8 0,.int .u8 0,.int .u8 0,.int .u8 0,.int .u8 0,.int .u8 0,.int .u8 0,.int .u8 0,.int .u8 0,.int .u8 0,.int .u8 0,.int .u8 0,.int .u8 0,.int .u8 0,.int .u8 0,.int .u8 0,.int .u8 0,.int .u8 0,.int .u8 0,.int .u8 0,.int .u8 0,.int .u8 0,.int .u8 0,.int .u8 0,.int .u8 0,.int .u8 0,.int .u8 0,.int .u8 0,.int .u8 0,.int .u8 0,.int .u8 0,.int .u8 0,.int .u8 0,.int .u8 0,.int .u8 0,.int .u8 0,.int .u8 0,.int .u8 0,.int .u8 0,.int .u8 0,.int .u8 0,.int .u8 0,.int .u8 0,.int .u8 0,.int .u8 0,.int .u8 0,.int .u8 0,.int .u8 0,.int .u8 0,.int .u8 0,.int .u8 0,.int .u8 0,.int .u8 0,.int .u8 0,.int .u8 0,.int .u8 0,.int .u8 0,.int .u8 0,.int .u8 0,.int .u8 0,.int .u8 0,.int .u8 0,.int .u8 0,.int .u8 0,.int .u8 0,.int .u8 0,.int .u8 0,.int .u8 0,.int .u8 0,.int .u8 0,.int .u8 0,.int .u8 0,.int .u8 0,.int .u8 0,.int .u8 0,.int .u8 0,.int .u8 0,.int .u8 0,.int .u8 0,.int .u8 0,.int .u8 0,.int .u8 0,.int .u8 0,.int .u8 0,.int .u8 0,.int .u8 0,.int .u8 0,.int .u8 0,.int .u8 0,.int .u8 0,.int .u8 0,.int .u8 0,.int .u8 0,.int .u8 0,.int .u8 0,.int .u8 0,.int .u8 0,.int .u8 0,.int .u8 0,.int .u8 0,.int .u8 0,.int .u8 0,.int .u8 0,.int .u8 0,.int .u8 0,.int .u8 0,.int .u8 0,.int .u8 0,.int .u8 0,.int .u8 0,.int .u8 0,.int .u8 0,.int .u8 0,.int .u8 0,.int .u8 0,.int .u8 0,.int .u8 0,.int .u8 0,.int .u8 0,.int .u8 0,.int .u8 0,.int .u8 0,.int .u8 0,.int .u8 0,.int .u8 0,.int .u8 0,.int .u8 0,.int .u8 0,.int .u8 0,.int .u8 0,.int .u8 0,.int .u8 0,.int .u8 0,.int .u8 0,.int .u8 0,.int .u8 0,.int .u8 0,.int .u8 0,.int .u8 0,.int .u8 0,.int .u8 0,.int .u8 0,.int .u8 0,.int .u8 0,.int .u8 0,.int .u8 0,.int .u8 0,.int .u8 0,.int .u8 0,.int .u8 0,.int .u8 0,.int .u8 0,.int .u8 0,.int .u8 0,.int .u8 0,.int .u8 0,.int .u8 0,.int .u8 0,.int .u8 0,.int .u8 0,.int .u8 0,.int .u8 0,.int .u8 0,.int .u8 0,.int .u8 0,.int .u8 0,.int .u8 0,.int .u8 0,.int .u8 0,.int .u8 0,.int .u8 0,.int .u8 0,.int .u8 0,.int .u8 0,.int .u8 0,.int .u8 0,.int .u8 0,.int .u8 0,.int .u8 0,.int .u8 0,.int .u8 0,.int .u8 0,.int .u8 0,.int .u8 0,.int .u8 0,.int .u8 0,.int .u8 0,.int .u8 0,.int .u8 0,.int .u8 0,.int .u8 0,.int .u8 0,.int .u8 0,.int .u8 0,.int .u8 0,.int .u8 0,.int .u8 0,.int .u8 0,.int .u8 0,.int .u8 0,.int .u8 0,.int .u8 0,.int .u8 0,.int .u8 0,.int .u8 0,.int .u8 0,.int .u8 0,.int .u8 0,.int .u8 0,.int .u8 0,.int .u8 0,.int .u8 0,.int .u8 0,.int .u8 0,.int .u8 0,.int .u8 0,.int .u8 0,.int .u8 0,.int .u8 0,.int .u8 0,.int .u8 0,.int .u8 0,.int .u8 0,.int .u8 0,.int .u8 0,.int .u8 0,.int .u8 0,.int .u8 0,.int .u8 0,.int .u8 0,.int .u8 0,.int .u8 0,.int .u8 0,.int .u8 0,.int .u8 0,.int .u8 0,.int .u8 0,.int .u8 0,.int .u8 0,.int .u8 0,.int .u8 0,.int .u8 0,.int .u8 0,.int .u8 0,.int .u8 0,.int .u8 0,.int .u8 0,.int .u8 0,.int .u8 0,.int .u8 0,.int .u8 0,.int .u8 0,.int .u8 0,.int .u8 0,.int .u8 0,.int .u8 0]⟩:=by kernel_rfl
theorem aQA:aS prog 512=some ⟨.other,1,8,some [.nilFunc]⟩:=by kernel_rfl
theorem aQB:aS prog 513=some ⟨.other,1,8,some [.nilFunc]⟩:=by kernel_rfl
theorem aQC:aS prog 514=some ⟨.other,1,8,some [.nilFunc]⟩:=by kernel_rfl
theorem aQD:aS prog 515=some ⟨.ptr 331,1,8,some [.pointer none]⟩:=by kernel_rfl
theorem aQE:aS prog 516=some ⟨.other,1,8,some [.nilFunc]⟩:=by kernel_rfl
theorem aQF:aS prog 517=some ⟨.other,1,8,some [.nilFunc]⟩:=by kernel_rfl
theorem aQG:aS prog 518=some ⟨.other,1,8,some [.nilFunc]⟩:=by kernel_rfl
theorem aQH:aS prog 519=some ⟨.other,1,8,some [.nilFunc]⟩:=by kernel_rfl
theorem aQI:aS prog 520=some ⟨.other,1,8,some [.nilFunc]⟩:=by kernel_rfl
theorem aQJ:aS prog 521=some ⟨.struct [(0,5),(1,5)],2,2,some [.int .u8 0,.int .u8 0]⟩:=by kernel_rfl
theorem aQK:aS prog 522=some ⟨.struct [(0,5),(1,5)],2,2,some [.int .u8 0,.int .u8 0]⟩:=by kernel_rfl
theorem aQL:aS prog 523=some ⟨.array 16 522,32,32,some [.int .u8 0,.int .u8 0,.int .u8 0,.int .u8 0,.int .u8 0,.int .u8 0,.int .u8 0,.int .u8 0,.int .u8 0,.int .u8 0,.int .u8 0,.int .u8 0,.int .u8 0,.int .u8 0,.int .u8 0,.int .u8 0,.int .u8 0,.int .u8 0,.int .u8 0,.int .u8 0,.int .u8 0,.int .u8 0,.int .u8 0,.int .u8 0,.int .u8 0,.int .u8 0,.int .u8 0,.int .u8 0,.int .u8 0,.int .u8 0,.int .u8 0,.int .u8 0]⟩:=by kernel_rfl
theorem aQM:aS prog 524=some ⟨.other,1,8,some [.nilFunc]⟩:=by kernel_rfl
theorem aQN:aS prog 525=some ⟨.other,1,8,some [.nilFunc]⟩:=by kernel_rfl
theorem aQO:aS prog 526=some ⟨.slice 528,1,24,some [.slice none 0 0]⟩:=by kernel_rfl
theorem aQP:aS prog 527=some ⟨.struct [(0,3),(1,3)],2,16,some [.int .i64 0,.int .i64 0]⟩:=by kernel_rfl
theorem aQQ:aS prog 528=some ⟨.struct [(0,3),(1,3)],2,16,some [.int .i64 0,.int .i64 0]⟩:=by kernel_rfl
theorem aQR:aS prog 529=some ⟨.other,1,8,some [.nilFunc]⟩:=by kernel_rfl
theorem aQS:aS prog 530=some ⟨.ptr 538,1,8,some [.pointer none]⟩:=by kernel_rfl
theorem aQT:aS prog 531=some ⟨.other,1,8,some [.nilFunc]⟩:=by kernel_rfl
theorem aQU:aS prog 532=some ⟨.array 32 5,32,32,some [.int .u8 0,.int .u8 0,.int .u8 0,.int .u8 0,.int .u8 0,.int .u8 0,.int .u8 0,.int .u8 0,.int .u8 0,.int .u8 0,.int .u8 0,.int .u8 0,.int .u8 0,.int .u8 0,.int .u8 0,.int .u8 0,.int .u8 0,.int .u8 0,.int .u8 0,.int .u8 0,.int .u8 0,.int .u8 0,.int .u8 0,.int .u8 0,.int .u8 0,.int .u8 0,.int .u8 0,.int .u8 0,.int .u8 0,.int .u8 0,.int .u8 0,.int .u8 0]⟩:=by kernel_rfl
theorem aQV:aS prog 533=some ⟨.array 64 5,64,64,some [.int .u8 0,.int .u8 0,.int .u8 0,.int .u8 0,.int .u8 0,.int .u8 0,.int .u8 0,.int .u8 0,.int .u8 0,.int .u8 0,.int .u8 0,.int .u8 0,.int .u8 0,.int .u8 0,.int .u8 0,.int .u8 0,.int .u8 0,.int .u8 0,.int .u8 0,.int .u8 0,.int .u8 0,.int .u8 0,.int .u8 0,.int .u8 0,.int .u8 0,.int .u8 0,.int .u8 0,.int .u8 0,.int .u8 0,.int .u8 0,.int .u8 0,.int .u8 0,.int .u8 0,.int .u8 0,.int .u8 0,.int .u8 0,.int .u8 0,.int .u8 0,.int .u8 0,.int .u8 0,.int .u8 0,.int .u8 0,.int .u8 0,.int .u8 0,.int .u8 0,.int .u8 0,.int .u8 0,.int .u8 0,.int .u8 0,.int .u8 0,.int .u8 0,.int .u8 0,.int .u8 0,.int .u8 0,.int .u8 0,.int .u8 0,.int .u8 0,.int .u8 0,.int .u8 0,.int .u8 0,.int .u8 0,.int .u8 0,.int .u8 0,.int .u8 0]⟩:=by kernel_rfl
theorem aQW:aS prog 534=some ⟨.other,1,8,some [.nilFunc]⟩:=by kernel_rfl
theorem aQX:aS prog 535=some ⟨.slice 541,1,24,some [.slice none 0 0]⟩:=by kernel_rfl
theorem aQY:aS prog 536=some ⟨.slice 544,1,24,some [.slice none 0 0]⟩:=by kernel_rfl
theorem aQZ:aS prog 537=some ⟨.struct [(0,535),(1,536),(2,3)],3,56,some [.slice none 0 0,.slice none 0 0,.int .i64 0]⟩:=by kernel_rfl
theorem aQ0:aS prog 538=some ⟨.struct [(0,535),(1,536),(2,3)],3,56,some [.slice none 0 0,.slice none 0 0,.int .i64 0]⟩:=by kernel_rfl
theorem aQ1:aS prog 539=some ⟨.int .u16,1,2,some [.int .u16 0]⟩:=by kernel_rfl
theorem aQ2:aS prog 540=some ⟨.struct [(0,539),(1,539),(2,539)],3,6,some [.int .u16 0,.int .u16 0,.int .u16 0]⟩:=by kernel_rfl
theorem aQ3:aS prog 541=some ⟨.struct [(0,539),(1,539),(2,539)],3,6,some [.int .u16 0,.int .u16 0,.int .u16 0]⟩:=by kernel_rfl
theorem aQ4:aS prog 542=some ⟨.other,1,8,some [.nilFunc]⟩:=by kernel_rfl
theorem aQ5:aS prog 543=some ⟨.struct [(0,295),(1,295),(2,295)],3,12,some [.int .u32 0,.int .u32 0,.int .u32 0]⟩:=by kernel_rfl
theorem aQ6:aS prog 544=some ⟨.struct [(0,295),(1,295),(2,295)],3,12,some [.int .u32 0,.int .u32 0,.int .u32 0]⟩:=by kernel_rfl
theorem aQ7:aS prog 545=some ⟨.other,1,8,some [.nilFunc]⟩:=by kernel_rfl
theorem aQ8:aS prog 546=some ⟨.other,1,8,some [.nilFunc]⟩:=by kernel_rfl
theorem aQ9:aS prog 547=some ⟨.ptr 541,1,8,some [.pointer none]⟩:=by kernel_rfl
theorem aQa:aS prog 548=some ⟨.ptr 544,1,8,some [.pointer none]⟩:=by kernel_rfl
theorem aQb:aS prog 549=some ⟨.struct [(0,17),(1,17),(2,17),(3,9)],4,40,some [.pointer none,.pointer none,.pointer none,.string ByteArray.empty]⟩:=by kernel_rfl
theorem aQc:aS prog 550=some ⟨.struct [(0,17),(1,17),(2,17),(3,9)],4,40,some [.pointer none,.pointer none,.pointer none,.string ByteArray.empty]⟩:=by kernel_rfl
theorem aQd:aS prog 551=some ⟨.array 0 16,0,0,some []⟩:=by kernel_rfl
theorem aQe:aS prog 552=some ⟨.struct [(0,551)],0,0,some []⟩:=by kernel_rfl
theorem aQf:aS prog 553=some ⟨.struct [(0,551)],0,0,some []⟩:=by kernel_rfl
theorem aQg:aS prog 554=some ⟨.int .u8,1,1,some [.int .u8 0]⟩:=by kernel_rfl
theorem aQh:aS prog 555=some ⟨.int .u8,1,1,some [.int .u8 0]⟩:=by kernel_rfl
theorem aQi:aS prog 556=some ⟨.other,1,8,some [.nilFunc]⟩:=by kernel_rfl
theorem aQj:aS prog 557=some ⟨.int .i32,1,4,some [.int .i32 0]⟩:=by kernel_rfl
theorem aQk:aS prog 558=some ⟨.int .i32,1,4,some [.int .i32 0]⟩:=by kernel_rfl
theorem aQl:aS prog 559=some ⟨.struct [(0,12),(1,12),(2,295),(3,554),(4,5),(5,5),(6,555),(7,556),(8,246),(9,557),(10,558)],11,48,some [.int .u64 0,.int .u64 0,.int .u32 0,.int .u8 0,.int .u8 0,.int .u8 0,.int .u8 0,.nilFunc,.pointer none,.int .i32 0,.int .i32 0]⟩:=by kernel_rfl
theorem aQm:aS prog 560=some ⟨.struct [(0,12),(1,12),(2,295),(3,554),(4,5),(5,5),(6,555),(7,556),(8,246),(9,557),(10,558)],11,48,some [.int .u64 0,.int .u64 0,.int .u32 0,.int .u8 0,.int .u8 0,.int .u8 0,.int .u8 0,.nilFunc,.pointer none,.int .i32 0,.int .i32 0]⟩:=by kernel_rfl
end Go.Proofs.YtelbfbioomcmeaaGreatDoor

