/- Lemmas and contracts of functions, several texts in one. -/
import Derived.Test.YtelbfbioomcmeaaGreatDoorQ08
import Derived.Test.YtelbfbioomcmeaaGreatDoorQ07
import Derived.RangeFuncIn
import Derived.RangeFuncRecord
import Derived.RangeFuncLeaves
import Derived.RangeFuncSeq
set_option maxRecDepth 100000
set_option maxHeartbeats 4000000
set_option linter.all false
namespace Go.Proofs.YtelbfbioomcmeaaGreatDoor
open Go.RowKit
open Tryz
theorem OV {α β:Type} (f:α->β) (l:List α):List.take l.length (List.map f l)=List.map f l:=dQ (by rw[bK];exact fA _)
def vB0:=And.intro @R2 (And.intro @aCW (And.intro @gV (And.intro @l4 (And.intro @lV (And.intro @kN (And.intro @yF (And.intro @oN (And.intro @aCz (And.intro @vD (And.intro @aG6 (@aBL)))))))))))
def vB1:=And.intro @aDd (And.intro @YZ (And.intro @aEI (And.intro @oH (And.intro @aEH (And.intro @aDe (And.intro @ZY (And.intro @aE2 (And.intro @aCK (And.intro @UN (And.intro @ZW (@RP)))))))))))
def vB2:=And.intro @aE3 (And.intro @RO (And.intro @U0 (And.intro @aDa (And.intro @fT.{0,0} (And.intro @pM.{0,0} (And.intro @l7.{0} (And.intro @uF.{0} (And.intro @List.getElem?_nil.{0} (And.intro @List.getD_cons_zero.{0} (And.intro @List.getD_cons_succ.{0} (@List.getD_nil.{0})))))))))))
def vB3:=And.intro @iY.{0} (And.intro @List.drop_succ_cons.{0} (And.intro @List.take_succ_cons.{0} (And.intro @pL.{0} (And.intro @fN.{0} (And.intro @mS.{0} (And.intro @fR.{0} (And.intro @eT.{0} (And.intro @kX.{0} (And.intro @List.set_cons_zero.{0} (And.intro @List.set_cons_succ.{0} (@l8.{0})))))))))))
def vB4:=And.intro @oS.{0} (And.intro @Option.isSome_some.{0} (And.intro @jV.{0,0} (And.intro @Option.map_none.{0,0} (And.intro @Option.bind_some.{0,0} (And.intro @nW (And.intro @kH (And.intro @cT (And.intro @jU (And.intro @decide_eq_false_iff_not (And.intro @wA (@Bool.not_eq_false')))))))))))
def vB5:=And.intro @wF (And.intro @tQ (And.intro @and_true (And.intro @true_and (And.intro @not_false_eq_true (And.intro @jT (And.intro @aA1 (And.intro @aA4 (And.intro @aA3 (And.intro @aA2 (And.intro @aDM (@bL)))))))))))
def vB6:=And.intro @iZ (And.intro @z8 (And.intro @aQ (And.intro @nV (And.intro @bK.{0,0} (And.intro @fA (And.intro @kW.{0} (And.intro @List.replicate_zero.{0} (And.intro @List.replicate_succ.{0} (And.intro @beq_true (And.intro @beq_false (@Classical.not_not)))))))))))
def vB7:=And.intro @not_true_eq_false (And.intro @decide_true (And.intro @decide_false (And.intro @Int.cast_ofNat_Int (And.intro @Int.natCast_zero (And.intro @Int.natCast_one (@aEJ))))))
def vB:=And.intro @vB0 (And.intro @vB1 (And.intro @vB2 (And.intro @vB3 (And.intro @vB4 (And.intro @vB5 (And.intro @vB6 (@vB7)))))))
def vX:=And.intro @DS (And.intro @pU (And.intro @OV (And.intro @jF (@iN))))
def vT:=And.intro (And.intro (And.intro (And.intro (And.intro (And.intro (And.intro (And.intro (And.intro ty1 ty2) (And.intro ty3 ty4)) (And.intro (And.intro ty5 ty6) (And.intro ty7 ty8))) (And.intro (And.intro (And.intro ty9 aYE) (And.intro aYF aYG)) (And.intro (And.intro aYH aYI) (And.intro aYJ aYK)))) (And.intro (And.intro (And.intro (And.intro aYL aYM) (And.intro aYN aYO)) (And.intro (And.intro EW aYP) (And.intro aCo aYQ))) (And.intro (And.intro (And.intro aIC aYR) (And.intro aYS aYT)) (And.intro (And.intro aYU aYV) (And.intro aYW aYX))))) (And.intro (And.intro (And.intro (And.intro (And.intro aYY aYZ) (And.intro aY0 sS)) (And.intro (And.intro aY1 aY2) (And.intro aY3 aY4))) (And.intro (And.intro (And.intro aY5 aY6) (And.intro aY7 aY8)) (And.intro (And.intro aPP u9) (And.intro aY9 aYa)))) (And.intro (And.intro (And.intro (And.intro aID aYb) (And.intro aYc aYd)) (And.intro (And.intro aYe aQn) (And.intro aYf aYg))) (And.intro (And.intro (And.intro aYh aYi) (And.intro aYj aYk)) (And.intro (And.intro aYl aYm) (And.intro aYn (And.intro aYo aYp))))))) (And.intro (And.intro (And.intro (And.intro (And.intro (And.intro aYq aYr) (And.intro aYs aYt)) (And.intro (And.intro aYu aYv) (And.intro aYw aYx))) (And.intro (And.intro (And.intro aYy aIE) (And.intro aYz aZA)) (And.intro (And.intro aZB aZC) (And.intro aZD aZE)))) (And.intro (And.intro (And.intro (And.intro aZF aZG) (And.intro aZH aZI)) (And.intro (And.intro aZJ aZK) (And.intro aZL aZM))) (And.intro (And.intro (And.intro aZN aZO) (And.intro aJk aJl)) (And.intro (And.intro aJm aJn) (And.intro aJo (And.intro aJp aJq)))))) (And.intro (And.intro (And.intro (And.intro (And.intro aJr aJs) (And.intro aJt aJu)) (And.intro (And.intro aJv aJw) (And.intro aJx aJy))) (And.intro (And.intro (And.intro aJz aKA) (And.intro aKB aKC)) (And.intro (And.intro aKD aKE) (And.intro aKF aKG)))) (And.intro (And.intro (And.intro (And.intro aKH aKI) (And.intro aKJ aKK)) (And.intro (And.intro aKL aKM) (And.intro aKN aKO))) (And.intro (And.intro (And.intro aKP aKQ) (And.intro aKR aKS)) (And.intro (And.intro aKT aKU) (And.intro aKV (And.intro aKW aKX)))))))) (And.intro (And.intro (And.intro (And.intro (And.intro (And.intro (And.intro aKY aKZ) (And.intro aK0 aK1)) (And.intro (And.intro aK2 aK3) (And.intro aK4 aK5))) (And.intro (And.intro (And.intro aK6 aK7) (And.intro aK8 aK9)) (And.intro (And.intro aKa aKb) (And.intro aKc aKd)))) (And.intro (And.intro (And.intro (And.intro aKe aKf) (And.intro aKg aKh)) (And.intro (And.intro aKi aKj) (And.intro aKk aKl))) (And.intro (And.intro (And.intro aKm aKn) (And.intro aKo aKp)) (And.intro (And.intro aKq aKr) (And.intro aKs (And.intro aKt aKu)))))) (And.intro (And.intro (And.intro (And.intro (And.intro aKv aKw) (And.intro aKx aKy)) (And.intro (And.intro aKz aLA) (And.intro aLB aLC))) (And.intro (And.intro (And.intro aLD aLE) (And.intro aLF aLG)) (And.intro (And.intro aLH aLI) (And.intro aLJ aLK)))) (And.intro (And.intro (And.intro (And.intro aLL aLM) (And.intro aLN aLO)) (And.intro (And.intro aLP aLQ) (And.intro aLR aLS))) (And.intro (And.intro (And.intro aLT aLU) (And.intro aLV aLW)) (And.intro (And.intro aLX aLY) (And.intro aLZ (And.intro aL0 aL1))))))) (And.intro (And.intro (And.intro (And.intro (And.intro (And.intro aL2 aL3) (And.intro aL4 aL5)) (And.intro (And.intro aL6 aL7) (And.intro aL8 aL9))) (And.intro (And.intro (And.intro aLa aLb) (And.intro aLc aLd)) (And.intro (And.intro aLe aLf) (And.intro aLg aLh)))) (And.intro (And.intro (And.intro (And.intro aLi aLj) (And.intro aLk aLl)) (And.intro (And.intro aLm aLn) (And.intro aLo aLp))) (And.intro (And.intro (And.intro aLq aLr) (And.intro aLs aLt)) (And.intro (And.intro aLu aLv) (And.intro aLw (And.intro aLx aLy)))))) (And.intro (And.intro (And.intro (And.intro (And.intro aLz aMA) (And.intro aMB aMC)) (And.intro (And.intro aMD aME) (And.intro aMF aMG))) (And.intro (And.intro (And.intro aMH aMI) (And.intro aMJ aMK)) (And.intro (And.intro aML aMM) (And.intro aMN aMO)))) (And.intro (And.intro (And.intro (And.intro aMP aMQ) (And.intro aMR aMS)) (And.intro (And.intro aMT aMU) (And.intro aMV aMW))) (And.intro (And.intro (And.intro aMX aMY) (And.intro aMZ aM0)) (And.intro (And.intro aM1 aM2) (And.intro aM3 (And.intro aM4 aM5))))))))) (And.intro (And.intro (And.intro (And.intro (And.intro (And.intro (And.intro (And.intro aM6 aM7) (And.intro aM8 aM9)) (And.intro (And.intro aMa aMb) (And.intro aMc aMd))) (And.intro (And.intro (And.intro aMe aMf) (And.intro aMg aMh)) (And.intro (And.intro aMi aMj) (And.intro aMk aMl)))) (And.intro (And.intro (And.intro (And.intro aMm aMn) (And.intro aMo aMp)) (And.intro (And.intro aMq aMr) (And.intro aMs aMt))) (And.intro (And.intro (And.intro aMu aMv) (And.intro aMw aMx)) (And.intro (And.intro aMy aMz) (And.intro aNA (And.intro aNB aNC)))))) (And.intro (And.intro (And.intro (And.intro (And.intro aND aNE) (And.intro aNF aNG)) (And.intro (And.intro aNH aNI) (And.intro aNJ aNK))) (And.intro (And.intro (And.intro aNL aNM) (And.intro aNN aNO)) (And.intro (And.intro aNP aNQ) (And.intro aNR aNS)))) (And.intro (And.intro (And.intro (And.intro aNT aNU) (And.intro aNV aNW)) (And.intro (And.intro aNX aNY) (And.intro aNZ aN0))) (And.intro (And.intro (And.intro aN1 aN2) (And.intro aN3 aN4)) (And.intro (And.intro aN5 aN6) (And.intro aN7 (And.intro aN8 aN9))))))) (And.intro (And.intro (And.intro (And.intro (And.intro (And.intro aNa aNb) (And.intro aNc aNd)) (And.intro (And.intro aNe aNf) (And.intro aNg aNh))) (And.intro (And.intro (And.intro aNi aNj) (And.intro aNk aNl)) (And.intro (And.intro aNm aNn) (And.intro aNo aNp)))) (And.intro (And.intro (And.intro (And.intro aNq aNr) (And.intro aNs aNt)) (And.intro (And.intro aNu aNv) (And.intro aNw aNx))) (And.intro (And.intro (And.intro aNy aNz) (And.intro aOA aOB)) (And.intro (And.intro aOC aOD) (And.intro aOE (And.intro aOF aOG)))))) (And.intro (And.intro (And.intro (And.intro (And.intro aOH aOI) (And.intro aOJ aOK)) (And.intro (And.intro aOL aOM) (And.intro aON aOO))) (And.intro (And.intro (And.intro aOP aOQ) (And.intro aOR aOS)) (And.intro (And.intro aOT aOU) (And.intro aOV aOW)))) (And.intro (And.intro (And.intro (And.intro aOX aOY) (And.intro aOZ aO0)) (And.intro (And.intro aO1 aO2) (And.intro aO3 aO4))) (And.intro (And.intro (And.intro aO5 aO6) (And.intro aO7 aO8)) (And.intro (And.intro aO9 aOa) (And.intro aOb (And.intro aOc aOd)))))))) (And.intro (And.intro (And.intro (And.intro (And.intro (And.intro (And.intro aOe aOf) (And.intro aOg aOh)) (And.intro (And.intro aOi aOj) (And.intro aOk aOl))) (And.intro (And.intro (And.intro aOm aOn) (And.intro aOo aOp)) (And.intro (And.intro aOq aOr) (And.intro aOs aOt)))) (And.intro (And.intro (And.intro (And.intro aOu aOv) (And.intro aOw aOx)) (And.intro (And.intro aOy aOz) (And.intro aPA aPB))) (And.intro (And.intro (And.intro aPC aPD) (And.intro aPE aPF)) (And.intro (And.intro aPG aPH) (And.intro aPI (And.intro aPJ aPK)))))) (And.intro (And.intro (And.intro (And.intro (And.intro aPL aPM) (And.intro aPN aPO)) (And.intro (And.intro aPQ aPR) (And.intro aPS aPT))) (And.intro (And.intro (And.intro aPU aPV) (And.intro aPW aPX)) (And.intro (And.intro aPY aPZ) (And.intro aP0 aP1)))) (And.intro (And.intro (And.intro (And.intro aP2 aP3) (And.intro aP4 aP5)) (And.intro (And.intro aP6 aP7) (And.intro aP8 aP9))) (And.intro (And.intro (And.intro aPa aPb) (And.intro aPc aPd)) (And.intro (And.intro aPe aPf) (And.intro aPg (And.intro aPh aPi))))))) (And.intro (And.intro (And.intro (And.intro (And.intro (And.intro aPj aPk) (And.intro aPl aPm)) (And.intro (And.intro aPn aPo) (And.intro aPp aPq))) (And.intro (And.intro (And.intro aPr aPs) (And.intro aPt aPu)) (And.intro (And.intro aPv aPw) (And.intro aPx aPy)))) (And.intro (And.intro (And.intro (And.intro aPz aQA) (And.intro aQB aQC)) (And.intro (And.intro aQD aQE) (And.intro aQF aQG))) (And.intro (And.intro (And.intro aQH aQI) (And.intro aQJ aQK)) (And.intro (And.intro aQL aQM) (And.intro aQN (And.intro aQO aQP)))))) (And.intro (And.intro (And.intro (And.intro (And.intro aQQ aQR) (And.intro aQS aQT)) (And.intro (And.intro aQU aQV) (And.intro aQW aQX))) (And.intro (And.intro (And.intro aQY aQZ) (And.intro aQ0 aQ1)) (And.intro (And.intro aQ2 aQ3) (And.intro aQ4 aQ5)))) (And.intro (And.intro (And.intro (And.intro aQ6 aQ7) (And.intro aQ8 aQ9)) (And.intro (And.intro aQa aQb) (And.intro aQc aQd))) (And.intro (And.intro (And.intro aQe aQf) (And.intro aQg aQh)) (And.intro (And.intro aQi aQj) (And.intro aQk (And.intro aQl aQm)))))))))
theorem zv1:aF prog 1=some (.nilFunc):=by kernel_rfl
theorem zv2:aF prog 2=some (.int .i64 0):=by kernel_rfl
theorem zv3:aF prog 3=some (.int .i64 0):=by kernel_rfl
theorem zv4:aF prog 4=some (.bool false):=by kernel_rfl
theorem zv5:aF prog 5=some (.int .u8 0):=by kernel_rfl
theorem zv6:aF prog 6=some (.int .u8 0):=by kernel_rfl
theorem zv9:aF prog 9=some (.string ByteArray.empty):=by kernel_rfl
theorem aZQ:aF prog 10=some (.string ByteArray.empty):=by kernel_rfl
theorem aZR:aF prog 11=some (.string ByteArray.empty):=by kernel_rfl
theorem aZS:aF prog 12=some (.int .u64 0):=by kernel_rfl
theorem aZT:aF prog 15=some (.pointer none):=by kernel_rfl
theorem aZU:aF prog 16=some (.pointer none):=by kernel_rfl
theorem aZV:aF prog 17=some (.pointer none):=by kernel_rfl
theorem aZW:aF prog 21=some (.int .i32 0):=by kernel_rfl
theorem aZX:aF prog 22=some (.slice none 0 0):=by kernel_rfl
theorem aZY:aF prog 23=some (.slice none 0 0):=by kernel_rfl
theorem aZZ:aF prog 24=some (.slice none 0 0):=by kernel_rfl
theorem aZ0:aF prog 25=some (.slice none 0 0):=by kernel_rfl
theorem aZ1:aF prog 26=some (.slice none 0 0):=by kernel_rfl
theorem aZ2:aF prog 29=some (.nilFunc):=by kernel_rfl
theorem aZ3:aF prog 30=some (.nilFunc):=by kernel_rfl
theorem aZ4:aF prog 31=some (.nilFunc):=by kernel_rfl
theorem aZ5:aF prog 32=some (.nilFunc):=by kernel_rfl
theorem aZ6:aF prog 33=some (.nilFunc):=by kernel_rfl
theorem aZ7:aF prog 34=some (.nilFunc):=by kernel_rfl
theorem aZ8:aF prog 37=some (.slice none 0 0):=by kernel_rfl
theorem aZ9:aF prog 38=some (.slice none 0 0):=by kernel_rfl
theorem aZa:aF prog 39=some (.slice none 0 0):=by kernel_rfl
theorem aZb:aF prog 44=some (.slice none 0 0):=by kernel_rfl
theorem aZc:aF prog 47=some (.slice none 0 0):=by kernel_rfl
theorem aZd:aF prog 48=some (.int .i64 0):=by kernel_rfl
theorem aZe:aF prog 50=some (.nilFunc):=by kernel_rfl
theorem aZf:aF prog 51=some (.slice none 0 0):=by kernel_rfl
theorem aZg:aF prog 53=some (.nilFunc):=by kernel_rfl
theorem aZh:aF prog 55=some (.nilFunc):=by kernel_rfl
theorem aZi:aF prog 56=some (.nilFunc):=by kernel_rfl
theorem aZj:aF prog 59=some (.nilFunc):=by kernel_rfl
theorem aZk:aF prog 61=some (.nilFunc):=by kernel_rfl
theorem aZl:aF prog 62=some (.nilFunc):=by kernel_rfl
theorem aZm:aF prog 63=some (.slice none 0 0):=by kernel_rfl
theorem aZn:aF prog 67=some (.nilFunc):=by kernel_rfl
theorem aZo:aF prog 69=some (.nilFunc):=by kernel_rfl
theorem aZp:aF prog 70=some (.nilFunc):=by kernel_rfl
theorem aZq:aF prog 71=some (.nilFunc):=by kernel_rfl
theorem aZr:aF prog 72=some (.nilFunc):=by kernel_rfl
theorem aZs:aF prog 73=some (.nilFunc):=by kernel_rfl
theorem aZt:aF prog 75=some (.nilFunc):=by kernel_rfl
theorem aZu:aF prog 76=some (.nilFunc):=by kernel_rfl
theorem aZv:aF prog 77=some (.nilFunc):=by kernel_rfl
theorem aZw:aF prog 78=some (.nilFunc):=by kernel_rfl
theorem aZx:aF prog 79=some (.nilFunc):=by kernel_rfl
theorem aZy:aF prog 80=some (.nilFunc):=by kernel_rfl
theorem aZz:aF prog 83=some (.nilFunc):=by kernel_rfl
theorem a0A:aF prog 84=some (.nilFunc):=by kernel_rfl
theorem a0B:aF prog 85=some (.pointer none):=by kernel_rfl
theorem a0C:aF prog 86=some (.nilFunc):=by kernel_rfl
theorem a0D:aF prog 91=some (.pointer none):=by kernel_rfl
theorem a0E:aF prog 92=some (.nilFunc):=by kernel_rfl
theorem a0F:aF prog 93=some (.nilFunc):=by kernel_rfl
theorem a0G:aF prog 94=some (.nilFunc):=by kernel_rfl
theorem a0H:aF prog 95=some (.nilFunc):=by kernel_rfl
theorem a0I:aF prog 96=some (.nilFunc):=by kernel_rfl
theorem a0J:aF prog 97=some (.pointer none):=by kernel_rfl
theorem a0K:aF prog 99=some (.nilFunc):=by kernel_rfl
theorem aQw:aF prog 100=some (.nilFunc):=by kernel_rfl
theorem aQx:aF prog 101=some (.nilFunc):=by kernel_rfl
theorem aQy:aF prog 102=some (.nilFunc):=by kernel_rfl
theorem aQz:aF prog 103=some (.nilFunc):=by kernel_rfl
theorem aRA:aF prog 104=some (.nilFunc):=by kernel_rfl
theorem aRB:aF prog 105=some (.nilFunc):=by kernel_rfl
theorem aRC:aF prog 108=some (.nilFunc):=by kernel_rfl
theorem aRD:aF prog 109=some (.nilFunc):=by kernel_rfl
theorem aRE:aF prog 110=some (.nilFunc):=by kernel_rfl
theorem aRF:aF prog 111=some (.nilFunc):=by kernel_rfl
theorem aRG:aF prog 112=some (.nilFunc):=by kernel_rfl
theorem aRH:aF prog 113=some (.nilFunc):=by kernel_rfl
theorem aRI:aF prog 115=some (.nilFunc):=by kernel_rfl
theorem aRJ:aF prog 116=some (.nilFunc):=by kernel_rfl
theorem aRK:aF prog 119=some (.nilFunc):=by kernel_rfl
theorem aRL:aF prog 120=some (.pointer none):=by kernel_rfl
theorem aRM:aF prog 123=some (.nilFunc):=by kernel_rfl
theorem aRN:aF prog 127=some (.nilFunc):=by kernel_rfl
theorem aRO:aF prog 128=some (.nilFunc):=by kernel_rfl
theorem aRP:aF prog 129=some (.nilFunc):=by kernel_rfl
theorem aRQ:aF prog 130=some (.nilFunc):=by kernel_rfl
theorem aRR:aF prog 131=some (.nilFunc):=by kernel_rfl
theorem aRS:aF prog 134=some (.nilFunc):=by kernel_rfl
theorem aRT:aF prog 135=some (.pointer none):=by kernel_rfl
theorem aRU:aF prog 138=some (.nilFunc):=by kernel_rfl
theorem aRV:aF prog 139=some (.nilFunc):=by kernel_rfl
theorem aRW:aF prog 140=some (.nilFunc):=by kernel_rfl
theorem aRX:aF prog 141=some (.nilFunc):=by kernel_rfl
theorem aRY:aF prog 142=some (.nilFunc):=by kernel_rfl
theorem aRZ:aF prog 143=some (.nilFunc):=by kernel_rfl
theorem aR0:aF prog 146=some (.nilFunc):=by kernel_rfl
theorem aR1:aF prog 147=some (.nilFunc):=by kernel_rfl
theorem aR2:aF prog 148=some (.nilFunc):=by kernel_rfl
theorem aR3:aF prog 150=some (.nilFunc):=by kernel_rfl
theorem aR4:aF prog 151=some (.nilFunc):=by kernel_rfl
theorem aR5:aF prog 152=some (.nilFunc):=by kernel_rfl
theorem aR6:aF prog 157=some (.nilFunc):=by kernel_rfl
theorem aR7:aF prog 158=some (.nilFunc):=by kernel_rfl
theorem aR8:aF prog 159=some (.nilFunc):=by kernel_rfl
theorem aR9:aF prog 160=some (.nilFunc):=by kernel_rfl
theorem aRa:aF prog 161=some (.nilFunc):=by kernel_rfl
theorem aRb:aF prog 164=some (.pointer none):=by kernel_rfl
theorem aRc:aF prog 165=some (.pointer none):=by kernel_rfl
theorem aRd:aF prog 166=some (.nilFunc):=by kernel_rfl
theorem aRe:aF prog 169=some (.nilFunc):=by kernel_rfl
theorem aRf:aF prog 170=some (.nilFunc):=by kernel_rfl
theorem aRg:aF prog 171=some (.nilFunc):=by kernel_rfl
theorem aRh:aF prog 172=some (.nilFunc):=by kernel_rfl
theorem aRi:aF prog 173=some (.nilFunc):=by kernel_rfl
theorem aRj:aF prog 174=some (.nilFunc):=by kernel_rfl
theorem aRk:aF prog 175=some (.nilFunc):=by kernel_rfl
theorem aRl:aF prog 176=some (.nilFunc):=by kernel_rfl
theorem aRm:aF prog 177=some (.nilFunc):=by kernel_rfl
theorem aRn:aF prog 178=some (.pointer none):=by kernel_rfl
theorem aRo:aF prog 181=some (.nilFunc):=by kernel_rfl
theorem aRp:aF prog 182=some (.nilFunc):=by kernel_rfl
theorem aRq:aF prog 183=some (.nilFunc):=by kernel_rfl
theorem aRr:aF prog 184=some (.int .u64 0):=by kernel_rfl
theorem aRs:aF prog 185=some (.nilFunc):=by kernel_rfl
theorem aRt:aF prog 186=some (.nilFunc):=by kernel_rfl
theorem aRu:aF prog 187=some (.nilFunc):=by kernel_rfl
theorem aRv:aF prog 188=some (.nilFunc):=by kernel_rfl
theorem aRw:aF prog 189=some (.pointer none):=by kernel_rfl
theorem aRx:aF prog 190=some (.nilFunc):=by kernel_rfl
theorem aRy:aF prog 191=some (.nilFunc):=by kernel_rfl
theorem aRz:aF prog 192=some (.map none):=by kernel_rfl
theorem aSA:aF prog 193=some (.map none):=by kernel_rfl
theorem aSB:aF prog 196=some (.nilFunc):=by kernel_rfl
theorem aSC:aF prog 197=some (.nilFunc):=by kernel_rfl
theorem aSD:aF prog 198=some (.nilFunc):=by kernel_rfl
theorem aSE:aF prog 199=some (.nilFunc):=by kernel_rfl
theorem aSF:aF prog 200=some (.nilFunc):=by kernel_rfl
theorem aSG:aF prog 201=some (.nilFunc):=by kernel_rfl
theorem aSH:aF prog 202=some (.nilFunc):=by kernel_rfl
theorem aSI:aF prog 204=some (.nilFunc):=by kernel_rfl
theorem aSJ:aF prog 205=some (.nilFunc):=by kernel_rfl
theorem aSK:aF prog 206=some (.nilFunc):=by kernel_rfl
theorem aSL:aF prog 207=some (.nilFunc):=by kernel_rfl
theorem aSM:aF prog 208=some (.nilFunc):=by kernel_rfl
theorem aSN:aF prog 210=some (.nilFunc):=by kernel_rfl
theorem aSO:aF prog 211=some (.nilFunc):=by kernel_rfl
theorem aSP:aF prog 212=some (.nilFunc):=by kernel_rfl
theorem aSQ:aF prog 213=some (.nilFunc):=by kernel_rfl
theorem aSR:aF prog 215=some (.nilFunc):=by kernel_rfl
theorem aSS:aF prog 216=some (.map none):=by kernel_rfl
theorem aST:aF prog 217=some (.slice none 0 0):=by kernel_rfl
theorem aSU:aF prog 218=some (.nilFunc):=by kernel_rfl
theorem aSV:aF prog 219=some (.nilFunc):=by kernel_rfl
theorem aSW:aF prog 220=some (.nilFunc):=by kernel_rfl
theorem aSX:aF prog 221=some (.nilFunc):=by kernel_rfl
theorem aSY:aF prog 222=some (.nilFunc):=by kernel_rfl
theorem aSZ:aF prog 223=some (.nilFunc):=by kernel_rfl
theorem aS0:aF prog 224=some (.nilFunc):=by kernel_rfl
theorem aS1:aF prog 225=some (.nilFunc):=by kernel_rfl
theorem aS2:aF prog 226=some (.nilFunc):=by kernel_rfl
theorem aS3:aF prog 227=some (.nilFunc):=by kernel_rfl
theorem aS4:aF prog 228=some (.nilFunc):=by kernel_rfl
theorem aS5:aF prog 231=some (.nilFunc):=by kernel_rfl
theorem aS6:aF prog 233=some (.nilFunc):=by kernel_rfl
theorem aS7:aF prog 235=some (.nilFunc):=by kernel_rfl
theorem aS8:aF prog 236=some (.nilFunc):=by kernel_rfl
theorem aS9:aF prog 237=some (.nilFunc):=by kernel_rfl
theorem aSa:aF prog 238=some (.nilFunc):=by kernel_rfl
theorem aSb:aF prog 239=some (.pointer none):=by kernel_rfl
theorem aSc:aF prog 242=some (.nilFunc):=by kernel_rfl
theorem aSd:aF prog 243=some (.nilFunc):=by kernel_rfl
theorem aSe:aF prog 244=some (.slice none 0 0):=by kernel_rfl
theorem aSf:aF prog 245=some (.nilFunc):=by kernel_rfl
theorem aSg:aF prog 246=some (.pointer none):=by kernel_rfl
theorem aSh:aF prog 247=some (.nilFunc):=by kernel_rfl
theorem aSi:aF prog 248=some (.nilFunc):=by kernel_rfl
theorem aSj:aF prog 249=some (.nilFunc):=by kernel_rfl
theorem aSk:aF prog 250=some (.nilFunc):=by kernel_rfl
theorem aSl:aF prog 252=some (.nilFunc):=by kernel_rfl
theorem aSm:aF prog 253=some (.nilFunc):=by kernel_rfl
theorem aSn:aF prog 254=some (.nilFunc):=by kernel_rfl
theorem aSo:aF prog 255=some (.nilFunc):=by kernel_rfl
theorem aSp:aF prog 256=some (.nilFunc):=by kernel_rfl
theorem aSq:aF prog 257=some (.nilFunc):=by kernel_rfl
theorem aSr:aF prog 258=some (.nilFunc):=by kernel_rfl
theorem aSs:aF prog 259=some (.nilFunc):=by kernel_rfl
theorem aSt:aF prog 260=some (.pointer none):=by kernel_rfl
theorem aSu:aF prog 261=some (.nilFunc):=by kernel_rfl
theorem aSv:aF prog 262=some (.nilFunc):=by kernel_rfl
theorem aSw:aF prog 263=some (.nilFunc):=by kernel_rfl
theorem aSx:aF prog 264=some (.nilFunc):=by kernel_rfl
theorem aSy:aF prog 265=some (.pointer none):=by kernel_rfl
theorem aSz:aF prog 268=some (.nilFunc):=by kernel_rfl
theorem aTA:aF prog 269=some (.nilFunc):=by kernel_rfl
theorem aTB:aF prog 270=some (.nilFunc):=by kernel_rfl
theorem aTC:aF prog 271=some (.nilFunc):=by kernel_rfl
theorem aTD:aF prog 272=some (.nilFunc):=by kernel_rfl
theorem aTE:aF prog 273=some (.nilFunc):=by kernel_rfl
theorem aTF:aF prog 274=some (.nilFunc):=by kernel_rfl
theorem aTG:aF prog 275=some (.pointer none):=by kernel_rfl
theorem aTH:aF prog 278=some (.nilFunc):=by kernel_rfl
theorem aTI:aF prog 279=some (.nilFunc):=by kernel_rfl
theorem aTJ:aF prog 280=some (.nilFunc):=by kernel_rfl
theorem aTK:aF prog 281=some (.nilFunc):=by kernel_rfl
theorem aTL:aF prog 282=some (.nilFunc):=by kernel_rfl
theorem aTM:aF prog 283=some (.nilFunc):=by kernel_rfl
theorem aTN:aF prog 284=some (.nilFunc):=by kernel_rfl
theorem aTO:aF prog 285=some (.int .u64 0):=by kernel_rfl
theorem aTP:aF prog 289=some (.nilFunc):=by kernel_rfl
theorem aTQ:aF prog 290=some (.nilFunc):=by kernel_rfl
theorem aTR:aF prog 291=some (.nilFunc):=by kernel_rfl
theorem aTS:aF prog 292=some (.nilFunc):=by kernel_rfl
theorem aTT:aF prog 293=some (.nilFunc):=by kernel_rfl
theorem aTU:aF prog 294=some (.nilFunc):=by kernel_rfl
theorem aTV:aF prog 295=some (.int .u32 0):=by kernel_rfl
theorem aTW:aF prog 296=some (.nilFunc):=by kernel_rfl
theorem aTX:aF prog 298=some (.nilFunc):=by kernel_rfl
theorem aTY:aF prog 299=some (.nilFunc):=by kernel_rfl
theorem aTZ:aF prog 300=some (.nilFunc):=by kernel_rfl
theorem aT0:aF prog 301=some (.nilFunc):=by kernel_rfl
theorem aT1:aF prog 302=some (.map none):=by kernel_rfl
theorem aT2:aF prog 303=some (.nilFunc):=by kernel_rfl
theorem aT3:aF prog 304=some (.nilFunc):=by kernel_rfl
theorem aT4:aF prog 305=some (.nilFunc):=by kernel_rfl
theorem aT5:aF prog 306=some (.nilFunc):=by kernel_rfl
theorem aT6:aF prog 307=some (.nilFunc):=by kernel_rfl
theorem aT7:aF prog 308=some (.nilFunc):=by kernel_rfl
theorem aT8:aF prog 309=some (.nilFunc):=by kernel_rfl
theorem aT9:aF prog 310=some (.nilFunc):=by kernel_rfl
theorem aTa:aF prog 311=some (.nilFunc):=by kernel_rfl
theorem aTb:aF prog 312=some (.nilFunc):=by kernel_rfl
theorem aTc:aF prog 313=some (.nilFunc):=by kernel_rfl
theorem aTd:aF prog 314=some (.nilFunc):=by kernel_rfl
theorem aTe:aF prog 315=some (.pointer none):=by kernel_rfl
theorem aTf:aF prog 316=some (.pointer none):=by kernel_rfl
theorem aTg:aF prog 317=some (.nilFunc):=by kernel_rfl
theorem aTh:aF prog 318=some (.nilFunc):=by kernel_rfl
theorem aTi:aF prog 319=some (.nilFunc):=by kernel_rfl
theorem aTj:aF prog 320=some (.nilFunc):=by kernel_rfl
theorem aTk:aF prog 321=some (.nilFunc):=by kernel_rfl
theorem aTl:aF prog 322=some (.nilFunc):=by kernel_rfl
theorem aTm:aF prog 323=some (.nilFunc):=by kernel_rfl
theorem aTn:aF prog 326=some (.slice none 0 0):=by kernel_rfl
theorem aTo:aF prog 327=some (.slice none 0 0):=by kernel_rfl
theorem aTp:aF prog 328=some (.map none):=by kernel_rfl
theorem aTq:aF prog 329=some (.map none):=by kernel_rfl
theorem aTr:aF prog 332=some (.nilFunc):=by kernel_rfl
theorem aTs:aF prog 333=some (.nilFunc):=by kernel_rfl
theorem aTt:aF prog 334=some (.nilFunc):=by kernel_rfl
theorem aTu:aF prog 335=some (.nilFunc):=by kernel_rfl
theorem aTv:aF prog 336=some (.nilFunc):=by kernel_rfl
theorem aTw:aF prog 337=some (.nilFunc):=by kernel_rfl
theorem aTx:aF prog 338=some (.nilFunc):=by kernel_rfl
theorem aTy:aF prog 339=some (.nilFunc):=by kernel_rfl
theorem aTz:aF prog 340=some (.nilFunc):=by kernel_rfl
theorem aUA:aF prog 341=some (.nilFunc):=by kernel_rfl
theorem aUB:aF prog 342=some (.nilFunc):=by kernel_rfl
theorem aUC:aF prog 343=some (.nilFunc):=by kernel_rfl
theorem aUD:aF prog 344=some (.nilFunc):=by kernel_rfl
theorem aUE:aF prog 345=some (.nilFunc):=by kernel_rfl
theorem aUF:aF prog 346=some (.nilFunc):=by kernel_rfl
theorem aUG:aF prog 348=some (.nilFunc):=by kernel_rfl
theorem aUH:aF prog 349=some (.nilFunc):=by kernel_rfl
theorem aUI:aF prog 350=some (.slice none 0 0):=by kernel_rfl
theorem aUJ:aF prog 351=some (.map none):=by kernel_rfl
theorem aUK:aF prog 352=some (.pointer none):=by kernel_rfl
theorem aUL:aF prog 355=some (.nilFunc):=by kernel_rfl
theorem aUM:aF prog 356=some (.nilFunc):=by kernel_rfl
theorem aUN:aF prog 357=some (.nilFunc):=by kernel_rfl
theorem aUO:aF prog 358=some (.slice none 0 0):=by kernel_rfl
theorem aUP:aF prog 363=some (.nilFunc):=by kernel_rfl
theorem aUQ:aF prog 364=some (.nilFunc):=by kernel_rfl
theorem aUR:aF prog 365=some (.nilFunc):=by kernel_rfl
theorem aUS:aF prog 370=some (.nilFunc):=by kernel_rfl
theorem aUT:aF prog 371=some (.nilFunc):=by kernel_rfl
theorem aUU:aF prog 372=some (.nilFunc):=by kernel_rfl
theorem aUV:aF prog 374=some (.nilFunc):=by kernel_rfl
theorem aUW:aF prog 375=some (.nilFunc):=by kernel_rfl
theorem aUX:aF prog 376=some (.nilFunc):=by kernel_rfl
theorem aUY:aF prog 377=some (.nilFunc):=by kernel_rfl
theorem aUZ:aF prog 378=some (.nilFunc):=by kernel_rfl
theorem aU0:aF prog 379=some (.nilFunc):=by kernel_rfl
theorem aU1:aF prog 380=some (.nilFunc):=by kernel_rfl
theorem aU2:aF prog 381=some (.nilFunc):=by kernel_rfl
theorem aU3:aF prog 382=some (.nilFunc):=by kernel_rfl
theorem aU4:aF prog 386=some (.nilFunc):=by kernel_rfl
theorem aU5:aF prog 387=some (.nilFunc):=by kernel_rfl
theorem aU6:aF prog 388=some (.pointer none):=by kernel_rfl
theorem aU7:aF prog 389=some (.nilFunc):=by kernel_rfl
theorem aU8:aF prog 390=some (.int .i64 0):=by kernel_rfl
theorem aU9:aF prog 392=some (.nilFunc):=by kernel_rfl
theorem aUa:aF prog 393=some (.nilFunc):=by kernel_rfl
theorem aUb:aF prog 394=some (.nilFunc):=by kernel_rfl
theorem aUc:aF prog 395=some (.nilFunc):=by kernel_rfl
theorem aUd:aF prog 396=some (.nilFunc):=by kernel_rfl
theorem aUe:aF prog 397=some (.nilFunc):=by kernel_rfl
theorem aUf:aF prog 398=some (.nilFunc):=by kernel_rfl
theorem aUg:aF prog 399=some (.nilFunc):=by kernel_rfl
theorem aUh:aF prog 400=some (.nilFunc):=by kernel_rfl
theorem aUi:aF prog 401=some (.nilFunc):=by kernel_rfl
theorem aUj:aF prog 402=some (.nilFunc):=by kernel_rfl
theorem aUk:aF prog 403=some (.nilFunc):=by kernel_rfl
theorem aUl:aF prog 404=some (.nilFunc):=by kernel_rfl
theorem aUm:aF prog 405=some (.nilFunc):=by kernel_rfl
theorem aUn:aF prog 406=some (.nilFunc):=by kernel_rfl
theorem aUo:aF prog 407=some (.nilFunc):=by kernel_rfl
theorem aUp:aF prog 408=some (.nilFunc):=by kernel_rfl
theorem aUq:aF prog 409=some (.nilFunc):=by kernel_rfl
theorem aUr:aF prog 410=some (.nilFunc):=by kernel_rfl
theorem aUs:aF prog 411=some (.nilFunc):=by kernel_rfl
theorem aUt:aF prog 412=some (.slice none 0 0):=by kernel_rfl
theorem aUu:aF prog 413=some (.nilFunc):=by kernel_rfl
theorem aUv:aF prog 414=some (.nilFunc):=by kernel_rfl
theorem aUw:aF prog 415=some (.nilFunc):=by kernel_rfl
theorem aUx:aF prog 416=some (.nilFunc):=by kernel_rfl
theorem aUy:aF prog 417=some (.nilFunc):=by kernel_rfl
theorem aUz:aF prog 418=some (.nilFunc):=by kernel_rfl
theorem aVA:aF prog 419=some (.nilFunc):=by kernel_rfl
theorem aVB:aF prog 420=some (.nilFunc):=by kernel_rfl
theorem aVC:aF prog 421=some (.nilFunc):=by kernel_rfl
theorem aVD:aF prog 422=some (.nilFunc):=by kernel_rfl
theorem aVE:aF prog 424=some (.nilFunc):=by kernel_rfl
theorem aVF:aF prog 426=some (.nilFunc):=by kernel_rfl
theorem aVG:aF prog 427=some (.nilFunc):=by kernel_rfl
theorem aVH:aF prog 428=some (.nilFunc):=by kernel_rfl
theorem aVI:aF prog 429=some (.nilFunc):=by kernel_rfl
theorem aVJ:aF prog 431=some (.nilFunc):=by kernel_rfl
theorem aVK:aF prog 432=some (.nilFunc):=by kernel_rfl
theorem aVL:aF prog 433=some (.nilFunc):=by kernel_rfl
theorem aVM:aF prog 434=some (.nilFunc):=by kernel_rfl
theorem aVN:aF prog 437=some (.nilFunc):=by kernel_rfl
theorem aVO:aF prog 438=some (.nilFunc):=by kernel_rfl
theorem aVP:aF prog 439=some (.nilFunc):=by kernel_rfl
theorem aVQ:aF prog 441=some (.nilFunc):=by kernel_rfl
theorem aVR:aF prog 442=some (.nilFunc):=by kernel_rfl
theorem aVS:aF prog 443=some (.nilFunc):=by kernel_rfl
theorem aVT:aF prog 444=some (.nilFunc):=by kernel_rfl
theorem aVU:aF prog 445=some (.nilFunc):=by kernel_rfl
theorem aVV:aF prog 446=some (.nilFunc):=by kernel_rfl
theorem aVW:aF prog 447=some (.nilFunc):=by kernel_rfl
theorem aVX:aF prog 448=some (.nilFunc):=by kernel_rfl
theorem aVY:aF prog 449=some (.nilFunc):=by kernel_rfl
theorem aVZ:aF prog 451=some (.nilFunc):=by kernel_rfl
theorem aV0:aF prog 453=some (.nilFunc):=by kernel_rfl
theorem aV1:aF prog 454=some (.nilFunc):=by kernel_rfl
theorem aV2:aF prog 455=some (.int .u64 0):=by kernel_rfl
theorem aV3:aF prog 456=some (.nilFunc):=by kernel_rfl
theorem aV4:aF prog 457=some (.nilFunc):=by kernel_rfl
theorem aV5:aF prog 458=some (.nilFunc):=by kernel_rfl
theorem aV6:aF prog 459=some (.pointer none):=by kernel_rfl
theorem aV7:aF prog 460=some (.nilFunc):=by kernel_rfl
theorem aV8:aF prog 461=some (.nilFunc):=by kernel_rfl
theorem aV9:aF prog 462=some (.nilFunc):=by kernel_rfl
theorem aVa:aF prog 464=some (.nilFunc):=by kernel_rfl
theorem aVb:aF prog 465=some (.nilFunc):=by kernel_rfl
theorem aVc:aF prog 466=some (.nilFunc):=by kernel_rfl
theorem aVd:aF prog 467=some (.nilFunc):=by kernel_rfl
theorem aVe:aF prog 468=some (.nilFunc):=by kernel_rfl
theorem aVf:aF prog 469=some (.nilFunc):=by kernel_rfl
theorem aVg:aF prog 470=some (.nilFunc):=by kernel_rfl
theorem aVh:aF prog 471=some (.nilFunc):=by kernel_rfl
theorem aVi:aF prog 473=some (.nilFunc):=by kernel_rfl
theorem aVj:aF prog 474=some (.nilFunc):=by kernel_rfl
theorem aVk:aF prog 475=some (.nilFunc):=by kernel_rfl
theorem aVl:aF prog 476=some (.nilFunc):=by kernel_rfl
theorem aVm:aF prog 477=some (.nilFunc):=by kernel_rfl
theorem aVn:aF prog 478=some (.nilFunc):=by kernel_rfl
theorem aVo:aF prog 479=some (.nilFunc):=by kernel_rfl
theorem aVp:aF prog 480=some (.nilFunc):=by kernel_rfl
theorem aVq:aF prog 481=some (.nilFunc):=by kernel_rfl
theorem aVr:aF prog 482=some (.nilFunc):=by kernel_rfl
theorem aVs:aF prog 483=some (.nilFunc):=by kernel_rfl
theorem aVt:aF prog 484=some (.nilFunc):=by kernel_rfl
theorem aVu:aF prog 487=some (.nilFunc):=by kernel_rfl
theorem aVv:aF prog 489=some (.nilFunc):=by kernel_rfl
theorem aVw:aF prog 490=some (.nilFunc):=by kernel_rfl
theorem aVx:aF prog 493=some (.nilFunc):=by kernel_rfl
theorem aVy:aF prog 494=some (.nilFunc):=by kernel_rfl
theorem aVz:aF prog 495=some (.nilFunc):=by kernel_rfl
theorem aWA:aF prog 496=some (.nilFunc):=by kernel_rfl
theorem aWB:aF prog 498=some (.nilFunc):=by kernel_rfl
theorem aWC:aF prog 499=some (.nilFunc):=by kernel_rfl
theorem aWD:aF prog 500=some (.nilFunc):=by kernel_rfl
theorem aWE:aF prog 501=some (.nilFunc):=by kernel_rfl
theorem aWF:aF prog 502=some (.pointer none):=by kernel_rfl
theorem aWG:aF prog 503=some (.nilFunc):=by kernel_rfl
theorem aWH:aF prog 504=some (.nilFunc):=by kernel_rfl
theorem aWI:aF prog 505=some (.nilFunc):=by kernel_rfl
theorem aWJ:aF prog 506=some (.nilFunc):=by kernel_rfl
theorem aWK:aF prog 508=some (.nilFunc):=by kernel_rfl
theorem aWL:aF prog 510=some (.nilFunc):=by kernel_rfl
theorem aWM:aF prog 512=some (.nilFunc):=by kernel_rfl
theorem aWN:aF prog 513=some (.nilFunc):=by kernel_rfl
theorem aWO:aF prog 514=some (.nilFunc):=by kernel_rfl
theorem aWP:aF prog 515=some (.pointer none):=by kernel_rfl
theorem aWQ:aF prog 516=some (.nilFunc):=by kernel_rfl
theorem aWR:aF prog 517=some (.nilFunc):=by kernel_rfl
theorem aWS:aF prog 518=some (.nilFunc):=by kernel_rfl
theorem aWT:aF prog 519=some (.nilFunc):=by kernel_rfl
theorem aWU:aF prog 520=some (.nilFunc):=by kernel_rfl
theorem aWV:aF prog 524=some (.nilFunc):=by kernel_rfl
theorem aWW:aF prog 525=some (.nilFunc):=by kernel_rfl
theorem aWX:aF prog 526=some (.slice none 0 0):=by kernel_rfl
theorem aWY:aF prog 529=some (.nilFunc):=by kernel_rfl
theorem aWZ:aF prog 530=some (.pointer none):=by kernel_rfl
theorem aW0:aF prog 531=some (.nilFunc):=by kernel_rfl
theorem aW1:aF prog 534=some (.nilFunc):=by kernel_rfl
theorem aW2:aF prog 535=some (.slice none 0 0):=by kernel_rfl
theorem aW3:aF prog 536=some (.slice none 0 0):=by kernel_rfl
theorem aW4:aF prog 539=some (.int .u16 0):=by kernel_rfl
theorem aW5:aF prog 542=some (.nilFunc):=by kernel_rfl
theorem aW6:aF prog 545=some (.nilFunc):=by kernel_rfl
theorem aW7:aF prog 546=some (.nilFunc):=by kernel_rfl
theorem aW8:aF prog 547=some (.pointer none):=by kernel_rfl
theorem aW9:aF prog 548=some (.pointer none):=by kernel_rfl
theorem aWa:aF prog 554=some (.int .u8 0):=by kernel_rfl
theorem aWb:aF prog 555=some (.int .u8 0):=by kernel_rfl
theorem aWc:aF prog 556=some (.nilFunc):=by kernel_rfl
theorem aWd:aF prog 557=some (.int .i32 0):=by kernel_rfl
theorem aWe:aF prog 558=some (.int .i32 0):=by kernel_rfl
def vZ:=And.intro (And.intro (And.intro (And.intro (And.intro (And.intro (And.intro (And.intro zv1 (And.intro zv2 zv3)) (And.intro zv4 (And.intro zv5 zv6))) (And.intro (And.intro zv9 (And.intro aZQ aZR)) (And.intro (And.intro aZS aZT) (And.intro aZU aZV)))) (And.intro (And.intro (And.intro aZW (And.intro aZX aZY)) (And.intro aZZ (And.intro aZ0 aZ1))) (And.intro (And.intro aZ2 (And.intro aZ3 aZ4)) (And.intro (And.intro aZ5 aZ6) (And.intro aZ7 aZ8))))) (And.intro (And.intro (And.intro (And.intro aZ9 (And.intro aZa aZb)) (And.intro aZc (And.intro aZd aZe))) (And.intro (And.intro aZf (And.intro aZg aZh)) (And.intro (And.intro aZi aZj) (And.intro aZk aZl)))) (And.intro (And.intro (And.intro aZm (And.intro aZn aZo)) (And.intro aZp (And.intro aZq aZr))) (And.intro (And.intro aZs (And.intro aZt aZu)) (And.intro (And.intro aZv aZw) (And.intro aZx aZy)))))) (And.intro (And.intro (And.intro (And.intro (And.intro aZz (And.intro a0A a0B)) (And.intro a0C (And.intro a0D a0E))) (And.intro (And.intro a0F (And.intro a0G a0H)) (And.intro (And.intro a0I a0J) (And.intro a0K aQw)))) (And.intro (And.intro (And.intro aQx (And.intro aQy aQz)) (And.intro aRA (And.intro aRB aRC))) (And.intro (And.intro aRD (And.intro aRE aRF)) (And.intro (And.intro aRG aRH) (And.intro aRI aRJ))))) (And.intro (And.intro (And.intro (And.intro aRK (And.intro aRL aRM)) (And.intro aRN (And.intro aRO aRP))) (And.intro (And.intro aRQ (And.intro aRR aRS)) (And.intro (And.intro aRT aRU) (And.intro aRV aRW)))) (And.intro (And.intro (And.intro aRX (And.intro aRY aRZ)) (And.intro aR0 (And.intro aR1 aR2))) (And.intro (And.intro aR3 (And.intro aR4 aR5)) (And.intro (And.intro aR6 aR7) (And.intro aR8 aR9))))))) (And.intro (And.intro (And.intro (And.intro (And.intro (And.intro aRa (And.intro aRb aRc)) (And.intro aRd (And.intro aRe aRf))) (And.intro (And.intro aRg (And.intro aRh aRi)) (And.intro (And.intro aRj aRk) (And.intro aRl aRm)))) (And.intro (And.intro (And.intro aRn (And.intro aRo aRp)) (And.intro aRq (And.intro aRr aRs))) (And.intro (And.intro aRt (And.intro aRu aRv)) (And.intro (And.intro aRw aRx) (And.intro aRy aRz))))) (And.intro (And.intro (And.intro (And.intro aSA (And.intro aSB aSC)) (And.intro aSD (And.intro aSE aSF))) (And.intro (And.intro aSG (And.intro aSH aSI)) (And.intro (And.intro aSJ aSK) (And.intro aSL aSM)))) (And.intro (And.intro (And.intro aSN (And.intro aSO aSP)) (And.intro aSQ (And.intro aSR aSS))) (And.intro (And.intro aST (And.intro aSU aSV)) (And.intro (And.intro aSW aSX) (And.intro aSY aSZ)))))) (And.intro (And.intro (And.intro (And.intro (And.intro aS0 (And.intro aS1 aS2)) (And.intro aS3 (And.intro aS4 aS5))) (And.intro (And.intro aS6 (And.intro aS7 aS8)) (And.intro (And.intro aS9 aSa) (And.intro aSb aSc)))) (And.intro (And.intro (And.intro aSd (And.intro aSe aSf)) (And.intro aSg (And.intro aSh aSi))) (And.intro (And.intro aSj (And.intro aSk aSl)) (And.intro (And.intro aSm aSn) (And.intro aSo aSp))))) (And.intro (And.intro (And.intro (And.intro aSq (And.intro aSr aSs)) (And.intro aSt (And.intro aSu aSv))) (And.intro (And.intro aSw (And.intro aSx aSy)) (And.intro (And.intro aSz aTA) (And.intro aTB aTC)))) (And.intro (And.intro (And.intro aTD (And.intro aTE aTF)) (And.intro (And.intro aTG aTH) (And.intro aTI aTJ))) (And.intro (And.intro aTK (And.intro aTL aTM)) (And.intro (And.intro aTN aTO) (And.intro aTP aTQ)))))))) (And.intro (And.intro (And.intro (And.intro (And.intro (And.intro (And.intro aTR (And.intro aTS aTT)) (And.intro aTU (And.intro aTV aTW))) (And.intro (And.intro aTX (And.intro aTY aTZ)) (And.intro (And.intro aT0 aT1) (And.intro aT2 aT3)))) (And.intro (And.intro (And.intro aT4 (And.intro aT5 aT6)) (And.intro aT7 (And.intro aT8 aT9))) (And.intro (And.intro aTa (And.intro aTb aTc)) (And.intro (And.intro aTd aTe) (And.intro aTf aTg))))) (And.intro (And.intro (And.intro (And.intro aTh (And.intro aTi aTj)) (And.intro aTk (And.intro aTl aTm))) (And.intro (And.intro aTn (And.intro aTo aTp)) (And.intro (And.intro aTq aTr) (And.intro aTs aTt)))) (And.intro (And.intro (And.intro aTu (And.intro aTv aTw)) (And.intro aTx (And.intro aTy aTz))) (And.intro (And.intro aUA (And.intro aUB aUC)) (And.intro (And.intro aUD aUE) (And.intro aUF aUG)))))) (And.intro (And.intro (And.intro (And.intro (And.intro aUH (And.intro aUI aUJ)) (And.intro aUK (And.intro aUL aUM))) (And.intro (And.intro aUN (And.intro aUO aUP)) (And.intro (And.intro aUQ aUR) (And.intro aUS aUT)))) (And.intro (And.intro (And.intro aUU (And.intro aUV aUW)) (And.intro aUX (And.intro aUY aUZ))) (And.intro (And.intro aU0 (And.intro aU1 aU2)) (And.intro (And.intro aU3 aU4) (And.intro aU5 aU6))))) (And.intro (And.intro (And.intro (And.intro aU7 (And.intro aU8 aU9)) (And.intro aUa (And.intro aUb aUc))) (And.intro (And.intro aUd (And.intro aUe aUf)) (And.intro (And.intro aUg aUh) (And.intro aUi aUj)))) (And.intro (And.intro (And.intro aUk (And.intro aUl aUm)) (And.intro (And.intro aUn aUo) (And.intro aUp aUq))) (And.intro (And.intro aUr (And.intro aUs aUt)) (And.intro (And.intro aUu aUv) (And.intro aUw aUx))))))) (And.intro (And.intro (And.intro (And.intro (And.intro (And.intro aUy (And.intro aUz aVA)) (And.intro aVB (And.intro aVC aVD))) (And.intro (And.intro aVE (And.intro aVF aVG)) (And.intro (And.intro aVH aVI) (And.intro aVJ aVK)))) (And.intro (And.intro (And.intro aVL (And.intro aVM aVN)) (And.intro aVO (And.intro aVP aVQ))) (And.intro (And.intro aVR (And.intro aVS aVT)) (And.intro (And.intro aVU aVV) (And.intro aVW aVX))))) (And.intro (And.intro (And.intro (And.intro aVY (And.intro aVZ aV0)) (And.intro aV1 (And.intro aV2 aV3))) (And.intro (And.intro aV4 (And.intro aV5 aV6)) (And.intro (And.intro aV7 aV8) (And.intro aV9 aVa)))) (And.intro (And.intro (And.intro aVb (And.intro aVc aVd)) (And.intro aVe (And.intro aVf aVg))) (And.intro (And.intro aVh (And.intro aVi aVj)) (And.intro (And.intro aVk aVl) (And.intro aVm aVn)))))) (And.intro (And.intro (And.intro (And.intro (And.intro aVo (And.intro aVp aVq)) (And.intro aVr (And.intro aVs aVt))) (And.intro (And.intro aVu (And.intro aVv aVw)) (And.intro (And.intro aVx aVy) (And.intro aVz aWA)))) (And.intro (And.intro (And.intro aWB (And.intro aWC aWD)) (And.intro aWE (And.intro aWF aWG))) (And.intro (And.intro aWH (And.intro aWI aWJ)) (And.intro (And.intro aWK aWL) (And.intro aWM aWN))))) (And.intro (And.intro (And.intro (And.intro aWO (And.intro aWP aWQ)) (And.intro aWR (And.intro aWS aWT))) (And.intro (And.intro aWU (And.intro aWV aWW)) (And.intro (And.intro aWX aWY) (And.intro aWZ aW0)))) (And.intro (And.intro (And.intro aW1 (And.intro aW2 aW3)) (And.intro (And.intro aW4 aW5) (And.intro aW6 aW7))) (And.intro (And.intro aW8 (And.intro aW9 aWa)) (And.intro (And.intro aWb aWc) (And.intro aWd aWe))))))))
theorem aAN {F:Fence} {n:Nat} {P:Program} {o:Oper} {a:Act} {w:World} {K K':Act->World->Prop} {Q Q':Exit->Act->World->Prop} (h:o.wpIn F n P a w K Q) (hk:∀a w,K a w->K' a w) (hq:∀e a w,e≠ .normal->Q e a w->Q' e a w):o.wpIn F n P a w K' Q':=by
 refine Oper.wpIn_mono (K:=K) hk ?_
 unfold Oper.wpIn at *
 refine⟨h.1,?_⟩
 have h2:=h.2
 generalize (o.semAt F.round a.eval).run P w=r at *
 cases r with
 |ok x w'=>
  cases x <;> simp only[Oper.uponIn] at h2 ⊢ <;>
   first
    |exact h2
    |exact⟨h2.1,CallsIn.mono h2.2 (fun e w'' he=>by cases e <;> first|exact he|exact hq _ _ _ (by simp) he|(obtain⟨v,hv,hf⟩:=he;exact⟨v,hv,hq _ _ _ (by simp) hf⟩))⟩
    |exact⟨h2.1,RoundIn.mono h2.2 (fun e w'' he=>by cases e <;> first|exact he|exact hq _ _ _ (by simp) he|(obtain⟨v,hv,hf⟩:=he;exact⟨v,hv,hq _ _ _ (by simp) hf⟩))⟩
 |halt x w'=>cases x <;> simp only[Oper.uponIn] at h2 ⊢ <;> first|exact h2|exact hq _ _ _ (by simp) h2
theorem yH {F:Fence} {n:Nat} {P:Program} {aV:Array Oper} {Q Q':Exit->Act->World->Prop} {l2:List Oper} (hn:∀a w,Q' .normal a w->wpListIn F n P aV Q l2 a w) (hq:∀e a w,e≠ .normal->Q' e a w->Q e a w):∀{l1:List Oper} {a:Act} {w:World},wpListIn F n P aV Q' l1 a w->wpListIn F n P aV Q (l1++l2) a w
 |[],a,w,h=>hn a w h
 |o::l1,a,w,h=>by
  simp only[eT,wpListIn] at h ⊢
  split at h
  ·rename_i hw
   rw[aH hw]
   exact aAN h (fun a w h=>yH hn hq h) hq
  ·rename_i hw
   rw[aD hw]
   exact⟨h.1,yH hn hq h.2⟩
theorem aFw {cx:Cx} {aV:Array Oper} {l1 l2:List Oper} {Q:Exit->St->Prop} {s:St} (h:WL cx aV l1 (iV (WL cx aV l2 Q) Q) s):WL cx aV (l1++l2) Q s:=fun a w m=>
 yH (Q':=QQ cx (iV (WL cx aV l2 Q) Q)) (fun a w ⟨s',m',q⟩=>q a w m') (fun e a w he ⟨s',m',q⟩=>⟨s',m',by cases e <;> first|exact absurd rfl he|exact q⟩) (h a w m)
theorem UO {n k:Nat} {l:List Oper} (h:eP n l=true):eP n (l.take k)=true:=by
 unfold eP at h ⊢
 rw[eD] at h ⊢
 exact fun o ho=>h o (DI ho)
theorem aFx {cx:Cx} {aV l:List Oper} {Q:Exit->St->Prop} {s:St} (n:Nat) (eX:eP cx.n aV=true) (hl:eP cx.n l=true) (h:nF cx aV.toArray (iV (WL cx aV.toArray (l.drop n) Q) Q) (l.take n) s):WL cx aV.toArray l Q s:=by
 rw[<-kV n l]
 exact aFw (FX eX (UO hl) h)
theorem VD {cx:Cx} {id:Nat} {aV:List Oper} {Q:Exit->St->Prop} {s:St} (n:Nat) (eX:eP cx.n aV=true) (h:nF cx aV.toArray (iV (WL cx aV.toArray (aV.drop n) Q) Q) (aV.take n) s):W cx (.region id aV.toArray false) Q s:=
 B8 (aFx n eX eX h)
def Sl (e:TypeId) (sz:Nat) (els:List (List D)) (d:D) (H0 H:aA):Prop:=
 (d=.val (.slice none 0 0)/\els=[]/\H=H0)\/∃c o,d=.os c o sz 0 els.length/\H0 c=none/\H=H0.bH c (.row e o sz els)
theorem Sl.nil (e:TypeId) (sz:Nat) (H:aA):Sl e sz [] (.val (.slice none 0 0)) H H:=.inl ⟨rfl,rfl,rfl⟩
theorem RL {H:aA} {sz:Nat} {x:D} {els:List (List D)} {K:List (List D)->Prop} (h:jZ H sz x (·=els)) (hk:K els):jZ H sz x K:=by
 unfold jZ at h ⊢
 split at h
 ·exact⟨h.1,h.2▸hk⟩
 ·exact aDc h hk
theorem Sl.VF {P:Program} {t xt e:TypeId} {td xd:Ti} {sz sY:Nat} {zs:List Value} (h1:aS P t=some td) (Y6:td.d=.slice e) (h2:aS P xt=some xd) (h2':xd.d.lZ=true) {ed:TD} (h3:aS P e=some ⟨ed,sz,sY,some zs⟩) (hzs:zs.length=sz) (hby:sY≠0)
  {els new:List (List D)} {x y:D} {H0 H:aA} {K:D->aA->Prop} (hs:Sl e sz els x H0 H) (hy:jZ H sz y (·=new)) (hb:(els.length+new.length) * sY<=140737488355328) (hk:∀d H',Sl e sz (els++new) d H0 H'->K d H'):VF P H t xt x y K:=by
 obtain⟨d0,i0,j0,k0⟩:=td
 simp only at Y6
 subst Y6
 unfold Go.Proofs.YtelbfbioomcmeaaGreatDoor.VF
 rw[h1,h2]
 simp only
 refine⟨h2',?_⟩
 rw[h3]
 simp only
 refine⟨hzs,hby,RL hy ?_⟩
 rcases hs with⟨rfl,rfl,rfl⟩|⟨c,o,rfl,hc,rfl⟩
 ·refine⟨by simpa using hb,fun e=>hk _ _ (.inl ⟨rfl,by simp [e],rfl⟩),fun fP b hbn=>hk _ _ (.inr ⟨b,0,by simp,hbn,by simp⟩)⟩
 ·simp only
  refine⟨trivial,hb,?_⟩
  rw[aQ]
  simp only
  refine⟨trivial,trivial,trivial,by omega,fun b' o' D9=>hk _ _ (.inr ⟨b',o',by rw[bJ],?_,?_⟩)⟩
  ·rwa[nV,oU hc] at D9
  ·rw[nV,oU hc,iY,kW]
theorem MN {x:D} {p:D->aA->Prop}:(∀d A,(A=aA.none/\d=x)->p d A)=p x aA.none:=propext ⟨fun h=>h _ _ ⟨rfl,rfl⟩,fun h d A e=>by rw[e.1,e.2];exact h⟩
theorem aII {x:D} {y:aA} {p:D->aA->Prop}:(∀d H',(d=x/\H'=y)->p d H')=p x y:=propext ⟨fun h=>h _ _ ⟨rfl,rfl⟩,fun h d A e=>by rw[e.1,e.2];exact h⟩
theorem VE {cx:Cx} {x y:Code} {Q:Exit->St->Prop} {s:St} (M:St->Prop) (h1:W cx x (iV M (fun _ _=>False)) s) (h2:∀s,M s->W cx y Q s):W cx (.seq x y) Q s:=
 bO (sA h1 fun e s' q=>by cases e <;> first|exact h2 s' q|exact q.elim)
theorem NL {H:aA} {w:World} {b o sz i k:Nat} {ty:TypeId} {els:List (List D)} {el:List D} {v:Value} (hH:fQ w H) (hb:H b=some (.row ty o sz els)) (hi:els[i]?=some el)
  (h0:D.is w H.others (.ep b o sz i k) v):D.is w (H.del b).others (.rp (el.drop k)) v:=by
 simp only[D.is] at h0 ⊢
 obtain⟨cs,fr,h1,h2,h3,h4⟩:=hH _ _ hb
 refine⟨b,_,h0,sX _ _,hH.lt hb,?_⟩
 obtain⟨vs,g3,g4⟩:=dR (j8 (eA h4 i el hi).2 k)
 exact dV (bV (nI (wK H b) w) _ g3) g4
def St.gU (s:St) (t:Nat) (b k:Nat) (el:List D):St:=(s.dW (s.H.del b)).put (some t) (.rp (el.drop k))
theorem UI {cx:Cx} {s:St} {a:Act} {w:World} {t b o sz i k:Nat} {ty:TypeId} {els:List (List D)} {el:List D} (ht:s.fr t=.ep b o sz i k) (hb:s.H b=some (.row ty o sz els)) (hi:els[i]?=some el) (m:cH cx s a w):cH cx (s.gU t b k el) a w:=by
 have m2:=m.less (wK s.H b)
 refine⟨m2.n,m2.df,fun x=>?_,m2.H,m2.ev⟩
 have ef:(s.gU t b k el).fr x=if x=t then .rp (el.drop k) else s.fr x:=rfl
 rw[ef]
 show D.is w (s.H.del b).others _ _
 by_cases hx:x=t
 ·subst hx
  rw[aH rfl]
  have h0:=m.fr x
  rw[ht] at h0
  exact NL m.H hb hi h0
 ·rw[aD hx]
  exact m2.fr x
theorem bS {cx:Cx} {c:Code} {Q:Exit->St->Prop} {s:St} (t:Nat) {b o sz i k:Nat} {ty:TypeId} {els:List (List D)} {el:List D} (ht:s.fr t=.ep b o sz i k) (hb:s.H b=some (.row ty o sz els)) (hi:els[i]?=some el) (h:W cx c Q (s.gU t b k el)):W cx c Q s:=fun a w m=>h a w (UI ht hb hi m)
theorem NH {H:aA} {w:World} {b:Nat} {x y:gB} {o o':Obj} (hH:fQ w H) (hb:H b=some x) (ho:w.heap[b]?=some o) (hc:∀cs t fr,o≠ .cells cs t fr) (hy:rC (w.putObj b o') (H.bH b y) b y):Ev H w (H.bH b y) (w.putObj b o')/\fQ (w.putObj b o') (H.bH b y):=by
 have aBj:∀c,c≠b->(w.putObj b o').heap[c]?=w.heap[c]?:=fun c h=>World.putObj_heap_other h
 have iP:Ev H w (H.bH b y) (w.putObj b o'):=mV (by rw[hb];simp) rfl rfl rfl World.putObj_size aBj fun cs t fr h=>by
  rw[ho] at h
  injection h with h
  exact absurd h (hc cs t fr)
 exact⟨iP,kS hH iP aBj hy⟩
theorem EN {w:World} {b:Nat} {o o':Obj} (ho:w.heap[b]?=some o):(w.putObj b o').heap[b]?=some o':=World.putObj_heap_same (nR.1 ho).1
def NB:Obj:=Obj.deferred (some [])
def mk:List Deferred->aA->Prop
 |[],_=>True
 |d::ds,H=>∃D,d={target:=.collected D,args:= #[]}/\H D=some (.obj NB)/\mk ds (H.bH D .hid)
def RQ:List Deferred->aA->aA
 |[],H=>H
 |d::ds,H=>match d.target with
  | .collected D=>RQ ds (H.bH D .hid)
  |_=>RQ ds H
theorem cH.aXz {cx:Cx} {s:St} {a:Act} {w:World} (m:cH cx s a w) (ds:List Deferred):cH cx {s with df:=ds} {a with defers:=ds} w:=⟨m.n,rfl,m.fr,m.H,m.ev⟩
theorem WT {cx:Cx} {fn:Func} {R:Ending->World->Prop}:∀(ds:List Deferred) (s:St) (a:Act) (w:World),cH cx s a w->mk ds s.H->
  (∀a' w',a'.tmps=a.tmps->cH cx {s with H:=RQ ds s.H,df:=[]} a' w'->∃v,(results fn a'.tmps).run cx.P w'=.ok v w'/\R (.returned v) w')->LeavesInM (FR none) 9 cx.P fn a.tmps R ds .returning w
 |[],s,a,w,m,_,h=>by
  obtain⟨v,h1,h2⟩:=h {a with defers:=[]} w rfl (m.aXz [])
  exact⟨v,h1,h2⟩
 |d::ds,s,a,w,m,hm,h=>by
  obtain⟨D,rfl,hD,hm⟩:=hm
  have NX:w.heap[D]?=some NB:=m.H D _ hD
  obtain⟨iP,eX⟩:=NH (o':=.deferred none) (y:=.hid) m.H hD NX (fun _ _ _ h=>by cases h) (by
   show D<(w.putObj D (.deferred none)).heap.size
   rw[World.putObj_size]
   exact(nR.1 NX).1)
  refine⟨by simp,.inl ⟨D,_,rfl,run_takeDeferred NX,?_⟩⟩
  exact WT ds (s.dW (s.H.bH D .hid)) a _ (m.go iP eX) hm h
theorem xR {P:Program} {f:FuncId} {fn:Func} {c:Code} {ds:List D} {H:aA} {K:D->aA->Prop} (N:Nat) (rs:List ResultVar) (hf:P.funcs[f]?=some fn) (uV:(fn.name== "runtime.NumGoroutine")=false) (hb:fn.body=some c) (hN:fn.ntmps=N) (J1:fn.results=rs.toArray) (hl:ds.length<=N)
  (h:∀w0 (g0:E3 w0 H) (Q:Exit->St->Prop),(∀e s,e=.normal\/e=.ret->mk s.df s.H->BW P {s with H:=RQ s.df s.H,df:=[]} rs (fun d=>∃H',H'.le (RQ s.df s.H)/\K d H')->Q e s)->W ⟨P,none,N,H,w0,g0⟩ c Q (St.init ds H)):aT P f ds H K:=And.intro (tZ hf uV hb) fun w vs sN hH hG=>by
 refine tG (ro:=none) (n:=9) (callsIn_of_wp_marks hf hb trivial ?_ rfl)
 have eB:=jO sN
 have m:cH ⟨P,none,N,H,w,hG⟩ (St.init ds H) {tmps:=vs.toArray++Array.replicate (fn.ntmps - vs.toArray.size) undef,defers:=[]} w:=by
  refine⟨by simp;omega,rfl,fun t=>?_,hH,gC _ _⟩
  simp only[St.init]
  rcases jW t ds.length with gL|EC
  ·obtain⟨v,h1,h2⟩:=l3 sN t ds[t] (by simp [gL])
   have e1:ds.getD t (.val undef)=ds[t]:=by simp [List.getD,gL]
   have e2:(vs.toArray++Array.replicate (fn.ntmps - vs.toArray.size) undef).getD t undef=v:=by
    rw[uE,DF (by simp;omega)]
    simp [h1]
   rw[e1,e2];exact h2
  ·have e1:ds.getD t (.val undef)=.val undef:=by simp [List.getD,EC]
   rw[e1]
   simp only[D.is]
   rw[uE,DE (by simp;omega),G8]
   split <;> rfl
 refine wpIn_mono (h w hG (fun e s=>(e=.normal\/e=.ret)/\mk s.df s.H/\PL ⟨P,none,N,H,w,hG⟩ fn {s with H:=RQ s.df s.H,df:=[]} K) (fun e s he hm hr=>⟨he,hm,?_⟩) _ _ m) fun e a' w' ⟨s',m',q⟩=>?_
 ·have hq:aBE ⟨P,none,N,H,w,hG⟩ fn K .normal {s with H:=RQ s.df s.H,df:=[]}:=CJ (.inl rfl) rfl (by rw[J1];simpa using hr)
  exact hq.2
 ·obtain⟨he,hm,eE⟩:=q
  have key:LeavesInM (FR none) 9 P fn a'.tmps (fun e w'=>∃v d H',e=.returned v/\D.is w' H'.others d v/\fQ w' H'/\Ev H w H' w'/\K d H') a'.defers .returning w':=by
   rw[m'.df]
   refine WT s'.df s' a' w' m' hm fun a2 w2 ht m2=>?_
   obtain⟨v,d,H',h1,h2,h3,h4⟩:=eE a2 w2 m2
   have m3:=m2.less h3
   exact⟨v,h1,v,d,H',rfl,h2,m3.H,m3.ev,h4⟩
  rcases he with rfl|rfl
  ·exact key
  ·exact key
theorem JS {ro:Option Nat} {n:Nat} (m:Nat) {P:Program} {c:Code} {Q:Exit->Act->World->Prop} {a:Act} {w:World} (h:c.wpIn (FR ro) m P Q a w):c.wpIn (FR ro) n P Q a w:=
 fun b k cs h1 h2 _=>h b k cs h1 h2 (fun _ h=>by simp [FR,Fence.wide] at h)
def yD (l:Nat):D:=.val (.func (.yield l) #[] #[])
def YCG {α:Type} (P:Program) (l:Nat) (H0:aA) (w0:World) (J Jx:List α->aA->Prop) (mN:α->List D) (Pf:List α->Prop):Prop:=
 ∀(pre:List α) (x:α) (Hc:aA) (w:World) (vs:List Value),Pf (pre++[x])->J pre Hc->fQ w Hc->Ev H0 w0 Hc w->aW w Hc.others (mN x) vs->
  YieldAt (FR none) 8 P l vs.toArray w fun e w'=>∃JW,fQ w' JW/\Ev Hc w JW w'/\(∀b o,H0 b=none->Hc b=some (.obj o)->JW b=some (.obj o))/\((e=.returned (.bool true)/\J (pre++[x]) JW)\/(e=.returned (.bool false)/\Jx (pre++[x]) JW))
def YC {α:Type} (P:Program) (l:Nat) (H0:aA) (w0:World) (J Jx:List α->aA->Prop) (mN:α->List D) (xs:List α):Prop:=YCG P l H0 w0 J Jx mN (·<+:xs)
def MD {α:Type} (H0:aA) (J:List α->aA->Prop):Prop:=∀pre H b o,H0 b=none->(∀z,H b=some z->∃o',z=.obj o')->J pre H->J pre (H.bH b (.obj o))
def aAS {α:Type} (P:Program) (gf:FuncId) (dO:List D) (mN:α->List D) (Pf Fn:List α->Prop) (ok kp:aA->Prop):Prop:=
 XP P gf/\∀(l:Nat) (J Jx:List α->aA->Prop) (H:aA) (w0:World) (vs:List Value),ok H->fQ w0 H->E3 w0 H->J [] H->MD H J->MD H Jx->(∀pre Hc,J pre Hc->kp Hc)->YCG P l H w0 J Jx mN Pf->aW w0 H.others (yD l::dO) vs->
  Calls P gf vs.toArray w0 fun e w'=>∃v H',e=.returned v/\fQ w' H'/\Ev H w0 H' w'/\((∃ys,Fn ys/\J ys H')\/∃pre,Jx pre H')
def TA {α:Type} (P:Program) (gf:FuncId) (dO:List D) (mN:α->List D) (xs:List α) (ok:aA->Prop):Prop:=aAS P gf dO mN (·<+:xs) (·=xs) ok fun _=>True
theorem pW {α:Type} {cx:Cx} {o:Oper} {K:St->Prop} {s:St} {c:Call} {f:Operand} {l:Nat} {J Jx:List α->aA->Prop} {mN:α->List D} {Pf:List α->Prop} (pre:List α) (x:α)
  (tA:o.op=.call c) (QM:c.callee=.value f) (hf:s.ev f=yD l) (hd:BS cx.n o.dst) (hY:YCG cx.P l cx.H0 cx.w0 J Jx mN Pf) (hx:Pf (pre++[x])) (hJ:J pre s.H) (ha:s.xT c.args=mN x)
  (ht:∀H',J (pre++[x]) H'->K ((s.dW H').put o.dst (.val (.bool true)))) (hn:∀H',Jx (pre++[x]) H'->K ((s.dW H').put o.dst (.val (.bool false)))):WO cx o K s:=fun a w m=>by
 refine⟨kI,?_⟩
 rw[ER (by simp [tA])]
 have hfv:=m.uA f
 rw[hf] at hfv
 simp only[yD,D.is] at hfv
 have AV:=m.P4 c.args
 rw[ha] at AV
 obtain⟨fn,tmps,assign,body,hy,hR⟩:=hY pre x s.H w _ hx hJ m.H m.ev AV
 have uW:(execOp a.eval o).run cx.P w=.ok (.round l fn tmps assign body) w:=by
  simp only[execOp,tA,resolve,QM,hfv,Deferred.ofValue,Sem.run_bind,Sem.run_pure,Result.andThen,invoke]
  have e:(c.args.map a.eval).toList.toArray=c.args.map a.eval:=Array.toArray_toList
  rw[e] at hy
  simpa using hy
 rw[uW,Oper.uponIn_round]
 refine⟨fun hd0=>(by cases hd0),?_⟩
 have hR2:RoundIn (FR cx.ro) 8 cx.P l fn tmps assign body w _:=hR
 refine hR2.mono fun e w' ⟨H',h1,h2,_,h3⟩=>?_
 rcases h3 with⟨rfl,h3⟩|⟨rfl,h3⟩
 ·exact⟨_,(m.go h2 h1).put (hU hd) (by simp only[D.is]),ht H' h3⟩
 ·exact⟨_,(m.go h2 h1).put (hU hd) (by simp only[D.is]),hn H' h3⟩
end Go.Proofs.YtelbfbioomcmeaaGreatDoor

