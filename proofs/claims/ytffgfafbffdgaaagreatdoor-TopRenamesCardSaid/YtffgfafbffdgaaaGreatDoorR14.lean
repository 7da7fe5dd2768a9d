/- Lemmas and contracts of functions, several texts in one. -/
import Derived.Test.YtffgfafbffdgaaaGreatDoorProg
import Derived.Test.YtffgfafbffdgaaaGreatDoorR13
import Derived.Laws.CopyOwn
import Derived.Maps.AppendAt
import Derived.Deep.QuietTactic
import Derived.BigQuiet
import Derived.Test.YtffgfafbffdgaaaGreatDoorR07
set_option maxRecDepth 100000
set_option maxHeartbeats 4000000
set_option linter.all false
namespace Go.Proofs.YtffgfafbffdgaaaGreatDoor
open Go.RowKit
open Tryz
variable {w:World}
def yQ:Array Value:=Array.replicate 256 (.int .u32 0)
def X1 (i:Nat):Value:=.int .u32 (me (Zn 8 (BitVec.ofNat 32 i)))
def mE (k:Nat):Array Value:=Array.ofFn (n:=256) λi=>if i.val<k then X1 i.val else .int .u32 0
theorem MG:yQ=mE 0:=by
 unfold yQ mE;apply Array.ext
 ·simp
 ·intro i h1 h2;simp
theorem QG (k:Nat)(_hk:k<256):(mE k).setIfInBounds k (X1 k)=mE (k+1):=by
 apply Array.ext
 ·simp [mE]
 ·intro i h1 h2
  have hi:i<(mE k).size:=by simpa using h1
  rw[Array.getElem_setIfInBounds hi];simp only[mE,Array.getElem_ofFn];by_cases h:k=i
  ·subst h;simp
  ·have:i<k+1↔i<k:=by omega
   rw[if_neg h];simp only[this]
theorem QF (k:Nat)(hk:k<256):(mE k)[k]?=some (.int .u32 0):=by unfold mE;simp [hk]
theorem MF (k i:Nat)(hk:k=256)(hi:i<256):(mE k)[i]?=some (X1 i):=by subst hk;unfold mE;simp [hi]
theorem Cf (k:Nat):(mE k).size=256:=by simp [mE]
theorem GZ (k:Nat):(mE k).all (·.oneCell')=true:=by rw[Array.all_eq_true_iff_forall_mem];intro x hx;simp [mE] at hx;obtain⟨i,rfl⟩:=hx;split <;> rfl
theorem Qg (w:World):(zeroValue 400).run prog w=.ok (.agg yQ) w:=by kernel_rfl
theorem XW:(prog.info? 400).map (·.size)=some 256:=by kernel_rfl
theorem Jw (k:Nat):Option.map (λx=>x.size) (prog.info? 400)=some (mE k).size:=by rw[XW,Cf]
theorem VB (k:Nat):yQ.size=(mE k).size:=by rw[Cf];simp [yQ]
theorem TA (x:BitVec 32):(bits .and .u32 3988292384 ((- (bits .and .u32 (me x) 1)) % 4294967296))=me (if x.getLsbD 0 then 0xedb88320#32 else 0#32):=by
 have e3:me (x&&& 1#32)=((x.toNat % 2:Nat):Int):=by
  unfold me;rw[BitVec.toNat_and];exact congrArg _ (Nat.and_one_is_mod _)
 rw[show(1:Int)=me (1#32) by rfl,uH,e3,Yu,show(3988292384:Int)=me (0xedb88320#32) by rfl];by_cases h:x.toNat % 2=1
 ·rw[h,decide_eq_true rfl]
  rw[show(-((1:Nat):Int)) % 4294967296=me (4294967295#32) by decide,uH];rfl
 ·rw[show x.toNat % 2=0 by omega,decide_eq_false (by omega)]
  rw[show(-((0:Nat):Int)) % 4294967296=me (0#32) by decide,uH];rfl
theorem WW (x:BitVec 32):me x / (2:Int)=me (x>>>1):=by unfold me;rw[aCq];omega
theorem aC2 (x:BitVec 32):bits .xor .u32 (me x / 2) (bits .and .u32 3988292384 ((- (bits .and .u32 (me x) 1)) % 4294967296))=me (Z x):=by
 rw[TA,WW,uI];rfl
theorem ZY (w:World):Calls prog 306 #[] w λe w'=>e=.returned (.agg (mE 256))/\Below w.heap.size w w':=by
 have hz:=Qg;go_enter func306,ntmps306;go_wp2;go_loopw [4] (λi wr=>∃k:Nat,k<=256/\i=.int .i64 k/\Below w.heap.size w wr/\nM wr (w.heap.size+1) 400 (mE k)/\nM wr (w.heap.size) 400 (yQ)) (λi _=>256 - (intOf i).toNat)
 case atStart=>
  refine⟨0,by omega,rfl,((Below.refl _ _).alloc (Nat.le_refl _) _).alloc (by simp) _,?_,(nM.new w _ _).alloc _⟩;rw[<-MG];exact nM.aCl _ _ _ (by simp)
 case round=>
  clear hz;obtain⟨k,hk,rfl,hb,h1,h0⟩:=hrel;by_cases h8:k<256
  ·have hc:wr.cell? ⟨w.heap.size+1,k,none⟩=some (.int .u32 0):=by rw[h1.cell,QF k h8]
   have hf:wr.frozen? ⟨w.heap.size+1,k,none⟩=false:=h1.frozen k;go_wp2;go_loop [3,9] (λs i=>∃j:Nat,j<=8/\i=.int .i64 j/\s=.int .u32 (me (Zn j (BitVec.ofNat 32 k)))) (λ_ i=>8 - (intOf i).toNat)
   case atStart=>exact⟨0,by omega,rfl,xF (by simp [Zn,me];omega)⟩
   case round=>
    obtain⟨j,hj,rfl,rfl,rfl⟩:=hrel;by_cases hj8:j<8
    ·have hp:=Cs (Zn j (BitVec.ofNat 32 k))
     go_wp2;exact⟨⟨j+1,by omega,by go_num,xF (aC2 (Zn j (BitVec.ofNat 32 k)))⟩,by simp [intOf];omega⟩
    ·go_wp2
     obtain rfl:j=8:=by omega
     go_roundw
     case rel=>exact⟨k+1,by omega,by go_num,hb.setCell (by simp) _,by rw[<-QG k h8];exact h1.aCp k _,h0.far (by simp) _⟩
     case measure=>simp [intOf];omega
  ·go_wp2_with (first|((with_reducible refine wpList_load_row (o:=⟨some 23,.load 400 (.tmp 1),_,_,_,_⟩) ?_ 400 (.tmp 1) ?_ (w.heap.size+1) ?_ 400 (mE k) (0,0) _ h1.out underlying400 ?_ (Jw k) ?_);rfl;rfl;rfl;rfl)|((with_reducible refine wpList_store_row (o:=⟨none,.store 400 (.tmp 0) (.tmp 23),_,_,_,_⟩) ?_ 400 (.tmp 0) (.tmp 23) ?_ w.heap.size (mE k) ?_ ?_ 400 yQ h0.out (Jw k) (VB k) (GZ k) ?_);rfl;rfl;rfl;rfl))
   have hk:k=256:=by omega
   refine bodyPost_ret (results_cell_row (P:=prog) rfl _ _ w.heap.size 400 (mE k) (0,0) _ rfl (h0.Jq (mE k)) underlying400 rfl (Jw k)) rfl ⟨by rw[hk],below_setRow hb (Nat.le_refl _) _⟩
def ix (x:BitVec 32) (c:UInt8):Nat:=(x ^^^ Ve c).toNat % 256
theorem Yl (x:BitVec 32)(c:UInt8):ix x c<256:=by unfold ix;omega
theorem OM (x:BitVec 32)(c:UInt8):bits .xor .u8 (me x % 256) (c.toNat:Int)=(ix x c:Int):=by
 unfold ix;have hc:=QT c;unfold me;rw[show((x.toNat:Nat):Int) % (256:Int)=((x.toNat % 256:Nat):Int) by omega,u8_xor_nat _ _ (by omega) hc];congr 1;rw[BitVec.toNat_xor];simp only[Ve,BitVec.toNat_ofNat];rw[show(256:Nat)=2 ^ 8 by rfl,Nat.xor_mod_two_pow,Nat.mod_mod_of_dvd _ (by decide),Nat.mod_eq_of_lt (a:=c.toNat) (by omega)]
theorem ND (x:BitVec 32)(c:UInt8):bits .xor .u32 (me (Zn 8 (BitVec.ofNat 32 (ix x c)))) (me x / (256:Int))=me (Zn 8 (x ^^^ Ve c)):=by
 have hc:=QT c;unfold ix;have e:me x / (256:Int)=me ((x ^^^ Ve c)>>>8):=by
  unfold me;rw[show((x.toNat:Nat):Int) / (256:Int)=((x.toNat / 256:Nat):Int) by omega];congr 1;rw[BitVec.toNat_ushiftRight,BitVec.toNat_xor,Nat.shiftRight_xor_distrib];simp only[Ve,BitVec.toNat_ofNat,Nat.shiftRight_eq_div_pow];rw[show c.toNat % 2 ^ 32 / 2 ^ 8=0 by omega];simp
 rw[e,uI,Kc]
theorem UP (w:World)(B:Nat)(A:Option Addr)(cap:Nat)(s:BitVec 32)(l:List UInt8)(hR:Rd w B A (bv l))(hB:B<=w.heap.size)(hl:l.length<=9223372036854775807):
  Calls prog 238 #[.int .u32 (me s),.slice A l.length cap] w λe w'=>e=.returned (.int .u32 (me (Kq s l)))/\Below w.heap.size w w':=by
 have hz:=Qg;go_enter func238,ntmps238;go_wp2_with (first|(go_at_call 306;refine(ZY _).mono ?_;rintro e w1 ⟨rfl,hb1⟩)|((with_reducible refine wpList_store_row (o:=⟨none,.store 400 (.tmp 5) (.tmp 9),_,_,_,_⟩) ?_ 400 (.tmp 5) (.tmp 9) ?_ _ (mE 256) ?_ ?_ 400 yQ (nM.new _ _ _).out (Jw 256) (VB 256) (GZ 256) ?_);rfl;rfl;rfl;rfl));have hT:nM ((w1.alloc (Obj.cells yQ 400)).setRow w1.heap.size (mE 256)) w1.heap.size 400 (mE 256):=(nM.new w1 _ yQ).Jq _;have hb2:Below w.heap.size w ((w1.alloc (Obj.cells yQ 400)).setRow w1.heap.size (mE 256)):=below_setRow (hb1.alloc hb1.size _) hb1.size _;have hR2:=hR.below hb2 hB;generalize (w1.alloc (Obj.cells yQ 400)).setRow w1.heap.size (mE 256)=W2 at *;generalize w1.heap.size=g at *;clear hz hb1 hR;go_loop [6,14] (λt i=>∃k:Nat,k<=l.length/\i=.int .i64 k/\t=.int .u32 (me (yT (~~~ s) (l.take k)))) (λ_ i=>l.length - (intOf i).toNat)
 case atStart=>exact⟨0,by omega,rfl,xF (Ur s)⟩
 case round=>
  obtain⟨k,hk,rfl,rfl⟩:=hrel;by_cases hlt:k<l.length
  ·obtain⟨b,o,rfl,hbB,hc⟩:=hR2.byte hlt
   have hix:=OM (yT (~~~ s) (l.take k)) (l[k]);have hi8:=Yl (yT (~~~ s) (l.take k)) l[k];have hct:W2.cell? ⟨g,ix (yT (~~~ s) (l.take k)) l[k],none⟩=some (.int .u32 (me (Zn 8 (BitVec.ofNat 32 (ix (yT (~~~ s) (l.take k)) l[k]))))):=by rw[hT.cell];exact MF 256 _ rfl hi8
   have hp:=Cs (yT (~~~ s) (l.take k));have hq:=M7 (yT (~~~ s) (l.take k));have hc8:=QT l[k];go_wp2;have Dl:=MH l k hlt;exact⟨⟨k+1,by omega,by go_num,xF (by rw[Dl,Ko];exact ND (yT (~~~ s) (l.take k)) l[k])⟩,by simp [intOf];omega⟩
  ·go_wp2
   go_ret;have hk:k=l.length:=by omega
   refine⟨XN (xF ?_),hb2⟩;rw[hk,List.take_length,Ur];rfl
theorem UF (w:World)(B:Nat)(A:Option Addr)(cap:Nat)(l:List UInt8)(hR:Rd w B A (bv l))(hB:B<=w.heap.size)(hl:l.length<=9223372036854775807):
  Calls prog 162 #[.slice A l.length cap] w λe w'=>e=.returned (.int .u32 (me (Kq 0#32 l)))/\Below w.heap.size w w':=by
 go_enter func162,ntmps162;go_wp2_with (go_at_call 238;refine(UP _ B _ _ 0#32 _ hR hB hl).mono ?_;rintro e w1 ⟨rfl,hb1⟩);go_ret;exact⟨rfl,hb1⟩
theorem QU:(prog.info? 5).map (λi=>(i.zero,i.size,i.bytes))=some (some (.int .u8 0),1,1):=by kernel_rfl
theorem aBJ:(prog.info? 5).map (·.size)=some 1:=by kernel_rfl
theorem Oz (n c:Nat)(hnc:n<=c)(h:c<=281474976710656)(w:World):
  (Instr.makeSlice 47 (.int .i64 (n:Int)) (.int .i64 (c:Int))).run prog w=.ok (.slice (some ⟨w.heap.size,0,none⟩) n c) (w.alloc (.cells (uE c).toArray 5)):=by
 obtain⟨i,hi,hz,hs,hb⟩:=info_parts QU;exact XP 47 5 i underlying47 hi hz hs hb n c hnc h w
theorem NO {B:Nat}{A:Option Addr}{l:List UInt8}(hR:Rd w B A (bv l))(hB:B<=w.heap.size)(o:Obj)(h:0<(bv l).length):
  some (⟨w.heap.size,0,none⟩:Addr)=some ⟨w.heap.size,0,none⟩/\∃ad,A=some ad/\∀(j:Nat) (v:Value),(bv l)[j]?=some v->(w.alloc o).cell? (ad.add j)=some v:=by
 rw[sY] at h;obtain⟨b,o',rfl,_,_⟩:=hR.byte h;refine⟨rfl,_,rfl,λj v hv=>?_⟩;obtain⟨b2,o2,e,_,hc⟩:=(hR.alloc hB o) j v hv;cases e;rw[Addr.add_lit];exact hc
theorem XD (n:Int):∀u∈[Value.int .u8 n],u.oneCell'=true:=by
 intro u hu;obtain rfl:u=.int .u8 n:=by simpa using hu
 rfl
theorem aCr (x:BitVec 32)(k:Nat):me (x>>>(8 * k)) / (256:Int)=me (x>>>(8 * (k+1))):=by
 unfold me;rw[BitVec.toNat_ushiftRight,BitVec.toNat_ushiftRight,Nat.shiftRight_eq_div_pow,Nat.shiftRight_eq_div_pow,show 8 * (k+1)=8 * k+8 by omega,Nat.pow_add,<-Nat.div_div_eq_div_mul];omega
theorem R1 (l:List UInt8)(k:Nat)(x:BitVec 32):bv (l++MV k x)++[Value.int .u8 (me (x>>>(8 * k)) % (256:Int))]=bv (l++MV (k+1) x):=by
 rw[MV,<-List.append_assoc,Ka _ [le1 k x]];congr 2;unfold me le1;rw[BitVec.toNat_ushiftRight,Nat.shiftRight_eq_div_pow,Nat.pow_mul];simp
theorem Ig (w:World)(B:Nat)(A:Option Addr)(cap:Nat)(l:List UInt8)(hR:Rd w B A (bv l))(hB:B<=w.heap.size)(hl:l.length<=140737488355328):
  Calls prog 87 #[.slice A l.length cap] w λe w'=>∃A' aFX,e=.returned (.slice A' (l.length+4) aFX)/\w'.ownsRow w.heap.size 5 1 (.slice A' (l.length+4) aFX) (l.length+4) (bv (dW l))/\Below w.heap.size w w':=by
 have hmk:=Oz l.length (l.length+4) (by omega) (by omega);have ec:((l.length+4:Nat):Int)=(l.length:Int)+4:=by omega
 rw[ec] at hmk;clear ec;have hcs:(bv l).length=Nat.min l.length l.length:=by rw[sY];exact(Nat.min_self _).symm
 have aEc:0+(bv l).length<=(uE (l.length+4)).length:=by rw[sY,wC];omega
 have Hcs:=Lib.hid hcs;clear hcs;go_enter func87,ntmps87;go_wp2_with (first|((with_reducible refine wpList_copy_splice (o:=⟨some 13,_,_,_,_,_⟩) ?_ (.tmp 11) (.tmp 12) 47 47 ?_ 5 underlying47 aBJ (some ⟨w.heap.size,0,none⟩) A l.length (l.length+4) l.length cap ?_ ?_ w.heap.size 0 (uE (l.length+4)) 5 (nM.new _ _ _).out (bv l) Hcs.out ?_ aEc Vl w.heap.size w ((Below.refl _ _).alloc (Nat.le_refl _) _) (Nat.le_refl _) ?_);rfl;rfl;rfl;rfl;exact(NO hR hB _);intro w1 hg1 hb1)|(go_at_call 162;refine(UF _ B _ _ l (hR.below hb1 hB) (Nat.le_trans hB hb1.size) (by omega)).mono ?_;rintro e w2 ⟨rfl,hb2⟩));have hg2:nM w1 w.heap.size 5 (splice (uE (l.length+4)) 0 (bv l)).toArray:=hg1.out;have hb3:Below w.heap.size w w2:=hb1.trans (hb2.mono hb1.size);have MU:=hg2.below hb2 hg2.lt;have cd:(splice (uE (l.length+4)) 0 (bv l)).length=l.length+4:=by rw[length_splice _ _ _ aEc,wC]
 have htk:(splice (uE (l.length+4)) 0 (bv l)).take l.length=bv l:=by simp [splice,sY]
 have Dk:w2.ownsRow w.heap.size 5 1 (.slice (some ⟨w.heap.size,0,none⟩) l.length (l.length+4)) l.length (bv l):=
  Hz MU (Nat.le_refl _) cd (by omega) (by unfold maxLen;omega) htk
 clear hmk hg1 hg2 MU hb1 hb2 cd htk aEc Hcs hR;obtain⟨x,hx⟩:∃x,x=Kq 0#32 l:=⟨_,rfl⟩;rw[<-hx];have Hx:=Lib.hid hx;clear hx;obtain⟨i0,hi0,hz0,hs0,aLI⟩:=info_parts QU;go_loopw [3,4,16] (λv s i wr=>∃k:Nat,k<=4/\i=.int .i64 k/\v=.slice (some ⟨w.heap.size,0,none⟩) (l.length+k) (l.length+4)/\s=.int .u32 (me (x>>>(8 * k)))/\
   wr.ownsRow w.heap.size 5 1 (.slice (some ⟨w.heap.size,0,none⟩) (l.length+k) (l.length+4)) (l.length+k) (bv (l++MV k x))/\Below w.heap.size w wr) (λ_ _ i _=>4 - (intOf i).toNat)
 case atStart=>exact⟨0,by omega,rfl,rfl,by simp,by simpa [MV] using Dk,hb3⟩
 case round=>
  obtain⟨k,hk,rfl,rfl,rfl,Dk,hb⟩:=hrel;by_cases h4:k<4
  ·have hp:=Cs (x>>>(8 * k))
   have hq:=M7 (x>>>(8 * k));go_wp2_with (at_builtin;((with_reducible refine wpList_append_fits (o:=⟨some 22,_,_,_,_,_⟩) _ ?_ (.tmp 18) (.tmp 21) 47 ?_ w.heap.size 5 i0 1 underlying47 hi0 hs0 w.heap.size (l.length+k) (l.length+4) (bv (l++MV k x)) ?_ (Dk.alloc _) ⟨wr.heap.size,0,none⟩ 1 1 [.int .u8 (me (x>>>(8 * k)) % 256)] ?_ ?_ ?_ ?_ ?_ ?_);rfl;rfl;rfl;rfl;rfl;exact(cell_one_new _ _ _);exact(XD _);omega;intro w4 aHP aKE));refine⟨⟨k+1,by omega,by go_num,rfl,xF (aCr x k),?_,hb.trans (((Below.refl _ _).alloc hb.size _).grown aKE (Nat.le_trans hb.size (by simp)) (λg hg=>by simp at hg;omega))⟩,by simp [intOf];omega⟩;rw[R1] at aHP;exact aHP
  ·go_wp2_with fail
   go_ret;obtain rfl:k=4:=by omega
   refine⟨some ⟨w.heap.size,0,none⟩,l.length+4,rfl,?_,hb⟩;rw[Hx.out] at Dk;exact Dk
theorem Rb {P:Program}{B:Nat}{A:Option Addr}{l:List UInt8}(hR:Rd w B A (bv l))(src dst e:TypeId)(hs:P.underlying src=some (.slice e))(he:P.underlying e=some (.int .u8))
  (hd:P.underlying dst=some .string) (cap:Nat) {n:Nat}(hn:l.length=n):(convert src dst (.slice A n cap)).run P w=.ok (.string (dg l)) w:=by
 subst hn;exact EY w hR src dst e hs he hd cap
theorem Ra (w:World)(B:Nat)(A:Option Addr)(cap:Nat)(l:List UInt8)(hR:Rd w B A (bv l))(hB:B<=w.heap.size)(hl:l.length<=140737488355320)(hc:l.length<=cap):
  Calls prog 165 #[.slice A l.length cap] w λe w'=>e=.returned (.bool (qV l))/\Below w.heap.size w w':=by
 by_cases h4:l.length<4
 ·have hb:qV l=false:=by unfold qV;rw[decide_eq_false (by omega)];rfl
  have Hb:=Lib.hid hb;clear hb;go_enter func165,ntmps165;go_wp2;go_ret;rw[Hb.out];exact⟨rfl,Below.refl _ _⟩
 ·obtain⟨b,o,rfl,hbB,_⟩:=hR.byte (j:=0) (by omega)
  have hd:bv (l.take (l.length - 4))=(bv l).take (l.length - 4):=by simp [bv]
  have hR2:Rd w B (some ⟨b,o,none⟩) (bv (l.take (l.length - 4))):=by
   intro j u hu;rw[hd,List.getElem?_take] at hu;split at hu
   ·exact hR j u hu
   ·cases hu
  have hl2:(l.take (l.length - 4)).length=l.length - 4:=by simp
  have h1:=EY (P:=prog) w.drew hR.drew 47 9 5 underlying47 underlying5 underlying9 cap;have aEj:=Ig w.drew B (some ⟨b,o,none⟩) cap _ hR2.drew hB (by omega);rw[hl2,show l.length - 4+4=l.length by omega] at aEj;have hwl:(dW (l.take (l.length - 4))).length=l.length:=by rw[fM,hl2];omega
  have Hwl:=Lib.hid hwl;clear hwl;have hck:qV l=decide (dW (l.take (l.length - 4))=l):=by unfold qV;rw[decide_eq_true (by omega),Bool.true_and]
  have Hck:=Lib.hid hck;clear hck;have heq:=NC (dW (l.take (l.length - 4))) l;have aJ3:=Lib.hid aEj;have Hd:=Lib.hid hd;have Hl2:=Lib.hid hl2;clear hd hl2 aEj;go_enter func165,ntmps165;go_wp2;go_region_with (go_at_call 87;refine aJ3.out.mono ?_;rintro e w2 ⟨A',aFX,rfl,Dk,hb2⟩;have h2:=EY (P:=prog) w2 (hR.drew.below hb2 hB) 47 9 5 underlying47 underlying5 underlying9 cap;have h3:=Rb (Rd.XC Dk) 47 9 5 underlying47 underlying5 underlying9 aFX Hwl.out)
  all_goals
   go_wp2
   go_ret
   exact⟨by rw[Hck.out] <;> rfl,(Below.refl _ _).drew.trans hb2⟩
theorem FD {S:Nat->Prop}(l:List UInt8):aW w S (l.map bD).flatten (bv l):=oK l
theorem ZN {P:Program}{f:FuncId}(he:Gj P f)(l m:List UInt8)(T:TypeId)(hm:0<m.length)
  (h:∀w A c,l.length<=c->Rd w w.heap.size A (bv l)->Calls P f #[.slice A l.length c] w λe w'=>∃A' aFX,e=.returned (.slice A' m.length aFX)/\w'.ownsRow w.heap.size T 1 (.slice A' m.length aFX) m.length (bv m)/\Below w.heap.size w w') (H:aA):
  aN P f [.seq 1 (l.map bD)] H λd H'=>∃b,H b=none/\d=.os b 0 1 0 m.length/\H'=H.aU b (.row T 0 1 (m.map bD)):=
 And.intro he λw vs js hH _=>by
  simp only[aT] at js;obtain⟨u,_,rfl,h1,rfl⟩:=js;obtain⟨A,c,rfl,hlc,hR⟩:=OR h1;refine(h w A c hlc hR).mono ?_;rintro e w' ⟨A',aFX,rfl,⟨_,ho⟩,hb⟩;rcases ho with⟨ho,h0⟩|⟨g,cap,cur,ho,hg,hgc,hn,_,ir,htk⟩
  ·omega
  ·injection ho with x1 x2 x3
   subst x1 x3;have hHg:H g=none:=by
    cases e:H g with
    |none=>rfl
    |some x=>have:=hH.lt e;omega
   have fV:Ev H w (H.aU g (.row T 0 1 (m.map bD))) w':=⟨hb.os,hb.tape,hb.output,hb.size,λb hb1 hn1=>⟨hb.block b hb1,by rw[aA.IY (by omega)];exact hn1⟩,λb cs t fr hc=>⟨cs,fr,(hb.block b (Array.getElem?_eq_some_iff.1 hc).1).trans hc,rfl⟩⟩;refine⟨_,_,_,rfl,?_,?_,fV,g,hHg,rfl,rfl⟩
   ·simp only[D.is]
    exact⟨_,_,rfl,hn,.inr ⟨by simp,cur,T,(0,0),hgc,by omega⟩⟩
   ·intro b y hy
    by_cases hbg:b=g
    ·subst hbg
     rw[aA.G7] at hy;injection hy with hy
     subst hy;refine⟨cur,(0,0),hgc,JH _,by rw[List.length_map];omega,nf (vs:=bv m) (λe he=>by obtain⟨c,_,rfl⟩:=List.mem_map.1 he;rfl) (FD m) λj v hj=>?_⟩;rw[cell_of_row _ _ _ _ _ _ hgc,Nat.zero_add,<-htk] at *;rw[List.getElem?_take] at hj;split at hj
     ·rw[<-Array.getElem?_toList];exact hj
     ·cases hj
    ·rw[aA.IY hbg] at hy
     exact fV.jb (hb.block b (hH.lt hy)) (hH b y hy)
theorem YO (l:List UInt8)(H:aA)(hl:l.length<=140737488355320):aN prog 87 [.seq 1 (l.map bD)] H λd H'=>∃b,H b=none/\d=.os b 0 1 0 (dW l).length/\H'=H.aU b (.row 5 0 1 ((dW l).map bD)):=by
 have hln:=fM l;refine ZN (jH func87 rfl rfl) l (dW l) _ (by omega) (λw A c hc hR=>?_) H;rw[hln];exact Ig w w.heap.size A c l hR (Nat.le_refl _) (by omega)
theorem Vq (l:List UInt8)(hl:l.length<=140737488355320):aN prog 165 [.seq 1 (l.map bD)] .none λd _=>d=.val (.bool (qV l)):=
 And.intro (jH func165 rfl rfl) λw vs js hH _=>by
  simp only[aT] at js;obtain⟨u,_,rfl,h1,rfl⟩:=js;obtain⟨A,c,rfl,hlc,hR⟩:=OR h1;refine(Ra w w.heap.size A c l hR (Nat.le_refl _) hl hlc).mono ?_;rintro e w' ⟨rfl,hb⟩;exact⟨_,_,.none,rfl,lN _,λb x hb=>(by cases hb),Nr hb,rfl⟩
theorem R9 (l:List UInt8)(H:aA)(hl:l.length<=140737488355320):aN prog 165 [.seq 1 (l.map bD)] H λd H'=>d=.val (.bool (qV l))/\H=H':=qf (Vq l hl) rfl (aBO (iU _ _))
theorem YP (l:List UInt8)(H:aA)(hl:l.length<=140737488355320):aN prog 87 [.seq 1 (l.map bD)] H λd H'=>d=.seq 1 ((dW l).map bD)/\H=H':=
 (YO l H hl).XV λd H' ⟨b,hb,h1,h2⟩=>.inr (.inl ⟨b,0,_,hb,by rw[List.length_map];exact h1,h2⟩)
theorem Kh (l:List UInt8):qV (dW l)=true:=by
 have h:=fM l;have e:(dW l).take ((dW l).length - 4)=l:=by
  rw[h,Nat.add_sub_cancel];unfold dW;rw[List.take_left]
 unfold qV;rw[e,decide_eq_true (by omega),decide_eq_true rfl];rfl
theorem Vr (l:List UInt8)(H:aA)(hl:l.length<=140737488355300):aN prog 165 [.seq 1 ((dW l).map bD)] H λd H'=>d=.val (.bool true)/\H=H':=by
 have h:=R9 (dW l) H (by rw[fM];omega);rwa[Kh] at h
end Go.Proofs.YtffgfafbffdgaaaGreatDoor

