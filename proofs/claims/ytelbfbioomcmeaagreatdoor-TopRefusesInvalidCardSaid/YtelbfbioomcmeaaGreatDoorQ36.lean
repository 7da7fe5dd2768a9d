/- Lemmas and contracts of functions, several texts in one. -/
import Derived.Test.YtelbfbioomcmeaaGreatDoorQ18
import Derived.Test.YtelbfbioomcmeaaGreatDoorQ38
import Derived.WalkKit
import Derived.Test.YtelbfbioomcmeaaGreatDoorProg
import Derived.Laws.CopyOwn
import Derived.Maps.AppendAt
import Derived.Deep.QuietTactic
import Derived.BigQuiet
set_option maxRecDepth 100000
set_option maxHeartbeats 4000000
set_option linter.all false
namespace Go.Proofs.YtelbfbioomcmeaaGreatDoor
open Go.RowKit
open Tryz
def FZ:Array Value:=Array.replicate 256 (.int .u32 0)
def aHx (i:Nat):Value:=.int .u32 (pV (Zn 8 (BitVec.ofNat 32 i)))
def oY (k:Nat):Array Value:=Array.ofFn (n:=256) fun i=>if i.val<k then aHx i.val else .int .u32 0
theorem aAG:FZ=oY 0:=by
 unfold FZ oY
 apply Array.ext
 ·simp
 ·intro i h1 h2;simp
theorem aCk (k:Nat) (_hk:k<256):(oY k).setIfInBounds k (aHx k)=oY (k+1):=by
 apply Array.ext
 ·simp [oY]
 ·intro i h1 h2
  have hi:i<(oY k).size:=by simpa using h1
  rw[Array.getElem_setIfInBounds hi]
  simp only[oY,Array.getElem_ofFn]
  by_cases h:k=i
  ·subst h;simp
  ·have:i<k+1↔i<k:=by omega
   rw[aD h];simp only[this]
theorem aCj (k:Nat) (hk:k<256):(oY k)[k]?=some (.int .u32 0):=by
 unfold oY;simp [hk]
theorem aAF (k i:Nat) (hk:k=256) (hi:i<256):(oY k)[i]?=some (aHx i):=by
 subst hk;unfold oY;simp [hi]
theorem L3 (k:Nat):(oY k).size=256:=by simp [oY]
theorem SG (k:Nat):(oY k).all (·.oneCell')=true:=by
 rw[Array.all_eq_true_iff_forall_mem];intro x hx;simp [oY] at hx;obtain⟨i,rfl⟩:=hx;split <;> rfl
theorem aDC (w:World):(zeroValue 463).run prog w=.ok (.agg FZ) w:=by kernel_rfl
theorem aHr:(prog.info? 463).map (·.size)=some 256:=by kernel_rfl
theorem XG (k:Nat):Option.map (fun x=>x.size) (prog.info? 463)=some (oY k).size:=by rw[aHr,L3]
theorem aFo (k:Nat):FZ.size=(oY k).size:=by rw[L3];simp [FZ]
theorem aEZ (x:BitVec 32):(bits .and .u32 3988292384 ((- (bits .and .u32 (pV x) 1)) % 4294967296))=pV (if x.getLsbD 0 then 0xEDB88320#32 else 0#32):=by
 have e3:pV (x&&& 1#32)=((x.toNat % 2:Nat):Int):=by
  unfold pV
  rw[BitVec.toNat_and]
  exact cV _ (Nat.and_one_is_mod _)
 rw[show(1:Int)=pV (1#32) by rfl,BF,e3,aJ1,show(3988292384:Int)=pV (0xEDB88320#32) by rfl]
 by_cases h:x.toNat % 2=1
 ·rw[h,bF rfl]
  rw[show(-((1:Nat):Int)) % 4294967296=pV (4294967295#32) by decide,BF]
  rfl
 ·rw[show x.toNat % 2=0 by omega,bC (by omega)]
  rw[show(-((0:Nat):Int)) % 4294967296=pV (0#32) by decide,BF]
  rfl
theorem aGe (x:BitVec 32):pV x / (2:Int)=pV (x>>>1):=by unfold pV;rw[aYB];omega
theorem aWl (x:BitVec 32):bits .xor .u32 (pV x / 2) (bits .and .u32 3988292384 ((- (bits .and .u32 (pV x) 1)) % 4294967296))=pV (Z x):=by
 rw[aEZ,aGe,BG]
 rfl
theorem aJg (w:World):Calls prog 368 #[] w fun e w'=>e=.returned (.agg (oY 256))/\Below w.heap.size w w':=by
 have hz:=aDC
 go_enter func368,ntmps368
 go_wp2
 go_loopw [4] (fun i wr=>∃k:Nat,k<=256/\i=.int .i64 k/\Below w.heap.size w wr/\rZ wr (w.heap.size+1) 463 (oY k)/\rZ wr (w.heap.size) 463 (FZ)) (fun i _=>256 - (intOf i).toNat)
 case atStart=>
  refine⟨0,by omega,rfl,((Below.refl _ _).alloc (fA _) _).alloc (by simp) _,?_,(rZ.new w _ _).alloc _⟩
  rw[<-aAG]
  exact rZ.aXu _ _ _ (by simp)
 case round=>
  clear hz
  obtain⟨k,hk,rfl,hb,h1,h0⟩:=hrel
  by_cases h8:k<256
  ·have hc:wr.cell? ⟨w.heap.size+1,k,none⟩=some (.int .u32 0):=by rw[h1.cell,aCj k h8]
   have hf:wr.frozen? ⟨w.heap.size+1,k,none⟩=false:=h1.frozen k
   go_wp2
   go_loop [3,9] (fun s i=>∃j:Nat,j<=8/\i=.int .i64 j/\s=.int .u32 (pV (Zn j (BitVec.ofNat 32 k)))) (fun _ i=>8 - (intOf i).toNat)
   case atStart=>exact⟨0,by omega,rfl,EG (by simp [Zn,pV];omega)⟩
   case round=>
    obtain⟨j,hj,rfl,rfl,rfl⟩:=hrel
    by_cases hj8:j<8
    ·have hp:=ME (Zn j (BitVec.ofNat 32 k))
     go_wp2
     exact⟨⟨j+1,by omega,by go_num,EG (aWl (Zn j (BitVec.ofNat 32 k)))⟩,by simp [intOf];omega⟩
    ·go_wp2
     obtain rfl:j=8:=by omega
     go_roundw
     case rel=>exact⟨k+1,by omega,by go_num,hb.setCell (by simp) _,by rw[<-aCk k h8];exact h1.aYA k _,h0.far (by simp) _⟩
     case measure=>simp [intOf];omega
  ·go_wp2_with (first|((with_reducible refine wpList_load_row (o:=⟨some 23,.load 463 (.tmp 1),_,_,_,_⟩) ?_ 463 (.tmp 1) ?_ (w.heap.size+1) ?_ 463 (oY k) (0,0) _ h1.out underlying463 ?_ (XG k) ?_);rfl;rfl;rfl;rfl)|((with_reducible refine wpList_store_row (o:=⟨none,.store 463 (.tmp 0) (.tmp 23),_,_,_,_⟩) ?_ 463 (.tmp 0) (.tmp 23) ?_ w.heap.size (oY k) ?_ ?_ 463 FZ h0.out (XG k) (aFo k) (SG k) ?_);rfl;rfl;rfl;rfl))
   have hk:k=256:=by omega
   refine bodyPost_ret (results_cell_row (P:=prog) rfl _ _ w.heap.size 463 (oY k) (0,0) _ rfl (h0.XB (oY k)) underlying463 rfl (XG k)) rfl ⟨by rw[hk],below_setRow hb (fA _) _⟩
def ix (x:BitVec 32) (c:UInt8):Nat:=(x ^^^ b32 c).toNat % 256
theorem aJX (x:BitVec 32) (c:UInt8):ix x c<256:=by unfold ix;omega
theorem aBm (x:BitVec 32) (c:UInt8):bits .xor .u8 (pV x % 256) (c.toNat:Int)=(ix x c:Int):=by
 unfold ix
 have hc:=aCr c
 unfold pV
 rw[show((x.toNat:Nat):Int) % (256:Int)=((x.toNat % 256:Nat):Int) by omega,u8_xor_nat _ _ (by omega) hc]
 congr 1
 rw[BitVec.toNat_xor]
 simp only[b32,HE]
 rw[show(256:Nat)=2 ^ 8 by rfl,Nat.xor_mod_two_pow,Nat.mod_mod_of_dvd _ (by decide),wC (a:=c.toNat) (by omega)]
theorem aAb (x:BitVec 32) (c:UInt8):bits .xor .u32 (pV (Zn 8 (BitVec.ofNat 32 (ix x c)))) (pV x / (256:Int))=pV (Zn 8 (x ^^^ b32 c)):=by
 have hc:=aCr c
 unfold ix
 have e:pV x / (256:Int)=pV ((x ^^^ b32 c)>>>8):=by
  unfold pV
  rw[show((x.toNat:Nat):Int) / (256:Int)=((x.toNat / 256:Nat):Int) by omega]
  congr 1
  rw[G7,BitVec.toNat_xor,Nat.shiftRight_xor_distrib]
  simp only[b32,HE,B0]
  rw[show c.toNat % 2 ^ 32 / 2 ^ 8=0 by omega]
  simp
 rw[e,BG,X6]
theorem aFR (w:World) (B:Nat) (A:Option Addr) (cap:Nat) (s:BitVec 32) (l:List UInt8) (hR:Rd w B A (bv l)) (hB:B<=w.heap.size) (hl:l.length<=9223372036854775807):
  Calls prog 291 #[.int .u32 (pV s),.slice A l.length cap] w fun e w'=>e=.returned (.int .u32 (pV (YG s l)))/\Below w.heap.size w w':=by
 have hz:=aDC
 go_enter func291,ntmps291
 go_wp2_with (first|(go_at_call 368;refine(aJg _).mono ?_;rintro e w1 ⟨rfl,sI⟩)|((with_reducible refine wpList_store_row (o:=⟨none,.store 463 (.tmp 5) (.tmp 9),_,_,_,_⟩) ?_ 463 (.tmp 5) (.tmp 9) ?_ _ (oY 256) ?_ ?_ 463 FZ (rZ.new _ _ _).out (XG 256) (aFo 256) (SG 256) ?_);rfl;rfl;rfl;rfl))
 have hT:rZ ((w1.alloc (Obj.cells FZ 463)).setRow w1.heap.size (oY 256)) w1.heap.size 463 (oY 256):=(rZ.new w1 _ FZ).XB _
 have mW:Below w.heap.size w ((w1.alloc (Obj.cells FZ 463)).setRow w1.heap.size (oY 256)):=below_setRow (sI.alloc sI.size _) sI.size _
 have hR2:=hR.below mW hB
 generalize (w1.alloc (Obj.cells FZ 463)).setRow w1.heap.size (oY 256)=W2 at *
 generalize w1.heap.size=g at *
 clear hz sI hR
 go_loop [6,14] (fun t i=>∃k:Nat,k<=l.length/\i=.int .i64 k/\t=.int .u32 (pV (F3 (~~~ s) (l.take k)))) (fun _ i=>l.length - (intOf i).toNat)
 case atStart=>exact⟨0,by omega,rfl,EG (aFi s)⟩
 case round=>
  obtain⟨k,hk,rfl,rfl⟩:=hrel
  by_cases gL:k<l.length
  ·obtain⟨b,o,rfl,hbB,hc⟩:=hR2.byte gL
   have LD:=aBm (F3 (~~~ s) (l.take k)) (l[k])
   have hi8:=aJX (F3 (~~~ s) (l.take k)) l[k]
   have O9:W2.cell? ⟨g,ix (F3 (~~~ s) (l.take k)) l[k],none⟩=some (.int .u32 (pV (Zn 8 (BitVec.ofNat 32 (ix (F3 (~~~ s) (l.take k)) l[k]))))):=by
    rw[hT.cell];exact aAF 256 _ rfl hi8
   have hp:=ME (F3 (~~~ s) (l.take k))
   have hq:=aAT (F3 (~~~ s) (l.take k))
   have NS:=aCr l[k]
   go_wp2
   have T8:=aAH l k gL
   exact⟨⟨k+1,by omega,by go_num,EG (by rw[T8,YF];exact aAb (F3 (~~~ s) (l.take k)) l[k])⟩,by simp [intOf];omega⟩
  ·go_wp2
   go_ret
   have hk:k=l.length:=by omega
   refine⟨aHm (EG ?_),mW⟩
   rw[hk,kW,aFi]
   rfl
theorem aFJ (w:World) (B:Nat) (A:Option Addr) (cap:Nat) (l:List UInt8) (hR:Rd w B A (bv l)) (hB:B<=w.heap.size) (hl:l.length<=9223372036854775807):
  Calls prog 199 #[.slice A l.length cap] w fun e w'=>e=.returned (.int .u32 (pV (YG 0#32 l)))/\Below w.heap.size w w':=by
 go_enter func199,ntmps199
 go_wp2_with (go_at_call 291;refine(aFR _ B _ _ 0#32 _ hR hB hl).mono ?_;rintro e w1 ⟨rfl,sI⟩)
 go_ret
 exact⟨rfl,sI⟩
theorem aCs:(prog.info? 5).map (fun i=>(i.zero,i.size,i.bytes))=some (some (.int .u8 0),1,1):=by kernel_rfl
theorem aQp:(prog.info? 5).map (·.size)=some 1:=by kernel_rfl
theorem aCH (n c:Nat) (hnc:n<=c) (h:c<=281474976710656) (w:World):
  (Instr.makeSlice 47 (.int .i64 (n:Int)) (.int .i64 (c:Int))).run prog w=.ok (.slice (some ⟨w.heap.size,0,none⟩) n c) (w.alloc (.cells (BB c).toArray 5)):=by
 obtain⟨i,hi,hz,hs,hb⟩:=info_parts aCs
 exact aHo 47 5 i underlying47 hi hz hs hb n c hnc h w
theorem aAh {w:World} {B:Nat} {A:Option Addr} {l:List UInt8} (hR:Rd w B A (bv l)) (hB:B<=w.heap.size) (o:Obj) (h:0<(bv l).length):
  some (⟨w.heap.size,0,none⟩:Addr)=some ⟨w.heap.size,0,none⟩/\∃ad,A=some ad/\∀(j:Nat) (v:Value),(bv l)[j]?=some v->(w.alloc o).cell? (ad.add j)=some v:=by
 rw[yN] at h
 obtain⟨b,o',rfl,_,_⟩:=hR.byte h
 refine⟨rfl,_,rfl,fun j v hv=>?_⟩
 obtain⟨b2,o2,e,_,hc⟩:=(hR.alloc hB o) j v hv
 cases e
 rw[Addr.add_lit]
 exact hc
theorem aHa (n:Int):∀u∈[Value.int .u8 n],u.oneCell'=true:=by
 intro u hu
 obtain rfl:u=.int .u8 n:=by simpa using hu
 rfl
theorem aYC (x:BitVec 32) (k:Nat):pV (x>>>(8 * k)) / (256:Int)=pV (x>>>(8 * (k+1))):=by
 unfold pV
 rw[G7,G7,B0,B0,show 8 * (k+1)=8 * k+8 by omega,Nat.pow_add,<-Nat.div_div_eq_div_mul]
 omega
theorem aDQ (l:List UInt8) (k:Nat) (x:BitVec 32):bv (l++leN k x)++[Value.int .u8 (pV (x>>>(8 * k)) % (256:Int))]=bv (l++leN (k+1) x):=by
 rw[leN,<-dN,X4 _ [le1 k x]]
 congr 2
 unfold pV le1
 rw[G7,B0,Nat.pow_mul]
 simp
theorem VH (w:World) (B:Nat) (A:Option Addr) (cap:Nat) (l:List UInt8) (hR:Rd w B A (bv l)) (hB:B<=w.heap.size) (hl:l.length<=140737488355328):
  Calls prog 106 #[.slice A l.length cap] w fun e w'=>∃A' PV,e=.returned (.slice A' (l.length+4) PV)/\w'.ownsRow w.heap.size 5 1 (.slice A' (l.length+4) PV) (l.length+4) (bv (eR l))/\Below w.heap.size w w':=by
 have hmk:=aCH l.length (l.length+4) (by omega) (by omega)
 have ec:((l.length+4:Nat):Int)=(l.length:Int)+4:=by omega
 rw[ec] at hmk
 clear ec
 have uS:(bv l).length=Nat.min l.length l.length:=by rw[yN];exact(Nat.min_self _).symm
 have AO:0+(bv l).length<=(BB (l.length+4)).length:=by rw[yN,DD];omega
 have Hcs:=Lib.hid uS
 clear uS
 go_enter func106,ntmps106
 go_wp2_with (first|((with_reducible refine wpList_copy_splice (o:=⟨some 13,_,_,_,_,_⟩) ?_ (.tmp 11) (.tmp 12) 47 47 ?_ 5 underlying47 aQp (some ⟨w.heap.size,0,none⟩) A l.length (l.length+4) l.length cap ?_ ?_ w.heap.size 0 (BB (l.length+4)) 5 (rZ.new _ _ _).out (bv l) Hcs.out ?_ AO aGN w.heap.size w ((Below.refl _ _).alloc (fA _) _) (fA _) ?_);rfl;rfl;rfl;rfl;exact(aAh hR hB _);intro w1 KF sI)|(go_at_call 199;refine(aFJ _ B _ _ l (hR.below sI hB) (tU hB sI.size) (by omega)).mono ?_;rintro e w2 ⟨rfl,mW⟩))
 have NU:rZ w1 w.heap.size 5 (splice (BB (l.length+4)) 0 (bv l)).toArray:=KF.out
 have GQ:Below w.heap.size w w2:=sI.trans (mW.mono sI.size)
 have hg3:=NU.below mW NU.lt
 have eB:(splice (BB (l.length+4)) 0 (bv l)).length=l.length+4:=by rw[length_splice _ _ _ AO,DD]
 have uX:(splice (BB (l.length+4)) 0 (bv l)).take l.length=bv l:=by simp [splice,yN]
 have NY:w2.ownsRow w.heap.size 5 1 (.slice (some ⟨w.heap.size,0,none⟩) l.length (l.length+4)) l.length (bv l):=
  UR hg3 (fA _) eB (by omega) (by unfold maxLen;omega) uX
 clear hmk KF NU hg3 sI mW eB uX AO Hcs hR
 obtain⟨x,hx⟩:∃x,x=YG 0#32 l:=⟨_,rfl⟩
 rw[<-hx]
 have Hx:=Lib.hid hx
 clear hx
 obtain⟨i0,hi0,hz0,hs0,a04⟩:=info_parts aCs
 go_loopw [3,4,16] (fun v s i wr=>∃k:Nat,k<=4/\i=.int .i64 k/\v=.slice (some ⟨w.heap.size,0,none⟩) (l.length+k) (l.length+4)/\s=.int .u32 (pV (x>>>(8 * k)))/\
   wr.ownsRow w.heap.size 5 1 (.slice (some ⟨w.heap.size,0,none⟩) (l.length+k) (l.length+4)) (l.length+k) (bv (l++leN k x))/\Below w.heap.size w wr) (fun _ _ i _=>4 - (intOf i).toNat)
 case atStart=>exact⟨0,by omega,rfl,rfl,by simp,by simpa [leN] using NY,GQ⟩
 case round=>
  obtain⟨k,hk,rfl,rfl,rfl,NY,hb⟩:=hrel
  by_cases h4:k<4
  ·have hp:=ME (x>>>(8 * k))
   have hq:=aAT (x>>>(8 * k))
   go_wp2_with (at_builtin;((with_reducible refine wpList_append_fits (o:=⟨some 22,_,_,_,_,_⟩) _ ?_ (.tmp 18) (.tmp 21) 47 ?_ w.heap.size 5 i0 1 underlying47 hi0 hs0 w.heap.size (l.length+k) (l.length+4) (bv (l++leN k x)) ?_ (NY.alloc _) ⟨wr.heap.size,0,none⟩ 1 1 [.int .u8 (pV (x>>>(8 * k)) % 256)] ?_ ?_ ?_ ?_ ?_ ?_);rfl;rfl;rfl;rfl;rfl;exact(cell_one_new _ _ _);exact(aHa _);omega;intro w4 aFa aXV))
   refine⟨⟨k+1,by omega,by go_num,rfl,EG (aYC x k),?_,hb.trans (((Below.refl _ _).alloc hb.size _).grown aXV (tU hb.size (by simp)) (fun g hg=>by simp at hg;omega))⟩,by simp [intOf];omega⟩
   rw[aDQ] at aFa
   exact aFa
  ·go_wp2_with fail
   go_ret
   obtain rfl:k=4:=by omega
   refine⟨some ⟨w.heap.size,0,none⟩,l.length+4,rfl,?_,hb⟩
   rw[Hx.out] at NY
   exact NY
theorem aDY {P:Program} {w:World} {B:Nat} {A:Option Addr} {l:List UInt8} (hR:Rd w B A (bv l)) (J3 dst e:TypeId) (hs:P.underlying J3=some (.slice e)) (he:P.underlying e=some (.int .u8))
  (hd:P.underlying dst=some .string) (cap:Nat) {n:Nat} (hn:l.length=n):(convert J3 dst (.slice A n cap)).run P w=.ok (.string (e8 l)) w:=by
 subst hn;exact OO w hR J3 dst e hs he hd cap
theorem aDX (w:World) (B:Nat) (A:Option Addr) (cap:Nat) (l:List UInt8) (hR:Rd w B A (bv l)) (hB:B<=w.heap.size) (hl:l.length<=140737488355320) (hc:l.length<=cap):
  Calls prog 202 #[.slice A l.length cap] w fun e w'=>e=.returned (.bool (vH l))/\Below w.heap.size w w':=by
 by_cases h4:l.length<4
 ·have hb:vH l=false:=by unfold vH;rw[bC (by omega)];rfl
  have Hb:=Lib.hid hb
  clear hb
  go_enter func202,ntmps202
  go_wp2
  go_ret
  rw[Hb.out]
  exact⟨rfl,Below.refl _ _⟩
 ·obtain⟨b,o,rfl,hbB,_⟩:=hR.byte (j:=0) (by omega)
  have hd:bv (l.take (l.length - 4))=(bv l).take (l.length - 4):=by simp [bv]
  have hR2:Rd w B (some ⟨b,o,none⟩) (bv (l.take (l.length - 4))):=by
   intro j u hu
   rw[hd,nU] at hu
   split at hu
   ·exact hR j u hu
   ·cases hu
  have s7:(l.take (l.length - 4)).length=l.length - 4:=by simp
  have h1:=OO (P:=prog) w.drew hR.drew 47 9 5 underlying47 underlying5 underlying9 cap
  have AK:=VH w.drew B (some ⟨b,o,none⟩) cap _ hR2.drew hB (by omega)
  rw[s7,show l.length - 4+4=l.length by omega] at AK
  have hwl:(eR (l.take (l.length - 4))).length=l.length:=by rw[gA,s7];omega
  have Hwl:=Lib.hid hwl
  clear hwl
  have fF:vH l=decide (eR (l.take (l.length - 4))=l):=by unfold vH;rw[bF (by omega),cT]
  have Hck:=Lib.hid fF
  clear fF
  have heq:=aAa (eR (l.take (l.length - 4))) l
  have aWi:=Lib.hid AK
  have Hd:=Lib.hid hd
  have Hl2:=Lib.hid s7
  clear hd s7 AK
  go_enter func202,ntmps202
  go_wp2
  go_region_with (go_at_call 106;refine aWi.out.mono ?_;rintro e w2 ⟨A',PV,rfl,NY,mW⟩;have h2:=OO (P:=prog) w2 (hR.drew.below mW hB) 47 9 5 underlying47 underlying5 underlying9 cap;have h3:=aDY (Rd.aH9 NY) 47 9 5 underlying47 underlying5 underlying9 PV Hwl.out)
  all_goals
   go_wp2
   go_ret
   exact⟨by rw[Hck.out] <;> rfl,(Below.refl _ _).drew.trans mW⟩
theorem PX {w:World} {S:Nat->Prop} (l:List UInt8):aU w S (l.map bD).flatten (bv l):=sB l
theorem aJb {P:Program} {f:FuncId} (he:XP P f) (l m:List UInt8) (T:TypeId) (hm:0<m.length)
  (h:∀w A c,l.length<=c->Rd w w.heap.size A (bv l)->Calls P f #[.slice A l.length c] w fun e w'=>∃A' PV,e=.returned (.slice A' m.length PV)/\w'.ownsRow w.heap.size T 1 (.slice A' m.length PV) m.length (bv m)/\Below w.heap.size w w') (H:aA):
  aT P f [.seq 1 (l.map bD)] H fun d H'=>∃b,H b=none/\d=.os b 0 1 0 m.length/\H'=H.bH b (.row T 0 1 (m.map bD)):=
 And.intro he fun w vs sN hH _=>by
  simp only[aW] at sN
  obtain⟨u,_,rfl,h1,rfl⟩:=sN
  obtain⟨A,c,rfl,QX,hR⟩:=aBq h1
  refine(h w A c QX hR).mono ?_
  rintro e w' ⟨A',PV,rfl,⟨_,ho⟩,hb⟩
  rcases ho with⟨ho,h0⟩|⟨g,cap,wX,ho,hg,hgc,hn,_,lE,uX⟩
  ·omega
  ·injection ho with x1 x2 x3
   subst x1 x3
   have hHg:H g=none:=by
    cases e:H g with
    |none=>rfl
    |some x=>have:=hH.lt e;omega
   have iP:Ev H w (H.bH g (.row T 0 1 (m.map bD))) w':=⟨hb.os,hb.tape,hb.output,hb.size,fun b sI hn1=>⟨hb.block b sI,by rw[aP (by omega)];exact hn1⟩,fun b cs t fr hc=>⟨cs,fr,(hb.block b (nR.1 hc).1).trans hc,rfl⟩⟩
   refine⟨_,_,_,rfl,?_,?_,iP,g,hHg,rfl,rfl⟩
   ·simp only[D.is]
    exact⟨_,_,rfl,hn,.inr ⟨by simp,wX,T,(0,0),hgc,by omega⟩⟩
   ·intro b y hy
    by_cases hbg:b=g
    ·subst hbg
     rw[aQ] at hy
     injection hy with hy
     subst hy
     refine⟨wX,(0,0),hgc,LB _,by rw[bK];omega,rK (vs:=bv m) (fun e he=>by obtain⟨c,_,rfl⟩:=mT.1 he;rfl) (PX m) fun j v hj=>?_⟩
     rw[cell_of_row _ _ _ _ _ _ hgc,iZ,<-uX] at *
     rw[nU] at hj
     split at hj
     ·rw[<-zQ];exact hj
     ·cases hj
    ·rw[aP hbg] at hy
     exact iP.rC (hb.block b (hH.lt hy)) (hH b y hy)
theorem aIY (l:List UInt8) (H:aA) (hl:l.length<=140737488355320):aT prog 106 [.seq 1 (l.map bD)] H fun d H'=>∃b,H b=none/\d=.os b 0 1 0 (eR l).length/\H'=H.bH b (.row 5 0 1 ((eR l).map bD)):=by
 have yX:=gA l
 refine aJb (tZ func106 rfl rfl) l (eR l) _ (by omega) (fun w A c hc hR=>?_) H
 rw[yX]
 exact VH w w.heap.size A c l hR (fA _) (by omega)
theorem aGR (l:List UInt8) (hl:l.length<=140737488355320):aT prog 202 [.seq 1 (l.map bD)] .none fun d _=>d=.val (.bool (vH l)):=
 And.intro (tZ func202 rfl rfl) fun w vs sN hH _=>by
  simp only[aW] at sN
  obtain⟨u,_,rfl,h1,rfl⟩:=sN
  obtain⟨A,c,rfl,QX,hR⟩:=aBq h1
  refine(aDX w w.heap.size A c l hR (fA _) hl QX).mono ?_
  rintro e w' ⟨rfl,hb⟩
  exact⟨_,_,.none,rfl,pA _,fun b x hb=>(by cases hb),aBK hb,rfl⟩
theorem aDW (l:List UInt8) (H:aA) (hl:l.length<=140737488355320):aT prog 202 [.seq 1 (l.map bD)] H fun d H'=>d=.val (.bool (vH l))/\H=H':=yE (aGR l hl) rfl (aQt (nG _ _))
theorem aIZ (l:List UInt8) (H:aA) (hl:l.length<=140737488355320):aT prog 106 [.seq 1 (l.map bD)] H fun d H'=>d=.seq 1 ((eR l).map bD)/\H=H':=
 (aIY l H hl).aHq fun d H' ⟨b,hb,h1,h2⟩=>.inr (.inl ⟨b,0,_,hb,by rw[bK];exact h1,h2⟩)
theorem YA (l:List UInt8):vH (eR l)=true:=by
 have h:=gA l
 have e:(eR l).take ((eR l).length - 4)=l:=by
  rw[h,Nat.add_sub_cancel]
  unfold eR
  rw[List.take_left]
 unfold vH
 rw[e,bF (by omega),bF rfl]
 rfl
theorem aGS (l:List UInt8) (H:aA) (hl:l.length<=140737488355300):aT prog 202 [.seq 1 ((eR l).map bD)] H fun d H'=>d=.val (.bool true)/\H=H':=by
 have h:=aDW (eR l) H (by rw[gA];omega)
 rwa[YA] at h
end Go.Proofs.YtelbfbioomcmeaaGreatDoor
