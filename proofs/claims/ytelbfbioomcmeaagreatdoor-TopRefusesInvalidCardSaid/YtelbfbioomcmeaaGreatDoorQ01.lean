/- Lemmas and contracts of functions, several texts in one. -/
import Derived.WalkKit
import Derived.Lib.Hide
import Derived.Deep.Draws
import Derived.Laws.AppendOwnNone
import Derived.Maps.AppendAt
import Derived.Laws.CopyOwn
import Derived.Lib.SlBytesConst
import Derived.OrdersIn
import Derived.TacticsIn
import Derived.Laws.Cells
set_option maxRecDepth 100000
set_option maxHeartbeats 4000000
set_option linter.all false
namespace Go.Proofs.YtelbfbioomcmeaaGreatDoor
open Go.RowKit
abbrev aI:=@eq_false
abbrev aD:=@if_neg
abbrev aK:=@eq_true
abbrev aH:=@if_pos
abbrev bL:=@Int.toNat_natCast
abbrev cP:=@List.getElem?_eq_getElem
abbrev bY:=@Int.natCast_nonneg
abbrev bC:=@decide_eq_false
abbrev bJ:=@List.length_append
abbrev dH:=@List.take_succ_eq_append_getElem
abbrev bF:=@decide_eq_true
abbrev bK:=@List.length_map
abbrev dI:=@List.drop_eq_getElem_cons
abbrev bZ:=@List.getElem_mem
abbrev dQ:=@List.take_of_length_le
abbrev dX:=@List.drop_eq_nil_of_le
abbrev cR:=@List.getElem?_map
abbrev dN:=@List.append_assoc
abbrev gP:=@List.eq_nil_of_length_eq_zero
abbrev cS:=@List.mem_append
abbrev dJ:=@List.length_take
abbrev eS:=@List.mem_singleton
abbrev cT:=@Bool.true_and
abbrev eD:=@List.all_eq_true
abbrev eF:=@Bool.and_eq_true
abbrev eT:=@List.cons_append
abbrev kD:=@List.getElem?_eq_some_iff
abbrev kF:=@Classical.byContradiction
abbrev eG:=@List.mem_cons
abbrev fN:=@List.length_cons
abbrev l6:=@List.getD_eq_getElem?_getD
abbrev fI:=@List.map_append
abbrev jP:=@Nat.mul_le_mul_right
abbrev jQ:=@List.mem_of_getElem?
abbrev jR:=@List.mem_cons_of_mem
abbrev nR:=@Array.getElem?_eq_some_iff
abbrev fR:=@List.nil_append
abbrev l7:=@List.getElem?_cons_zero
abbrev kV:=@List.take_append_drop
abbrev nS:=@List.getElem?_append_left
abbrev jS:=@Array.length_toList
abbrev fS:=@Bool.false_and
abbrev jT:=@Bool.false_eq_true
abbrev eK:=@Nat.add_mul
abbrev jU:=@decide_eq_true_eq
abbrev fT:=@List.map_cons
abbrev fA:=@Nat.le_refl
abbrev cV:=@congrArg
abbrev nT:=@List.length_singleton
abbrev qX:=@List.getElem?_append_right
abbrev kG:=@List.length_drop
abbrev jV:=@Option.map_some
abbrev iY:=@List.drop_zero
abbrev kW:=@List.take_length
abbrev uE:=@Array.getD_eq_getD_getElem?
abbrev nU:=@List.getElem?_take
abbrev kX:=@List.append_nil
abbrev kH:=@Bool.and_false
abbrev pI:=@List.flatMap_append
abbrev iZ:=@Nat.zero_add
abbrev mS:=@List.length_nil
abbrev sU:=@List.getElem?_toArray
abbrev uF:=@List.getElem?_cons_succ
abbrev jW:=@Nat.lt_or_ge
abbrev pJ:=@Option.some.injEq
abbrev fE:=@if_false
abbrev l8:=@List.all_cons
abbrev uG:=@List.getElem?_of_mem
abbrev BZ:=@List.mem_zipIdx_iff_getElem?
abbrev nW:=@Bool.and_true
abbrev mT:=@List.mem_map
abbrev pL:=@List.take_zero
abbrev B0:=@Nat.shiftRight_eq_div_pow
abbrev wM:=@List.getElem_of_mem
abbrev uH:=@List.ext_getElem?
abbrev kY:=@Array.ext'
abbrev yI:=@List.filterMap_append
abbrev wN:=@List.mem_cons_self
abbrev fU:=@if_true
abbrev wO:=@List.flatMap_cons
abbrev pM:=@List.map_nil
abbrev uI:=@Nat.min_eq_left
abbrev yJ:=@UInt8.toNat_ofNat'
abbrev yK:=@List.pairwise_cons
abbrev yL:=@List.getElem?_drop
abbrev sV:=@false_implies
abbrev sW:=@List.map_take
abbrev DE:=@Array.getElem?_append_right
abbrev zL:=@List.getElem_cons_drop
abbrev zM:=@List.flatMap_singleton
abbrev zN:=@List.drop_of_length_le
abbrev oP:=@true_implies
abbrev oQ:=@implies_true
abbrev oR:=@forall_const
abbrev oS:=@List.all_nil
abbrev DF:=@Array.getElem?_append_left
abbrev rM:=@List.mem_range
abbrev zO:=@List.length_replicate
abbrev zP:=@Array.mem_of_getElem?
abbrev zQ:=@Array.getElem?_toList
abbrev zR:=@Array.getElem?_modify
abbrev tP:=@List.mem_filter
abbrev v8:=@List.flatten_cons
abbrev wA:=@Bool.not_eq_true'
abbrev wB:=@Option.getD_some
abbrev wC:=@Nat.mod_eq_of_lt
abbrev wD:=@List.flatMap_nil
abbrev tQ:=@Bool.not_false
abbrev G6:=@List.take_append_of_le_length
abbrev pU:=@Int.le_refl
abbrev zT:=@Nat.eq_zero_or_pos
abbrev DG:=@List.getElem?_eq_none
abbrev zU:=@of_decide_eq_true
abbrev zV:=@List.foldl_append
abbrev DH:=@List.pairwise_append
abbrev DI:=@List.mem_of_mem_take
abbrev rO:=@Nat.mul_one
abbrev tU:=@Nat.le_trans
abbrev DJ:=@List.map_congr_left
abbrev G7:=@BitVec.toNat_ushiftRight
abbrev G8:=@Array.getElem?_replicate
abbrev wF:=@Bool.not_true
abbrev wG:=@Bool.false_or
abbrev zW:=@Bool.or_eq_true
abbrev DK:=@List.map_replicate
abbrev DL:=@Array.getElem?_map
abbrev tV:=@Nat.zero_le
abbrev G9:=@ByteArray.data_extract
abbrev zX:=@List.drop_drop
abbrev wH:=@Nat.succ_mul
abbrev wI:=@Nat.pow_succ
abbrev O0:=@List.eq_nil_iff_forall_not_mem
abbrev DN:=@Array.all_toList
abbrev zY:=@Nat.add_assoc
abbrev HA:=@Array.getElem?_range
abbrev DO:=@List.length_set
abbrev DP:=@List.foldl_cons
abbrev HB:=@List.flatten_append
abbrev HC:=@List.filterMap_cons
abbrev zZ:=@Nat.zero_mul
abbrev z8:=@Nat.add_zero
abbrev oT:=@eq_self
abbrev HD:=@Nat.lt_of_lt_of_le
abbrev HE:=@BitVec.toNat_ofNat
abbrev DQ:=@List.take_take
abbrev wL:=@beq_iff_eq
abbrev HF:=@UInt8.ofNat_toNat
abbrev HG:=@List.size_toArray
abbrev HH:=@List.getElem?_set
abbrev O1:=@Option.map_eq_some_iff
abbrev O2:=@List.sum_replicate_nat
abbrev O3:=@List.pairwise_lt_range
abbrev O4:=@List.length_eq_one_iff
abbrev O5:=@List.getElem_cons_zero
abbrev O6:=@Classical.epsilon_spec
abbrev DR:=@getElem!_pos
abbrev HI:=@List.nodup_cons
abbrev HJ:=@List.all_append
abbrev rR:=@dif_pos
def rZ (w:World) (g:Nat) (t:TypeId) (cs:Array Value):Prop:=w.heap[g]?=some (.cells cs t (0,0))
section
variable {w w':World} {g:Nat} {t:TypeId} {cs:Array Value}
theorem rZ.out (h:rZ w g t cs):w.heap[g]?=some (.cells cs t (0,0)):=h
theorem rZ.lt (h:rZ w g t cs):g<w.heap.size:=by
 rcases jW g w.heap.size with gL|EC
 ·exact gL
 ·unfold rZ at h;rw[Array.getElem?_eq_none EC] at h;cases h
theorem rZ.cell (h:rZ w g t cs) (i:Nat):w.cell? ⟨g,i,none⟩=cs[i]?:=cell_of_row w g i cs t (0,0) h
theorem rZ.frozen (h:rZ w g t cs) (i:Nat):w.frozen? ⟨g,i,none⟩=false:=by
 unfold rZ at h
 simp [World.frozen?,h]
theorem rZ.new (w:World) (t:TypeId) (cs:Array Value):rZ (w.alloc (.cells cs t)) w.heap.size t cs:=heap_alloc_new w _
theorem rZ.aXu {n:Nat} (w:World) (t:TypeId) (cs:Array Value) (h:n=w.heap.size):rZ (w.alloc (.cells cs t)) n t cs:=by subst h;exact heap_alloc_new w _
theorem rZ.drew (h:rZ w g t cs):rZ w.drew g t cs:=h
theorem rZ.alloc (h:rZ w g t cs) (o:Obj):rZ (w.alloc o) g t cs:=(Below.heap_alloc w o g h.lt).trans h
theorem rZ.aYA (h:rZ w g t cs) (i:Nat) (u:Value):rZ (w.setCell ⟨g,i,none⟩ u) g t (cs.setIfInBounds i u):=by
 unfold rZ at h ⊢
 simp [World.setCell,zR,h]
theorem rZ.far (h:rZ w g t cs) {p:Addr} (hp:g≠p.block) (u:Value):rZ (w.setCell p u) g t cs:=(Below.heap_setCell w p u g hp).trans h
theorem rZ.XB (h:rZ w g t cs) (c:Array Value):rZ (w.setRow g c) g t c:=setRow_heap w g cs c t (0,0) h
theorem rZ.below {B:Nat} (h:rZ w g t cs) (hb:Below B w w') (hg:g<B):rZ w' g t cs:=(hb.block g hg).trans h
theorem rZ.grown {row:Option Nat} (h:rZ w g t cs) (hb:w.grownBy w' row) (hg:some g≠row):rZ w' g t cs:=(hb.block g h.lt hg).trans h
end
theorem below_setRow {B:Nat} {a w:World} (h:Below B a w) {g:Nat} (hp:B<=g) (c:Array Value):Below B a (w.setRow g c):=
 h.trans ⟨rfl,rfl,rfl,by simp,fun k hk=>setRow_other w g k c (by omega)⟩
def Rd (w:World) (B:Nat) (A:Option Addr) (xs:List Value):Prop:=
 ∀j u,xs[j]?=some u->∃b o,A=some ⟨b,o,none⟩/\b<B/\w.cell? ⟨b,o+j,none⟩=some u
section
variable {w w':World} {B B':Nat} {A:Option Addr} {xs:List Value}
theorem Rd.jY (h:Rd w B A xs) (hk:∀p:Addr,p.block<B->w'.cell? p=w.cell? p):Rd w' B A xs:=fun j u hu=>by
 obtain⟨b,o,e,hb,hc⟩:=h j u hu
 exact⟨b,o,e,hb,(hk _ hb).trans hc⟩
theorem Rd.below (h:Rd w B A xs) (hb:Below B' w w') (hB:B<=B'):Rd w' B A xs:=h.jY fun _ hp=>hb.cell (by omega)
theorem Rd.drew (h:Rd w B A xs):Rd w.drew B A xs:=h
theorem Rd.alloc (h:Rd w B A xs) (hB:B<=w.heap.size) (o:Obj):Rd (w.alloc o) B A xs:=h.jY fun p hp=>World.cell?_alloc_lt w o p (by omega)
theorem Rd.setCell (h:Rd w B A xs) {p:Addr} (hB:B<=p.block) (u:Value):Rd (w.setCell p u) B A xs:=
 h.jY fun q hq=>World.cell?_setCell_other w p q u (fun e=>by subst e;omega)
theorem Rd.grown (h:Rd w B A xs) {row:Option Nat} (hg:w.grownBy w' row) (hB:B<=w.heap.size) (hr:∀g,row=some g->B<=g):Rd w' B A xs:=
 h.jY fun p hp=>World.cell?_of_block (hg.block p.block (by omega) (fun e=>by have:=hr _ e.symm;omega))
theorem Rd.nil (w:World) (B:Nat) (A:Option Addr):Rd w B A []:=fun j u hu=>by simp at hu
theorem Rd.aH9 {uK:Nat} {e:TypeId} {n c:Nat} (h:w.ownsRow uK e 1 (.slice A n c) n xs):Rd w w.heap.size A xs:=fun j u hu=>by
 rcases h.2 with⟨hv,hn⟩|⟨g,cap,wX,hv,hb,hg,_⟩
 ·subst hn
  have:xs=[]:=gP (by simpa using h.1)
  subst this
  simp at hu
 ·injection hv with hA
  subst hA
  exact⟨g,0,rfl,(nR.1 hg).1,by have:=h.cells (g:=g) rfl j u hu;rw[Addr.add_lit] at this;exact this⟩
end
def bv (l:List UInt8):List Value:=l.map fun c=>.int .u8 (c.toNat:Int)
theorem yN (l:List UInt8):(bv l).length=l.length:=by simp [bv]
theorem aGM {l:List UInt8} {j:Nat} (h:j<l.length):(bv l)[j]?=some (.int .u8 ((l[j]).toNat:Int)):=by simp [bv,h]
theorem X4 (l m:List UInt8):bv (l++m)=bv l++bv m:=by simp [bv]
theorem aGN {l:List UInt8}:∀u∈bv l,u.oneCell'=true:=by
 intro u hu
 obtain⟨c,_,rfl⟩:=mT.1 hu
 rfl
theorem Rd.byte {w:World} {B:Nat} {A:Option Addr} {l:List UInt8} (h:Rd w B A (bv l)) {j:Nat} (hj:j<l.length):
  ∃b o,A=some ⟨b,o,none⟩/\b<B/\w.cell? ⟨b,o+j,none⟩=some (.int .u8 ((l[j]).toNat:Int)):=h j _ (aGM hj)
theorem aCr (c:UInt8):c.toNat<256:=c.toNat_lt
theorem aAH {α:Type} (l:List α) (k:Nat) (h:k<l.length):l.take (k+1)=l.take k++[l[k]]:=by
 rw[dH h]
theorem aHm {a b:Value} (h:a=b):Ending.returned a=.returned b:=by rw[h]
theorem EG {k:IntKind} {a b:Int} (h:a=b):Value.int k a=.int k b:=by rw[h]
def pV (x:BitVec 32):Int:=(x.toNat:Int)
theorem ME (x:BitVec 32):0<=pV x:=by unfold pV;omega
theorem aFq (x:BitVec 32):pV x<4294967296:=by have:=x.isLt;unfold pV;omega
theorem aAT (x:BitVec 32):pV x<=4294967295:=by have:=aFq x;omega
theorem BG (a b:BitVec 32):bits .xor .u32 (pV a) (pV b)=pV (a ^^^ b):=by
 unfold pV
 rw[u32_xor_nat _ _ a.isLt b.isLt,BitVec.toNat_xor]
theorem BF (a b:BitVec 32):bits .and .u32 (pV a) (pV b)=pV (a&&& b):=by
 unfold pV
 rw[u32_and_nat _ _ a.isLt b.isLt,BitVec.toNat_and]
theorem aFi (s:BitVec 32):bits .xor .u32 IntKind.u32.max (pV s)=pV (~~~ s):=by
 rw[show IntKind.u32.max=pV (4294967295#32) by decide,BG]
 congr 1
def e8 (l:List UInt8):ByteArray:=⟨l.toArray⟩
theorem iN (l:List UInt8):(e8 l).data.toList=l:=by simp [e8]
theorem jF (l:List UInt8):(e8 l).size=l.length:=by simp [e8,ByteArray.size]
theorem OO {P:Program} (w:World) {B:Nat} {A:Option Addr} {l:List UInt8} (hR:Rd w B A (bv l)) (J3 dst e:TypeId) (hs:P.underlying J3=some (.slice e)) (he:P.underlying e=some (.int .u8))
  (hd:P.underlying dst=some .string) (cap:Nat):(convert J3 dst (.slice A l.length cap)).run P w=.ok (.string (e8 l)) w:=by
 have hx:strOfNums (l.map fun c=>(c.toNat:Int))=e8 l:=by
  simp only[strOfNums,e8,List.map_map]
  congr 2
  conv=>rhs;rw[<-List.map_id l]
  apply DJ
  intro c _
  simp
 by_cases h0:l=[]
 ·subst h0
  rcases A with _|⟨b,o,sp⟩
  ·rw[run_convert_bytes_nil w J3 e hs he _ _ dst hd];rfl
  ·rw[run_convert_bytes_string w J3 dst e _ _ cap hs he hd,run_bytesToString w _ _ cap [] (by simp [loadCells,loadCellsFrom])]
   rfl
 ·have ZF:0<l.length:=by
   rcases l with _|⟨c,l⟩
   ·exact absurd rfl h0
   ·simp
  obtain⟨b,o,rfl,_,_⟩:=hR.byte ZF
  rw[run_convert_bytes_arg w J3 e hs he b o l.length cap (l.map fun c=>(c.toNat:Int)) (by simp) (fun i hi=>by
   obtain⟨b',o',e',_,hc⟩:=hR.byte hi
   cases e'
   rw[hc]
   simp [List.getD,hi]) dst hd,hx]
theorem lL (l:List UInt8):(e8 l).toList=l:=ByteArray.toList_mk l
theorem aAa (l m:List UInt8):((e8 l).toList==(e8 m).toList)=decide (l=m):=by
 rw[lL,lL]
 by_cases h:l=m
 ·simp [h]
 ·simp [h]
def BB (n:Nat):List Value:=List.replicate n (.int .u8 0)
theorem DD (n:Nat):(BB n).length=n:=by simp [BB]
theorem aHo {P:Program} (t e:TypeId) (i:TypeInfo) (ht:P.underlying t=some (.slice e)) (hi:P.info? e=some i) (hz:i.zero=some (.int .u8 0)) (hs:i.size=1) (hb:i.bytes=1)
  (n c:Nat) (hnc:n<=c) (h:c<=281474976710656) (w:World):
  (Instr.makeSlice t (.int .i64 (n:Int)) (.int .i64 (c:Int))).run P w=.ok (.slice (some ⟨w.heap.size,0,none⟩) n c) (w.alloc (.cells (BB c).toArray e)):=by
 have hr:=run_make (P:=P) w t e i (.int .u8 0) ht hi hz .i64 .i64 n c (by omega) (by omega) (by rw[hb];omega) (by omega)
 simp only[bL,hs,rO] at hr
 rw[hr]
 congr 3
 have:(madeCells #[Value.int IntKind.u8 0] c).toList=BB c:=toList_madeCells_one _ _
 rw[<-this]
 rfl
theorem UR {w:World} {uK g:Nat} {e:TypeId} {wX xs:List Value} {n cap:Nat} (h:rZ w g e wX.toArray) (hb:uK<=g) (hl:wX.length=cap) (hn:n<=cap) (hm:cap<=maxLen) (hx:wX.take n=xs):
  w.ownsRow uK e 1 (.slice (some ⟨g,0,none⟩) n cap) n xs:=by
 refine⟨?_,.inr ⟨g,cap,wX.toArray,rfl,hb,h,hn,hm,by simp [hl],by simpa using hx⟩⟩
 rw[<-hx,dJ];omega
section
variable {P:Program} (w:World)
end
theorem Rd.kept {w w':World} {B:Nat} {A:Option Addr} {ys:List Value} {uK:Nat} {e:TypeId} {v:Value} {n:Nat} {xs:List Value} (h:Rd w B A ys) (NY:w.ownsRow uK e 1 v n xs) (hg:w.grownBy w' v.ownBlock) (hB:B<=uK) (hb:uK<=w.heap.size):Rd w' B A ys:=
 h.grown hg (by omega) (fun g hg'=>tU hB (NY.lt g hg').1)
theorem Rd.lit (w:World) (t:TypeId) (cs:List Value):Rd (w.alloc (.cells cs.toArray t)) (w.heap.size+1) (some ⟨w.heap.size,0,none⟩) cs:=
 fun j u hu=>⟨w.heap.size,0,rfl,by omega,by rw[iZ,(rZ.new w t cs.toArray).cell];simpa using hu⟩
def part (f:Nat->Value) (z:Value) (n k:Nat):Array Value:=Array.ofFn (n:=n) fun i=>if i.val<k then f i.val else z
theorem Rd.cut {w:World} {B:Nat} {A:Option Addr} {l:List UInt8} (h:Rd w B A (bv l)) (k:Nat):Rd w B A (bv (l.take k)):=by
 intro j u hu
 have hd:bv (l.take k)=(bv l).take k:=by simp [bv]
 rw[hd,nU] at hu
 split at hu
 ·exact h j u hu
 ·cases hu
theorem aDU {w:World} {a:Addr} {v:Value} (h:w.cell? a=some v):a.block<w.heap.size:=block_lt_of_cell h
inductive D where
 |val (v:Value)
 |seq (sz:Nat) (els:List (List D))
 |os (b o sz k n:Nat)
 |ep (b o sz i k:Nat)
 |rp (cs:List D)
 |agg (cs:List D)
 |fV (ds:List D)
 |fn (f:FuncId) (dO:List D)
 |fb (f:FuncId) (first dO:List D)
 |ND
instance:Inhabited D:=⟨.val undef⟩
inductive gB where
 |row (t:TypeId) (o sz:Nat) (els:List (List D))
 |map (m:List (Value×D))
 |hid
 |obj (o:Obj)
abbrev aA:=Nat->Option gB
def aA.bH (H:aA) (b:Nat) (x:gB):aA:=fun c=>if c=b then some x else H c
def aA.del (H:aA) (b:Nat):aA:=fun c=>if c=b then none else H c
def aA.none:aA:=fun _=>Option.none
theorem aA.aCv (H:aA) (b:Nat) (x:gB):(H.bH b x) b=some x:=aH rfl
abbrev aQ:=@aA.aCv
theorem aA.aIH {H:aA} {b c:Nat} {x:gB} (h:c≠b):(H.bH b x) c=H c:=aD h
abbrev aP:=@aA.aIH
theorem aA.aAm (H:aA) (b:Nat):(H.del b) b=Option.none:=aH rfl
abbrev sX:=@aA.aAm
theorem aA.aG3 {H:aA} {b c:Nat} (h:c≠b):(H.del b) c=H c:=aD h
abbrev bP:=@aA.aG3
def aA.le (H H':aA):Prop:=∀b x,H b=some x->H' b=some x
theorem aA.le_refl (H:aA):H.le H:=fun _ _ h=>h
abbrev aE:=@aA.le_refl
theorem aA.le_trans {H H' eL:aA} (h:H.le H') (h':H'.le eL):H.le eL:=fun b x e=>h' b x (h b x e)
abbrev tR:=@aA.le_trans
theorem aA.le_none (H:aA):aA.none.le H:=fun b x e=>by cases e
abbrev wJ:=@aA.le_none
theorem aA.aH0 {H H':aA} {b:Nat} {x:gB} (h:H.le H') (hb:H' b=Option.none):H.le (H'.bH b x):=fun c y e=>by
 by_cases hc:c=b
 ·subst hc;rw[h _ _ e] at hb;cases hb
 ·rw[aP hc];exact h _ _ e
abbrev nH:=@aA.aH0
section
variable (w:World) (S:Nat->Prop)
mutual
def D.is:D->Value->Prop
 | .val u,v=>v=u
 | .seq sz els,v=>∃A c,v=.slice A els.length c/\els.length<=c/\(els=[]\/∃b o,A=some ⟨b,o,none⟩/\S b/\b<w.heap.size/\dC b sz o els)
 | .os b o sz k n,v=>∃A c,v=.slice A n c/\n<=c/\(c=0\/(A=some ⟨b,o+k * sz,none⟩/\∃cs t fr,w.heap[b]?=some (Obj.cells cs t fr)/\o+(k+c) * sz<=cs.size))
 | .ep b o sz i k,v=>v=.pointer (some ⟨b,o+i * sz+k,none⟩)
 | .rp cs,v=>∃b o,v=.pointer (some ⟨b,o,none⟩)/\S b/\b<w.heap.size/\cK b o cs
 | .agg cs,v=>∃vs,v=.agg ⟨vs⟩/\aU cs vs
 | .fV ds,v=>∃vs,v=.tuple ⟨vs⟩/\aW ds vs
 | .fn f dO,v=>∃vs,v=.func (.func f) #[] ⟨vs⟩/\aW dO vs
 | .fb f first dO,v=>∃us vs,v=.func (.func f) ⟨us⟩ ⟨vs⟩/\aW first us/\aW dO vs
 | .ND,v=>∃A,v=.slice A 0 0
def cK (b:Nat):Nat->List D->Prop
 |_,[]=>True
 |o,d::ds=>(∃u,w.cell? ⟨b,o,none⟩=some u/\u.oneCell'=true/\D.is d u)/\cK b (o+1) ds
def dC (b sz:Nat):Nat->List (List D)->Prop
 |_,[]=>True
 |o,el::els=>el.length=sz/\cK b o el/\dC b sz (o+sz) els
def aU:List D->List Value->Prop
 |[],vs=>vs=[]
 |d::ds,vs=>∃u us,vs=u::us/\u.oneCell'=true/\D.is d u/\aU ds us
def aW:List D->List Value->Prop
 |[],vs=>vs=[]
 |d::ds,vs=>∃u us,vs=u::us/\D.is d u/\aW ds us
end
end
structure Ev (H:aA) (w:World) (H':aA) (w':World):Prop where
 os:w'.os=w.os
 tape:w'.tape=w.tape
 output:w'.output=w.output
 size:w.heap.size<=w'.heap.size
 jY:∀b:Nat,b<w.heap.size->H b=none->w'.heap[b]?=w.heap[b]?/\H' b=none
 shape:∀(b:Nat) cs t fr,w.heap[b]?=some (Obj.cells cs t fr)->∃sZ TR,w'.heap[b]?=some (Obj.cells sZ t TR)/\sZ.size=cs.size
theorem Ev.refl (H:aA) (w:World):Ev H w H w:=⟨rfl,rfl,rfl,fA _,fun _ _ h=>⟨rfl,h⟩,fun _ _ _ fr h=>⟨_,fr,h,rfl⟩⟩
abbrev gC:=@Ev.refl
theorem Ev.trans {H H' eL:aA} {w w' w'':World} (h:Ev H w H' w') (h':Ev H' w' eL w''):Ev H w eL w'' where
 os:=h'.os.trans h.os
 tape:=h'.tape.trans h.tape
 output:=h'.output.trans h.output
 size:=tU h.size h'.size
 jY:=fun b hb hn=>by
  obtain⟨h1,h2⟩:=h.jY b hb hn
  obtain⟨h3,h4⟩:=h'.jY b (HD hb h.size) h2
  exact⟨h3.trans h1,h4⟩
 shape:=fun b cs t fr hb=>by
  obtain⟨sZ,TR,h1,h2⟩:=h.shape b cs t fr hb
  obtain⟨aWx,aWz,h3,h4⟩:=h'.shape b sZ t TR h1
  exact⟨aWx,aWz,h3,h4.trans h2⟩
theorem Ev.less {H H1 H2:aA} {w w':World} (h:Ev H w H1 w') (aR:H2.le H1):Ev H w H2 w' where
 os:=h.os
 tape:=h.tape
 output:=h.output
 size:=h.size
 jY:=fun b hb hn=>⟨(h.jY b hb hn).1,by
  cases e:H2 b with
  |none=>rfl
  |some x=>have h1:=(h.jY b hb hn).2;rw[aR _ _ e] at h1;cases h1⟩
 shape:=h.shape
section
variable {w w':World} {S S':Nat->Prop}
structure HL (S S':Nat->Prop) (w w':World):Prop where
 size:w.heap.size<=w'.heap.size
 cell:∀b:Nat,S b->b<w.heap.size->S' b/\w'.heap[b]?=w.heap[b]?
 shape:∀(b:Nat) cs t fr,w.heap[b]?=some (Obj.cells cs t fr)->∃sZ TR,w'.heap[b]?=some (Obj.cells sZ t TR)/\sZ.size=cs.size
mutual
theorem D.GV (k:HL S S' w w'):∀(d:D) {v:Value},D.is w S d v->D.is w' S' d v
 | .val _,_,h=>h
 | .seq sz els,v,h=>by
  simp only[D.is] at h ⊢
  obtain⟨A,c,h1,h2,h3⟩:=h
  refine⟨A,c,h1,h2,?_⟩
  rcases h3 with h3|⟨b,o,h3,h4,h5,h6⟩
  ·exact .inl h3
  ·exact .inr ⟨b,o,h3,(k.cell b h4 h5).1,HD h5 k.size,FQ k b sz h4 h5 els h6⟩
 | .os b o sz i n,v,h=>by
  simp only[D.is] at h ⊢
  obtain⟨A,c,h1,h2,h3⟩:=h
  refine⟨A,c,h1,h2,?_⟩
  rcases h3 with h3|⟨h3,cs,t,fr,h4,h5⟩
  ·exact .inl h3
  ·obtain⟨sZ,TR,h6,h7⟩:=k.shape b cs t fr h4
   exact .inr ⟨h3,sZ,t,TR,h6,by rw[h7];exact h5⟩
 | .ep _ _ _ _ _,_,h=>h
 | .rp cs,v,h=>by
  simp only[D.is] at h ⊢
  obtain⟨b,o,h1,h2,h3,h4⟩:=h
  exact⟨b,o,h1,(k.cell b h2 h3).1,HD h3 k.size,vF k b h2 h3 cs h4⟩
 | .agg cs,v,h=>by
  simp only[D.is] at h ⊢
  obtain⟨vs,h1,h2⟩:=h
  exact⟨vs,h1,bV k cs h2⟩
 | .fV ds,v,h=>by
  simp only[D.is] at h ⊢
  obtain⟨vs,h1,h2⟩:=h
  exact⟨vs,h1,fZ k ds h2⟩
 | .fn f ds,v,h=>by
  simp only[D.is] at h ⊢
  obtain⟨vs,h1,h2⟩:=h
  exact⟨vs,h1,fZ k ds h2⟩
 | .fb f es ds,v,h=>by
  simp only[D.is] at h ⊢
  obtain⟨us,vs,h1,h2,h3⟩:=h
  exact⟨us,vs,h1,fZ k es h2,fZ k ds h3⟩
 | .ND,v,h=>by simp only[D.is] at h ⊢;exact h
theorem vF (k:HL S S' w w') (b:Nat) (hS:S b) (hb:b<w.heap.size):∀(ds:List D) {o:Nat},cK w S b o ds->cK w' S' b o ds
 |[],_,_=>by simp only[cK]
 |d::ds,o,h=>by
  simp only[cK] at h ⊢
  obtain⟨⟨u,h1,h2,h3⟩,h4⟩:=h
  refine⟨⟨u,?_,h2,D.GV k d h3⟩,vF k b hS hb ds h4⟩
  rw[<-h1]
  exact World.cell?_of_block (k.cell b hS hb).2
theorem FQ (k:HL S S' w w') (b sz:Nat) (hS:S b) (hb:b<w.heap.size):∀(els:List (List D)) {o:Nat},dC w S b sz o els->dC w' S' b sz o els
 |[],_,_=>by simp only[dC]
 |el::els,o,h=>by
  simp only[dC] at h ⊢
  exact⟨h.1,vF k b hS hb el h.2.1,FQ k b sz hS hb els h.2.2⟩
theorem bV (k:HL S S' w w'):∀(ds:List D) {vs:List Value},aU w S ds vs->aU w' S' ds vs
 |[],_,h=>by simp only[aU] at h ⊢;exact h
 |d::ds,vs,h=>by
  simp only[aU] at h ⊢
  obtain⟨u,us,h1,h2,h3,h4⟩:=h
  exact⟨u,us,h1,h2,D.GV k d h3,bV k ds h4⟩
theorem fZ (k:HL S S' w w'):∀(ds:List D) {vs:List Value},aW w S ds vs->aW w' S' ds vs
 |[],_,h=>by simp only[aW] at h ⊢;exact h
 |d::ds,vs,h=>by
  simp only[aW] at h ⊢
  obtain⟨u,us,h1,h3,h4⟩:=h
  exact⟨u,us,h1,D.GV k d h3,fZ k ds h4⟩
end
abbrev pN:=@D.GV
end
def aA.others (H:aA):Nat->Prop:=fun b=>H b=Option.none
theorem Ev.kept {H H':aA} {w w':World} (h:Ev H w H' w'):HL H.others H'.others w w':=
 ⟨h.size,fun b hb gL=>⟨(h.jY b gL hb).2,(h.jY b gL hb).1⟩,h.shape⟩
theorem HL.less {H H':aA} (h:H'.le H) (w:World):HL H.others H'.others w w:=
 ⟨fA _,fun b hb _=>⟨(by
  unfold aA.others at hb ⊢
  cases e:H' b with
  |none=>rfl
  |some x=>rw[h _ _ e] at hb;cases hb),rfl⟩,fun _ _ _ fr h=>⟨_,fr,h,rfl⟩⟩
abbrev nI:=@HL.less
def XQ (fr:Nat×Nat) (n:Nat):Prop:=fr.1=fr.2\/n<=fr.1
theorem XQ.not {fr:Nat×Nat} {n:Nat} (h:XQ fr n):∀i,i<n->¬(fr.1<=i/\i<fr.2):=fun i hi h2=>by
 rcases h with h|h <;> omega
def Stm (bs:List Nat) (kJ:Nat):Prop:=(∀b∈bs,b<kJ)/\bs.Nodup
def aJ2 (w:World) (S:Nat->Prop) (es:Array MapEntry) (kJ:Nat) (m:List (Value×D)):Prop:=
 es.toList.map (·.key)=m.map (·.1)/\aW w S (m.map (·.2)) (es.toList.map (·.val))/\(m.map (·.1)).Nodup/\Stm (es.toList.map (·.born)) kJ
def rC (w:World) (H:aA) (b:Nat):gB->Prop
 | .row t o sz els=>∃cs fr,w.heap[b]?=some (Obj.cells cs t fr)/\XQ fr cs.size/\o+els.length * sz<=cs.size/\dC w H.others b sz o els
 | .map m=>∃es kJ,w.heap[b]?=some (Obj.map es kJ)/\aJ2 w H.others es kJ m
 | .hid=>b<w.heap.size
 | .obj o=>w.heap[b]?=some o
def fQ (w:World) (H:aA):Prop:=∀b x,H b=some x->rC w H b x
theorem fQ.lt {w:World} {H:aA} (h:fQ w H) {b:Nat} {x:gB} (hb:H b=some x):b<w.heap.size:=by
 have h0:=h b x hb
 cases x with
 |row t o sz els=>obtain⟨cs,fr,h1,_⟩:=h0;exact(nR.1 h1).1
 |map m=>obtain⟨es,c,h1,_⟩:=h0;exact(nR.1 h1).1
 |hid=>exact h0
 |obj o=>exact(nR.1 h0).1
def GLB:Nat->Option (List Value):=fun g=>if g=0 then some [.int .i64 2,.int .i64 2,.int .i64 1,.int .i64 1] else if g=1 then some [.int .i64 2,.int .i64 2,.int .i64 2,.int .i64 2,.int .i64 2,.int .i64 2,.int .i64 2,.int .i64 1,.int .i64 2,.int .i64 1,.int .i64 1,.int .i64 1] else none
def E3 (w:World) (H:aA):Prop:=∀g vs,GLB g=some vs->H g=none/\(∀v∈vs,v.oneCell'=true)/\∃t fr,w.heap[g]?=some (Obj.cells vs.toArray t fr)
theorem E3.ev {H H':aA} {w w':World} (g:E3 w H) (h:Ev H w H' w'):E3 w' H':=fun k vs e=>by
 obtain⟨h1,h0,t,fr,h2⟩:=g k vs e
 obtain⟨h3,h4⟩:=h.jY k (nR.1 h2).1 h1
 exact⟨h4,h0,t,fr,h3.trans h2⟩
theorem E3.le {H0 H:aA} {w:World} (g:E3 w H) (h:H0.le H):E3 w H0:=fun k vs e=>by
 obtain⟨h1,h2⟩:=g k vs e
 refine⟨?_,h2⟩
 cases e2:H0 k with
 |none=>rfl
 |some x=>rw[h k x e2] at h1;cases h1
def FR (ro:Option Nat):Fence:={Fence.wide with round:=ro}
theorem BH {ro:Option Nat} {n:Nat} {P:Program} {f:FuncId} {args:Array Value} {w:World} {R:Ending->World->Prop} (h:Calls P f args w R):CallsIn (FR ro) n P f args w R:=
 (callsIn_wide (n:=n)).2 h
theorem tG {ro:Option Nat} {n:Nat} {P:Program} {f:FuncId} {args:Array Value} {w:World} {R:Ending->World->Prop} (h:CallsIn (FR ro) n P f args w R):Calls P f args w R:=
 (callsIn_wide (n:=n)).1 h
structure St where
 fr:Nat->D
 H:aA
 df:List Deferred
def St.put (s:St) (dst:Option Tmp) (d:D):St:=
 match dst with
 |some t=>{s with fr:=fun x=>if x=t then d else s.fr x}
 |none=>s
def D.ofV:Value->D
 | .agg cs=>if cs.toList.all Value.oneCell' then .agg (cs.toList.map .val) else .val (.agg cs)
 |v=>.val v
def gD (g:Nat):D:=match GLB g with
 |some vs=>.rp (vs.map .val)
 |none=>.val (.pointer (some ⟨g,0,none⟩))
def St.ev (s:St):Operand->D
 | .tmp t=>s.fr t
 | .const v=>D.ofV v
 | .global g=>gD g
 | .func f=>.fn f []
def St.dW (s:St) (H:aA):St:={s with H:=H}
structure Cx where
 P:Program
 ro:Option Nat
 n:Nat
 H0:aA
 w0:World
 gk:E3 w0 H0
structure cH (cx:Cx) (s:St) (a:Act) (w:World):Prop where
 n:a.tmps.size=cx.n
 df:a.defers=s.df
 fr:∀t,D.is w s.H.others (s.fr t) (a.tmps.getD t undef)
 H:fQ w s.H
 ev:Ev cx.H0 cx.w0 s.H w
def QQ (cx:Cx) (Q:Exit->St->Prop):Exit->Act->World->Prop:=fun e a w=>∃s,cH cx s a w/\Q e s
def KK (cx:Cx) (K:St->Prop):Act->World->Prop:=fun a w=>∃s,cH cx s a w/\K s
def W (cx:Cx) (c:Code) (Q:Exit->St->Prop) (s:St):Prop:=
 ∀a w,cH cx s a w->c.wpIn (FR cx.ro) 9 cx.P (QQ cx Q) a w
def WL (cx:Cx) (aV:Array Oper) (l:List Oper) (Q:Exit->St->Prop) (s:St):Prop:=
 ∀a w,cH cx s a w->wpListIn (FR cx.ro) 9 cx.P aV (QQ cx Q) l a w
def NoQ:Exit->Act->World->Prop:=fun _ _ _=>False
def WO (cx:Cx) (o:Oper) (K:St->Prop) (s:St):Prop:=
 ∀a w,cH cx s a w->o.wpIn (FR cx.ro) 9 cx.P a w (KK cx K) NoQ
theorem sC {w:World} {S:Nat->Prop}:∀(vs:List Value),(∀v∈vs,v.oneCell'=true)->aU w S (vs.map .val) vs
 |[],_=>by simp [aU]
 |v::vs,h=>by
  simp only[fT,aU,D.is]
  exact⟨v,vs,rfl,h v (by simp),rfl,sC vs fun u hu=>h u (by simp [hu])⟩
theorem D.aH8 {w:World} {S:Nat->Prop} (v:Value):D.is w S (D.ofV v) v:=by
 cases v with
 |agg cs=>
  simp only[D.ofV]
  split
  ·rename_i h
   simp only[D.is]
   exact⟨cs.toList,by simp,sC _ (fun v hv=>(eD.1 h) v hv)⟩
  ·simp only[D.is]
 |_=>simp only[D.ofV,D.is]
theorem cH.gok {cx:Cx} {s:St} {a:Act} {w:World} (m:cH cx s a w):E3 w s.H:=cx.gk.ev m.ev
theorem E6 {w:World} {S:Nat->Prop} {b:Nat} {t:TypeId} {fr:Nat×Nat} {all:List Value} (hb:w.heap[b]?=some (Obj.cells all.toArray t fr)):∀(vs:List Value) (o:Nat),all.drop o=vs->(∀v∈vs,v.oneCell'=true)->cK w S b o (vs.map .val)
 |[],o,_,_=>by simp [cK]
 |v::vs,o,h,h1=>by
  simp only[fT,cK]
  have h0:all[o]?=some v:=by
   have:=cV (fun l=>l[0]?) h
   simpa using this
  refine⟨⟨v,?_,h1 v (by simp),by simp only[D.is]⟩,E6 hb vs (o+1) (by rw[<-zX,h] <;> rfl) fun u hu=>h1 u (by simp [hu])⟩
  simp [World.cell?,hb,h0]
theorem aI9 {w:World} {H:aA} (hG:E3 w H) (g:Nat):D.is w H.others (gD g) (.pointer (some ⟨g,0,none⟩)):=by
 unfold gD
 split
 ·rename_i vs hg
  obtain⟨h1,h0,t,fr,h2⟩:=hG g vs hg
  simp only[D.is]
  exact⟨g,0,rfl,h1,(nR.1 h2).1,E6 h2 vs 0 (by simp) h0⟩
 ·simp only[D.is]
theorem cH.uA {cx:Cx} {s:St} {a:Act} {w:World} (m:cH cx s a w) (x:Operand):D.is w s.H.others (s.ev x) (a.eval x):=by
 cases x with
 |tmp t=>exact m.fr t
 |const v=>exact D.aH8 v
 |global g=>exact aI9 m.gok g
 |func f=>simp only[St.ev,Act.eval,D.is,aW];exact⟨[],rfl,rfl⟩
theorem cH.go {cx:Cx} {s:St} {a:Act} {w:World} (m:cH cx s a w) {H':aA} {w':World} (h:Ev s.H w H' w') (hH:fQ w' H'):cH cx (s.dW H') a w':=
 ⟨m.n,m.df,fun t=>pN h.kept _ (m.fr t),hH,m.ev.trans h⟩
theorem fQ.less {w:World} {H H':aA} (hH:fQ w H) (h:H'.le H):fQ w H':=fun b x hb=>by
  have h0:=hH b x (h _ _ hb)
  cases x with
  |row t o sz els=>
   obtain⟨cs,fr,h1,h2,h3,h4⟩:=h0
   refine⟨cs,fr,h1,h2,h3,?_⟩
   exact JA h w b sz els h4
  |map mm=>
   obtain⟨es,c,h1,h2,h3,h4⟩:=h0
   exact⟨es,c,h1,h2,fZ (nI h w) _ h3,h4⟩
  |hid=>exact h0
  |obj o=>exact h0
where
 E7 {H H':aA} (h:H'.le H) (w:World) (b:Nat):∀(ds:List D) {o:Nat},cK w H.others b o ds->cK w H'.others b o ds
  |[],_,_=>by simp only[cK]
  |d::ds,o,h0=>by
   simp only[cK] at h0 ⊢
   obtain⟨⟨u,h1,h2,h3⟩,h4⟩:=h0
   exact⟨⟨u,h1,h2,pN (nI h w) d h3⟩,E7 h w b ds h4⟩
 JA {H H':aA} (h:H'.le H) (w:World) (b sz:Nat):∀(els:List (List D)) {o:Nat},dC w H.others b sz o els->dC w H'.others b sz o els
  |[],_,_=>by simp only[dC]
  |el::els,o,h0=>by
   simp only[dC] at h0 ⊢
   exact⟨h0.1,E7 h w b el h0.2.1,JA h w b sz els h0.2.2⟩
theorem cH.less {cx:Cx} {s:St} {a:Act} {w:World} (m:cH cx s a w) {H':aA} (h:H'.le s.H):cH cx (s.dW H') a w:=
 ⟨m.n,m.df,fun t=>pN (nI h w) _ (m.fr t),m.H.less h,m.ev.less h⟩
theorem uQ {α:Type} (l:Array α) (i j:Nat) (x d:α) (hi:i<l.size):(l.setIfInBounds i x).getD j d=if j=i then x else l.getD j d:=by
 simp only[uE,Array.getElem?_setIfInBounds]
 by_cases h:j=i
 ·subst h;simp [hi]
 ·rw[aD (fun e=>h e.symm),aD h]
theorem cH.put {cx:Cx} {s:St} {a:Act} {w:World} (m:cH cx s a w) {dst:Option Tmp} {d:D} {v:Value} (hd:∀t,dst=some t->t<cx.n) (h:D.is w s.H.others d v):cH cx (s.put dst d) (a.put dst v) w:=by
 cases dst with
 |none=>exact m
 |some t=>
  refine⟨by simpa [Act.put] using m.n,m.df,fun x=>?_,m.H,m.ev⟩
  have ht:t<a.tmps.size:=by rw[m.n];exact hd t rfl
  simp only[Act.put,St.put]
  rw[uQ _ _ _ _ _ ht]
  by_cases hx:x=t
  ·rw[aH hx,aH hx];exact h
  ·rw[aD hx,aD hx];exact m.fr x
section aJd
variable {cx:Cx} {Q Q':Exit->St->Prop} {s:St}
theorem sA {c:Code} (h:W cx c Q s) (hq:∀e s,Q e s->Q' e s):W cx c Q' s:=fun a w m=>
 wpIn_mono (h a w m) fun e _ _ ⟨s',m',q⟩=>⟨s',m',hq e s' q⟩
theorem eZ {c:Code} (H':aA) (h':H'.le s.H) (h:W cx c Q (s.dW H')):W cx c Q s:=fun a w m=>h a w (m.less h')
theorem cX (h:Q .normal s):W cx .skip Q s:=fun _ _ m=>wpIn_skip ⟨s,m,h⟩
theorem cF {l:Nat} (h:Q .normal s):W cx (.label l) Q s:=fun _ _ m=>wpIn_label ⟨s,m,h⟩
theorem cW {id:Nat} (h:Q (.exit id) s):W cx (.exit id) Q s:=fun _ _ m=>wpIn_exit ⟨s,m,h⟩
theorem eH (h:Q .ret s):W cx .ret Q s:=fun _ _ m=>wpIn_ret ⟨s,m,h⟩
def iV (N:St->Prop) (Q:Exit->St->Prop):Exit->St->Prop
 | .normal,s=>N s
 |e,s=>Q e s
theorem bO {x y:Code} (h:W cx x (iV (W cx y Q) Q) s):W cx (.seq x y) Q s:=fun a w m=>
 wpIn_seq (wpIn_mono (h a w m) fun e a' w' ⟨s',m',q⟩=>by
  cases e <;> first
   |exact q a' w' m'
   |exact⟨s',m',q⟩)
def nK (id:Nat) (Q:Exit->St->Prop):Exit->St->Prop
 | .exit id',s=>if id'=id then Q .normal s else Q (.exit id') s
 |e,s=>Q e s
theorem cC {id:Nat} {c:Code} (h:W cx c (nK id Q) s):W cx (.block id c) Q s:=fun a w m=>
 wpIn_block (wpIn_mono (h a w m) fun e a' w' ⟨s',m',q⟩=>by
  cases e with
  |exit id'=>
   simp only[nK] at q
   simp only[Exit.inBlock]
   by_cases hid:id'=id
   ·rw[aH hid] at q ⊢;exact⟨s',m',q⟩
   ·rw[aD hid] at q ⊢;exact⟨s',m',q⟩
  |_=>exact⟨s',m',q⟩)
theorem aFy {c:Operand} {x y:Code} (b:Bool) (hb:s.ev c=.val (.bool b)) (ht:b=true->W cx x Q s) (hf:b=false->W cx y Q s):W cx (.cond c x y) Q s:=fun a w m=>by
 have h:=m.uA c
 rw[hb] at h
 simp only[D.is] at h
 exact wpIn_cond_split h (fun e=>ht e a w m) (fun e=>hf e a w m)
theorem aCC (p:Nat->Prop) (h:∃k,p k):∃k,p k/\∀j,p j->k<=j:=by
 classical
 obtain⟨k,hk⟩:=h
 induction k using Nat.strongRecOn with
 |_ k ih=>
  by_cases h:∃j,j<k/\p j
  ·obtain⟨j,hj,hp⟩:=h
   exact ih j hj hp
  ·exact⟨k,hk,fun j hj=>by
    rcases jW j k with gL|EC
    ·exact absurd ⟨j,gL,hj⟩ h
    ·exact EC⟩
theorem aAW {c:Code} (I:St->Prop) (μ:St->Nat) (H':aA) (aR:H'.le s.H) (h0:I (s.dW H'))
  (round:∀s,I s->W cx c (iV (fun s'=>∃H',H'.le s'.H/\I (s'.dW H')/\μ (s'.dW H')<μ s) Q) s):W cx (.loop c) Q s:=fun a w m=>by
 obtain⟨f,hf⟩:∃f:Act×World->Nat,∀x:Act×World,(∃s,cH cx s x.1 x.2/\I s)->(∃s,cH cx s x.1 x.2/\I s/\μ s=f x)/\∀s,cH cx s x.1 x.2->I s->f x<=μ s:=by
  refine⟨fun x=>Classical.epsilon fun k=>(∃s,cH cx s x.1 x.2/\I s/\μ s=k)/\∀s,cH cx s x.1 x.2->I s->k<=μ s,fun x ⟨s,h1,h2⟩=>?_⟩
  refine O6 (p:=fun k=>(∃s,cH cx s x.1 x.2/\I s/\μ s=k)/\∀s,cH cx s x.1 x.2->I s->k<=μ s) ?_
  obtain⟨k,h3,h4⟩:=aCC (fun k=>∃s,cH cx s x.1 x.2/\I s/\μ s=k) ⟨_,s,h1,h2,rfl⟩
  exact⟨k,h3,fun s h5 h6=>h4 _ ⟨s,h5,h6,rfl⟩⟩
 refine wpIn_loop (fun a w=>∃s,cH cx s a w/\I s) (fun a w=>f (a,w)) ⟨_,m.less aR,h0⟩ ?_
 rintro a w hex
 obtain⟨⟨s,m,hI,hμ⟩,_⟩:=hf (a,w) hex
 rw[<-hμ]
 refine wpIn_mono (round s hI a w m) fun e a' w' ⟨s',m',q⟩=>?_
 cases e with
 |normal=>
  obtain⟨H2,h2,hI',gL⟩:=q
  exact⟨⟨_,m'.less h2,hI'⟩,Nat.lt_of_le_of_lt ((hf (a',w') ⟨_,m'.less h2,hI'⟩).2 _ (m'.less h2) hI') gL⟩
 |_=>exact⟨s',m',q⟩
theorem B8 {id:Nat} {aV:List Oper} (h:WL cx aV.toArray aV Q s):W cx (.region id aV.toArray false) Q s:=fun a w m=>wpIn_region_lit (h a w m)
theorem MF {aV:Array Oper} (h:Q .normal s):WL cx aV [] Q s:=fun _ _ m=>⟨s,m,h⟩
theorem yM {o:Oper} {K K':St->Prop} (h:WO cx o K s) (hk:∀s,K s->K' s):WO cx o K' s:=fun a w m=>
 Oper.wpIn_mono (fun _ _ ⟨s',m',q⟩=>⟨s',m',hk s' q⟩) (h a w m)
theorem zK {F:Fence} {n:Nat} {P:Program} {o:Oper} {a:Act} {w:World} {K:Act->World->Prop} {Q:Exit->Act->World->Prop} (h:o.wpIn F n P a w K NoQ):o.wpIn F n P a w K Q:=by
 unfold Oper.wpIn at *
 refine⟨h.1,?_⟩
 have h2:=h.2
 generalize (o.semAt F.round a.eval).run P w=r at *
 cases r with
 |ok x w'=>
  cases x <;> simp only[Oper.uponIn] at h2 ⊢ <;>
   first
    |exact h2
    |exact⟨h2.1,CallsIn.mono h2.2 (fun e w'' he=>by cases e <;> first|exact he|exact he.elim|(obtain⟨_,_,hf⟩:=he;exact hf.elim))⟩
    |exact⟨h2.1,RoundIn.mono h2.2 (fun e w'' he=>by cases e <;> first|exact he|exact he.elim|(obtain⟨_,_,hf⟩:=he;exact hf.elim))⟩
 |halt x w'=>cases x <;> simp only[Oper.uponIn] at h2 ⊢ <;> first|exact h2|exact h2.elim
theorem tF {aV:Array Oper} {o:Oper} {dD:List Oper} (hg:o.guard=none) (h:WO cx o (WL cx aV dD Q) s):WL cx aV (o::dD) Q s:=fun a w m=>by
 refine wpListIn_plain hg fun K hK=>?_
 exact Oper.wpIn_mono (fun a' w' ⟨s',m',q⟩=>hK _ _ (q a' w' m')) (zK (h a w m))
def mF (aV:Array Oper) (j:Nat):Option Tmp:=(aV[j]?).bind (·.dst)
theorem kI {ro:Option Nat} {P:Program} {o:Oper} {a:Act} {w:World}:∀f,o.about P w a.eval=some f->(FR ro).fn f:=fun _ _=>trivial
theorem xJ {aV:Array Oper} {o:Oper} {dD:List Oper} {j:Nat} {eC:Bool} {t:Tmp} (hg:o.guard=some (j,eC)) (hj:mF aV j=some t) (ht:t<cx.n) (hd:∀t,o.dst=some t->t<cx.n)
  (h:(∃b,s.fr t=.val (.bool b)/\(b=eC->WO cx o (WL cx aV dD Q) s)/\(b= !eC->WL cx aV dD Q (s.put o.dst (.val undef))))\/(s.fr t=.val undef/\WL cx aV dD Q (s.put o.dst (.val undef)))):WL cx aV (o::dD) Q s:=fun a w m=>by
 refine wpListIn_step fun K hK=>?_
 have hy:yielded aV a.tmps j=match a.tmps[t]? with|some (.bool b)=>some b|_=>none:=by
  unfold yielded
  unfold mF at hj
  rw[hj]
  rfl
 have J2:t<a.tmps.size:=by rw[m.n];exact ht
 have nY:a.tmps[t]?=some (a.tmps.getD t undef):=by simp [J2]
 have hf:=m.fr t
 have Q8:Region.wanted o (yielded aV a.tmps)=(yielded aV a.tmps j==some eC):=by unfold Region.wanted;rw[hg]
 rcases h with⟨b,hb,h1,h2⟩|⟨hb,h2⟩
 ·rw[hb] at hf
  simp only[D.is] at hf
  rw[nY,hf] at hy
  simp only at hy
  rw[hy] at Q8
  by_cases e:b=eC
  ·subst e
   rw[aH (by rw[Q8];simp)]
   exact Oper.wpIn_mono (fun a' w' ⟨s',m',q⟩=>hK _ _ (q a' w' m')) (zK (h1 rfl a w m))
  ·have e2:b= !eC:=by cases b <;> cases eC <;> first|rfl|exact absurd rfl e
   have e3:(some b==some eC)=false:=by cases b <;> cases eC <;> first|rfl|exact absurd rfl e
   rw[aD (by rw[Q8,e3];simp)]
   refine⟨kI,hK _ _ (h2 e2 _ _ (m.put hd ?_))⟩
   simp only[D.is]
 ·rw[hb] at hf
  simp only[D.is] at hf
  rw[nY,hf] at hy
  simp only[undef] at hy
  rw[hy] at Q8
  rw[aD (by rw[Q8];simp)]
  refine⟨kI,hK _ _ (h2 _ _ (m.put hd ?_))⟩
  simp only[D.is]
end aJd
def XP (P:Program) (f:FuncId):Prop:=∀(args:Array Value) (w:World),(callFunc f args).run P w=.ok (.enter f args) w
theorem tZ {P:Program} {f:FuncId} {fn:Func} {c:Code} (hf:P.funcs[f]?=some fn) (uV:(fn.name== "runtime.NumGoroutine")=false) (hb:fn.body=some c):XP P f:=by
 intro args w
 have h1:fn.name≠ "runtime.NumGoroutine" :=by simpa using uV
 simp [callFunc,hf,h1,hb,mark]
def aT (P:Program) (f:FuncId) (ds:List D) (H:aA) (K:D->aA->Prop):Prop:=
 XP P f/\∀(w:World) (vs:List Value),aW w H.others ds vs->fQ w H->E3 w H->Calls P f vs.toArray w fun e w'=>∃v d H',e=.returned v/\D.is w' H'.others d v/\fQ w' H'/\Ev H w H' w'/\K d H'
theorem aT.mono {P:Program} {f:FuncId} {ds:List D} {H:aA} {K K':D->aA->Prop} (h:aT P f ds H K) (hk:∀d H',K d H'->K' d H'):aT P f ds H K':=And.intro h.1 fun w vs h1 h2 h3=>
 (h.2 w vs h1 h2 h3).mono fun _ _ ⟨v,d,H',a,b,c,e,k⟩=>⟨v,d,H',a,b,c,e,hk _ _ k⟩
abbrev lB:=@aT.mono
def St.init (ds:List D) (H:aA):St:=⟨fun t=>ds.getD t (.val undef),H,[]⟩
def PL (cx:Cx) (fn:Func) (s:St) (K:D->aA->Prop):Prop:=
 ∀a w,cH cx s a w->∃v d H',(results fn a.tmps).run cx.P w=.ok v w/\D.is w H'.others d v/\H'.le s.H/\K d H'
theorem jO {w:World} {S:Nat->Prop}:∀{ds:List D} {vs:List Value},aW w S ds vs->vs.length=ds.length
 |[],_,h=>by simp only[aW] at h;subst h;rfl
 |d::ds,vs,h=>by
  simp only[aW] at h
  obtain⟨u,us,rfl,_,h⟩:=h
  simp [jO h]
theorem l3 {w:World} {S:Nat->Prop}:∀{ds:List D} {vs:List Value},aW w S ds vs->∀(j:Nat) (d:D),ds[j]?=some d->∃v,vs[j]?=some v/\D.is w S d v
 |[],_,_,j,d,hd=>by simp at hd
 |d0::ds,vs,h,j,d,hd=>by
  simp only[aW] at h
  obtain⟨u,us,rfl,h1,h2⟩:=h
  cases j with
  |zero=>exact⟨u,rfl,by simp at hd;subst hd;exact h1⟩
  |succ j=>simpa using l3 h2 j d (by simpa using hd)
def aBE (cx:Cx) (fn:Func) (K:D->aA->Prop):Exit->St->Prop
 | .normal,s| .ret,s=>s.df=[]/\PL cx fn s K
 |_,_=>False
theorem TO {P:Program} {f:FuncId} {fn:Func} {c:Code} {ds:List D} {H:aA} {K:D->aA->Prop} (N:Nat) (hf:P.funcs[f]?=some fn) (uV:(fn.name== "runtime.NumGoroutine")=false) (hb:fn.body=some c) (hN:fn.ntmps=N) (hl:ds.length<=N)
  (h:∀w0 (g0:E3 w0 H),W ⟨P,none,N,H,w0,g0⟩ c (aBE ⟨P,none,N,H,w0,g0⟩ fn K) (St.init ds H)):aT P f ds H K:=And.intro (tZ hf uV hb) fun w vs sN hH hG=>by
 refine tG (ro:=none) (n:=9) (callsIn_of_wp hf hb trivial ?_ rfl)
 have eB:=jO sN
 have m:cH ⟨P,none,N,H,w,hG⟩ (St.init ds H) {tmps:=vs.toArray++Array.replicate (fn.ntmps - vs.toArray.size) undef,defers:=[]} w:=by
  refine⟨by simp;omega,rfl,fun t=>?_,hH,gC _ _⟩
  simp only[St.init]
  rcases jW t ds.length with gL|EC
  ·obtain⟨v,h1,h2⟩:=l3 sN t ds[t] (by simp [gL])
   have e1:ds.getD t (.val undef)=ds[t]:=by simp [List.getD,gL]
   have e2:(vs.toArray++Array.replicate (fn.ntmps - vs.toArray.size) undef).getD t undef=v:=by
    rw[uE,DF (by simp;omega)]
    simp [h1]
   rw[e1,e2];exact h2
  ·have e1:ds.getD t (.val undef)=.val undef:=by simp [List.getD,EC]
   rw[e1]
   simp only[D.is]
   rw[uE,DE (by simp;omega),G8]
   split <;> rfl
 refine wpIn_mono (h w hG _ _ m) fun e a' w' ⟨s',m',q⟩=>?_
 have key:s'.df=[]/\PL ⟨P,none,N,H,w,hG⟩ fn s' K->a'.defers=[]/\∃v,(results fn a'.tmps).run P w'=.ok v w'/\∃v' d H',Ending.returned v=.returned v'/\D.is w' H'.others d v'/\fQ w' H'/\Ev H w H' w'/\K d H':=by
  rintro⟨bG,eE⟩
  obtain⟨v,d,H',h1,h2,h3,h4⟩:=eE a' w' m'
  have m2:=m'.less h3
  exact⟨m'.df.trans bG,v,h1,v,d,H',rfl,h2,m2.H,m2.ev,h4⟩
 cases e with
 |normal=>
  obtain⟨h1,v,h2,h3⟩:=key q
  exact⟨h1,v,h2,h3⟩
 |ret=>
  obtain⟨h1,v,h2,h3⟩:=key q
  exact⟨h1,v,h2,h3⟩
 |_=>exact q.elim
inductive TD where
 |int (k:IntKind)
 |bool
 |string
 |slice (e:TypeId)
 |array (n:Nat) (e:TypeId)
 |struct (fs:List (Nat×TypeId))
 |ptr (e:TypeId)
 |map (k e:TypeId)
 |other
structure Ti where
 d:TD
 size:Nat
 bytes:Nat
 zero:Option (List Value)
def iU:TypeDesc->TD
 | .int k=>.int k
 | .bool=>.bool
 | .string=>.string
 | .slice e=>.slice e
 | .array n e=>.array n e
 | .struct fs=>.struct (fs.toList.map fun f=>(f.offset,f.type))
 | .pointer e=>.ptr e
 | .map k e=>.map k e
 |_=>.other
def aS (P:Program) (t:TypeId):Option Ti:=
 match P.underlying t,P.info? t with
 |some d,some i=>some ⟨iU d,i.size,i.bytes,i.zero.map (·.cells.toList)⟩
 |_,_=>none
def TD.agg:TD->Bool
 | .array _ _| .struct _=>true
 |_=>false
theorem cU {P:Program} {t:TypeId} {T:Ti} (h:aS P t=some T):∃d i,P.underlying t=some d/\P.info? t=some i/\T=⟨iU d,i.size,i.bytes,i.zero.map (·.cells.toList)⟩:=by
 unfold aS at h
 split at h
 ·rename_i d i h1 h2
  exact⟨d,i,h1,h2,by injection h with h;exact h.symm⟩
 ·cases h
theorem bI {P:Program} {t:TypeId} {d:TypeDesc} (h:P.underlying t=some d) (w:World):(underlying t).run P w=.ok d w:=run_underlying h w
theorem zA {P:Program} {t:TypeId} {T:Ti} (h:aS P t=some T) (w:World):(isAgg t).run P w=.ok T.d.agg w:=by
 obtain⟨d,i,h1,h2,rfl⟩:=cU h
 unfold isAgg
 simp only[Sem.run_bind,bI h1,Result.andThen]
 cases d <;> rfl
theorem eU {P:Program} {t:TypeId} {T:Ti} (h:aS P t=some T) (w:World):(sizeOf t).run P w=.ok T.size w:=by
 obtain⟨d,i,h1,h2,rfl⟩:=cU h
 unfold sizeOf typeInfo program
 simp [Sem.run,h2]
theorem nD {P:Program} {t:TypeId} {T:Ti} (h:aS P t=some T) (w:World):∃i,(typeInfo t).run P w=.ok i w/\T.size=i.size/\T.bytes=i.bytes/\T.zero=i.zero.map (·.cells.toList)/\P.info? t=some i:=by
 obtain⟨d,i,h1,h2,rfl⟩:=cU h
 refine⟨i,?_,rfl,rfl,rfl,h2⟩
 unfold typeInfo program
 simp [Sem.run,h2]
section
variable {w:World} {S:Nat->Prop}
theorem dU:∀{cs:List D} {vs:List Value},aU w S cs vs->vs.length=cs.length
 |[],_,h=>by simp only[aU] at h;subst h;rfl
 |d::ds,vs,h=>by
  simp only[aU] at h
  obtain⟨u,us,rfl,_,_,h⟩:=h
  simp [dU h]
theorem oC:∀{cs:List D} {vs:List Value},aU w S cs vs->∀v∈vs,v.oneCell'=true
 |[],_,h,v,hv=>by simp only[aU] at h;subst h;cases hv
 |d::ds,vs,h,v,hv=>by
  simp only[aU] at h
  obtain⟨u,us,rfl,h1,_,h⟩:=h
  rcases eG.1 hv with rfl|hv
  ·exact h1
  ·exact oC h v hv
theorem dS:∀{cs ds:List D} {vs us:List Value},aU w S cs vs->aU w S ds us->aU w S (cs++ds) (vs++us)
 |[],ds,vs,us,h,h'=>by simp only[aU] at h;subst h;exact h'
 |d::cs,ds,vs,us,h,h'=>by
  simp only[aU] at h
  obtain⟨u,DV,rfl,h1,h2,h⟩:=h
  simp only[eT,aU]
  exact⟨u,_,rfl,h1,h2,dS h h'⟩
theorem gQ:∀{cs:List D} {vs:List Value} (k:Nat),aU w S cs vs->aU w S (cs.drop k) (vs.drop k)
 |cs,vs,0,h=>h
 |[],vs,k+1,h=>by simp only[aU] at h;subst h;simp [aU]
 |d::cs,vs,k+1,h=>by
  simp only[aU] at h
  obtain⟨u,DV,rfl,h1,h2,h⟩:=h
  exact gQ k h
theorem gR:∀{cs:List D} {vs:List Value} (k:Nat),aU w S cs vs->aU w S (cs.take k) (vs.take k)
 |cs,vs,0,h=>by simp [aU]
 |[],vs,k+1,h=>by simp only[aU] at h;subst h;simp [aU]
 |d::cs,vs,k+1,h=>by
  simp only[aU] at h
  obtain⟨u,DV,rfl,h1,h2,h⟩:=h
  simp only[List.take_succ_cons,aU]
  exact⟨u,_,rfl,h1,h2,gR k h⟩
theorem CC:∀{cs:List D} {vs:List Value},aU w S cs vs->∀(j:Nat) (d:D),cs[j]?=some d->∃v,vs[j]?=some v/\v.oneCell'=true/\D.is w S d v
 |[],_,_,j,d,hd=>by simp at hd
 |d0::ds,vs,h,j,d,hd=>by
  simp only[aU] at h
  obtain⟨u,us,rfl,h1,h2,h3⟩:=h
  cases j with
  |zero=>exact⟨u,rfl,h1,by simp at hd;subst hd;exact h2⟩
  |succ j=>simpa using CC h3 j d (by simpa using hd)
theorem kP:∀(vs:List Value),(∀v∈vs,v.oneCell'=true)->aU w S (vs.map .val) vs
 |[],_=>by simp [aU]
 |v::vs,h=>by
  simp only[fT,aU,D.is]
  exact⟨v,vs,rfl,h v (by simp),rfl,kP vs fun u hu=>h u (by simp [hu])⟩
theorem dR {b:Nat}:∀{cs:List D} {o:Nat},cK w S b o cs->∃vs,aU w S cs vs/\∀(j:Nat) (v:Value),vs[j]?=some v->w.cell? ⟨b,o+j,none⟩=some v
 |[],_,_=>⟨[],by simp [aU],fun j v h=>by simp at h⟩
 |d::ds,o,h=>by
  simp only[cK] at h
  obtain⟨⟨u,h1,h2,h3⟩,h4⟩:=h
  obtain⟨vs,h5,h6⟩:=dR h4
  refine⟨u::vs,by simp only[aU];exact⟨u,vs,rfl,h2,h3,h5⟩,fun j v hj=>?_⟩
  cases j with
  |zero=>simp at hj;subst hj;exact h1
  |succ j=>rw[show o+(j+1)=o+1+j by omega];exact h6 j v (by simpa using hj)
theorem dV {b:Nat}:∀{cs:List D} {o:Nat} {vs:List Value},aU w S cs vs->(∀(j:Nat) (v:Value),vs[j]?=some v->w.cell? ⟨b,o+j,none⟩=some v)->cK w S b o cs
 |[],_,_,_,_=>by simp only[cK]
 |d::ds,o,vs,h,hc=>by
  simp only[aU] at h
  obtain⟨u,us,rfl,h1,h2,h3⟩:=h
  simp only[cK]
  exact⟨⟨u,by simpa using hc 0 u rfl,h1,h2⟩,dV h3 fun j v hj=>by
   have:=hc (j+1) v (by simpa using hj)
   rwa[show o+(j+1)=o+1+j by omega] at this⟩
theorem j8 {b o:Nat} {cs:List D} (h:cK w S b o cs) (k:Nat):cK w S b (o+k) (cs.drop k):=by
 obtain⟨vs,h1,h2⟩:=dR h
 refine dV (gQ k h1) fun j v hj=>?_
 rw[show o+k+j=o+(k+j) by omega]
 exact h2 _ v (by simpa [yL] using hj)
theorem vG {b o:Nat} {cs:List D} (h:cK w S b o cs) (k:Nat):cK w S b o (cs.take k):=by
 obtain⟨vs,h1,h2⟩:=dR h
 refine dV (gR k h1) fun j v hj=>?_
 refine h2 j v ?_
 rw[nU] at hj
 split at hj
 ·exact hj
 ·cases hj
theorem eA {b sz:Nat}:∀{els:List (List D)} {o:Nat},dC w S b sz o els->∀(i:Nat) (el:List D),els[i]?=some el->el.length=sz/\cK w S b (o+i * sz) el
 |[],_,_,i,el,h=>by simp at h
 |e::els,o,h,i,el,hi=>by
  simp only[dC] at h
  cases i with
  |zero=>simp at hi;subst hi;simpa using ⟨h.1,h.2.1⟩
  |succ i=>
   have:=eA h.2.2 i el (by simpa using hi)
   rw[show o+(i+1) * sz=o+sz+i * sz by rw[eK];omega]
   exact this
theorem eY {b sz:Nat}:∀{els:List (List D)} {o:Nat},(∀(i:Nat) (el:List D),els[i]?=some el->el.length=sz/\cK w S b (o+i * sz) el)->dC w S b sz o els
 |[],_,_=>by simp only[dC]
 |e::els,o,h=>by
  simp only[dC]
  have h0:=h 0 e rfl
  refine⟨h0.1,by simpa using h0.2,eY fun i el hi=>?_⟩
  have:=h (i+1) el (by simpa using hi)
  rwa[show o+(i+1) * sz=o+sz+i * sz by rw[eK];omega] at this
theorem qE {b sz o:Nat} {els:List (List D)} (h:dC w S b sz o els) (k:Nat):dC w S b sz (o+k * sz) (els.drop k):=
 eY fun i el hi=>by
  have:=eA h (k+i) el (by simpa [yL] using hi)
  rwa[show o+k * sz+i * sz=o+(k+i) * sz by rw[eK];omega]
theorem n3 {b sz o:Nat} {els:List (List D)} (h:dC w S b sz o els) (k:Nat):dC w S b sz o (els.take k):=
 eY fun i el hi=>by
  rw[nU] at hi
  split at hi
  ·exact eA h i el hi
  ·cases hi
end
theorem gK {P:Program} (b:Nat) (t:TypeId) (fr:Nat×Nat):∀(vs:List Value) (o i:Nat) (w:World) (cs:Array Value),w.heap[b]?=some (Obj.cells cs t fr)->XQ fr cs.size->o+i+vs.length<=cs.size->(∀v∈vs,v.oneCell'=true)->
  ∃w',(storeCells ⟨b,o,none⟩ vs i).run P w=.ok () w'/\w'.os=w.os/\w'.tape=w.tape/\w'.output=w.output/\w'.heap.size=w.heap.size/\(∀c,c≠b->w'.heap[c]?=w.heap[c]?)/\
   ∃sZ,w'.heap[b]?=some (Obj.cells sZ t fr)/\sZ.size=cs.size/\(∀j v,vs[j]?=some v->sZ[o+i+j]?=some v)/\∀j,(j<o+i\/o+i+vs.length<=j)->sZ[j]?=cs[j]?
 |[],o,i,w,cs,hb,_,_,_=>⟨w,rfl,rfl,rfl,rfl,rfl,fun _ _=>rfl,cs,hb,rfl,fun j v h=>by simp at h,fun _ _=>rfl⟩
 |v::vs,o,i,w,cs,hb,SY,eB,h1=>by
  have gL:o+i<cs.size:=by simp at eB;omega
  have aDl:(⟨b,o,none⟩:Addr).add i=⟨b,o+i,none⟩:=Addr.add_lit _ _ _
  have AW:w.cell? ⟨b,o+i,none⟩=some cs[o+i]:=by
   rw[cell_of_row w b (o+i) cs t fr hb];simp [gL]
  have hfz:w.frozen? ⟨b,o+i,none⟩=false:=by
   have:=SY.not (o+i) gL
   simp only[World.frozen?,hb]
   simpa using fun h=>Nat.le_of_not_lt (fun h2=>this ⟨h,h2⟩)
  have AP:(w.setCell ⟨b,o+i,none⟩ v).heap[b]?=some (Obj.cells (cs.setIfInBounds (o+i) v) t fr):=by
   simp [World.setCell,zR,hb]
  obtain⟨w',h2,e1,e2,e3,e4,h3,sZ,h4,h5,h6,h7⟩:=gK b t fr vs o (i+1) (w.setCell ⟨b,o+i,none⟩ v) _ AP (by simpa using SY) (by simp at eB ⊢;omega) (fun u hu=>h1 u (by simp [hu]))
  refine⟨w',?_,e1,e2,e3,by simpa [World.setCell] using e4,fun c hc=>(h3 c hc).trans (Below.heap_setCell w _ v c hc),sZ,h4,by simpa using h5,?_,?_⟩
  ·simp only[storeCells,Sem.run_bind,aDl,run_store P w _ v _ (h1 v (by simp)),AW,hfz]
   exact h2
  ·intro j u hj
   cases j with
   |zero=>
    simp at hj
    subst hj
    rw[z8,h7 (o+i) (by omega)]
    simp [gL]
   |succ j=>rw[show o+i+(j+1)=o+(i+1)+j by omega];exact h6 j u (by simpa using hj)
  ·intro j hj
   rw[h7 j (by simp at hj ⊢;omega)]
   rw[Array.getElem?_setIfInBounds]
   rw[aD (by simp at hj;omega)]
def D.cells:D->Option (List D)
 | .agg cs=>some cs
 | .val (.agg _)| .val (.tuple _)| .fV _=>none
 |d=>some [d]
theorem D.CD {w:World} {S:Nat->Prop} {d:D} {v:Value} {cs:List D} (h:D.is w S d v) (hc:d.cells=some cs):aU w S cs v.cells.toList:=by
 have one:∀{d:D} {v:Value},D.is w S d v->v.oneCell'=true->aU w S [d] v.cells.toList:=fun {d v} h h1=>by
  have:v.cells= #[v]:=by cases v <;> first|rfl|cases h1
  rw[this]
  simp only[aU]
  exact⟨v,[],rfl,h1,h,rfl⟩
 cases d with
 |agg ds=>
  simp only[D.cells] at hc
  injection hc with hc
  subst hc
  simp only[D.is] at h
  obtain⟨vs,rfl,h⟩:=h
  exact h
 |val u=>
  have e:v=u:=by simpa only[D.is] using h
  subst e
  cases v <;> simp only[D.cells] at hc <;> first|(injection hc with hc;subst hc;exact one h rfl)|cases hc
 |fV ds=>simp only[D.cells] at hc;cases hc
 |seq sz els=>
  simp only[D.cells] at hc
  injection hc with hc
  subst hc
  have h':=h
  simp only[D.is] at h'
  obtain⟨A,c,rfl,_⟩:=h'
  exact one h rfl
 |os b o sz k n=>
  simp only[D.cells] at hc
  injection hc with hc
  subst hc
  have h':=h
  simp only[D.is] at h'
  obtain⟨A,c,rfl,_⟩:=h'
  exact one h rfl
 |ep b o sz i k=>
  simp only[D.cells] at hc
  injection hc with hc
  subst hc
  have h':=h
  simp only[D.is] at h'
  subst h'
  exact one h rfl
 |rp cs=>
  simp only[D.cells] at hc
  injection hc with hc
  subst hc
  have h':=h
  simp only[D.is] at h'
  obtain⟨b,o,rfl,_⟩:=h'
  exact one h rfl
 |fn f cs=>
  simp only[D.cells] at hc
  injection hc with hc
  subst hc
  have h':=h
  simp only[D.is] at h'
  obtain⟨vs,rfl,_⟩:=h'
  exact one h rfl
 |fb f es cs=>
  simp only[D.cells] at hc
  injection hc with hc
  subst hc
  have h':=h
  simp only[D.is] at h'
  obtain⟨us,vs,rfl,_⟩:=h'
  exact one h rfl
 |ND=>
  simp only[D.cells] at hc
  injection hc with hc
  subst hc
  have h':=h
  simp only[D.is] at h'
  obtain⟨A,rfl⟩:=h'
  exact one h rfl
theorem iO {H:aA} {w:World} (o:Obj) (x:gB) (hH:fQ w H):Ev H w (H.bH w.heap.size x) (w.alloc o) where
 os:=rfl
 tape:=rfl
 output:=rfl
 size:=by simp
 jY:=fun b hb hn=>⟨Below.heap_alloc w o b hb,by rw[aP (by omega)];exact hn⟩
 shape:=fun b cs t fr hb=>⟨cs,fr,by rw[Below.heap_alloc w o b (nR.1 hb).1];exact hb,rfl⟩
theorem gZ {H:aA} {w:World} (hH:fQ w H):H w.heap.size=none:=by
 cases e:H w.heap.size with
 |none=>rfl
 |some x=>exact absurd (hH.lt e) (by omega)
theorem Ev.rC {H H':aA} {w w':World} (h:Ev H w H' w') {b:Nat} {x:gB} (hb:w'.heap[b]?=w.heap[b]?) (hx:rC w H b x):rC w' H' b x:=by
 cases x with
 |row t o sz els=>
  obtain⟨cs,fr,h1,h2,h3,h4⟩:=hx
  refine⟨cs,fr,hb.trans h1,h2,h3,eY fun i el hi=>?_⟩
  obtain⟨h5,h6⟩:=eA h4 i el hi
  refine⟨h5,?_⟩
  obtain⟨vs,h7,h8⟩:=dR h6
  refine dV (bV h.kept el h7) fun j v hj=>?_
  rw[<-h8 j v hj]
  exact World.cell?_of_block hb
 |map m=>
  obtain⟨es,c,h1,h2,h3,h4⟩:=hx
  exact⟨es,c,hb.trans h1,h2,fZ h.kept _ h3,h4⟩
 |hid=>exact HD hx h.size
 |obj o=>exact hb.trans hx
theorem fQ.alloc {H:aA} {w:World} (hH:fQ w H) {o:Obj} {x:gB} (hx:rC (w.alloc o) (H.bH w.heap.size x) w.heap.size x):fQ (w.alloc o) (H.bH w.heap.size x):=fun b y hb=>by
 by_cases e:b=w.heap.size
 ·subst e
  rw[aQ] at hb
  injection hb with hb
  subst hb
  exact hx
 ·rw[aP e] at hb
  exact(iO o x hH).rC (Below.heap_alloc w o b (hH.lt hb)) (hH b y hb)
theorem LB (n:Nat):XQ (0,0) n:=.inl rfl
theorem EP {H:aA} {w:World} (hH:fQ w H) (t:TypeId) (sz:Nat) (els:List (List D)) (vs:List Value) (hv:aU w H.others els.flatten vs) (lE:∀el∈els,el.length=sz) (eB:els.length * sz<=vs.length):
  fQ (w.alloc (Obj.cells ⟨vs⟩ t)) (H.bH w.heap.size (.row t 0 sz els)):=by
 refine hH.alloc ⟨⟨vs⟩,(0,0),heap_alloc_new w _,LB _,by simpa using eB,?_⟩
 have hk:=bV (iO (Obj.cells ⟨vs⟩ t) (.row t 0 sz els) hH).kept _ hv
 refine eY fun i el hi=>⟨lE el (jQ hi),?_⟩
 have aIp:∀(i:Nat) (els:List (List D)),(∀el∈els,el.length=sz)->∀el,els[i]?=some el->(els.flatten.drop (i * sz)).take sz=el:=by
  intro i
  induction i with
  |zero=>
   intro els hs el h0
   cases els with
   |nil=>simp at h0
   |cons e els=>
    simp at h0
    subst h0
    have:=hs e (by simp)
    simp [<-this]
  |succ i ih=>
   intro els hs el h0
   cases els with
   |nil=>simp at h0
   |cons e els=>
    have h1:=hs e (by simp)
    have h2:=ih els (fun x hx=>hs x (by simp [hx])) el (by simpa using h0)
    rw[v8,eK,Nat.one_mul,List.drop_append,zN (by omega),h1,fR]
    simpa [Nat.add_sub_cancel] using h2
 have he:=aIp i els lE el hi
 have h1:=gR sz (gQ (i * sz) hk)
 rw[he] at h1
 refine dV h1 fun j v hj=>?_
 rw[iZ,cell_of_row _ _ _ _ _ _ (heap_alloc_new w _)]
 rw[nU] at hj
 split at hj
 ·rw[yL] at hj
  simpa using hj
 ·cases hj
end Go.Proofs.YtelbfbioomcmeaaGreatDoor

