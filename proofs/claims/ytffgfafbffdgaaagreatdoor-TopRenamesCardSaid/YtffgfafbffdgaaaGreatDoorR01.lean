/- Lemmas and contracts of functions, several texts in one. -/
import Derived.Test.YtffgfafbffdgaaaGreatDoorProg
import Derived.Lib.Strings
import Derived.Lib.Bytealg
import Derived.Lib.Walk
import Derived.Laws.Externs
import Derived.WalkKit
import Derived.Lib.Hide
import Derived.Deep.Draws
import Derived.Laws.AppendOwnNone
import Derived.Maps.AppendAt
import Derived.Laws.CopyOwn
import Derived.Lib.SlBytesConst
import Derived.OrdersIn
import Derived.TacticsIn
import Derived.Laws.Cells
import Derived.Laws.MakeOwn
set_option maxRecDepth 100000
set_option maxHeartbeats 4000000
set_option linter.all false
namespace Go.Proofs.YtffgfafbffdgaaaGreatDoor
open Tryz
theorem aCi (s:ByteArray) (c:Int) (w:World):
  Calls prog 216 #[.string s,.int .u8 c] w λe a=>e=.returned (.int .i64 (firstIdx s c.toNat.toUInt8))/\w=a:=by
 go_enter func216,ntmps216;go_wp2;rw[run_callFunc_extern func292 (by kernel_rfl) (by kernel_rfl) (by kernel_rfl) (e:=Extern.BytealgIndexByte.indexByte) (by kernel_rfl),run_indexByte_string];go_wp2;go_ret;exact⟨rfl,rfl⟩
end Go.Proofs.YtffgfafbffdgaaaGreatDoor
namespace Go.Proofs.YtffgfafbffdgaaaGreatDoor
open Go.RowKit
variable {B g base n j b id sz:Nat}{row ro:Option Nat}{a:Act}{w w':World}{e t:TypeId}{c x y:Code}{l:List UInt8}{A:Option Addr}{P:Program}{v:Value}{f:FuncId}{aY:Array Oper}{o:Oper}{op:BinOp}
abbrev aV:=@List.length_append
abbrev aX:=@Int.toNat_natCast
abbrev aC:=@if_neg
abbrev aZ:=@Int.natCast_nonneg
abbrev aS:=@List.length_map
abbrev aD:=@if_pos
abbrev bw:=@List.take_succ_eq_append_getElem
abbrev aI:=@eq_false
abbrev az:=@List.getElem?_eq_getElem
abbrev aG:=@eq_true
abbrev af:=@decide_eq_false
abbrev bK:=@List.take_of_length_le
abbrev ao:=@List.getElem_mem
abbrev ah:=@decide_eq_true
abbrev bE:=@List.append_assoc
abbrev bB:=@List.mem_append
abbrev cL:=@List.drop_eq_getElem_cons
abbrev bM:=@List.mem_singleton
abbrev cy:=@List.eq_nil_of_length_eq_zero
abbrev bI:=@List.map_append
abbrev bg:=@List.getElem?_map
abbrev bX:=@List.length_take
abbrev cb:=@List.drop_eq_nil_of_le
abbrev bx:=@List.length_cons
abbrev bz:=@List.append_nil
abbrev bV:=@List.mem_cons
abbrev eC:=@Classical.byContradiction
abbrev ai:=@congrArg
abbrev dH:=@List.mem_cons_of_mem
abbrev cX:=@Bool.and_eq_true
abbrev cC:=@List.map_cons
abbrev eE:=@List.length_singleton
abbrev dF:=@decide_eq_true_eq
abbrev bh:=@Nat.le_refl
abbrev cD:=@List.mem_map
abbrev cz:=@List.nil_append
abbrev cV:=@Bool.true_and
abbrev dI:=@List.take_length
abbrev dJ:=@List.cons_append
abbrev dK:=@List.all_eq_true
abbrev eh:=@List.mem_of_getElem?
abbrev gI:=@List.getElem?_eq_some_iff
abbrev gZ:=@List.getD_eq_getElem?_getD
abbrev dX:=@List.length_nil
abbrev jP:=@Array.getElem?_eq_some_iff
abbrev ga:=@List.take_append_drop
abbrev dj:=@List.drop_zero
abbrev dq:=@Bool.false_and
abbrev gb:=@List.flatMap_append
abbrev fp:=@Classical.not_not
abbrev fN:=@List.mem_filter
abbrev kT:=@List.getElem?_append_left
abbrev mO:=@List.getElem?_append_right
abbrev ia:=@Bool.false_eq_true
abbrev dc:=@Nat.add_mul
abbrev iJ:=@Option.some.injEq
abbrev gd:=@List.length_drop
abbrev nK:=@Array.getD_eq_getD_getElem?
abbrev lk:=@List.getElem?_cons_zero
abbrev gJ:=@Option.map_some
abbrev jl:=@Nat.mul_le_mul_right
abbrev kU:=@List.length_filter_le
abbrev fq:=@Bool.and_false
abbrev gK:=@List.take_zero
abbrev lu:=@List.getElem?_eq_none
abbrev fu:=@Bool.and_true
abbrev jm:=@List.mem_cons_self
abbrev kV:=@List.getElem_of_mem
abbrev kW:=@Array.length_toList
abbrev fv:=@Nat.lt_or_ge
abbrev fw:=@List.map_nil
abbrev ib:=@List.mem_range
abbrev gL:=@List.map_map
abbrev ly:=@List.filter_append
abbrev iK:=@List.map_take
abbrev lz:=@List.flatMap_cons
abbrev dY:=@if_false
abbrev mP:=@List.getElem?_take
abbrev o8:=@List.mem_append_left
abbrev jQ:=@List.all_cons
abbrev pb:=@Array.getElem?_modify
abbrev mA:=@List.length_set
abbrev dN:=@if_true
abbrev uh:=@List.take_append_of_le_length
abbrev pc:=@List.getElem?_of_mem
abbrev oa:=@List.pairwise_cons
abbrev ui:=@List.mem_zipIdx_iff_getElem?
abbrev nL:=@List.flatMap_nil
abbrev kY:=@false_implies
abbrev pf:=@List.map_congr_left
abbrev nj:=@List.pairwise_append
abbrev jW:=@Bool.not_false
abbrev pK:=@List.drop_of_length_le
abbrev la:=@List.mem_flatMap
abbrev iV:=@true_implies
abbrev iW:=@implies_true
abbrev iX:=@forall_const
abbrev mW:=@List.nodup_append
abbrev mX:=@List.foldl_append
abbrev mY:=@Bool.not_eq_true'
abbrev pL:=@List.mem_append_right
abbrev pM:=@List.filterMap_append
abbrev kD:=@Nat.mul_le_mul
abbrev nn:=@List.getElem?_drop
abbrev kF:=@Bool.not_true
abbrev qz:=@List.getElem_cons_drop
abbrev rA:=@List.flatMap_singleton
abbrev np:=@List.ext_getElem?
abbrev gm:=@Array.ext'
abbrev mZ:=@Nat.min_eq_left
abbrev rB:=@List.getElem?_toArray
abbrev pN:=@UInt8.toNat_ofNat'
abbrev kG:=@Nat.zero_add
abbrev kH:=@Nat.succ_mul
abbrev rC:=@List.mem_of_mem_take
abbrev jY:=@Nat.zero_le
abbrev jZ:=@Nat.mul_one
abbrev tE:=@decide_eq_false_iff_not
abbrev tF:=@List.getElem?_cons_succ
abbrev tG:=@List.filter_cons_of_pos
abbrev tH:=@List.filter_cons_of_neg
abbrev wD:=@Array.getElem?_append_right
abbrev tI:=@List.pairwise_lt_range
abbrev lh:=@List.all_nil
abbrev kJ:=@Int.le_refl
abbrev wF:=@Array.getElem?_append_left
abbrev tJ:=@Array.mem_of_getElem?
abbrev pO:=@List.nodup_cons
abbrev rD:=@of_decide_eq_true
abbrev rE:=@List.pairwise_map
abbrev ma:=@Nat.le_trans
abbrev wG:=@Array.getElem?_replicate
abbrev nq:=@Bool.false_or
abbrev tK:=@List.mergeSort_perm
abbrev rF:=@Option.getD_some
abbrev pP:=@List.drop_drop
abbrev wH:=@List.map_eq_append_iff
abbrev wI:=@List.getElem?_set_self
abbrev nr:=@getElem!_pos
abbrev rG:=@List.range_succ
abbrev rH:=@List.foldl_cons
abbrev rI:=@List.cons.injEq
abbrev rJ:=@Bool.or_eq_true
abbrev wJ:=@List.length_replicate
abbrev tL:=@List.length_range
abbrev tM:=@List.flatten_cons
abbrev yy:=@List.nodup_iff_pairwise_ne
abbrev wK:=@List.mem_of_getLast?
abbrev wL:=@List.map_eq_cons_iff
abbrev tN:=@List.getElem_map
abbrev tO:=@List.any_eq_true
abbrev iZ:=@eq_self
abbrev wM:=@List.mem_map_of_mem
abbrev wN:=@List.map_eq_nil_iff
abbrev rK:=@Nat.add_assoc
abbrev wO:=@Nat.eq_zero_or_pos
abbrev yz:=@List.pairwise_mergeSort
abbrev zA:=@List.length_eq_one_iff
abbrev zC:=@List.getElem_cons_zero
abbrev zE:=@ByteArray.data_extract
abbrev rL:=@Nat.zero_mul
abbrev rM:=@Nat.add_zero
abbrev zF:=@List.Perm.append_left
abbrev Ek:=@List.eq_nil_iff_forall_not_mem
abbrev wP:=@Nat.le_add_right
abbrev wQ:=@Array.all_toList
abbrev kL:=@dif_pos
abbrev mc:=@Prod.ext
abbrev wR:=@List.all_append
abbrev zG:=@List.take_set_of_le
abbrev zH:=@List.flatten_append
abbrev zI:=@List.filter_eq_self
abbrev zJ:=@List.filterMap_cons
abbrev tP:=@Nat.sub_zero
abbrev tQ:=@Nat.pow_succ
abbrev zK:=@Nat.lt_of_lt_of_le
abbrev zL:=@List.append_of_mem
abbrev wT:=@List.take_take
abbrev rN:=@beq_iff_eq
abbrev zM:=@UInt8.ofNat_toNat
abbrev zN:=@List.size_toArray
abbrev zO:=@List.getElem?_set
abbrev gp:=@ne_eq
abbrev zP:=@Nat.mod_eq_of_lt
abbrev zQ:=@List.perm_middle
abbrev zR:=@List.flatMap_map
abbrev pS:=@false_or
abbrev El:=@Option.map_eq_some_iff
abbrev Em:=@Classical.epsilon_spec
abbrev wU:=@Nat.sub_self
def nM (w:World) (g:Nat) (t:TypeId) (cs:Array Value):Prop:=w.heap[g]?=some (.cells cs t (0,0))
section
variable {w w':World}{g:Nat}{t:TypeId}{cs:Array Value}
theorem nM.out (h:nM w g t cs):w.heap[g]?=some (.cells cs t (0,0)):=h
theorem nM.lt (h:nM w g t cs):g<w.heap.size:=by
 rcases fv g w.heap.size with i|wY
 ·exact i
 ·unfold nM at h;rw[Array.getElem?_eq_none wY] at h;cases h
theorem nM.cell (h:nM w g t cs)(i:Nat):w.cell? ⟨g,i,none⟩=cs[i]?:=cell_of_row w g i cs t (0,0) h
theorem nM.frozen (h:nM w g t cs)(i:Nat):w.frozen? ⟨g,i,none⟩=false:=by
 unfold nM at h;simp [World.frozen?,h]
theorem nM.new (w:World) (t:TypeId) (cs:Array Value):nM (w.alloc (.cells cs t)) w.heap.size t cs:=heap_alloc_new w _
theorem nM.aCl {n:Nat}(w:World) (t:TypeId) (cs:Array Value) (h:n=w.heap.size):nM (w.alloc (.cells cs t)) n t cs:=by subst h;exact heap_alloc_new w _
theorem nM.drew (h:nM w g t cs):nM w.drew g t cs:=h
theorem nM.drewN (h:nM w g t cs)(n:Nat):nM (w.drewN n) g t cs:=h
theorem nM.alloc (h:nM w g t cs)(o:Obj):nM (w.alloc o) g t cs:=(Below.heap_alloc w o g h.lt).trans h
theorem nM.aCp (h:nM w g t cs)(i:Nat)(u:Value):nM (w.setCell ⟨g,i,none⟩ u) g t (cs.setIfInBounds i u):=by
 unfold nM at h ⊢;simp [World.setCell,pb,h]
theorem nM.far (h:nM w g t cs){p:Addr}(hp:g≠p.block)(u:Value):nM (w.setCell p u) g t cs:=(Below.heap_setCell w p u g hp).trans h
theorem nM.Jq (h:nM w g t cs)(c:Array Value):nM (w.setRow g c) g t c:=setRow_heap w g cs c t (0,0) h
theorem nM.below (h:nM w g t cs)(hb:Below B w w')(hg:g<B):nM w' g t cs:=(hb.block g hg).trans h
theorem nM.grown (h:nM w g t cs)(hb:w.grownBy w' row)(hg:some g≠row):nM w' g t cs:=(hb.block g h.lt hg).trans h
end
theorem below_setRow {a:World}(h:Below B a w)(hp:B<=g)(c:Array Value):Below B a (w.setRow g c):=
 h.trans ⟨rfl,rfl,rfl,by simp,λk i=>setRow_other w g k c (by omega)⟩
def Rd (w:World) (B:Nat) (A:Option Addr) (h:List Value):Prop:=
 ∀j u,h[j]?=some u->∃b o,A=some ⟨b,o,none⟩/\b<B/\w.cell? ⟨b,o+j,none⟩=some u
section
variable {w w':World}{B B':Nat}{A:Option Addr}{xs:List Value}
theorem Rd.cM (h:Rd w B A xs)(hk:∀p:Addr,p.block<B->w'.cell? p=w.cell? p):Rd w' B A xs:=λj u m=>by
 obtain⟨b,o,e,i,k⟩:=h j u m;exact⟨b,o,e,i,(hk _ i).trans k⟩
theorem Rd.more (h:Rd w B A xs)(m:B<=B'):Rd w B' A xs:=λj u k=>by
 obtain⟨b,o,e,p,i⟩:=h j u k;exact⟨b,o,e,by omega,i⟩
theorem Rd.below (h:Rd w B A xs)(hb:Below B' w w')(i:B<=B'):Rd w' B A xs:=h.cM λ_ k=>hb.cell (by omega)
theorem Rd.drew (h:Rd w B A xs):Rd w.drew B A xs:=h
theorem Rd.drewN (h:Rd w B A xs)(k:Nat):Rd (w.drewN k) B A xs:=h
theorem Rd.alloc (h:Rd w B A xs)(i:B<=w.heap.size)(o:Obj):Rd (w.alloc o) B A xs:=h.cM λp k=>World.cell?_alloc_lt w o p (by omega)
theorem Rd.setCell (h:Rd w B A xs){p:Addr}(i:B<=p.block)(u:Value):Rd (w.setCell p u) B A xs:=
 h.cM λq k=>World.cell?_setCell_other w p q u (λe=>by subst e;omega)
theorem Rd.grown (h:Rd w B A xs)(hg:w.grownBy w' row)(i:B<=w.heap.size)(hr:∀g,row=some g->B<=g):Rd w' B A xs:=
 h.cM λp k=>World.cell?_of_block (hg.block p.block (by omega) (λe=>by have:=hr _ e.symm;omega))
theorem Rd.nil (w:World) (B:Nat) (A:Option Addr):Rd w B A []:=λj u h=>by simp at h
theorem Rd.XC {c:Nat}(h:w.ownsRow base e 1 (.slice A n c) n xs):Rd w w.heap.size A xs:=λj u i=>by
 rcases h.2 with⟨k,z⟩|⟨g,m,p,k,E,s,_⟩
 ·subst z
  have:xs=[]:=cy (by simpa using h.1);subst this;simp at i
 ·injection k with r
  subst r;exact⟨g,0,rfl,(jP.1 s).1,by have:=h.cells (g:=g) rfl j u i;rw[Addr.add_lit] at this;exact this⟩
end
def bv (l:List UInt8):List Value:=l.map λc=>.int .u8 (c.toNat:Int)
theorem sY (l:List UInt8):(bv l).length=l.length:=by simp [bv]
theorem Vk (h:j<l.length):(bv l)[j]?=some (.int .u8 ((l[j]).toNat:Int)):=by simp [bv,h]
theorem Ka (l m:List UInt8):bv (l++m)=bv l++bv m:=by simp [bv]
theorem Vl:∀u∈bv l,u.oneCell'=true:=by
 intro u h;obtain⟨c,_,rfl⟩:=cD.1 h;rfl
theorem Rd.byte (h:Rd w B A (bv l))(hj:j<l.length):
  ∃b o,A=some ⟨b,o,none⟩/\b<B/\w.cell? ⟨b,o+j,none⟩=some (.int .u8 ((l[j]).toNat:Int)):=h j _ (Vk hj)
theorem QT (c:UInt8):c.toNat<256:=c.toNat_lt
theorem MH {i:Type}(l:List i)(k:Nat)(h:k<l.length):l.take (k+1)=l.take k++[l[k]]:=by rw[bw h]
theorem XN {a b:Value}(h:a=b):Ending.returned a=.returned b:=by rw[h]
theorem xF {k:IntKind}{a b:Int}(h:a=b):Value.int k a=.int k b:=by rw[h]
def me (x:BitVec 32):Int:=(x.toNat:Int)
theorem Cs (x:BitVec 32):0<=me x:=by unfold me;omega
theorem VQ (x:BitVec 32):me x<4294967296:=by have:=x.isLt;unfold me;omega
theorem M7 (x:BitVec 32):me x<=4294967295:=by have:=VQ x;omega
theorem uI (a b:BitVec 32):bits .xor .u32 (me a) (me b)=me (a ^^^ b):=by
 unfold me;rw[u32_xor_nat _ _ a.isLt b.isLt,BitVec.toNat_xor]
theorem uH (a b:BitVec 32):bits .and .u32 (me a) (me b)=me (a&&& b):=by
 unfold me;rw[u32_and_nat _ _ a.isLt b.isLt,BitVec.toNat_and]
theorem Ur (s:BitVec 32):bits .xor .u32 IntKind.u32.max (me s)=me (~~~ s):=by
 rw[show IntKind.u32.max=me (4294967295#32) by decide,uI];congr 1
def dg (l:List UInt8):ByteArray:=⟨l.toArray⟩
theorem gM (l:List UInt8):(dg l).data.toList=l:=by simp [dg]
theorem gx (l:List UInt8):(dg l).size=l.length:=by simp [dg,ByteArray.size]
theorem EY (w:World)(p:Rd w B A (bv l))(src dst e:TypeId)(hs:P.underlying src=some (.slice e))(k:P.underlying e=some (.int .u8))
  (hd:P.underlying dst=some .string) (cap:Nat):(convert src dst (.slice A l.length cap)).run P w=.ok (.string (dg l)) w:=by
 have z:strOfNums (l.map λc=>(c.toNat:Int))=dg l:=by
  simp only[strOfNums,dg,gL];congr 2
  conv=>rhs;rw[<-List.map_id l]
  apply pf;intro c _;simp
 by_cases m:l=[]
 ·subst m
  rcases A with _|⟨b,o,H⟩
  ·rw[run_convert_bytes_nil w src e hs k _ _ dst hd];rfl
  ·rw[run_convert_bytes_string w src dst e _ _ cap hs k hd,run_bytesToString w _ _ cap [] (by simp [loadCells,loadCellsFrom])]
   rfl
 ·have h:0<l.length:=by
   rcases l with _|⟨c,l⟩
   ·exact absurd rfl m
   ·simp
  obtain⟨b,o,rfl,_,_⟩:=p.byte h
  rw[run_convert_bytes_arg w src e hs k b o l.length cap (l.map λc=>(c.toNat:Int)) (by simp) (λi r=>by
   obtain⟨E,G,s,_,u⟩:=p.byte r;cases s;rw[u];simp [List.getD,r]) dst hd,z]
theorem jC (l:List UInt8):(dg l).toList=l:=ByteArray.toList_mk l
theorem NC (l m:List UInt8):((dg l).toList==(dg m).toList)=decide (l=m):=by
 rw[jC,jC];by_cases h:l=m
 ·simp [h]
 ·simp [h]
def uE (n:Nat):List Value:=List.replicate n (.int .u8 0)
theorem wC (n:Nat):(uE n).length=n:=by simp [uE]
theorem XP (t e:TypeId)(i:TypeInfo)(ht:P.underlying t=some (.slice e))(hi:P.info? e=some i)(hz:i.zero=some (.int .u8 0))(hs:i.size=1)(hb:i.bytes=1)
  (n c:Nat) (m:n<=c) (h:c<=281474976710656) (w:World):
  (Instr.makeSlice t (.int .i64 (n:Int)) (.int .i64 (c:Int))).run P w=.ok (.slice (some ⟨w.heap.size,0,none⟩) n c) (w.alloc (.cells (uE c).toArray e)):=by
 have k:=run_make (P:=P) w t e i (.int .u8 0) ht hi hz .i64 .i64 n c (by omega) (by omega) (by rw[hb];omega) (by omega);simp only[aX,hs,jZ] at k;rw[k];congr 3;have:(madeCells #[Value.int IntKind.u8 0] c).toList=uE c:=toList_madeCells_one _ _;rw[<-this];rfl
theorem Hz {i k:List Value}{cap:Nat}(h:nM w g e i.toArray)(hb:base<=g)(hl:i.length=cap)(hn:n<=cap)(hm:cap<=maxLen)(hx:i.take n=k):
  w.ownsRow base e 1 (.slice (some ⟨g,0,none⟩) n cap) n k:=by
 refine⟨?_,.inr ⟨g,cap,i.toArray,rfl,hb,h,hn,hm,by simp [hl],by simpa using hx⟩⟩;rw[<-hx,bX];omega
section
variable {P:Program}(w:World)
end
theorem Rd.kept {k:List Value}{p:List Value}(h:Rd w B A k)(Dk:w.ownsRow base e 1 v n p)(hg:w.grownBy w' v.ownBlock)(m:B<=base)(hb:base<=w.heap.size):Rd w' B A k:=
 h.grown hg (by omega) (λg i=>ma m (Dk.lt g i).1)
theorem Rd.lit (w:World)(t:TypeId)(cs:List Value):Rd (w.alloc (.cells cs.toArray t)) (w.heap.size+1) (some ⟨w.heap.size,0,none⟩) cs:=
 λj u hu=>⟨w.heap.size,0,rfl,by omega,by rw[kG,(nM.new w t cs.toArray).cell];simpa using hu⟩
def part (f:Nat->Value) (z:Value) (n k:Nat):Array Value:=Array.ofFn (n:=n) λi=>if i.val<k then f i.val else z
theorem Rd.cut (h:Rd w B A (bv l))(k:Nat):Rd w B A (bv (l.take k)):=by
 intro j u i;have m:bv (l.take k)=(bv l).take k:=by simp [bv]
 rw[m,mP] at i;split at i
 ·exact h j u i
 ·cases i
theorem R5 {a:Addr}(h:w.cell? a=some v):a.block<w.heap.size:=block_lt_of_cell h
inductive D where
 |val (v:Value)
 |seq (sz:Nat) (els:List (List D))
 |os (b o sz k n:Nat)
 |ep (b o sz i k:Nat)
 |rp (cs:List D)
 |agg (cs:List D)
 |eO (ds:List D)
 |fn (f:FuncId) (bc:List D)
 |fb (f:FuncId) (first bc:List D)
 |Ep
instance:Inhabited D:=⟨.val undef⟩
inductive cY where
 |row (t:TypeId) (o sz:Nat) (els:List (List D))
 |map (m:List (Value×D))
 |hid
 |obj (o:Obj)
abbrev aA:=Nat->Option cY
def aA.aU (H:aA) (b:Nat) (x:cY):aA:=λc=>if c=b then some x else H c
def aA.del (H:aA) (b:Nat):aA:=λc=>if c=b then none else H c
def aA.none:aA:=λ_=>Option.none
theorem aA.G7 (H:aA)(b:Nat)(x:cY):(H.aU b x) b=some x:=aD rfl
abbrev aK:=@aA.G7
theorem aA.IY {H:aA}{c:Nat}{x:cY}(h:c≠b):(H.aU b x) c=H c:=aC h
abbrev aJ:=@aA.IY
theorem aA.NV (H:aA)(b:Nat):(H.del b) b=Option.none:=aD rfl
abbrev lf:=@aA.NV
theorem aA.WI {H:aA}{c:Nat}(h:c≠b):(H.del b) c=H c:=aC h
abbrev bL:=@aA.WI
def aA.le (H H':aA):Prop:=∀b x,H b=some x->H' b=some x
theorem aA.le_refl (H:aA):H.le H:=λ_ _ h=>h
abbrev aF:=@aA.le_refl
theorem aA.le_trans {H H' i:aA}(h:H.le H')(h':H'.le i):H.le i:=λb x e=>h' b x (h b x e)
abbrev iL:=@aA.le_trans
theorem aA.le_none (H:aA):aA.none.le H:=λb x e=>by cases e
abbrev pQ:=@aA.le_none
theorem aA.Wo {H H':aA}{x:cY}(h:H.le H')(hb:H' b=Option.none):H.le (H'.aU b x):=λc y e=>by
 by_cases i:c=b
 ·subst i;rw[h _ _ e] at hb;cases hb
 ·rw[aJ i];exact h _ _ e
abbrev j5:=@aA.Wo
section
variable (w:World) (S:Nat->Prop)
mutual
def D.is:D->Value->Prop
 | .val u,v=>v=u
 | .seq sz els,v=>∃A c,v=.slice A els.length c/\els.length<=c/\(els=[]\/∃b o,A=some ⟨b,o,none⟩/\S b/\b<w.heap.size/\cK b sz o els)
 | .os b o sz k n,v=>∃A c,v=.slice A n c/\n<=c/\(c=0\/(A=some ⟨b,o+k * sz,none⟩/\∃cs t fr,w.heap[b]?=some (Obj.cells cs t fr)/\o+(k+c) * sz<=cs.size))
 | .ep b o sz i k,v=>v=.pointer (some ⟨b,o+i * sz+k,none⟩)
 | .rp cs,v=>∃b o,v=.pointer (some ⟨b,o,none⟩)/\S b/\b<w.heap.size/\bU b o cs
 | .agg cs,v=>∃vs,v=.agg ⟨vs⟩/\aW cs vs
 | .eO ds,v=>∃vs,v=.tuple ⟨vs⟩/\aT ds vs
 | .fn f bc,v=>∃vs,v=.func (.func f) #[] ⟨vs⟩/\aT bc vs
 | .fb f first bc,v=>∃us vs,v=.func (.func f) ⟨us⟩ ⟨vs⟩/\aT first us/\aT bc vs
 | .Ep,v=>∃A,v=.slice A 0 0
def bU (b:Nat):Nat->List D->Prop
 |_,[]=>True
 |o,d::ds=>(∃u,w.cell? ⟨b,o,none⟩=some u/\u.oneCell'=true/\D.is d u)/\bU b (o+1) ds
def cK (b sz:Nat):Nat->List (List D)->Prop
 |_,[]=>True
 |o,el::els=>el.length=sz/\bU b o el/\cK b sz (o+sz) els
def aW:List D->List Value->Prop
 |[],vs=>vs=[]
 |d::ds,vs=>∃u us,vs=u::us/\u.oneCell'=true/\D.is d u/\aW ds us
def aT:List D->List Value->Prop
 |[],vs=>vs=[]
 |d::ds,vs=>∃u us,vs=u::us/\D.is d u/\aT ds us
end
end
structure Ev (H:aA) (w:World) (H':aA) (w':World):Prop where
 os:w'.os=w.os
 tape:w'.tape=w.tape
 output:w'.output=w.output
 size:w.heap.size<=w'.heap.size
 cM:∀b:Nat,b<w.heap.size->H b=none->w'.heap[b]?=w.heap[b]?/\H' b=none
 shape:∀(b:Nat) cs t fr,w.heap[b]?=some (Obj.cells cs t fr)->∃nN De,w'.heap[b]?=some (Obj.cells nN t De)/\nN.size=cs.size
theorem Ev.refl (H:aA)(w:World):Ev H w H w:=⟨rfl,rfl,rfl,bh _,λ_ _ h=>⟨rfl,h⟩,λ_ _ _ i h=>⟨_,i,h,rfl⟩⟩
abbrev dr:=@Ev.refl
theorem Ev.trans {H H' H'':aA}{w'':World}(h:Ev H w H' w')(h':Ev H' w' H'' w''):Ev H w H'' w'' where
 os:=h'.os.trans h.os
 tape:=h'.tape.trans h.tape
 output:=h'.output.trans h.output
 size:=ma h.size h'.size
 cM:=λb hb hn=>by
  obtain⟨h1,h2⟩:=h.cM b hb hn;obtain⟨h3,h4⟩:=h'.cM b (zK hb h.size) h2;exact⟨h3.trans h1,h4⟩
 shape:=λb cs t fr hb=>by
  obtain⟨nN,De,h1,h2⟩:=h.shape b cs t fr hb;obtain⟨aJ6,aJ8,h3,h4⟩:=h'.shape b nN t De h1;exact⟨aJ6,aJ8,h3,h4.trans h2⟩
theorem Ev.less {H H1 H2:aA}(h:Ev H w H1 w')(aM:H2.le H1):Ev H w H2 w' where
 os:=h.os
 tape:=h.tape
 output:=h.output
 size:=h.size
 cM:=λb hb hn=>⟨(h.cM b hb hn).1,by
  cases e:H2 b with
  |none=>rfl
  |some x=>have h1:=(h.cM b hb hn).2;rw[aM _ _ e] at h1;cases h1⟩
 shape:=h.shape
section
variable {w w':World}{S S':Nat->Prop}
structure zT (S S':Nat->Prop) (w w':World):Prop where
 size:w.heap.size<=w'.heap.size
 cell:∀b:Nat,S b->b<w.heap.size->S' b/\w'.heap[b]?=w.heap[b]?
 shape:∀(b:Nat) cs t fr,w.heap[b]?=some (Obj.cells cs t fr)->∃nN De,w'.heap[b]?=some (Obj.cells nN t De)/\nN.size=cs.size
mutual
theorem D.yf (k:zT S S' w w'):∀(d:D) {v:Value},D.is w S d v->D.is w' S' d v
 | .val _,_,h=>h
 | .seq sz els,v,h=>by
  simp only[D.is] at h ⊢;obtain⟨A,c,h1,h2,h3⟩:=h;refine⟨A,c,h1,h2,?_⟩;rcases h3 with h3|⟨b,o,h3,h4,h5,h6⟩
  ·exact .inl h3
  ·exact .inr ⟨b,o,h3,(k.cell b h4 h5).1,zK h5 k.size,yF k b sz h4 h5 els h6⟩
 | .os b o sz i n,v,h=>by
  simp only[D.is] at h ⊢;obtain⟨A,c,h1,h2,h3⟩:=h;refine⟨A,c,h1,h2,?_⟩;rcases h3 with h3|⟨h3,cs,t,fr,h4,h5⟩
  ·exact .inl h3
  ·obtain⟨nN,De,h6,h7⟩:=k.shape b cs t fr h4
   exact .inr ⟨h3,nN,t,De,h6,by rw[h7];exact h5⟩
 | .ep _ _ _ _ _,_,h=>h
 | .rp cs,v,h=>by
  simp only[D.is] at h ⊢;obtain⟨b,o,h1,h2,h3,h4⟩:=h;exact⟨b,o,h1,(k.cell b h2 h3).1,zK h3 k.size,qT k b h2 h3 cs h4⟩
 | .agg cs,v,h=>by
  simp only[D.is] at h ⊢;obtain⟨vs,h1,h2⟩:=h;exact⟨vs,h1,bO k cs h2⟩
 | .eO ds,v,h=>by
  simp only[D.is] at h ⊢;obtain⟨vs,h1,h2⟩:=h;exact⟨vs,h1,fF k ds h2⟩
 | .fn f ds,v,h=>by
  simp only[D.is] at h ⊢;obtain⟨vs,h1,h2⟩:=h;exact⟨vs,h1,fF k ds h2⟩
 | .fb f es ds,v,h=>by
  simp only[D.is] at h ⊢;obtain⟨us,vs,h1,h2,h3⟩:=h;exact⟨us,vs,h1,fF k es h2,fF k ds h3⟩
 | .Ep,v,h=>by simp only[D.is] at h ⊢;exact h
theorem qT (k:zT S S' w w')(b:Nat)(hS:S b)(hb:b<w.heap.size):∀(ds:List D) {o:Nat},bU w S b o ds->bU w' S' b o ds
 |[],_,_=>by simp only[bU]
 |d::ds,o,h=>by
  simp only[bU] at h ⊢;obtain⟨⟨u,h1,h2,h3⟩,h4⟩:=h;refine⟨⟨u,?_,h2,D.yf k d h3⟩,qT k b hS hb ds h4⟩;rw[<-h1];exact World.cell?_of_block (k.cell b hS hb).2
theorem yF (k:zT S S' w w')(b sz:Nat)(hS:S b)(hb:b<w.heap.size):∀(els:List (List D)) {o:Nat},cK w S b sz o els->cK w' S' b sz o els
 |[],_,_=>by simp only[cK]
 |el::els,o,h=>by
  simp only[cK] at h ⊢;exact⟨h.1,qT k b hS hb el h.2.1,yF k b sz hS hb els h.2.2⟩
theorem bO (k:zT S S' w w'):∀(ds:List D) {vs:List Value},aW w S ds vs->aW w' S' ds vs
 |[],_,h=>by simp only[aW] at h ⊢;exact h
 |d::ds,vs,h=>by
  simp only[aW] at h ⊢;obtain⟨u,us,h1,h2,h3,h4⟩:=h;exact⟨u,us,h1,h2,D.yf k d h3,bO k ds h4⟩
theorem fF (k:zT S S' w w'):∀(ds:List D) {vs:List Value},aT w S ds vs->aT w' S' ds vs
 |[],_,h=>by simp only[aT] at h ⊢;exact h
 |d::ds,vs,h=>by
  simp only[aT] at h ⊢;obtain⟨u,us,h1,h3,h4⟩:=h;exact⟨u,us,h1,D.yf k d h3,fF k ds h4⟩
end
abbrev j6:=@D.yf
end
def aA.others (H:aA):Nat->Prop:=λb=>H b=Option.none
theorem Ev.kept {H H':aA}(h:Ev H w H' w'):zT H.others H'.others w w':=
 ⟨h.size,λb k i=>⟨(h.cM b i k).2,(h.cM b i k).1⟩,h.shape⟩
theorem zT.less {H H':aA}(h:H'.le H)(w:World):zT H.others H'.others w w:=
 ⟨bh _,λb i _=>⟨(by
  unfold aA.others at i ⊢;cases e:H' b with
  |none=>rfl
  |some x=>rw[h _ _ e] at i;cases i),rfl⟩,λ_ _ _ k h=>⟨_,k,h,rfl⟩⟩
abbrev kK:=@zT.less
def KL (fr:Nat×Nat) (n:Nat):Prop:=fr.1=fr.2\/n<=fr.1
theorem KL.not {fr:Nat×Nat}(h:KL fr n):∀i,i<n->¬(fr.1<=i/\i<fr.2):=λi m k=>by rcases h with h|h <;> omega
def Stm (i:List Nat) (h:Nat):Prop:=(∀b∈i,b<h)/\i.Nodup
def Yw (w:World) (S:Nat->Prop) (i:Array MapEntry) (h:Nat) (m:List (Value×D)):Prop:=
 i.toList.map (·.key)=m.map (·.1)/\aT w S (m.map (·.2)) (i.toList.map (·.val))/\(m.map (·.1)).Nodup/\Stm (i.toList.map (·.born)) h
def jb (w:World) (H:aA) (b:Nat):cY->Prop
 | .row t o sz els=>∃cs fr,w.heap[b]?=some (Obj.cells cs t fr)/\KL fr cs.size/\o+els.length * sz<=cs.size/\cK w H.others b sz o els
 | .map m=>∃i h,w.heap[b]?=some (Obj.map i h)/\Yw w H.others i h m
 | .hid=>b<w.heap.size
 | .obj o=>w.heap[b]?=some o
def eF (w:World) (H:aA):Prop:=∀b x,H b=some x->jb w H b x
theorem eF.lt {H:aA}(h:eF w H){x:cY}(hb:H b=some x):b<w.heap.size:=by
 have i:=h b x hb;cases x with
 |row t o sz p=>obtain⟨cs,s,k,_⟩:=i;exact(jP.1 k).1
 |map m=>obtain⟨r,c,k,_⟩:=i;exact(jP.1 k).1
 |hid=>exact i
 |obj o=>exact(jP.1 i).1
def GLB:Nat->Option (List Value):=λg=>if g=0 then some [.int .i64 2,.int .i64 2,.int .i64 1,.int .i64 1] else if g=1 then some [.int .i64 2,.int .i64 2,.int .i64 2,.int .i64 2,.int .i64 2,.int .i64 2,.int .i64 2,.int .i64 1,.int .i64 2,.int .i64 1,.int .i64 1,.int .i64 1] else none
def wW (w:World) (H:aA):Prop:=∀g h,GLB g=some h->H g=none/\(∀v∈h,v.oneCell'=true)/\∃t i,w.heap[g]?=some (Obj.cells h.toArray t i)
theorem wW.ev {H H':aA}(g:wW w H)(h:Ev H w H' w'):wW w' H':=λk z e=>by
 obtain⟨r,p,t,m,i⟩:=g k z e;obtain⟨s,u⟩:=h.cM k (jP.1 i).1 r;exact⟨u,p,t,m,s.trans i⟩
theorem wW.le {i H:aA}(g:wW w H)(h:i.le H):wW w i:=λk r e=>by
 obtain⟨m,p⟩:=g k r e;refine⟨?_,p⟩;cases e2:i k with
 |none=>rfl
 |some x=>rw[h k x e2] at m;cases m
def FR (ro:Option Nat):Fence:={Fence.wide with round:=ro}
theorem uM {args:Array Value}{R:Ending->World->Prop}(h:Calls P f args w R):CallsIn (FR ro) n P f args w R:=
 (callsIn_wide (n:=n)).2 h
theorem mf {args:Array Value}{R:Ending->World->Prop}(h:CallsIn (FR ro) n P f args w R):Calls P f args w R:=
 (callsIn_wide (n:=n)).1 h
structure St where
 fr:Nat->D
 H:aA
 df:List Deferred
def St.put (s:St) (dst:Option Tmp) (d:D):St:=
 match dst with
 |some t=>{s with fr:=λx=>if x=t then d else s.fr x}
 |none=>s
def D.MW:Value->D
 | .agg cs=>if cs.toList.all Value.oneCell' then .agg (cs.toList.map .val) else .val (.agg cs)
 |v=>.val v
def gD (g:Nat):D:=match GLB g with
 |some h=>.rp (h.map .val)
 |none=>.val (.pointer (some ⟨g,0,none⟩))
def St.ev (s:St):Operand->D
 | .tmp t=>s.fr t
 | .const v=>D.MW v
 | .global g=>gD g
 | .func f=>.fn f []
def St.cJ (s:St) (H:aA):St:={s with H:=H}
structure Cx where
 P:Program
 ro:Option Nat
 n:Nat
 H0:aA
 w0:World
 gk:wW w0 H0
structure bj (cx:Cx) (s:St) (a:Act) (w:World):Prop where
 n:a.tmps.size=cx.n
 df:a.defers=s.df
 fr:∀t,D.is w s.H.others (s.fr t) (a.tmps.getD t undef)
 H:eF w s.H
 ev:Ev cx.H0 cx.w0 s.H w
def QQ (h:Cx) (Q:Exit->St->Prop):Exit->Act->World->Prop:=λe a w=>∃s,bj h s a w/\Q e s
def KK (h:Cx) (K:St->Prop):Act->World->Prop:=λa w=>∃s,bj h s a w/\K s
def W (h:Cx) (c:Code) (Q:Exit->St->Prop) (s:St):Prop:=
 ∀a w,bj h s a w->c.wpIn (FR h.ro) 9 h.P (QQ h Q) a w
def WL (h:Cx) (aY:Array Oper) (l:List Oper) (Q:Exit->St->Prop) (s:St):Prop:=
 ∀a w,bj h s a w->wpListIn (FR h.ro) 9 h.P aY (QQ h Q) l a w
def Qw:Exit->Act->World->Prop:=λ_ _ _=>False
def WO (h:Cx) (o:Oper) (K:St->Prop) (s:St):Prop:=
 ∀a w,bj h s a w->o.wpIn (FR h.ro) 9 h.P a w (KK h K) Qw
theorem oL {S:Nat->Prop}:∀(vs:List Value),(∀v∈vs,v.oneCell'=true)->aW w S (vs.map .val) vs
 |[],_=>by simp [aW]
 |v::vs,h=>by
  simp only[cC,aW,D.is];exact⟨v,vs,rfl,h v (by simp),rfl,oL vs λu hu=>h u (by simp [hu])⟩
theorem D.XB {S:Nat->Prop}(v:Value):D.is w S (D.MW v) v:=by
 cases v with
 |agg cs=>
  simp only[D.MW]
  split
  ·rename_i h
   simp only[D.is]
   exact⟨cs.toList,by simp,oL _ (λv i=>(dK.1 h) v i)⟩
  ·simp only[D.is]
 |_=>simp only[D.MW,D.is]
theorem bj.Xo {h:Cx}{s:St}(m:bj h s a w):wW w s.H:=h.gk.ev m.ev
theorem xc {S:Nat->Prop}{fr:Nat×Nat}{all:List Value}(hb:w.heap[b]?=some (Obj.cells all.toArray t fr)):∀(vs:List Value) (o:Nat),all.drop o=vs->(∀v∈vs,v.oneCell'=true)->bU w S b o (vs.map .val)
 |[],o,_,_=>by simp [bU]
 |v::vs,o,h,h1=>by
  simp only[cC,bU];have h0:all[o]?=some v:=by
   have:=ai (λl=>l[0]?) h;simpa using this
  refine⟨⟨v,?_,h1 v (by simp),by simp only[D.is]⟩,xc hb vs (o+1) (by rw[<-pP,h] <;> rfl) λu i=>h1 u (by simp [i])⟩;simp [World.cell?,hb,h0]
theorem Yd {H:aA}(p:wW w H)(g:Nat):D.is w H.others (gD g) (.pointer (some ⟨g,0,none⟩)):=by
 unfold gD;split
 ·rename_i i r
  obtain⟨m,k,t,s,h⟩:=p g i r;simp only[D.is];exact⟨g,0,rfl,m,(jP.1 h).1,xc h i 0 (by simp) k⟩
 ·simp only[D.is]
theorem bj.nz {h:Cx}{s:St}(m:bj h s a w)(x:Operand):D.is w s.H.others (s.ev x) (a.eval x):=by
 cases x with
 |tmp t=>exact m.fr t
 |const v=>exact D.XB v
 |global g=>exact Yd m.Xo g
 |func f=>simp only[St.ev,Act.eval,D.is,aT];exact⟨[],rfl,rfl⟩
theorem bj.go {i:Cx}{s:St}(m:bj i s a w){H':aA}(h:Ev s.H w H' w')(k:eF w' H'):bj i (s.cJ H') a w':=
 ⟨m.n,m.df,λt=>j6 h.kept _ (m.fr t),k,m.ev.trans h⟩
theorem eF.less {H H':aA}(hH:eF w H)(h:H'.le H):eF w H':=λb x hb=>by
  have h0:=hH b x (h _ _ hb);cases x with
  |row t o sz els=>
   obtain⟨cs,fr,h1,h2,h3,h4⟩:=h0
   refine⟨cs,fr,h1,h2,h3,?_⟩
   exact aFK h w b sz els h4
  |map mm=>
   obtain⟨es,c,h1,h2,h3,h4⟩:=h0
   exact⟨es,c,h1,h2,fF (kK h w) _ h3,h4⟩
  |hid=>exact h0
  |obj o=>exact h0
where
 aEp {H H':aA}(h:H'.le H) (w:World) (b:Nat):∀(ds:List D) {o:Nat},bU w H.others b o ds->bU w H'.others b o ds
  |[],_,_=>by simp only[bU]
  |d::ds,o,h0=>by
   simp only[bU] at h0 ⊢;obtain⟨⟨u,h1,h2,h3⟩,h4⟩:=h0;exact⟨⟨u,h1,h2,j6 (kK h w) d h3⟩,aEp h w b ds h4⟩
 aFK {H H':aA}(h:H'.le H) (w:World) (b sz:Nat):∀(els:List (List D)) {o:Nat},cK w H.others b sz o els->cK w H'.others b sz o els
  |[],_,_=>by simp only[cK]
  |el::els,o,h0=>by
   simp only[cK] at h0 ⊢;exact⟨h0.1,aEp h w b el h0.2.1,aFK h w b sz els h0.2.2⟩
theorem bj.less {i:Cx}{s:St}(m:bj i s a w){H':aA}(h:H'.le s.H):bj i (s.cJ H') a w:=
 ⟨m.n,m.df,λt=>j6 (kK h w) _ (m.fr t),m.H.less h,m.ev.less h⟩
theorem qB {k:Type}(l:Array k)(i j:Nat)(x d:k)(hi:i<l.size):(l.setIfInBounds i x).getD j d=if j=i then x else l.getD j d:=by
 simp only[nK,Array.getElem?_setIfInBounds];by_cases h:j=i
 ·subst h;simp [hi]
 ·rw[aC (λe=>h e.symm),aC h]
theorem bj.put {k:Cx}{s:St}(m:bj k s a w){dst:Option Tmp}{d:D}(hd:∀t,dst=some t->t<k.n)(h:D.is w s.H.others d v):bj k (s.put dst d) (a.put dst v) w:=by
 cases dst with
 |none=>exact m
 |some t=>
  refine⟨by simpa [Act.put] using m.n,m.df,λx=>?_,m.H,m.ev⟩
  have p:t<a.tmps.size:=by rw[m.n];exact hd t rfl
  simp only[Act.put,St.put]
  rw[qB _ _ _ _ _ p]
  by_cases i:x=t
  ·rw[aD i,aD i];exact h
  ·rw[aC i,aC i];exact m.fr x
section aJX
variable {cx:Cx}{Q Q':Exit->St->Prop}{s:St}
theorem nA (h:W cx c Q s)(k:∀e s,Q e s->Q' e s):W cx c Q' s:=λa w m=>
 wpIn_mono (h a w m) λe _ _ ⟨i,p,q⟩=>⟨i,p,k e i q⟩
theorem lB (H':aA)(h':H'.le s.H)(h:W cx c Q (s.cJ H')):W cx c Q s:=λa w m=>h a w (m.less h')
theorem z8 (h:Q .normal s):W cx .skip Q s:=λ_ _ m=>wpIn_skip ⟨s,m,h⟩
theorem uy {l:Nat}(h:Q .normal s):W cx (.label l) Q s:=λ_ _ m=>wpIn_label ⟨s,m,h⟩
theorem zY (h:Q (.exit id) s):W cx (.exit id) Q s:=λ_ _ m=>wpIn_exit ⟨s,m,h⟩
theorem zZ (h:Q .ret s):W cx .ret Q s:=λ_ _ m=>wpIn_ret ⟨s,m,h⟩
def dR (N:St->Prop) (Q:Exit->St->Prop):Exit->St->Prop
 | .normal,s=>N s
 |e,s=>Q e s
theorem bW (h:W cx x (dR (W cx y Q) Q) s):W cx (.seq x y) Q s:=λa w m=>
 wpIn_seq (wpIn_mono (h a w m) λe k w' ⟨p,i,q⟩=>by
  cases e <;> first
   |exact q k w' i
   |exact⟨p,i,q⟩)
def eT (id:Nat) (Q:Exit->St->Prop):Exit->St->Prop
 | .exit h,s=>if h=id then Q .normal s else Q (.exit h) s
 |e,s=>Q e s
theorem nP (h:W cx c (eT id Q) s):W cx (.block id c) Q s:=λa w m=>
 wpIn_block (wpIn_mono (h a w m) λe u w' ⟨r,p,q⟩=>by
  cases e with
  |exit k=>
   simp only[eT] at q
   simp only[Exit.inBlock]
   by_cases i:k=id
   ·rw[aD i] at q ⊢;exact⟨r,p,q⟩
   ·rw[aC i] at q ⊢;exact⟨r,p,q⟩
  |_=>exact⟨r,p,q⟩)
theorem V0 {c:Operand}(b:Bool)(hb:s.ev c=.val (.bool b))(ht:b=true->W cx x Q s)(hf:b=false->W cx y Q s):W cx (.cond c x y) Q s:=λa w m=>by
 have h:=m.nz c;rw[hb] at h;simp only[D.is] at h;exact wpIn_cond_split h (λe=>ht e a w m) (λe=>hf e a w m)
theorem Od (p:Nat->Prop)(h:∃k,p k):∃k,p k/\∀j,p j->k<=j:=by
 classical
 obtain⟨k,r⟩:=h
 induction k using Nat.strongRecOn with
 |_ k z=>
  by_cases h:∃j,j<k/\p j
  ·obtain⟨j,i,u⟩:=h
   exact z j i u
  ·exact⟨k,r,λj i=>by
    rcases fv j k with m|wY
    ·exact absurd ⟨j,m,i⟩ h
    ·exact wY⟩
theorem Mi {c:Code}(I:St->Prop)(h:St->Nat)(H':aA)(M:H'.le s.H)(h0:I (s.cJ H'))
  (round:∀s,I s->W cx c (dR (λu=>∃H',H'.le u.H/\I (u.cJ H')/\h (u.cJ H')<h s) Q) s):W cx (.loop c) Q s:=λa w m=>by
 obtain⟨f,K⟩:∃f:Act×World->Nat,∀x:Act×World,(∃s,bj cx s x.1 x.2/\I s)->(∃s,bj cx s x.1 x.2/\I s/\h s=f x)/\∀s,bj cx s x.1 x.2->I s->f x<=h s:=by
  refine⟨λx=>Classical.epsilon λk=>(∃s,bj cx s x.1 x.2/\I s/\h s=k)/\∀s,bj cx s x.1 x.2->I s->k<=h s,λx ⟨s,N,r⟩=>?_⟩;refine Em (p:=λk=>(∃s,bj cx s x.1 x.2/\I s/\h s=k)/\∀s,bj cx s x.1 x.2->I s->k<=h s) ?_;obtain⟨k,R,S⟩:=Od (λk=>∃s,bj cx s x.1 x.2/\I s/\h s=k) ⟨_,s,N,r,rfl⟩;exact⟨k,R,λs T V=>S _ ⟨s,T,V,rfl⟩⟩
 refine wpIn_loop (λa w=>∃s,bj cx s a w/\I s) (λa w=>f (a,w)) ⟨_,m.less M,h0⟩ ?_;rintro a w E;obtain⟨⟨s,m,Z,J⟩,_⟩:=K (a,w) E;rw[<-J];refine wpIn_mono (round s Z a w m) λe L w' ⟨u,z,q⟩=>?_;cases e with
 |normal=>
  obtain⟨H2,r,i,G⟩:=q
  exact⟨⟨_,z.less r,i⟩,Nat.lt_of_le_of_lt ((K (L,w') ⟨_,z.less r,i⟩).2 _ (z.less r) i) G⟩
 |_=>exact⟨u,z,q⟩
theorem uz {aY:List Oper}(h:WL cx aY.toArray aY Q s):W cx (.region id aY.toArray false) Q s:=λa w m=>wpIn_region_lit (h a w m)
theorem Cw (h:Q .normal s):WL cx aY [] Q s:=λ_ _ m=>⟨s,m,h⟩
theorem sX {K i:St->Prop}(h:WO cx o K s)(hk:∀s,K s->i s):WO cx o i s:=λa w m=>
 Oper.wpIn_mono (λ_ _ ⟨k,p,q⟩=>⟨k,p,hk k q⟩) (h a w m)
theorem tD {F:Fence}{n:Nat}{P:Program}{o:Oper}{a:Act}{w:World}{K:Act->World->Prop}{Q:Exit->Act->World->Prop}(h:o.wpIn F n P a w K Qw):o.wpIn F n P a w K Q:=by
 unfold Oper.wpIn at *;refine⟨h.1,?_⟩;have i:=h.2;generalize (o.semAt F.round a.eval).run P w=r at *;cases r with
 |ok x w'=>
  cases x <;> simp only[Oper.uponIn] at i ⊢ <;>
   first
    |exact i
    |exact⟨i.1,CallsIn.mono i.2 (λe p k=>by cases e <;> first|exact k|exact k.elim|(obtain⟨_,_,m⟩:=k;exact m.elim))⟩
    |exact⟨i.1,RoundIn.mono i.2 (λe p k=>by cases e <;> first|exact k|exact k.elim|(obtain⟨_,_,m⟩:=k;exact m.elim))⟩
 |halt x w'=>cases x <;> simp only[Oper.uponIn] at i ⊢ <;> first|exact i|exact i.elim
theorem lA {i:List Oper}(hg:o.guard=none)(h:WO cx o (WL cx aY i Q) s):WL cx aY (o::i) Q s:=λa w m=>by
 refine wpListIn_plain hg λK p=>?_;exact Oper.wpIn_mono (λk w' ⟨u,r,q⟩=>p _ _ (q k w' r)) (tD (h a w m))
def j9 (aY:Array Oper) (j:Nat):Option Tmp:=(aY[j]?).bind (·.dst)
theorem gw:∀f,o.about P w a.eval=some f->(FR ro).fn f:=λ_ _=>trivial
theorem pj {p:List Oper}{i:Bool}{t:Tmp}(hg:o.guard=some (j,i))(hj:j9 aY j=some t)(ht:t<cx.n)(hd:∀t,o.dst=some t->t<cx.n)
  (h:(∃b,s.fr t=.val (.bool b)/\(b=i->WO cx o (WL cx aY p Q) s)/\(b= !i->WL cx aY p Q (s.put o.dst (.val undef))))\/(s.fr t=.val undef/\WL cx aY p Q (s.put o.dst (.val undef)))):WL cx aY (o::p) Q s:=λa w m=>by
 refine wpListIn_step λK G=>?_;have u:yielded aY a.tmps j=match a.tmps[t]? with|some (.bool b)=>some b|_=>none:=by
  unfold yielded;unfold j9 at hj;rw[hj];rfl
 have I:t<a.tmps.size:=by rw[m.n];exact ht
 have z:a.tmps[t]?=some (a.tmps.getD t undef):=by simp [I]
 have r:=m.fr t;have k:Region.wanted o (yielded aY a.tmps)=(yielded aY a.tmps j==some i):=by unfold Region.wanted;rw[hg]
 rcases h with⟨b,H,N,E⟩|⟨H,E⟩
 ·rw[H] at r
  simp only[D.is] at r;rw[z,r] at u;simp only at u;rw[u] at k;by_cases e:b=i
  ·subst e
   rw[aD (by rw[k];simp)];exact Oper.wpIn_mono (λJ w' ⟨S,R,q⟩=>G _ _ (q J w' R)) (tD (N rfl a w m))
  ·have L:b= !i:=by cases b <;> cases i <;> first|rfl|exact absurd rfl e
   have M:(some b==some i)=false:=by cases b <;> cases i <;> first|rfl|exact absurd rfl e
   rw[aC (by rw[k,M];simp)];refine⟨gw,G _ _ (E L _ _ (m.put hd ?_))⟩;simp only[D.is]
 ·rw[H] at r
  simp only[D.is] at r;rw[z,r] at u;simp only[undef] at u;rw[u] at k;rw[aC (by rw[k];simp)];refine⟨gw,G _ _ (E _ _ (m.put hd ?_))⟩;simp only[D.is]
end aJX
def Gj (P:Program) (f:FuncId):Prop:=∀(h:Array Value) (w:World),(callFunc f h).run P w=.ok (.enter f h) w
theorem jH {fn:Func}(hf:P.funcs[f]?=some fn)(mh:(fn.name== "runtime.NumGoroutine")=false)(hb:fn.body=some c):Gj P f:=by
 intro h w;have i:fn.name≠ "runtime.NumGoroutine" :=by simpa using mh
 simp [callFunc,hf,i,hb,mark]
def aN (P:Program) (f:FuncId) (ds:List D) (H:aA) (K:D->aA->Prop):Prop:=
 Gj P f/\∀(w:World) (i:List Value),aT w H.others ds i->eF w H->wW w H->Calls P f i.toArray w λe w'=>∃v d h,e=.returned v/\D.is w' h.others d v/\eF w' h/\Ev H w h w'/\K d h
theorem aN.mono {ds:List D}{H:aA}{K i:D->aA->Prop}(h:aN P f ds H K)(hk:∀d H',K d H'->i d H'):aN P f ds H i:=And.intro h.1 λw s m p r=>
 (h.2 w s m p r).mono λ_ _ ⟨v,d,H',a,b,c,e,k⟩=>⟨v,d,H',a,b,c,e,hk _ _ k⟩
abbrev gQ:=@aN.mono
def St.init (ds:List D) (H:aA):St:=⟨λt=>ds.getD t (.val undef),H,[]⟩
def Ew (i:Cx) (fn:Func) (s:St) (K:D->aA->Prop):Prop:=
 ∀a w,bj i s a w->∃v d h,(results fn a.tmps).run i.P w=.ok v w/\D.is w h.others d v/\h.le s.H/\K d h
theorem fo {S:Nat->Prop}:∀{ds:List D}{vs:List Value},aT w S ds vs->vs.length=ds.length
 |[],_,h=>by simp only[aT] at h;subst h;rfl
 |d::ds,vs,h=>by
  simp only[aT] at h;obtain⟨u,us,rfl,_,h⟩:=h;simp [fo h]
theorem iO {S:Nat->Prop}:∀{ds:List D}{vs:List Value},aT w S ds vs->∀(j:Nat) (d:D),ds[j]?=some d->∃v,vs[j]?=some v/\D.is w S d v
 |[],_,_,j,d,hd=>by simp at hd
 |d0::ds,vs,h,j,d,hd=>by
  simp only[aT] at h;obtain⟨u,us,rfl,h1,h2⟩:=h;cases j with
  |zero=>exact⟨u,rfl,by simp at hd;subst hd;exact h1⟩
  |succ j=>simpa using iO h2 j d (by simpa using hd)
def LK (h:Cx) (fn:Func) (K:D->aA->Prop):Exit->St->Prop
 | .normal,s| .ret,s=>s.df=[]/\Ew h fn s K
 |_,_=>False
theorem HI {fn:Func}{ds:List D}{H:aA}{K:D->aA->Prop}(N:Nat)(hf:P.funcs[f]?=some fn)(mh:(fn.name== "runtime.NumGoroutine")=false)(hb:fn.body=some c)(hN:fn.ntmps=N)(hl:ds.length<=N)
  (h:∀R (S:wW R H),W ⟨P,none,N,H,R,S⟩ c (LK ⟨P,none,N,H,R,S⟩ fn K) (St.init ds H)):aN P f ds H K:=And.intro (jH hf mh hb) λw z T hH J=>by
 refine mf (ro:=none) (n:=9) (callsIn_of_wp hf hb trivial ?_ rfl);have cd:=fo T;have m:bj ⟨P,none,N,H,w,J⟩ (St.init ds H) {tmps:=z.toArray++Array.replicate (fn.ntmps - z.toArray.size) undef,defers:=[]} w:=by
  refine⟨by simp;omega,rfl,λt=>?_,hH,dr _ _⟩;simp only[St.init];rcases fv t ds.length with s|wY
  ·obtain⟨v,i,k⟩:=iO T t ds[t] (by simp [s])
   have I:ds.getD t (.val undef)=ds[t]:=by simp [List.getD,s]
   have e2:(z.toArray++Array.replicate (fn.ntmps - z.toArray.size) undef).getD t undef=v:=by
    rw[nK,wF (by simp;omega)];simp [i]
   rw[I,e2];exact k
  ·have I:ds.getD t (.val undef)=.val undef:=by simp [List.getD,wY]
   rw[I];simp only[D.is];rw[nK,wD (by simp;omega),wG];split <;> rfl
 refine wpIn_mono (h w J _ _ m) λe E w' ⟨Z,M,q⟩=>?_;have u:Z.df=[]/\Ew ⟨P,none,N,H,w,J⟩ fn Z K->E.defers=[]/\∃v,(results fn E.tmps).run P w'=.ok v w'/\∃v' d p,Ending.returned v=.returned v'/\D.is w' p.others d v'/\eF w' p/\Ev H w p w'/\K d p:=by
  rintro⟨L,G⟩;obtain⟨v,d,p,i,k,r,h4⟩:=G E w' M;have V:=M.less r;exact⟨M.df.trans L,v,i,v,d,p,rfl,k,V.H,V.ev,h4⟩
 cases e with
 |normal=>
  obtain⟨i,v,k,r⟩:=u q
  exact⟨i,v,k,r⟩
 |ret=>
  obtain⟨i,v,k,r⟩:=u q
  exact⟨i,v,k,r⟩
 |_=>exact q.elim
inductive TD where
 |int (k:IntKind)
 |bool
 |string
 |slice (e:TypeId)
 |array (n:Nat) (e:TypeId)
 |struct (fs:List (Nat×TypeId))
 |ptr (e:TypeId)
 |map (k e:TypeId)
 |other
structure Ti where
 d:TD
 size:Nat
 bytes:Nat
 zero:Option (List Value)
def iI:TypeDesc->TD
 | .int k=>.int k
 | .bool=>.bool
 | .string=>.string
 | .slice e=>.slice e
 | .array n e=>.array n e
 | .struct fs=>.struct (fs.toList.map λf=>(f.offset,f.type))
 | .pointer e=>.ptr e
 | .map k e=>.map k e
 |_=>.other
def cG (P:Program) (t:TypeId):Option Ti:=
 match P.underlying t,P.info? t with
 |some d,some i=>some ⟨iI d,i.size,i.bytes,i.zero.map (·.cells.toList)⟩
 |_,_=>none
def TD.agg:TD->Bool
 | .array _ _| .struct _=>true
 |_=>false
theorem cZ {T:Ti}(h:cG P t=some T):∃d i,P.underlying t=some d/\P.info? t=some i/\T=⟨iI d,i.size,i.bytes,i.zero.map (·.cells.toList)⟩:=by
 unfold cG at h;split at h
 ·rename_i d i k m
  exact⟨d,i,k,m,by injection h with h;exact h.symm⟩
 ·cases h
theorem bH {d:TypeDesc}(h:P.underlying t=some d)(w:World):(underlying t).run P w=.ok d w:=run_underlying h w
theorem sr {T:Ti}(h:cG P t=some T)(w:World):(isAgg t).run P w=.ok T.d.agg w:=by
 obtain⟨d,i,k,m,rfl⟩:=cZ h;unfold isAgg;simp only[Sem.run_bind,bH k,Result.andThen];cases d <;> rfl
theorem ek {T:Ti}(h:cG P t=some T)(w:World):(sizeOf t).run P w=.ok T.size w:=by
 obtain⟨d,i,m,k,rfl⟩:=cZ h;unfold sizeOf typeInfo program;simp [Sem.run,k]
theorem qG {T:Ti}(h:cG P t=some T)(w:World):∃i,(typeInfo t).run P w=.ok i w/\T.size=i.size/\T.bytes=i.bytes/\T.zero=i.zero.map (·.cells.toList)/\P.info? t=some i:=by
 obtain⟨d,i,m,k,rfl⟩:=cZ h;refine⟨i,?_,rfl,rfl,rfl,k⟩;unfold typeInfo program;simp [Sem.run,k]
section
variable {w:World}{S:Nat->Prop}
theorem cj:∀{cs:List D}{vs:List Value},aW w S cs vs->vs.length=cs.length
 |[],_,h=>by simp only[aW] at h;subst h;rfl
 |d::ds,vs,h=>by
  simp only[aW] at h;obtain⟨u,us,rfl,_,_,h⟩:=h;simp [cj h]
theorem lD:∀{cs:List D}{vs:List Value},aW w S cs vs->∀v∈vs,v.oneCell'=true
 |[],_,h,v,hv=>by simp only[aW] at h;subst h;cases hv
 |d::ds,vs,h,v,hv=>by
  simp only[aW] at h;obtain⟨u,us,rfl,h1,_,h⟩:=h;rcases bV.1 hv with rfl|hv
  ·exact h1
  ·exact lD h v hv
theorem cg:∀{cs ds:List D}{vs us:List Value},aW w S cs vs->aW w S ds us->aW w S (cs++ds) (vs++us)
 |[],ds,vs,us,h,h'=>by simp only[aW] at h;subst h;exact h'
 |d::cs,ds,vs,us,h,h'=>by
  simp only[aW] at h;obtain⟨u,i,rfl,h1,h2,h⟩:=h;simp only[dJ,aW];exact⟨u,_,rfl,h1,h2,cg h h'⟩
theorem fX:∀{cs:List D}{vs:List Value}(k:Nat),aW w S cs vs->aW w S (cs.drop k) (vs.drop k)
 |cs,vs,0,h=>h
 |[],vs,k+1,h=>by simp only[aW] at h;subst h;simp [aW]
 |d::cs,vs,k+1,h=>by
  simp only[aW] at h;obtain⟨u,i,rfl,h1,h2,h⟩:=h;exact fX k h
theorem fY:∀{cs:List D}{vs:List Value}(k:Nat),aW w S cs vs->aW w S (cs.take k) (vs.take k)
 |cs,vs,0,h=>by simp [aW]
 |[],vs,k+1,h=>by simp only[aW] at h;subst h;simp [aW]
 |d::cs,vs,k+1,h=>by
  simp only[aW] at h;obtain⟨u,i,rfl,h1,h2,h⟩:=h;simp only[List.take_succ_cons,aW];exact⟨u,_,rfl,h1,h2,fY k h⟩
theorem vJ:∀{cs:List D}{vs:List Value},aW w S cs vs->∀(j:Nat) (d:D),cs[j]?=some d->∃v,vs[j]?=some v/\v.oneCell'=true/\D.is w S d v
 |[],_,_,j,d,hd=>by simp at hd
 |d0::ds,vs,h,j,d,hd=>by
  simp only[aW] at h;obtain⟨u,us,rfl,h1,h2,h3⟩:=h;cases j with
  |zero=>exact⟨u,rfl,h1,by simp at hd;subst hd;exact h2⟩
  |succ j=>simpa using vJ h3 j d (by simpa using hd)
theorem mR:∀(vs:List Value),(∀v∈vs,v.oneCell'=true)->aW w S (vs.map .val) vs
 |[],_=>by simp [aW]
 |v::vs,h=>by
  simp only[cC,aW,D.is];exact⟨v,vs,rfl,h v (by simp),rfl,mR vs λu hu=>h u (by simp [hu])⟩
theorem cf:∀{cs:List D}{o:Nat},bU w S b o cs->∃vs,aW w S cs vs/\∀(j:Nat) (v:Value),vs[j]?=some v->w.cell? ⟨b,o+j,none⟩=some v
 |[],_,_=>⟨[],by simp [aW],λj v h=>by simp at h⟩
 |d::ds,o,h=>by
  simp only[bU] at h;obtain⟨⟨u,h1,h2,h3⟩,h4⟩:=h;obtain⟨vs,i,k⟩:=cf h4;refine⟨u::vs,by simp only[aW];exact⟨u,vs,rfl,h2,h3,i⟩,λj v hj=>?_⟩;cases j with
  |zero=>simp at hj;subst hj;exact h1
  |succ j=>rw[show o+(j+1)=o+1+j by omega];exact k j v (by simpa using hj)
theorem dD:∀{cs:List D}{o:Nat}{vs:List Value},aW w S cs vs->(∀(j:Nat) (v:Value),vs[j]?=some v->w.cell? ⟨b,o+j,none⟩=some v)->bU w S b o cs
 |[],_,_,_,_=>by simp only[bU]
 |d::ds,o,vs,h,hc=>by
  simp only[aW] at h;obtain⟨u,us,rfl,h1,h2,h3⟩:=h;simp only[bU];exact⟨⟨u,by simpa using hc 0 u rfl,h1,h2⟩,dD h3 λj v hj=>by
   have:=hc (j+1) v (by simpa using hj);rwa[show o+(j+1)=o+1+j by omega] at this⟩
theorem iQ {o:Nat}{cs:List D}(h:bU w S b o cs)(k:Nat):bU w S b (o+k) (cs.drop k):=by
 obtain⟨p,i,m⟩:=cf h;refine dD (fX k i) λj v hj=>?_;rw[show o+k+j=o+(k+j) by omega];exact m _ v (by simpa [nn] using hj)
theorem qU {o:Nat}{cs:List D}(h:bU w S b o cs)(k:Nat):bU w S b o (cs.take k):=by
 obtain⟨r,m,p⟩:=cf h;refine dD (fY k m) λj v i=>?_;refine p j v ?_;rw[mP] at i;split at i
 ·exact i
 ·cases i
theorem ca:∀{els:List (List D)}{o:Nat},cK w S b sz o els->∀(i:Nat) (el:List D),els[i]?=some el->el.length=sz/\bU w S b (o+i * sz) el
 |[],_,_,i,el,h=>by simp at h
 |e::els,o,h,i,el,hi=>by
  simp only[cK] at h;cases i with
  |zero=>simp at hi;subst hi;simpa using ⟨h.1,h.2.1⟩
  |succ i=>
   have:=ca h.2.2 i el (by simpa using hi)
   rw[show o+(i+1) * sz=o+sz+i * sz by rw[dc];omega]
   exact this
theorem dV:∀{els:List (List D)}{o:Nat},(∀(i:Nat) (el:List D),els[i]?=some el->el.length=sz/\bU w S b (o+i * sz) el)->cK w S b sz o els
 |[],_,_=>by simp only[cK]
 |e::els,o,h=>by
  simp only[cK];have h0:=h 0 e rfl;refine⟨h0.1,by simpa using h0.2,dV λi el hi=>?_⟩;have:=h (i+1) el (by simpa using hi);rwa[show o+(i+1) * sz=o+sz+i * sz by rw[dc];omega] at this
theorem mn {o:Nat}{els:List (List D)}(h:cK w S b sz o els)(k:Nat):cK w S b sz (o+k * sz) (els.drop k):=
 dV λi el hi=>by
  have:=ca h (k+i) el (by simpa [nn] using hi);rwa[show o+k * sz+i * sz=o+(k+i) * sz by rw[dc];omega]
theorem ko {o:Nat}{els:List (List D)}(h:cK w S b sz o els)(k:Nat):cK w S b sz o (els.take k):=
 dV λi el m=>by
  rw[mP] at m;split at m
  ·exact ca h i el m
  ·cases m
end
theorem fU {P:Program}(b:Nat)(t:TypeId)(fr:Nat×Nat):∀(vs:List Value) (o i:Nat) (w:World) (cs:Array Value),w.heap[b]?=some (Obj.cells cs t fr)->KL fr cs.size->o+i+vs.length<=cs.size->(∀v∈vs,v.oneCell'=true)->
  ∃w',(storeCells ⟨b,o,none⟩ vs i).run P w=.ok () w'/\w'.os=w.os/\w'.tape=w.tape/\w'.output=w.output/\w'.heap.size=w.heap.size/\(∀c,c≠b->w'.heap[c]?=w.heap[c]?)/\
   ∃m,w'.heap[b]?=some (Obj.cells m t fr)/\m.size=cs.size/\(∀j v,vs[j]?=some v->m[o+i+j]?=some v)/\∀j,(j<o+i\/o+i+vs.length<=j)->m[j]?=cs[j]?
 |[],o,i,w,cs,hb,_,_,_=>⟨w,rfl,rfl,rfl,rfl,rfl,λ_ _=>rfl,cs,hb,rfl,λj v h=>by simp at h,λ_ _=>rfl⟩
 |v::vs,o,i,w,cs,hb,xu,cd,h1=>by
  have k:o+i<cs.size:=by simp at cd;omega
  have s:(⟨b,o,none⟩:Addr).add i=⟨b,o+i,none⟩:=Addr.add_lit _ _ _;have r:w.cell? ⟨b,o+i,none⟩=some cs[o+i]:=by rw[cell_of_row w b (o+i) cs t fr hb];simp [k]
  have E:w.frozen? ⟨b,o+i,none⟩=false:=by
   have:=xu.not (o+i) k;simp only[World.frozen?,hb];simpa using λh=>Nat.le_of_not_lt (λz=>this ⟨h,z⟩)
  have p:(w.setCell ⟨b,o+i,none⟩ v).heap[b]?=some (Obj.cells (cs.setIfInBounds (o+i) v) t fr):=by simp [World.setCell,pb,hb]
  obtain⟨w',z,I,J,K,e4,L,m,M,h5,N,G⟩:=fU b t fr vs o (i+1) (w.setCell ⟨b,o+i,none⟩ v) _ p (by simpa using xu) (by simp at cd ⊢;omega) (λu R=>h1 u (by simp [R]));refine⟨w',?_,I,J,K,by simpa [World.setCell] using e4,λc H=>(L c H).trans (Below.heap_setCell w _ v c H),m,M,by simpa using h5,?_,?_⟩
  ·simp only[storeCells,Sem.run_bind,s,run_store P w _ v _ (h1 v (by simp)),r,E]
   exact z
  ·intro j u hj
   cases j with
   |zero=>
    simp at hj
    subst hj
    rw[rM,G (o+i) (by omega)]
    simp [k]
   |succ j=>rw[show o+i+(j+1)=o+(i+1)+j by omega];exact N j u (by simpa using hj)
  ·intro j hj
   rw[G j (by simp at hj ⊢;omega)];rw[Array.getElem?_setIfInBounds];rw[aC (by simp at hj;omega)]
def D.cells:D->Option (List D)
 | .agg cs=>some cs
 | .val (.agg _)| .val (.tuple _)| .eO _=>none
 |d=>some [d]
theorem D.vK {S:Nat->Prop}{d:D}{cs:List D}(h:D.is w S d v)(hc:d.cells=some cs):aW w S cs v.cells.toList:=by
 have one:∀{d:D}{v:Value},D.is w S d v->v.oneCell'=true->aW w S [d] v.cells.toList:=λ{d v} h p=>by
  have:v.cells= #[v]:=by cases v <;> first|rfl|cases p
  rw[this];simp only[aW];exact⟨v,[],rfl,p,h,rfl⟩
 cases d with
 |agg s=>
  simp only[D.cells] at hc
  injection hc with hc
  subst hc
  simp only[D.is] at h
  obtain⟨r,rfl,h⟩:=h
  exact h
 |val u=>
  have e:v=u:=by simpa only[D.is] using h
  subst e
  cases v <;> simp only[D.cells] at hc <;> first|(injection hc with hc;subst hc;exact one h rfl)|cases hc
 |eO s=>simp only[D.cells] at hc;cases hc
 |seq sz z=>
  simp only[D.cells] at hc
  injection hc with hc
  subst hc
  have m:=h
  simp only[D.is] at m
  obtain⟨A,c,rfl,_⟩:=m
  exact one h rfl
 |os b o sz k n=>
  simp only[D.cells] at hc
  injection hc with hc
  subst hc
  have m:=h
  simp only[D.is] at m
  obtain⟨A,c,rfl,_⟩:=m
  exact one h rfl
 |ep b o sz i k=>
  simp only[D.cells] at hc
  injection hc with hc
  subst hc
  have m:=h
  simp only[D.is] at m
  subst m
  exact one h rfl
 |rp cs=>
  simp only[D.cells] at hc
  injection hc with hc
  subst hc
  have m:=h
  simp only[D.is] at m
  obtain⟨b,o,rfl,_⟩:=m
  exact one h rfl
 |fn f cs=>
  simp only[D.cells] at hc
  injection hc with hc
  subst hc
  have m:=h
  simp only[D.is] at m
  obtain⟨r,rfl,_⟩:=m
  exact one h rfl
 |fb f E cs=>
  simp only[D.cells] at hc
  injection hc with hc
  subst hc
  have m:=h
  simp only[D.is] at m
  obtain⟨G,r,rfl,_⟩:=m
  exact one h rfl
 |Ep=>
  simp only[D.cells] at hc
  injection hc with hc
  subst hc
  have m:=h
  simp only[D.is] at m
  obtain⟨A,rfl⟩:=m
  exact one h rfl
theorem gN {H:aA}(o:Obj)(x:cY)(hH:eF w H):Ev H w (H.aU w.heap.size x) (w.alloc o) where
 os:=rfl
 tape:=rfl
 output:=rfl
 size:=by simp
 cM:=λb hb hn=>⟨Below.heap_alloc w o b hb,by rw[aJ (by omega)];exact hn⟩
 shape:=λb cs t fr hb=>⟨cs,fr,by rw[Below.heap_alloc w o b (jP.1 hb).1];exact hb,rfl⟩
theorem ff {H:aA}(h:eF w H):H w.heap.size=none:=by
 cases e:H w.heap.size with
 |none=>rfl
 |some x=>exact absurd (h.lt e) (by omega)
theorem Ev.jb {H H':aA}(h:Ev H w H' w'){x:cY}(hb:w'.heap[b]?=w.heap[b]?)(hx:jb w H b x):jb w' H' b x:=by
 cases x with
 |row t o sz u=>
  obtain⟨cs,E,k,p,r,s⟩:=hx
  refine⟨cs,E,hb.trans k,p,r,dV λi el L=>?_⟩
  obtain⟨G,I⟩:=ca s i el L
  refine⟨G,?_⟩
  obtain⟨N,J,K⟩:=cf I
  refine dD (bO h.kept el J) λj v M=>?_
  rw[<-K j v M]
  exact World.cell?_of_block hb
 |map m=>
  obtain⟨z,c,k,p,r,s⟩:=hx
  exact⟨z,c,hb.trans k,p,fF h.kept _ r,s⟩
 |hid=>exact zK hx h.size
 |obj o=>exact hb.trans hx
theorem eF.alloc {H:aA}(i:eF w H){o:Obj}{x:cY}(hx:jb (w.alloc o) (H.aU w.heap.size x) w.heap.size x):eF (w.alloc o) (H.aU w.heap.size x):=λb y h=>by
 by_cases e:b=w.heap.size
 ·subst e
  rw[aK] at h;injection h with h
  subst h;exact hx
 ·rw[aJ e] at h
  exact(gN o x i).jb (Below.heap_alloc w o b (i.lt h)) (i b y h)
theorem JH (n:Nat):KL (0,0) n:=.inl rfl
theorem xS {H:aA}(p:eF w H)(t:TypeId)(sz:Nat)(els:List (List D))(vs:List Value)(hv:aW w H.others els.flatten vs)(ir:∀el∈els,el.length=sz)(cd:els.length * sz<=vs.length):
  eF (w.alloc (Obj.cells ⟨vs⟩ t)) (H.aU w.heap.size (.row t 0 sz els)):=by
 refine p.alloc ⟨⟨vs⟩,(0,0),heap_alloc_new w _,JH _,by simpa using cd,?_⟩;have u:=bO (gN (Obj.cells ⟨vs⟩ t) (.row t 0 sz els) p).kept _ hv;refine dV λi el r=>⟨ir el (eh r),?_⟩;have m:∀(i:Nat) (els:List (List D)),(∀el∈els,el.length=sz)->∀el,els[i]?=some el->(els.flatten.drop (i * sz)).take sz=el:=by
  intro i
  induction i with
  |zero=>
   intro els k el h0
   cases els with
   |nil=>simp at h0
   |cons e els=>
    simp at h0
    subst h0
    have:=k e (by simp)
    simp [<-this]
  |succ i E=>
   intro els k el h0
   cases els with
   |nil=>simp at h0
   |cons e els=>
    have h:=k e (by simp)
    have h2:=E els (λx z=>k x (by simp [z])) el (by simpa using h0)
    rw[tM,dc,Nat.one_mul,List.drop_append,pK (by omega),h,cz]
    simpa [Nat.add_sub_cancel] using h2
 have s:=m i els ir el r;have h:=fY sz (fX (i * sz) u);rw[s] at h;refine dD h λj v hj=>?_;rw[kG,cell_of_row _ _ _ _ _ _ (heap_alloc_new w _)];rw[mP] at hj;split at hj
 ·rw[nn] at hj
  simpa using hj
 ·cases hj
def qP (n:Nat):Option Tmp->Prop
 |some t=>t<n
 |none=>True
theorem fI {dst:Option Tmp}(h:qP n dst):∀t,dst=some t->t<n:=λt e=>by subst e;exact h
theorem u7 {i:Operand->Value}(h:∀c,o.op≠ .defer c):o.semAt (FR ro).round i=execOp i o:=Oper.semAt_eq ro i o h
theorem mJ {i:Cx}{K:St->Prop}{s:St}(k:∀c,o.op≠ .defer c)(hd:qP i.n o.dst)
  (h:∀a w,bj i s a w->∃v w' d H',(execOp a.eval o).run i.P w=.ok (.value v) w'/\D.is w' H'.others d v/\eF w' H'/\Ev s.H w H' w'/\K ((s.cJ H').put o.dst d)):WO i o K s:=λa w m=>by
 refine⟨gw,?_⟩;rw[u7 k];obtain⟨v,w',d,H',p,r,u,z,E⟩:=h a w m;rw[p,Oper.uponIn_value];exact⟨_,(m.go z u).put (fI hd) r,E⟩
theorem fx {i:Cx}{K:St->Prop}{s:St}(k:∀c,o.op≠ .defer c)(hd:qP i.n o.dst)
  (h:∀a w,bj i s a w->∃v d,(execOp a.eval o).run i.P w=.ok (.value v) w/\D.is w s.H.others d v/\K (s.put o.dst d)):WO i o K s:=
 mJ k hd λa w m=>by
  obtain⟨v,d,p,r,u⟩:=h a w m;exact⟨v,w,d,s.H,p,r,m.H,dr _ _,u⟩
theorem Cy {i:Cx}{K:St->Prop}{s:St}(k:∀c,o.op≠ .defer c)(hd:qP i.n o.dst)
  (h:∀a w,bj i s a w->∃w' H',(execOp a.eval o).run i.P w=.ok .skip w'/\eF w' H'/\Ev s.H w H' w'/\K ((s.cJ H').put o.dst (.val undef))):WO i o K s:=λa w m=>by
 refine⟨gw,?_⟩;rw[u7 k];obtain⟨w',H',p,r,u,z⟩:=h a w m;rw[p,Oper.uponIn_skip];exact⟨_,(m.go u r).put (fI hd) (by simp only[D.is]),z⟩
theorem cQ {S:Nat->Prop}{u:Value}(h:D.is w S (.val u) v):v=u:=by simpa only[D.is] using h
theorem lN {S:Nat->Prop}(u:Value):D.is w S (.val u) u:=by simp only[D.is]
def pn (op:BinOp) (k:IntKind) (a b:Int) (K:D->Prop):Prop:=
 match op with
 | .add=>K (.val (.int k (k.wrap (a+b))))
 | .sub=>K (.val (.int k (k.wrap (a - b))))
 | .mul=>K (.val (.int k (k.wrap (a * b))))
 | .quo=>b≠0/\K (.val (.int k (k.wrap (a.tdiv b))))
 | .rem=>b≠0/\K (.val (.int k (a.tmod b)))
 | .and=>K (.val (.int k (bits .and k a b)))
 | .or=>K (.val (.int k (bits .or k a b)))
 | .xor=>K (.val (.int k (bits .xor k a b)))
 | .andNot=>K (.val (.int k (bits .andNot k a b)))
 | .eql=>K (.val (.bool (decide (a=b))))
 | .neq=>K (.val (.bool (decide (a≠b))))
 | .lss=>K (.val (.bool (decide (a<b))))
 | .leq=>K (.val (.bool (decide (a<=b))))
 | .gtr=>K (.val (.bool (decide (b<a))))
 | .geq=>K (.val (.bool (decide (b<=a))))
 |_=>False
def po (op:BinOp) (a b:ByteArray) (K:D->Prop):Prop:=
 match op with
 | .add=>a.size+b.size<=9223372036854775807/\K (.val (.string (a++b)))
 | .eql=>K (.val (.bool (decide (a.toList=b.toList))))
 | .neq=>K (.val (.bool (decide (a.toList≠b.toList))))
 | .lss=>K (.val (.bool (Op.bytesLess a.toList b.toList)))
 | .leq=>K (.val (.bool (Op.bytesLess a.toList b.toList||decide (a.toList=b.toList))))
 | .gtr=>K (.val (.bool (!(Op.bytesLess a.toList b.toList||decide (a.toList=b.toList)))))
 | .geq=>K (.val (.bool (!Op.bytesLess a.toList b.toList)))
 |_=>False
def D.nilPtr:D->Option Bool
 | .val (.pointer none)=>some true
 | .val (.pointer (some _))| .ep _ _ _ _ _| .rp _=>some false
 |_=>none
def D.iM:D->Option Bool
 | .val (.slice none _ _)=>some true
 | .val (.slice (some _) _ _)=>some false
 | .os _ _ _ _ n=>if n=0 then none else some false
 | .seq _ els=>if els.length=0 then none else some false
 |_=>none
def D.iF:D->Option Bool
 | .val (.map none)=>some true
 | .val (.map (some _))=>some false
 |_=>none
def ic (op:BinOp) (b:Bool) (K:D->Prop):Prop:=
 match op with
 | .eql=>K (.val (.bool b))
 | .neq=>K (.val (.bool (!b)))
 |_=>False
def ki (P:Program) (op:BinOp) (t:TypeId) (x:D) (K:D->Prop):Prop:=
 match cG P t,x.nilPtr with
 |some ⟨.ptr _,_,_,_⟩,some b=>ic op b K
 |_,_=>False
def j8 (P:Program) (op:BinOp) (t:TypeId) (x:D) (K:D->Prop):Prop:=
 match cG P t,x.iM with
 |some ⟨.slice _,_,_,_⟩,some b=>ic op b K
 |_,_=>False
def kh (P:Program) (op:BinOp) (t:TypeId) (x:D) (K:D->Prop):Prop:=
 match cG P t,x.iF with
 |some ⟨.map _ _,_,_,_⟩,some b=>ic op b K
 |_,_=>False
def fH (P:Program) (t:TypeId):Prop:=match cG P t with|some ⟨.bool,_,_,_⟩=>True|_=>False
def yb:List D->List D->Option (List Bool×Bool)
 |[],[]=>some ([],true)
 | .val (.int .i64 a)::x,.val (.int .i64 b)::y=>(match yb x y with|some (k,r)=>some (false::k,decide (a=b)&&r)|none=>none)
 | .val (.string a)::x,.val (.string b)::y=>(match yb x y with|some (k,r)=>some (true::k,decide (a.toList=b.toList)&&r)|none=>none)
 |_,_=>none
def Gm (P:Program) (t:TypeId) (s:List Bool):Prop:=
 ∀(k m:List D) (r:Bool) (i h:List Value) (w:World) (S:Nat->Prop) (op:BinOp) (p q:Operand),yb k m=some (s,r)->aW w S k i->aW w S m h->
  (eqGuard op t p q (.agg i.toArray) (.agg h.toArray)).run P w=.ok () w/\(Op.equal t (.agg i.toArray) (.agg h.toArray)).run P w=.ok r w
def od (P:Program) (op:BinOp) (t:TypeId) (x y:D) (K:D->Prop):Prop:=
 match x,y with
 | .val (.int k a),.val (.int k' b)=>
  (match op with
  | .shl=>0<=b/\K (.val (.int k (k.wrap (a * 2 ^ min b.toNat k.bits))))
  | .shr=>0<=b/\K (.val (.int k (a.fdiv (2 ^ min b.toNat k.bits))))
  |op=>k=k'/\pn op k a b K)
 | .val (.string a),.val (.string b)=>po op a b K
 | .val (.bool a),.val (.bool b)=>fH P t/\(match op with
  | .eql=>K (.val (.bool (decide (a=b))))
  | .neq=>K (.val (.bool (decide (a≠b))))
  |_=>False)
 | .agg h,.agg es=>(match yb h es with|some (i,r)=>Gm P t i/\ic op r K|none=>False)
 |x,.val (.pointer none)=>ki P op t x K
 |x,.val (.slice none _ _)=>j8 P op t x K
 |x,.val (.map none)=>kh P op t x K
 |_,_=>False
theorem Pb {k:IntKind}{a b:Int}{K:D->Prop}(h:pn op k a b K):∃v,(binOp op t (.int k a) (.int k b)).run P w=.ok v w/\K (.val v):=by
 cases op <;> simp only[pn] at h <;> first
  |exact⟨_,rfl,h⟩
  |(refine⟨_,?_,h.2⟩;have i:=h.1;simp [binOp,Op.intDiv,i];done)
  |(refine⟨_,?_,h⟩;simp [binOp,Op.intCmp,bne];done)
  |(refine⟨_,?_,h⟩;simp [binOp,Op.intCmp,bne];rfl)
  |exact h.elim
theorem Pc {a b:ByteArray}{K:D -> Prop}(h : po op a b K) : ∃ v, (binOp op t (.string a) (.string b)).run P w = .ok v w /\ K (.val v) := by
  have e : (a.toList == b.toList) = decide (a.toList = b.toList) := by by_cases h : a.toList = b.toList <;> simp [h]
  have i : (!decide (a.toList = b.toList)) = decide (a.toList ≠ b.toList) := by by_cases h : a.toList = b.toList <;> simp [h]
  cases op <;> simp only [po] at h <;> first
    | (refine ⟨_, ?_, h⟩; simp only [binOp, Op.stringOp, e]; rfl)
    | (refine ⟨_, ?_, h⟩; simp only [binOp, Op.stringOp, e, i]; rfl)
    | (refine ⟨_, ?_, h.2⟩
       have k : ¬ ((a.size + b.size : Nat) : Int) > IntKind.i64.max := by
        have m := h.1;have : IntKind.i64.max = 9223372036854775807 := by decide
        omega
       simp only [binOp, Op.stringOp, k, dY]; rfl)
    | exact h.elim
theorem Fx {S:Nat->Prop}{d:D}{b:Bool}(h:D.is w S d v)(hb:d.nilPtr=some b):∃p:Option Addr,v=.pointer p/\p.isNone=b:=by
 cases d with
 |val u=>
  have e:=cQ h
  subst e
  cases v with
  |pointer p=>refine⟨p,rfl,?_⟩;cases p <;> simp [D.nilPtr] at hb <;> simp [hb]
  |_=>simp [D.nilPtr] at hb
 |ep=>simp only[D.is] at h;exact⟨_,h,by simpa [D.nilPtr] using hb⟩
 |rp cs=>simp only[D.is] at h;obtain⟨b,o,rfl,_⟩:=h;exact⟨_,rfl,by simpa [D.nilPtr] using hb⟩
 |_=>simp [D.nilPtr] at hb
theorem Fw {S:Nat->Prop}{d:D}{b:Bool}(h:D.is w S d v)(hb:d.iF=some b):∃p:Option Nat,v=.map p/\p.isNone=b:=by
 cases d with
 |val u=>
  have e:=cQ h
  subst e
  cases v with
  |map p=>refine⟨p,rfl,?_⟩;cases p <;> simp [D.iF] at hb <;> simp [hb]
  |_=>simp [D.iF] at hb
 |_=>simp [D.iF] at hb
theorem Hp {S:Nat->Prop}{d:D}{b:Bool}(h:D.is w S d v)(hb:d.iM=some b):∃p n c,v=.slice p n c/\p.isNone=b:=by
 cases d with
 |val u=>
  have e:=cQ h
  subst e
  cases v with
  |slice p n c=>refine⟨p,n,c,rfl,?_⟩;cases p <;> simp [D.iM] at hb <;> simp [hb]
  |_=>simp [D.iM] at hb
 |os z o sz k n=>
  simp only[D.is] at h
  obtain⟨A,c,rfl,s,i⟩:=h
  simp only[D.iM] at hb
  split at hb
  ·cases hb
  ·rcases i with i|⟨rfl,_⟩
   ·omega
   ·exact⟨_,_,_,rfl,by simpa using hb⟩
 |seq sz r=>
  simp only[D.is] at h
  obtain⟨A,c,rfl,s,i⟩:=h
  simp only[D.iM] at hb
  split at hb
  ·cases hb
  ·rename_i m
   rcases i with i|⟨_,_,rfl,_⟩
   ·subst i;simp at m
   ·exact⟨_,_,_,rfl,by simpa using hb⟩
 |_=>simp [D.iM] at hb
theorem Nn (d:Nat)(h:P.underlying t=some (.pointer e))(p:Option Addr):(Op.equalIn (d+1) t (.pointer p) (.pointer none)).run P w=.ok p.isNone w:=by cases p <;> simp [Op.equalIn,bH h]
theorem AE (d:Nat)(h:P.underlying t=some (.slice e))(p:Option Addr)(n c k i:Nat):(Op.equalIn (d+1) t (.slice p n c) (.slice none k i)).run P w=.ok p.isNone w:=by cases p <;> simp [Op.equalIn,bH h]
theorem Nl (d:Nat){k:TypeId}(h:P.underlying t=some (.map k e))(p:Option Nat):(Op.equalIn (d+1) t (.map p) (.map none)).run P w=.ok p.isNone w:=by cases p <;> simp [Op.equalIn,bH h]
theorem LM (d:Nat)(h:P.underlying t=some .bool)(a b:Bool):(Op.equalIn (d+1) t (.bool a) (.bool b)).run P w=.ok (a==b) w:=by simp [Op.equalIn,bH h]
theorem ss {y:Value}{b:Bool}{K:D->Prop}(h:ic op b K)(hr:(Op.equal t v y).run P w=.ok b w)(i:binOp .eql t v y=(do pure (.bool (<-Op.equal t v y))))(hn:binOp .neq t v y=(do pure (.bool (!(<-Op.equal t v y))))):
  ∃u,(binOp op t v y).run P w=.ok u w/\K (.val u):=by
 cases op <;> simp only[ic] at h <;> first
  |exact⟨_,by rw[i];simp [hr,Result.andThen],h⟩
  |exact⟨_,by rw[hn];simp [hr,Result.andThen],h⟩
  |exact h.elim
theorem Lu {S:Nat->Prop}{x:D}{K:D->Prop}(h:ki P op t x K)(hx:D.is w S x v):∃u,(binOp op t v (.pointer none)).run P w=.ok u w/\K (.val u):=by
 unfold ki at h;split at h
 ·rename_i r s
  obtain⟨d,i,m,E,k⟩:=cZ r;obtain⟨p,rfl,z⟩:=Fx hx s;injection k with k
  cases d <;> simp [iI] at k
  subst k;exact ss h (by rw[<-z];exact Nn 9999 m p) rfl rfl
 ·exact h.elim
theorem Lv {S:Nat->Prop}{x:D}{c:Nat}{K:D->Prop}(h:j8 P op t x K)(hx:D.is w S x v):∃u,(binOp op t v (.slice none n c)).run P w=.ok u w/\K (.val u):=by
 unfold j8 at h;split at h
 ·rename_i s z
  obtain⟨d,i,r,H,k⟩:=cZ s;obtain⟨p,G,m,rfl,E⟩:=Hp hx z;injection k with k
  cases d <;> simp [iI] at k
  subst k;exact ss h (by rw[<-E];exact AE 9999 r p G m n c) rfl rfl
 ·exact h.elim
theorem Lt {S:Nat->Prop}{x:D}{K:D->Prop}(h:kh P op t x K)(hx:D.is w S x v):∃u,(binOp op t v (.map none)).run P w=.ok u w/\K (.val u):=by
 unfold kh at h;split at h
 ·rename_i r s
  obtain⟨d,i,m,E,k⟩:=cZ r;obtain⟨p,rfl,z⟩:=Fw hx s;injection k with k
  cases d <;> simp [iI] at k
  obtain⟨rfl,rfl⟩:=k;exact ss h (by rw[<-z];exact Nl 9999 m p) rfl rfl
 ·exact h.elim
end Go.Proofs.YtffgfafbffdgaaaGreatDoor
