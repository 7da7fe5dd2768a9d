/- Lemmas and contracts of functions, several texts in one. -/
import Derived.Test.YtffgfafbffdgaaaGreatDoorProg
import Derived.Lib.Strings
import Derived.Lib.Bytealg
import Derived.Lib.Walk
import Derived.Laws.Externs
import Derived.WalkKit
import Derived.Lib.Hide
import Derived.Deep.Draws
import Derived.Laws.AppendOwnNone
import Derived.Maps.AppendAt
import Derived.Laws.CopyOwn
import Derived.Lib.SlBytesConst
import Derived.OrdersIn
import Derived.TacticsIn
import Derived.Laws.Cells
import Derived.Laws.MakeOwn
set_option maxRecDepth 100000
set_option maxHeartbeats 4000000
set_option linter.all false
namespace Go.Proofs.YtffgfafbffdgaaaGreatDoor
open Tryz
theorem aCi (s:ByteArray) (c:Int) (w:World):
  Calls prog 216 #[.string s,.int .u8 c] w λe a=>e=.returned (.int .i64 (firstIdx s c.toNat.toUInt8))/\w=a:=by
 go_enter func216,ntmps216;go_wp2;rw[run_callFunc_extern func292 (by kernel_rfl) (by kernel_rfl) (by kernel_rfl) (e:=Extern.BytealgIndexByte.indexByte) (by kernel_rfl),run_indexByte_string];go_wp2;go_ret;exact⟨rfl,rfl⟩
end Go.Proofs.YtffgfafbffdgaaaGreatDoor
namespace Go.Proofs.YtffgfafbffdgaaaGreatDoor
open Go.RowKit
variable {B g base n j b id sz:Nat}{row ro:Option Nat}{a:Act}{w w':World}{e t:TypeId}{c x y:Code}{l:List UInt8}{A:Option Addr}{P:Program}{v:Value}{f:FuncId}{aY:Array Oper}{o:Oper}{op:BinOp}
abbrev aV:=@List.length_append
abbrev aX:=@Int.toNat_natCast
abbrev aC:=@if_neg
abbrev aZ:=@Int.natCast_nonneg
abbrev aS:=@List.length_map
abbrev aD:=@if_pos
abbrev bw:=@List.take_succ_eq_append_getElem
abbrev aI:=@eq_false
abbrev az:=@List.getElem?_eq_getElem
abbrev aG:=@eq_true
abbrev af:=@decide_eq_false
abbrev bK:=@List.take_of_length_le
abbrev ao:=@List.getElem_mem
abbrev ah:=@decide_eq_true
abbrev bE:=@List.append_assoc
abbrev bB:=@List.mem_append
abbrev cL:=@List.drop_eq_getElem_cons
abbrev bM:=@List.mem_singleton
abbrev cy:=@List.eq_nil_of_length_eq_zero
abbrev bI:=@List.map_append
abbrev bg:=@List.getElem?_map
abbrev bX:=@List.length_take
abbrev cb:=@List.drop_eq_nil_of_le
abbrev bx:=@List.length_cons
abbrev bz:=@List.append_nil
abbrev bV:=@List.mem_cons
abbrev eC:=@Classical.byContradiction
abbrev ai:=@congrArg
abbrev dH:=@List.mem_cons_of_mem
abbrev cX:=@Bool.and_eq_true
abbrev cC:=@List.map_cons
abbrev eE:=@List.length_singleton
abbrev dF:=@decide_eq_true_eq
abbrev bh:=@Nat.le_refl
abbrev cD:=@List.mem_map
abbrev cz:=@List.nil_append
abbrev cV:=@Bool.true_and
abbrev dI:=@List.take_length
abbrev dJ:=@List.cons_append
abbrev dK:=@List.all_eq_true
abbrev eh:=@List.mem_of_getElem?
abbrev gI:=@List.getElem?_eq_some_iff
abbrev gZ:=@List.getD_eq_getElem?_getD
abbrev dX:=@List.length_nil
abbrev jP:=@Array.getElem?_eq_some_iff
abbrev ga:=@List.take_append_drop
abbrev dj:=@List.drop_zero
abbrev dq:=@Bool.false_and
abbrev gb:=@List.flatMap_append
abbrev fp:=@Classical.not_not
abbrev fN:=@List.mem_filter
abbrev kT:=@List.getElem?_append_left
abbrev mO:=@List.getElem?_append_right
abbrev ia:=@Bool.false_eq_true
abbrev dc:=@Nat.add_mul
abbrev iJ:=@Option.some.injEq
abbrev gd:=@List.length_drop
abbrev nK:=@Array.getD_eq_getD_getElem?
abbrev lk:=@List.getElem?_cons_zero
abbrev gJ:=@Option.map_some
abbrev jl:=@Nat.mul_le_mul_right
abbrev kU:=@List.length_filter_le
abbrev fq:=@Bool.and_false
abbrev gK:=@List.take_zero
abbrev lu:=@List.getElem?_eq_none
abbrev fu:=@Bool.and_true
abbrev jm:=@List.mem_cons_self
abbrev kV:=@List.getElem_of_mem
abbrev kW:=@Array.length_toList
abbrev fv:=@Nat.lt_or_ge
abbrev fw:=@List.map_nil
abbrev ib:=@List.mem_range
abbrev gL:=@List.map_map
abbrev ly:=@List.filter_append
abbrev iK:=@List.map_take
abbrev lz:=@List.flatMap_cons
abbrev dY:=@if_false
abbrev mP:=@List.getElem?_take
abbrev o8:=@List.mem_append_left
abbrev jQ:=@List.all_cons
abbrev pb:=@Array.getElem?_modify
abbrev mA:=@List.length_set
abbrev dN:=@if_true
abbrev uh:=@List.take_append_of_le_length
abbrev pc:=@List.getElem?_of_mem
abbrev oa:=@List.pairwise_cons
abbrev ui:=@List.mem_zipIdx_iff_getElem?
abbrev nL:=@List.flatMap_nil
abbrev kY:=@false_implies
abbrev pf:=@List.map_congr_left
abbrev nj:=@List.pairwise_append
abbrev jW:=@Bool.not_false
abbrev pK:=@List.drop_of_length_le
abbrev la:=@List.mem_flatMap
abbrev iV:=@true_implies
abbrev iW:=@implies_true
abbrev iX:=@forall_const
abbrev mW:=@List.nodup_append
abbrev mX:=@List.foldl_append
abbrev mY:=@Bool.not_eq_true'
abbrev pL:=@List.mem_append_right
abbrev pM:=@List.filterMap_append
abbrev kD:=@Nat.mul_le_mul
abbrev nn:=@List.getElem?_drop
abbrev kF:=@Bool.not_true
abbrev qz:=@List.getElem_cons_drop
abbrev rA:=@List.flatMap_singleton
abbrev np:=@List.ext_getElem?
abbrev gm:=@Array.ext'
abbrev mZ:=@Nat.min_eq_left
abbrev rB:=@List.getElem?_toArray
abbrev pN:=@UInt8.toNat_ofNat'
abbrev kG:=@Nat.zero_add
abbrev kH:=@Nat.succ_mul
abbrev rC:=@List.mem_of_mem_take
abbrev jY:=@Nat.zero_le
abbrev jZ:=@Nat.mul_one
abbrev tE:=@decide_eq_false_iff_not
abbrev tF:=@List.getElem?_cons_succ
abbrev tG:=@List.filter_cons_of_pos
abbrev tH:=@List.filter_cons_of_neg
abbrev wD:=@Array.getElem?_append_right
abbrev tI:=@List.pairwise_lt_range
abbrev lh:=@List.all_nil
abbrev kJ:=@Int.le_refl
abbrev wF:=@Array.getElem?_append_left
abbrev tJ:=@Array.mem_of_getElem?
abbrev pO:=@List.nodup_cons
abbrev rD:=@of_decide_eq_true
abbrev rE:=@List.pairwise_map
abbrev ma:=@Nat.le_trans
abbrev wG:=@Array.getElem?_replicate
abbrev nq:=@Bool.false_or
abbrev tK:=@List.mergeSort_perm
abbrev rF:=@Option.getD_some
abbrev pP:=@List.drop_drop
abbrev wH:=@List.map_eq_append_iff
abbrev wI:=@List.getElem?_set_self
abbrev nr:=@getElem!_pos
abbrev rG:=@List.range_succ
abbrev rH:=@List.foldl_cons
abbrev rI:=@List.cons.injEq
abbrev rJ:=@Bool.or_eq_true
abbrev wJ:=@List.length_replicate
abbrev tL:=@List.length_range
abbrev tM:=@List.flatten_cons
abbrev yy:=@List.nodup_iff_pairwise_ne
abbrev wK:=@List.mem_of_getLast?
abbrev wL:=@List.map_eq_cons_iff
abbrev tN:=@List.getElem_map
abbrev tO:=@List.any_eq_true
abbrev iZ:=@eq_self
abbrev wM:=@List.mem_map_of_mem
abbrev wN:=@List.map_eq_nil_iff
abbrev rK:=@Nat.add_assoc
abbrev wO:=@Nat.eq_zero_or_pos
abbrev yz:=@List.pairwise_mergeSort
abbrev zA:=@List.length_eq_one_iff
abbrev zC:=@List.getElem_cons_zero
abbrev zE:=@ByteArray.data_extract
abbrev rL:=@Nat.zero_mul
abbrev rM:=@Nat.add_zero
abbrev zF:=@List.Perm.append_left
abbrev Ek:=@List.eq_nil_iff_forall_not_mem
abbrev wP:=@Nat.le_add_right
abbrev wQ:=@Array.all_toList
abbrev kL:=@dif_pos
abbrev mc:=@Prod.ext
abbrev wR:=@List.all_append
abbrev zG:=@List.take_set_of_le
abbrev zH:=@List.flatten_append
abbrev zI:=@List.filter_eq_self
abbrev zJ:=@List.filterMap_cons
abbrev tP:=@Nat.sub_zero
abbrev tQ:=@Nat.pow_succ
abbrev zK:=@Nat.lt_of_lt_of_le
abbrev zL:=@List.append_of_mem
abbrev wT:=@List.take_take
abbrev rN:=@beq_iff_eq
abbrev zM:=@UInt8.ofNat_toNat
abbrev zN:=@List.size_toArray
abbrev zO:=@List.getElem?_set
abbrev gp:=@ne_eq
abbrev zP:=@Nat.mod_eq_of_lt
abbrev zQ:=@List.perm_middle
abbrev zR:=@List.flatMap_map
abbrev pS:=@false_or
abbrev El:=@Option.map_eq_some_iff
abbrev Em:=@Classical.epsilon_spec
abbrev wU:=@Nat.sub_self
def nM (w:World) (g:Nat) (t:TypeId) (cs:Array Value):Prop:=w.heap[g]?=some (.cells cs t (0,0))
section
variable {w w':World}{g:Nat}{t:TypeId}{cs:Array Value}
theorem nM.out (h:nM w g t cs):w.heap[g]?=some (.cells cs t (0,0)):=h
theorem nM.lt (h:nM w g t cs):g<w.heap.size:=by
 rcases fv g w.heap.size with d|wY
 ·exact d
 ·unfold nM at h;rw[Array.getElem?_eq_none wY] at h;cases h
theorem nM.cell (h:nM w g t cs)(i:Nat):w.cell? ⟨g,i,none⟩=cs[i]?:=cell_of_row w g i cs t (0,0) h
theorem nM.frozen (h:nM w g t cs)(i:Nat):w.frozen? ⟨g,i,none⟩=false:=by
 unfold nM at h;simp [World.frozen?,h]
theorem nM.new (w:World) (t:TypeId) (cs:Array Value):nM (w.alloc (.cells cs t)) w.heap.size t cs:=heap_alloc_new w _
theorem nM.aCl {n:Nat}(w:World) (t:TypeId) (cs:Array Value) (h:n=w.heap.size):nM (w.alloc (.cells cs t)) n t cs:=by subst h;exact heap_alloc_new w _
theorem nM.drew (h:nM w g t cs):nM w.drew g t cs:=h
theorem nM.drewN (h:nM w g t cs)(n:Nat):nM (w.drewN n) g t cs:=h
theorem nM.alloc (h:nM w g t cs)(o:Obj):nM (w.alloc o) g t cs:=(Below.heap_alloc w o g h.lt).trans h
theorem nM.aCp (h:nM w g t cs)(i:Nat)(u:Value):nM (w.setCell ⟨g,i,none⟩ u) g t (cs.setIfInBounds i u):=by
 unfold nM at h ⊢;simp [World.setCell,pb,h]
theorem nM.far (h:nM w g t cs){p:Addr}(hp:g≠p.block)(u:Value):nM (w.setCell p u) g t cs:=(Below.heap_setCell w p u g hp).trans h
theorem nM.Jq (h:nM w g t cs)(c:Array Value):nM (w.setRow g c) g t c:=setRow_heap w g cs c t (0,0) h
theorem nM.below (h:nM w g t cs)(hb:Below B w w')(hg:g<B):nM w' g t cs:=(hb.block g hg).trans h
theorem nM.grown (h:nM w g t cs)(hb:w.grownBy w' row)(hg:some g≠row):nM w' g t cs:=(hb.block g h.lt hg).trans h
end
theorem below_setRow {a:World}(h:Below B a w)(hp:B<=g)(c:Array Value):Below B a (w.setRow g c):=
 h.trans ⟨rfl,rfl,rfl,by simp,λk d=>setRow_other w g k c (by omega)⟩
def Rd (w:World) (B:Nat) (A:Option Addr) (d:List Value):Prop:=
 ∀j u,d[j]?=some u->∃b o,A=some ⟨b,o,none⟩/\b<B/\w.cell? ⟨b,o+j,none⟩=some u
section
variable {w w':World}{B B':Nat}{A:Option Addr}{xs:List Value}
theorem Rd.cM (h:Rd w B A xs)(hk:∀p:Addr,p.block<B->w'.cell? p=w.cell? p):Rd w' B A xs:=λj u k=>by
 obtain⟨b,o,e,d,i⟩:=h j u k;exact⟨b,o,e,d,(hk _ d).trans i⟩
theorem Rd.more (h:Rd w B A xs)(k:B<=B'):Rd w B' A xs:=λj u i=>by
 obtain⟨b,o,e,m,d⟩:=h j u i;exact⟨b,o,e,by omega,d⟩
theorem Rd.below (h:Rd w B A xs)(hb:Below B' w w')(d:B<=B'):Rd w' B A xs:=h.cM λ_ i=>hb.cell (by omega)
theorem Rd.drew (h:Rd w B A xs):Rd w.drew B A xs:=h
theorem Rd.drewN (h:Rd w B A xs)(k:Nat):Rd (w.drewN k) B A xs:=h
theorem Rd.alloc (h:Rd w B A xs)(d:B<=w.heap.size)(o:Obj):Rd (w.alloc o) B A xs:=h.cM λp i=>World.cell?_alloc_lt w o p (by omega)
theorem Rd.setCell (h:Rd w B A xs){p:Addr}(d:B<=p.block)(u:Value):Rd (w.setCell p u) B A xs:=
 h.cM λq i=>World.cell?_setCell_other w p q u (λe=>by subst e;omega)
theorem Rd.grown (h:Rd w B A xs)(hg:w.grownBy w' row)(d:B<=w.heap.size)(hr:∀g,row=some g->B<=g):Rd w' B A xs:=
 h.cM λp i=>World.cell?_of_block (hg.block p.block (by omega) (λe=>by have:=hr _ e.symm;omega))
theorem Rd.nil (w:World) (B:Nat) (A:Option Addr):Rd w B A []:=λj u d=>by simp at d
theorem Rd.XC {c:Nat}(h:w.ownsRow base e 1 (.slice A n c) n xs):Rd w w.heap.size A xs:=λj u d=>by
 rcases h.2 with⟨i,r⟩|⟨g,k,m,i,s,q,_⟩
 ·subst r
  have:xs=[]:=cy (by simpa using h.1);subst this;simp at d
 ·injection i with p
  subst p;exact⟨g,0,rfl,(jP.1 q).1,by have:=h.cells (g:=g) rfl j u d;rw[Addr.add_lit] at this;exact this⟩
end
def bv (l:List UInt8):List Value:=l.map λc=>.int .u8 (c.toNat:Int)
theorem sY (l:List UInt8):(bv l).length=l.length:=by simp [bv]
theorem Vk (h:j<l.length):(bv l)[j]?=some (.int .u8 ((l[j]).toNat:Int)):=by simp [bv,h]
theorem Ka (l m:List UInt8):bv (l++m)=bv l++bv m:=by simp [bv]
theorem Vl:∀u∈bv l,u.oneCell'=true:=by
 intro u d;obtain⟨c,_,rfl⟩:=cD.1 d;rfl
theorem Rd.byte (h:Rd w B A (bv l))(hj:j<l.length):
  ∃b o,A=some ⟨b,o,none⟩/\b<B/\w.cell? ⟨b,o+j,none⟩=some (.int .u8 ((l[j]).toNat:Int)):=h j _ (Vk hj)
theorem QT (c:UInt8):c.toNat<256:=c.toNat_lt
theorem MH {d:Type}(l:List d)(k:Nat)(h:k<l.length):l.take (k+1)=l.take k++[l[k]]:=by rw[bw h]
theorem XN {a b:Value}(h:a=b):Ending.returned a=.returned b:=by rw[h]
theorem xF {k:IntKind}{a b:Int}(h:a=b):Value.int k a=.int k b:=by rw[h]
def me (x:BitVec 32):Int:=(x.toNat:Int)
theorem Cs (x:BitVec 32):0<=me x:=by unfold me;omega
theorem VQ (x:BitVec 32):me x<4294967296:=by have:=x.isLt;unfold me;omega
theorem M7 (x:BitVec 32):me x<=4294967295:=by have:=VQ x;omega
theorem uI (a b:BitVec 32):bits .xor .u32 (me a) (me b)=me (a ^^^ b):=by
 unfold me;rw[u32_xor_nat _ _ a.isLt b.isLt,BitVec.toNat_xor]
theorem uH (a b:BitVec 32):bits .and .u32 (me a) (me b)=me (a&&& b):=by
 unfold me;rw[u32_and_nat _ _ a.isLt b.isLt,BitVec.toNat_and]
theorem Ur (s:BitVec 32):bits .xor .u32 IntKind.u32.max (me s)=me (~~~ s):=by
 rw[show IntKind.u32.max=me (4294967295#32) by decide,uI];congr 1
def dg (l:List UInt8):ByteArray:=⟨l.toArray⟩
theorem gM (l:List UInt8):(dg l).data.toList=l:=by simp [dg]
theorem gx (l:List UInt8):(dg l).size=l.length:=by simp [dg,ByteArray.size]
theorem EY (w:World)(p:Rd w B A (bv l))(d dst e:TypeId)(hs:P.underlying d=some (.slice e))(k:P.underlying e=some (.int .u8))
  (hd:P.underlying dst=some .string) (cap:Nat):(convert d dst (.slice A l.length cap)).run P w=.ok (.string (dg l)) w:=by
 have u:strOfNums (l.map λc=>(c.toNat:Int))=dg l:=by
  simp only[strOfNums,dg,gL];congr 2
  conv=>rhs;rw[<-List.map_id l]
  apply pf;intro c _;simp
 by_cases m:l=[]
 ·subst m
  rcases A with _|⟨b,o,E⟩
  ·rw[run_convert_bytes_nil w d e hs k _ _ dst hd];rfl
  ·rw[run_convert_bytes_string w d dst e _ _ cap hs k hd,run_bytesToString w _ _ cap [] (by simp [loadCells,loadCellsFrom])]
   rfl
 ·have h:0<l.length:=by
   rcases l with _|⟨c,l⟩
   ·exact absurd rfl m
   ·simp
  obtain⟨b,o,rfl,_,_⟩:=p.byte h
  rw[run_convert_bytes_arg w d e hs k b o l.length cap (l.map λc=>(c.toNat:Int)) (by simp) (λi q=>by
   obtain⟨z,D,r,_,s⟩:=p.byte q;cases r;rw[s];simp [List.getD,q]) dst hd,u]
theorem jC (l:List UInt8):(dg l).toList=l:=ByteArray.toList_mk l
theorem NC (l m:List UInt8):((dg l).toList==(dg m).toList)=decide (l=m):=by
 rw[jC,jC];by_cases h:l=m
 ·simp [h]
 ·simp [h]
def uE (n:Nat):List Value:=List.replicate n (.int .u8 0)
theorem wC (n:Nat):(uE n).length=n:=by simp [uE]
theorem XP (t e:TypeId)(i:TypeInfo)(ht:P.underlying t=some (.slice e))(hi:P.info? e=some i)(hz:i.zero=some (.int .u8 0))(hs:i.size=1)(hb:i.bytes=1)
  (n c:Nat) (k:n<=c) (h:c<=281474976710656) (w:World):
  (Instr.makeSlice t (.int .i64 (n:Int)) (.int .i64 (c:Int))).run P w=.ok (.slice (some ⟨w.heap.size,0,none⟩) n c) (w.alloc (.cells (uE c).toArray e)):=by
 have d:=run_make (P:=P) w t e i (.int .u8 0) ht hi hz .i64 .i64 n c (by omega) (by omega) (by rw[hb];omega) (by omega);simp only[aX,hs,jZ] at d;rw[d];congr 3;have:(madeCells #[Value.int IntKind.u8 0] c).toList=uE c:=toList_madeCells_one _ _;rw[<-this];rfl
theorem Hz {d i:List Value}{cap:Nat}(h:nM w g e d.toArray)(hb:base<=g)(hl:d.length=cap)(hn:n<=cap)(hm:cap<=maxLen)(hx:d.take n=i):
  w.ownsRow base e 1 (.slice (some ⟨g,0,none⟩) n cap) n i:=by
 refine⟨?_,.inr ⟨g,cap,d.toArray,rfl,hb,h,hn,hm,by simp [hl],by simpa using hx⟩⟩;rw[<-hx,bX];omega
section
variable {P:Program}(w:World)
end
theorem Rd.kept {i:List Value}{m:List Value}(h:Rd w B A i)(Dk:w.ownsRow base e 1 v n m)(hg:w.grownBy w' v.ownBlock)(k:B<=base)(hb:base<=w.heap.size):Rd w' B A i:=
 h.grown hg (by omega) (λg d=>ma k (Dk.lt g d).1)
theorem Rd.lit (w:World)(t:TypeId)(cs:List Value):Rd (w.alloc (.cells cs.toArray t)) (w.heap.size+1) (some ⟨w.heap.size,0,none⟩) cs:=
 λj u hu=>⟨w.heap.size,0,rfl,by omega,by rw[kG,(nM.new w t cs.toArray).cell];simpa using hu⟩
def part (f:Nat->Value) (z:Value) (n k:Nat):Array Value:=Array.ofFn (n:=n) λi=>if i.val<k then f i.val else z
theorem Rd.cut (h:Rd w B A (bv l))(k:Nat):Rd w B A (bv (l.take k)):=by
 intro j u d;have i:bv (l.take k)=(bv l).take k:=by simp [bv]
 rw[i,mP] at d;split at d
 ·exact h j u d
 ·cases d
theorem R5 {a:Addr}(h:w.cell? a=some v):a.block<w.heap.size:=block_lt_of_cell h
inductive D where
 |val (v:Value)
 |seq (sz:Nat) (els:List (List D))
 |os (b o sz k n:Nat)
 |ep (b o sz i k:Nat)
 |rp (cs:List D)
 |agg (cs:List D)
 |eO (ds:List D)
 |fn (f:FuncId) (bc:List D)
 |fb (f:FuncId) (first bc:List D)
 |Ep
instance:Inhabited D:=⟨.val undef⟩
inductive cY where
 |row (t:TypeId) (o sz:Nat) (els:List (List D))
 |map (m:List (Value×D))
 |hid
 |obj (o:Obj)
abbrev aA:=Nat->Option cY
def aA.aU (H:aA) (b:Nat) (x:cY):aA:=λc=>if c=b then some x else H c
def aA.del (H:aA) (b:Nat):aA:=λc=>if c=b then none else H c
def aA.none:aA:=λ_=>Option.none
theorem aA.G7 (H:aA)(b:Nat)(x:cY):(H.aU b x) b=some x:=aD rfl
abbrev aK:=@aA.G7
theorem aA.IY {H:aA}{c:Nat}{x:cY}(h:c≠b):(H.aU b x) c=H c:=aC h
abbrev aJ:=@aA.IY
theorem aA.NV (H:aA)(b:Nat):(H.del b) b=Option.none:=aD rfl
abbrev lf:=@aA.NV
theorem aA.WI {H:aA}{c:Nat}(h:c≠b):(H.del b) c=H c:=aC h
abbrev bL:=@aA.WI
def aA.le (H H':aA):Prop:=∀b x,H b=some x->H' b=some x
theorem aA.le_refl (H:aA):H.le H:=λ_ _ h=>h
abbrev aF:=@aA.le_refl
theorem aA.le_trans {H H' d:aA}(h:H.le H')(h':H'.le d):H.le d:=λb x e=>h' b x (h b x e)
abbrev iL:=@aA.le_trans
theorem aA.le_none (H:aA):aA.none.le H:=λb x e=>by cases e
abbrev pQ:=@aA.le_none
theorem aA.Wo {H H':aA}{x:cY}(h:H.le H')(hb:H' b=Option.none):H.le (H'.aU b x):=λc y e=>by
 by_cases d:c=b
 ·subst d;rw[h _ _ e] at hb;cases hb
 ·rw[aJ d];exact h _ _ e
abbrev j5:=@aA.Wo
section
variable (w:World) (S:Nat->Prop)
mutual
def D.is:D->Value->Prop
 | .val u,v=>v=u
 | .seq sz els,v=>∃A c,v=.slice A els.length c/\els.length<=c/\(els=[]\/∃b o,A=some ⟨b,o,none⟩/\S b/\b<w.heap.size/\cK b sz o els)
 | .os b o sz k n,v=>∃A c,v=.slice A n c/\n<=c/\(c=0\/(A=some ⟨b,o+k * sz,none⟩/\∃cs t fr,w.heap[b]?=some (Obj.cells cs t fr)/\o+(k+c) * sz<=cs.size))
 | .ep b o sz i k,v=>v=.pointer (some ⟨b,o+i * sz+k,none⟩)
 | .rp cs,v=>∃b o,v=.pointer (some ⟨b,o,none⟩)/\S b/\b<w.heap.size/\bU b o cs
 | .agg cs,v=>∃vs,v=.agg ⟨vs⟩/\aW cs vs
 | .eO ds,v=>∃vs,v=.tuple ⟨vs⟩/\aT ds vs
 | .fn f bc,v=>∃vs,v=.func (.func f) #[] ⟨vs⟩/\aT bc vs
 | .fb f first bc,v=>∃us vs,v=.func (.func f) ⟨us⟩ ⟨vs⟩/\aT first us/\aT bc vs
 | .Ep,v=>∃A,v=.slice A 0 0
def bU (b:Nat):Nat->List D->Prop
 |_,[]=>True
 |o,d::ds=>(∃u,w.cell? ⟨b,o,none⟩=some u/\u.oneCell'=true/\D.is d u)/\bU b (o+1) ds
def cK (b sz:Nat):Nat->List (List D)->Prop
 |_,[]=>True
 |o,el::els=>el.length=sz/\bU b o el/\cK b sz (o+sz) els
def aW:List D->List Value->Prop
 |[],vs=>vs=[]
 |d::ds,vs=>∃u us,vs=u::us/\u.oneCell'=true/\D.is d u/\aW ds us
def aT:List D->List Value->Prop
 |[],vs=>vs=[]
 |d::ds,vs=>∃u us,vs=u::us/\D.is d u/\aT ds us
end
end
structure Ev (H:aA) (w:World) (H':aA) (w':World):Prop where
 os:w'.os=w.os
 tape:w'.tape=w.tape
 output:w'.output=w.output
 size:w.heap.size<=w'.heap.size
 cM:∀b:Nat,b<w.heap.size->H b=none->w'.heap[b]?=w.heap[b]?/\H' b=none
 shape:∀(b:Nat) cs t fr,w.heap[b]?=some (Obj.cells cs t fr)->∃nN De,w'.heap[b]?=some (Obj.cells nN t De)/\nN.size=cs.size
theorem Ev.refl (H:aA)(w:World):Ev H w H w:=⟨rfl,rfl,rfl,bh _,λ_ _ h=>⟨rfl,h⟩,λ_ _ _ d h=>⟨_,d,h,rfl⟩⟩
abbrev dr:=@Ev.refl
theorem Ev.trans {H H' H'':aA}{w'':World}(h:Ev H w H' w')(h':Ev H' w' H'' w''):Ev H w H'' w'' where
 os:=h'.os.trans h.os
 tape:=h'.tape.trans h.tape
 output:=h'.output.trans h.output
 size:=ma h.size h'.size
 cM:=λb hb hn=>by
  obtain⟨h1,h2⟩:=h.cM b hb hn;obtain⟨h3,h4⟩:=h'.cM b (zK hb h.size) h2;exact⟨h3.trans h1,h4⟩
 shape:=λb cs t fr hb=>by
  obtain⟨nN,De,h1,h2⟩:=h.shape b cs t fr hb;obtain⟨aJ6,aJ8,h3,h4⟩:=h'.shape b nN t De h1;exact⟨aJ6,aJ8,h3,h4.trans h2⟩
theorem Ev.less {H H1 H2:aA}(h:Ev H w H1 w')(aM:H2.le H1):Ev H w H2 w' where
 os:=h.os
 tape:=h.tape
 output:=h.output
 size:=h.size
 cM:=λb hb hn=>⟨(h.cM b hb hn).1,by
  cases e:H2 b with
  |none=>rfl
  |some x=>have h1:=(h.cM b hb hn).2;rw[aM _ _ e] at h1;cases h1⟩
 shape:=h.shape
section
variable {w w':World}{S S':Nat->Prop}
structure zT (S S':Nat->Prop) (w w':World):Prop where
 size:w.heap.size<=w'.heap.size
 cell:∀b:Nat,S b->b<w.heap.size->S' b/\w'.heap[b]?=w.heap[b]?
 shape:∀(b:Nat) cs t fr,w.heap[b]?=some (Obj.cells cs t fr)->∃nN De,w'.heap[b]?=some (Obj.cells nN t De)/\nN.size=cs.size
mutual
theorem D.yf (k:zT S S' w w'):∀(d:D) {v:Value},D.is w S d v->D.is w' S' d v
 | .val _,_,h=>h
 | .seq sz els,v,h=>by
  simp only[D.is] at h ⊢;obtain⟨A,c,h1,h2,h3⟩:=h;refine⟨A,c,h1,h2,?_⟩;rcases h3 with h3|⟨b,o,h3,h4,h5,h6⟩
  ·exact .inl h3
  ·exact .inr ⟨b,o,h3,(k.cell b h4 h5).1,zK h5 k.size,yF k b sz h4 h5 els h6⟩
 | .os b o sz i n,v,h=>by
  simp only[D.is] at h ⊢;obtain⟨A,c,h1,h2,h3⟩:=h;refine⟨A,c,h1,h2,?_⟩;rcases h3 with h3|⟨h3,cs,t,fr,h4,h5⟩
  ·exact .inl h3
  ·obtain⟨nN,De,h6,h7⟩:=k.shape b cs t fr h4
   exact .inr ⟨h3,nN,t,De,h6,by rw[h7];exact h5⟩
 | .ep _ _ _ _ _,_,h=>h
 | .rp cs,v,h=>by
  simp only[D.is] at h ⊢;obtain⟨b,o,h1,h2,h3,h4⟩:=h;exact⟨b,o,h1,(k.cell b h2 h3).1,zK h3 k.size,qT k b h2 h3 cs h4⟩
 | .agg cs,v,h=>by
  simp only[D.is] at h ⊢;obtain⟨vs,h1,h2⟩:=h;exact⟨vs,h1,bO k cs h2⟩
 | .eO ds,v,h=>by
  simp only[D.is] at h ⊢;obtain⟨vs,h1,h2⟩:=h;exact⟨vs,h1,fF k ds h2⟩
 | .fn f ds,v,h=>by
  simp only[D.is] at h ⊢;obtain⟨vs,h1,h2⟩:=h;exact⟨vs,h1,fF k ds h2⟩
 | .fb f es ds,v,h=>by
  simp only[D.is] at h ⊢;obtain⟨us,vs,h1,h2,h3⟩:=h;exact⟨us,vs,h1,fF k es h2,fF k ds h3⟩
 | .Ep,v,h=>by simp only[D.is] at h ⊢;exact h
theorem qT (k:zT S S' w w')(b:Nat)(hS:S b)(hb:b<w.heap.size):∀(ds:List D) {o:Nat},bU w S b o ds->bU w' S' b o ds
 |[],_,_=>by simp only[bU]
 |d::ds,o,h=>by
  simp only[bU] at h ⊢;obtain⟨⟨u,h1,h2,h3⟩,h4⟩:=h;refine⟨⟨u,?_,h2,D.yf k d h3⟩,qT k b hS hb ds h4⟩;rw[<-h1];exact World.cell?_of_block (k.cell b hS hb).2
theorem yF (k:zT S S' w w')(b sz:Nat)(hS:S b)(hb:b<w.heap.size):∀(els:List (List D)) {o:Nat},cK w S b sz o els->cK w' S' b sz o els
 |[],_,_=>by simp only[cK]
 |el::els,o,h=>by
  simp only[cK] at h ⊢;exact⟨h.1,qT k b hS hb el h.2.1,yF k b sz hS hb els h.2.2⟩
theorem bO (k:zT S S' w w'):∀(ds:List D) {vs:List Value},aW w S ds vs->aW w' S' ds vs
 |[],_,h=>by simp only[aW] at h ⊢;exact h
 |d::ds,vs,h=>by
  simp only[aW] at h ⊢;obtain⟨u,us,h1,h2,h3,h4⟩:=h;exact⟨u,us,h1,h2,D.yf k d h3,bO k ds h4⟩
theorem fF (k:zT S S' w w'):∀(ds:List D) {vs:List Value},aT w S ds vs->aT w' S' ds vs
 |[],_,h=>by simp only[aT] at h ⊢;exact h
 |d::ds,vs,h=>by
  simp only[aT] at h ⊢;obtain⟨u,us,h1,h3,h4⟩:=h;exact⟨u,us,h1,D.yf k d h3,fF k ds h4⟩
end
abbrev j6:=@D.yf
end
def aA.others (H:aA):Nat->Prop:=λb=>H b=Option.none
theorem Ev.kept {H H':aA}(h:Ev H w H' w'):zT H.others H'.others w w':=
 ⟨h.size,λb i d=>⟨(h.cM b d i).2,(h.cM b d i).1⟩,h.shape⟩
theorem zT.less {H H':aA}(h:H'.le H)(w:World):zT H.others H'.others w w:=
 ⟨bh _,λb d _=>⟨(by
  unfold aA.others at d ⊢;cases e:H' b with
  |none=>rfl
  |some x=>rw[h _ _ e] at d;cases d),rfl⟩,λ_ _ _ i h=>⟨_,i,h,rfl⟩⟩
abbrev kK:=@zT.less
def KL (fr:Nat×Nat) (n:Nat):Prop:=fr.1=fr.2\/n<=fr.1
theorem KL.not {fr:Nat×Nat}(h:KL fr n):∀i,i<n->¬(fr.1<=i/\i<fr.2):=λi k d=>by rcases h with h|h <;> omega
def Stm (h:List Nat) (d:Nat):Prop:=(∀b∈h,b<d)/\h.Nodup
def Yw (w:World) (S:Nat->Prop) (h:Array MapEntry) (d:Nat) (m:List (Value×D)):Prop:=
 h.toList.map (·.key)=m.map (·.1)/\aT w S (m.map (·.2)) (h.toList.map (·.val))/\(m.map (·.1)).Nodup/\Stm (h.toList.map (·.born)) d
def jb (w:World) (H:aA) (b:Nat):cY->Prop
 | .row t o sz els=>∃cs fr,w.heap[b]?=some (Obj.cells cs t fr)/\KL fr cs.size/\o+els.length * sz<=cs.size/\cK w H.others b sz o els
 | .map m=>∃h d,w.heap[b]?=some (Obj.map h d)/\Yw w H.others h d m
 | .hid=>b<w.heap.size
 | .obj o=>w.heap[b]?=some o
def eF (w:World) (H:aA):Prop:=∀b x,H b=some x->jb w H b x
theorem eF.lt {H:aA}(h:eF w H){x:cY}(hb:H b=some x):b<w.heap.size:=by
 have d:=h b x hb;cases x with
 |row t o sz k=>obtain⟨cs,q,i,_⟩:=d;exact(jP.1 i).1
 |map m=>obtain⟨p,c,i,_⟩:=d;exact(jP.1 i).1
 |hid=>exact d
 |obj o=>exact(jP.1 d).1
def GLB:Nat->Option (List Value):=λg=>if g=0 then some [.int .i64 2,.int .i64 2,.int .i64 1,.int .i64 1] else if g=1 then some [.int .i64 2,.int .i64 2,.int .i64 2,.int .i64 2,.int .i64 2,.int .i64 2,.int .i64 2,.int .i64 1,.int .i64 2,.int .i64 1,.int .i64 1,.int .i64 1] else none
def wW (w:World) (H:aA):Prop:=∀g d,GLB g=some d->H g=none/\(∀v∈d,v.oneCell'=true)/\∃t h,w.heap[g]?=some (Obj.cells d.toArray t h)
theorem wW.ev {H H':aA}(g:wW w H)(h:Ev H w H' w'):wW w' H':=λk s e=>by
 obtain⟨p,m,t,i,d⟩:=g k s e;obtain⟨q,r⟩:=h.cM k (jP.1 d).1 p;exact⟨r,m,t,i,q.trans d⟩
theorem wW.le {d H:aA}(g:wW w H)(h:d.le H):wW w d:=λk q e=>by
 obtain⟨i,p⟩:=g k q e;refine⟨?_,p⟩;cases m:d k with
 |none=>rfl
 |some x=>rw[h k x m] at i;cases i
def FR (ro:Option Nat):Fence:={Fence.wide with round:=ro}
theorem uM {args:Array Value}{R:Ending->World->Prop}(h:Calls P f args w R):CallsIn (FR ro) n P f args w R:=
 (callsIn_wide (n:=n)).2 h
theorem mf {args:Array Value}{R:Ending->World->Prop}(h:CallsIn (FR ro) n P f args w R):Calls P f args w R:=
 (callsIn_wide (n:=n)).1 h
structure St where
 fr:Nat->D
 H:aA
 df:List Deferred
def St.put (s:St) (dst:Option Tmp) (d:D):St:=
 match dst with
 |some t=>{s with fr:=λx=>if x=t then d else s.fr x}
 |none=>s
def D.MW:Value->D
 | .agg cs=>if cs.toList.all Value.oneCell' then .agg (cs.toList.map .val) else .val (.agg cs)
 |v=>.val v
def gD (g:Nat):D:=match GLB g with
 |some d=>.rp (d.map .val)
 |none=>.val (.pointer (some ⟨g,0,none⟩))
def St.ev (s:St):Operand->D
 | .tmp t=>s.fr t
 | .const v=>D.MW v
 | .global g=>gD g
 | .func f=>.fn f []
def St.cJ (s:St) (H:aA):St:={s with H:=H}
structure Cx where
 P:Program
 ro:Option Nat
 n:Nat
 H0:aA
 w0:World
 gk:wW w0 H0
structure bj (cx:Cx) (s:St) (a:Act) (w:World):Prop where
 n:a.tmps.size=cx.n
 df:a.defers=s.df
 fr:∀t,D.is w s.H.others (s.fr t) (a.tmps.getD t undef)
 H:eF w s.H
 ev:Ev cx.H0 cx.w0 s.H w
def QQ (d:Cx) (Q:Exit->St->Prop):Exit->Act->World->Prop:=λe a w=>∃s,bj d s a w/\Q e s
def KK (d:Cx) (K:St->Prop):Act->World->Prop:=λa w=>∃s,bj d s a w/\K s
def W (d:Cx) (c:Code) (Q:Exit->St->Prop) (s:St):Prop:=
 ∀a w,bj d s a w->c.wpIn (FR d.ro) 9 d.P (QQ d Q) a w
def WL (d:Cx) (aY:Array Oper) (l:List Oper) (Q:Exit->St->Prop) (s:St):Prop:=
 ∀a w,bj d s a w->wpListIn (FR d.ro) 9 d.P aY (QQ d Q) l a w
def Qw:Exit->Act->World->Prop:=λ_ _ _=>False
def WO (d:Cx) (o:Oper) (K:St->Prop) (s:St):Prop:=
 ∀a w,bj d s a w->o.wpIn (FR d.ro) 9 d.P a w (KK d K) Qw
theorem oL {S:Nat->Prop}:∀(vs:List Value),(∀v∈vs,v.oneCell'=true)->aW w S (vs.map .val) vs
 |[],_=>by simp [aW]
 |v::vs,h=>by
  simp only[cC,aW,D.is];exact⟨v,vs,rfl,h v (by simp),rfl,oL vs λu hu=>h u (by simp [hu])⟩
theorem D.XB {S:Nat->Prop}(v:Value):D.is w S (D.MW v) v:=by
 cases v with
 |agg cs=>
  simp only[D.MW]
  split
  ·rename_i h
   simp only[D.is]
   exact⟨cs.toList,by simp,oL _ (λv d=>(dK.1 h) v d)⟩
  ·simp only[D.is]
 |_=>simp only[D.MW,D.is]
theorem bj.Xo {d:Cx}{s:St}(m:bj d s a w):wW w s.H:=d.gk.ev m.ev
theorem xc {S:Nat->Prop}{fr:Nat×Nat}{all:List Value}(hb:w.heap[b]?=some (Obj.cells all.toArray t fr)):∀(vs:List Value) (o:Nat),all.drop o=vs->(∀v∈vs,v.oneCell'=true)->bU w S b o (vs.map .val)
 |[],o,_,_=>by simp [bU]
 |v::vs,o,h,h1=>by
  simp only[cC,bU];have h0:all[o]?=some v:=by
   have:=ai (λl=>l[0]?) h;simpa using this
  refine⟨⟨v,?_,h1 v (by simp),by simp only[D.is]⟩,xc hb vs (o+1) (by rw[<-pP,h] <;> rfl) λu d=>h1 u (by simp [d])⟩;simp [World.cell?,hb,h0]
theorem Yd {H:aA}(m:wW w H)(g:Nat):D.is w H.others (gD g) (.pointer (some ⟨g,0,none⟩)):=by
 unfold gD;split
 ·rename_i h p
  obtain⟨k,i,t,q,d⟩:=m g h p;simp only[D.is];exact⟨g,0,rfl,k,(jP.1 d).1,xc d h 0 (by simp) i⟩
 ·simp only[D.is]
theorem bj.nz {d:Cx}{s:St}(m:bj d s a w)(x:Operand):D.is w s.H.others (s.ev x) (a.eval x):=by
 cases x with
 |tmp t=>exact m.fr t
 |const v=>exact D.XB v
 |global g=>exact Yd m.Xo g
 |func f=>simp only[St.ev,Act.eval,D.is,aT];exact⟨[],rfl,rfl⟩
theorem bj.go {d:Cx}{s:St}(m:bj d s a w){H':aA}(h:Ev s.H w H' w')(i:eF w' H'):bj d (s.cJ H') a w':=
 ⟨m.n,m.df,λt=>j6 h.kept _ (m.fr t),i,m.ev.trans h⟩
theorem eF.less {H H':aA}(hH:eF w H)(h:H'.le H):eF w H':=λb x hb=>by
  have h0:=hH b x (h _ _ hb);cases x with
  |row t o sz els=>
   obtain⟨cs,fr,h1,h2,h3,h4⟩:=h0
   refine⟨cs,fr,h1,h2,h3,?_⟩
   exact aFK h w b sz els h4
  |map mm=>
   obtain⟨es,c,h1,h2,h3,h4⟩:=h0
   exact⟨es,c,h1,h2,fF (kK h w) _ h3,h4⟩
  |hid=>exact h0
  |obj o=>exact h0
where
 aEp {H H':aA}(h:H'.le H) (w:World) (b:Nat):∀(ds:List D) {o:Nat},bU w H.others b o ds->bU w H'.others b o ds
  |[],_,_=>by simp only[bU]
  |d::ds,o,h0=>by
   simp only[bU] at h0 ⊢;obtain⟨⟨u,h1,h2,h3⟩,h4⟩:=h0;exact⟨⟨u,h1,h2,j6 (kK h w) d h3⟩,aEp h w b ds h4⟩
 aFK {H H':aA}(h:H'.le H) (w:World) (b sz:Nat):∀(els:List (List D)) {o:Nat},cK w H.others b sz o els->cK w H'.others b sz o els
  |[],_,_=>by simp only[cK]
  |el::els,o,h0=>by
   simp only[cK] at h0 ⊢;exact⟨h0.1,aEp h w b el h0.2.1,aFK h w b sz els h0.2.2⟩
theorem bj.less {d:Cx}{s:St}(m:bj d s a w){H':aA}(h:H'.le s.H):bj d (s.cJ H') a w:=
 ⟨m.n,m.df,λt=>j6 (kK h w) _ (m.fr t),m.H.less h,m.ev.less h⟩
theorem qB {k:Type}(l:Array k)(i j:Nat)(x d:k)(hi:i<l.size):(l.setIfInBounds i x).getD j d=if j=i then x else l.getD j d:=by
 simp only[nK,Array.getElem?_setIfInBounds];by_cases h:j=i
 ·subst h;simp [hi]
 ·rw[aC (λe=>h e.symm),aC h]
theorem bj.put {k:Cx}{s:St}(m:bj k s a w){dst:Option Tmp}{d:D}(hd:∀t,dst=some t->t<k.n)(h:D.is w s.H.others d v):bj k (s.put dst d) (a.put dst v) w:=by
 cases dst with
 |none=>exact m
 |some t=>
  refine⟨by simpa [Act.put] using m.n,m.df,λx=>?_,m.H,m.ev⟩
  have p:t<a.tmps.size:=by rw[m.n];exact hd t rfl
  simp only[Act.put,St.put]
  rw[qB _ _ _ _ _ p]
  by_cases i:x=t
  ·rw[aD i,aD i];exact h
  ·rw[aC i,aC i];exact m.fr x
section aJX
variable {cx:Cx}{Q Q':Exit->St->Prop}{s:St}
theorem nA (h:W cx c Q s)(i:∀e s,Q e s->Q' e s):W cx c Q' s:=λa w m=>
 wpIn_mono (h a w m) λe _ _ ⟨d,k,q⟩=>⟨d,k,i e d q⟩
theorem lB (H':aA)(h':H'.le s.H)(h:W cx c Q (s.cJ H')):W cx c Q s:=λa w m=>h a w (m.less h')
theorem z8 (h:Q .normal s):W cx .skip Q s:=λ_ _ m=>wpIn_skip ⟨s,m,h⟩
theorem uy {l:Nat}(h:Q .normal s):W cx (.label l) Q s:=λ_ _ m=>wpIn_label ⟨s,m,h⟩
theorem zY (h:Q (.exit id) s):W cx (.exit id) Q s:=λ_ _ m=>wpIn_exit ⟨s,m,h⟩
theorem zZ (h:Q .ret s):W cx .ret Q s:=λ_ _ m=>wpIn_ret ⟨s,m,h⟩
def dR (N:St->Prop) (Q:Exit->St->Prop):Exit->St->Prop
 | .normal,s=>N s
 |e,s=>Q e s
theorem bW (h:W cx x (dR (W cx y Q) Q) s):W cx (.seq x y) Q s:=λa w m=>
 wpIn_seq (wpIn_mono (h a w m) λe i w' ⟨k,d,q⟩=>by
  cases e <;> first
   |exact q i w' d
   |exact⟨k,d,q⟩)
def eT (id:Nat) (Q:Exit->St->Prop):Exit->St->Prop
 | .exit d,s=>if d=id then Q .normal s else Q (.exit d) s
 |e,s=>Q e s
theorem nP (h:W cx c (eT id Q) s):W cx (.block id c) Q s:=λa w m=>
 wpIn_block (wpIn_mono (h a w m) λe r w' ⟨p,k,q⟩=>by
  cases e with
  |exit i=>
   simp only[eT] at q
   simp only[Exit.inBlock]
   by_cases d:i=id
   ·rw[aD d] at q ⊢;exact⟨p,k,q⟩
   ·rw[aC d] at q ⊢;exact⟨p,k,q⟩
  |_=>exact⟨p,k,q⟩)
theorem V0 {c:Operand}(b:Bool)(hb:s.ev c=.val (.bool b))(ht:b=true->W cx x Q s)(hf:b=false->W cx y Q s):W cx (.cond c x y) Q s:=λa w m=>by
 have h:=m.nz c;rw[hb] at h;simp only[D.is] at h;exact wpIn_cond_split h (λe=>ht e a w m) (λe=>hf e a w m)
theorem Od (p:Nat->Prop)(h:∃k,p k):∃k,p k/\∀j,p j->k<=j:=by
 classical
 obtain⟨k,m⟩:=h
 induction k using Nat.strongRecOn with
 |_ k r=>
  by_cases h:∃j,j<k/\p j
  ·obtain⟨j,d,q⟩:=h
   exact r j d q
  ·exact⟨k,m,λj d=>by
    rcases fv j k with i|wY
    ·exact absurd ⟨j,i,d⟩ h
    ·exact wY⟩
theorem Mi {c:Code}(I:St->Prop)(d:St->Nat)(H':aA)(J:H'.le s.H)(h0:I (s.cJ H'))
  (round:∀s,I s->W cx c (dR (λr=>∃H',H'.le r.H/\I (r.cJ H')/\d (r.cJ H')<d s) Q) s):W cx (.loop c) Q s:=λa w m=>by
 obtain⟨f,F⟩:∃f:Act×World->Nat,∀x:Act×World,(∃s,bj cx s x.1 x.2/\I s)->(∃s,bj cx s x.1 x.2/\I s/\d s=f x)/\∀s,bj cx s x.1 x.2->I s->f x<=d s:=by
  refine⟨λx=>Classical.epsilon λk=>(∃s,bj cx s x.1 x.2/\I s/\d s=k)/\∀s,bj cx s x.1 x.2->I s->k<=d s,λx ⟨s,K,i⟩=>?_⟩;refine Em (p:=λk=>(∃s,bj cx s x.1 x.2/\I s/\d s=k)/\∀s,bj cx s x.1 x.2->I s->k<=d s) ?_;obtain⟨k,L,M⟩:=Od (λk=>∃s,bj cx s x.1 x.2/\I s/\d s=k) ⟨_,s,K,i,rfl⟩;exact⟨k,L,λs N R=>M _ ⟨s,N,R,rfl⟩⟩
 refine wpIn_loop (λa w=>∃s,bj cx s a w/\I s) (λa w=>f (a,w)) ⟨_,m.less J,h0⟩ ?_;rintro a w z;obtain⟨⟨s,m,S,E⟩,_⟩:=F (a,w) z;rw[<-E];refine wpIn_mono (round s S a w m) λe G w' ⟨r,u,q⟩=>?_;cases e with
 |normal=>
  obtain⟨T,i,h,D⟩:=q
  exact⟨⟨_,u.less i,h⟩,Nat.lt_of_le_of_lt ((F (G,w') ⟨_,u.less i,h⟩).2 _ (u.less i) h) D⟩
 |_=>exact⟨r,u,q⟩
theorem uz {aY:List Oper}(h:WL cx aY.toArray aY Q s):W cx (.region id aY.toArray false) Q s:=λa w m=>wpIn_region_lit (h a w m)
theorem Cw (h:Q .normal s):WL cx aY [] Q s:=λ_ _ m=>⟨s,m,h⟩
theorem sX {K d:St->Prop}(h:WO cx o K s)(hk:∀s,K s->d s):WO cx o d s:=λa w m=>
 Oper.wpIn_mono (λ_ _ ⟨i,k,q⟩=>⟨i,k,hk i q⟩) (h a w m)
theorem tD {F:Fence}{n:Nat}{P:Program}{o:Oper}{a:Act}{w:World}{K:Act->World->Prop}{Q:Exit->Act->World->Prop}(h:o.wpIn F n P a w K Qw):o.wpIn F n P a w K Q:=by
 unfold Oper.wpIn at *;refine⟨h.1,?_⟩;have d:=h.2;generalize (o.semAt F.round a.eval).run P w=r at *;cases r with
 |ok x w'=>
  cases x <;> simp only[Oper.uponIn] at d ⊢ <;>
   first
    |exact d
    |exact⟨d.1,CallsIn.mono d.2 (λe m i=>by cases e <;> first|exact i|exact i.elim|(obtain⟨_,_,k⟩:=i;exact k.elim))⟩
    |exact⟨d.1,RoundIn.mono d.2 (λe m i=>by cases e <;> first|exact i|exact i.elim|(obtain⟨_,_,k⟩:=i;exact k.elim))⟩
 |halt x w'=>cases x <;> simp only[Oper.uponIn] at d ⊢ <;> first|exact d|exact d.elim
theorem lA {d:List Oper}(hg:o.guard=none)(h:WO cx o (WL cx aY d Q) s):WL cx aY (o::d) Q s:=λa w m=>by
 refine wpListIn_plain hg λK k=>?_;exact Oper.wpIn_mono (λi w' ⟨r,p,q⟩=>k _ _ (q i w' p)) (tD (h a w m))
def j9 (aY:Array Oper) (j:Nat):Option Tmp:=(aY[j]?).bind (·.dst)
theorem gw:∀f,o.about P w a.eval=some f->(FR ro).fn f:=λ_ _=>trivial
theorem pj {k:List Oper}{d:Bool}{t:Tmp}(hg:o.guard=some (j,d))(hj:j9 aY j=some t)(ht:t<cx.n)(hd:∀t,o.dst=some t->t<cx.n)
  (h:(∃b,s.fr t=.val (.bool b)/\(b=d->WO cx o (WL cx aY k Q) s)/\(b= !d->WL cx aY k Q (s.put o.dst (.val undef))))\/(s.fr t=.val undef/\WL cx aY k Q (s.put o.dst (.val undef)))):WL cx aY (o::k) Q s:=λa w m=>by
 refine wpListIn_step λK E=>?_;have r:yielded aY a.tmps j=match a.tmps[t]? with|some (.bool b)=>some b|_=>none:=by
  unfold yielded;unfold j9 at hj;rw[hj];rfl
 have G:t<a.tmps.size:=by rw[m.n];exact ht
 have u:a.tmps[t]?=some (a.tmps.getD t undef):=by simp [G]
 have p:=m.fr t;have i:Region.wanted o (yielded aY a.tmps)=(yielded aY a.tmps j==some d):=by unfold Region.wanted;rw[hg]
 rcases h with⟨b,F,L,z⟩|⟨F,z⟩
 ·rw[F] at p
  simp only[D.is] at p;rw[u,p] at r;simp only at r;rw[r] at i;by_cases e:b=d
  ·subst e
   rw[aD (by rw[i];simp)];exact Oper.wpIn_mono (λH w' ⟨N,M,q⟩=>E _ _ (q H w' M)) (tD (L rfl a w m))
  ·have I:b= !d:=by cases b <;> cases d <;> first|rfl|exact absurd rfl e
   have J:(some b==some d)=false:=by cases b <;> cases d <;> first|rfl|exact absurd rfl e
   rw[aC (by rw[i,J];simp)];refine⟨gw,E _ _ (z I _ _ (m.put hd ?_))⟩;simp only[D.is]
 ·rw[F] at p
  simp only[D.is] at p;rw[u,p] at r;simp only[undef] at r;rw[r] at i;rw[aC (by rw[i];simp)];refine⟨gw,E _ _ (z _ _ (m.put hd ?_))⟩;simp only[D.is]
end aJX
def Gj (P:Program) (f:FuncId):Prop:=∀(d:Array Value) (w:World),(callFunc f d).run P w=.ok (.enter f d) w
theorem jH {fn:Func}(hf:P.funcs[f]?=some fn)(mh:(fn.name== "runtime.NumGoroutine")=false)(hb:fn.body=some c):Gj P f:=by
 intro d w;have h:fn.name≠ "runtime.NumGoroutine" :=by simpa using mh
 simp [callFunc,hf,h,hb,mark]
def aN (P:Program) (f:FuncId) (ds:List D) (H:aA) (K:D->aA->Prop):Prop:=
 Gj P f/\∀(w:World) (i:List Value),aT w H.others ds i->eF w H->wW w H->Calls P f i.toArray w λe w'=>∃v d h,e=.returned v/\D.is w' h.others d v/\eF w' h/\Ev H w h w'/\K d h
theorem aN.mono {ds:List D}{H:aA}{K i:D->aA->Prop}(h:aN P f ds H K)(hk:∀d H',K d H'->i d H'):aN P f ds H i:=And.intro h.1 λw r m p q=>
 (h.2 w r m p q).mono λ_ _ ⟨v,d,H',a,b,c,e,k⟩=>⟨v,d,H',a,b,c,e,hk _ _ k⟩
abbrev gQ:=@aN.mono
def St.init (ds:List D) (H:aA):St:=⟨λt=>ds.getD t (.val undef),H,[]⟩
def Ew (i:Cx) (fn:Func) (s:St) (K:D->aA->Prop):Prop:=
 ∀a w,bj i s a w->∃v d h,(results fn a.tmps).run i.P w=.ok v w/\D.is w h.others d v/\h.le s.H/\K d h
theorem fo {S:Nat->Prop}:∀{ds:List D}{vs:List Value},aT w S ds vs->vs.length=ds.length
 |[],_,h=>by simp only[aT] at h;subst h;rfl
 |d::ds,vs,h=>by
  simp only[aT] at h;obtain⟨u,us,rfl,_,h⟩:=h;simp [fo h]
theorem iO {S:Nat->Prop}:∀{ds:List D}{vs:List Value},aT w S ds vs->∀(j:Nat) (d:D),ds[j]?=some d->∃v,vs[j]?=some v/\D.is w S d v
 |[],_,_,j,d,hd=>by simp at hd
 |d0::ds,vs,h,j,d,hd=>by
  simp only[aT] at h;obtain⟨u,us,rfl,h1,h2⟩:=h;cases j with
  |zero=>exact⟨u,rfl,by simp at hd;subst hd;exact h1⟩
  |succ j=>simpa using iO h2 j d (by simpa using hd)
def LK (d:Cx) (fn:Func) (K:D->aA->Prop):Exit->St->Prop
 | .normal,s| .ret,s=>s.df=[]/\Ew d fn s K
 |_,_=>False
theorem HI {fn:Func}{ds:List D}{H:aA}{K:D->aA->Prop}(N:Nat)(hf:P.funcs[f]?=some fn)(mh:(fn.name== "runtime.NumGoroutine")=false)(hb:fn.body=some c)(hN:fn.ntmps=N)(hl:ds.length<=N)
  (h:∀M (R:wW M H),W ⟨P,none,N,H,M,R⟩ c (LK ⟨P,none,N,H,M,R⟩ fn K) (St.init ds H)):aN P f ds H K:=And.intro (jH hf mh hb) λw z S hH I=>by
 refine mf (ro:=none) (n:=9) (callsIn_of_wp hf hb trivial ?_ rfl);have cd:=fo S;have m:bj ⟨P,none,N,H,w,I⟩ (St.init ds H) {tmps:=z.toArray++Array.replicate (fn.ntmps - z.toArray.size) undef,defers:=[]} w:=by
  refine⟨by simp;omega,rfl,λt=>?_,hH,dr _ _⟩;simp only[St.init];rcases fv t ds.length with s|wY
  ·obtain⟨v,i,k⟩:=iO S t ds[t] (by simp [s])
   have G:ds.getD t (.val undef)=ds[t]:=by simp [List.getD,s]
   have Z:(z.toArray++Array.replicate (fn.ntmps - z.toArray.size) undef).getD t undef=v:=by
    rw[nK,wF (by simp;omega)];simp [i]
   rw[G,Z];exact k
  ·have G:ds.getD t (.val undef)=.val undef:=by simp [List.getD,wY]
   rw[G];simp only[D.is];rw[nK,wD (by simp;omega),wG];split <;> rfl
 refine wpIn_mono (h w I _ _ m) λe E w' ⟨V,L,q⟩=>?_;have u:V.df=[]/\Ew ⟨P,none,N,H,w,I⟩ fn V K->E.defers=[]/\∃v,(results fn E.tmps).run P w'=.ok v w'/\∃X d p,Ending.returned v=.returned X/\D.is w' p.others d X/\eF w' p/\Ev H w p w'/\K d p:=by
  rintro⟨J,F⟩;obtain⟨v,d,p,i,k,r,h4⟩:=F E w' L;have T:=L.less r;exact⟨L.df.trans J,v,i,v,d,p,rfl,k,T.H,T.ev,h4⟩
 cases e with
 |normal=>
  obtain⟨i,v,k,r⟩:=u q
  exact⟨i,v,k,r⟩
 |ret=>
  obtain⟨i,v,k,r⟩:=u q
  exact⟨i,v,k,r⟩
 |_=>exact q.elim
inductive TD where
 |int (k:IntKind)
 |bool
 |string
 |slice (e:TypeId)
 |array (n:Nat) (e:TypeId)
 |struct (fs:List (Nat×TypeId))
 |ptr (e:TypeId)
 |map (k e:TypeId)
 |other
structure Ti where
 d:TD
 size:Nat
 bytes:Nat
 zero:Option (List Value)
def iI:TypeDesc->TD
 | .int k=>.int k
 | .bool=>.bool
 | .string=>.string
 | .slice e=>.slice e
 | .array n e=>.array n e
 | .struct fs=>.struct (fs.toList.map λf=>(f.offset,f.type))
 | .pointer e=>.ptr e
 | .map k e=>.map k e
 |_=>.other
def cG (P:Program) (t:TypeId):Option Ti:=
 match P.underlying t,P.info? t with
 |some d,some i=>some ⟨iI d,i.size,i.bytes,i.zero.map (·.cells.toList)⟩
 |_,_=>none
def TD.agg:TD->Bool
 | .array _ _| .struct _=>true
 |_=>false
theorem cZ {T:Ti}(h:cG P t=some T):∃d i,P.underlying t=some d/\P.info? t=some i/\T=⟨iI d,i.size,i.bytes,i.zero.map (·.cells.toList)⟩:=by
 unfold cG at h;split at h
 ·rename_i d i k m
  exact⟨d,i,k,m,by injection h with h;exact h.symm⟩
 ·cases h
theorem bH {d:TypeDesc}(h:P.underlying t=some d)(w:World):(underlying t).run P w=.ok d w:=run_underlying h w
theorem sr {T:Ti}(h:cG P t=some T)(w:World):(isAgg t).run P w=.ok T.d.agg w:=by
 obtain⟨d,i,k,m,rfl⟩:=cZ h;unfold isAgg;simp only[Sem.run_bind,bH k,Result.andThen];cases d <;> rfl
theorem ek {T:Ti}(h:cG P t=some T)(w:World):(sizeOf t).run P w=.ok T.size w:=by
 obtain⟨d,i,m,k,rfl⟩:=cZ h;unfold sizeOf typeInfo program;simp [Sem.run,k]
theorem qG {T:Ti}(h:cG P t=some T)(w:World):∃i,(typeInfo t).run P w=.ok i w/\T.size=i.size/\T.bytes=i.bytes/\T.zero=i.zero.map (·.cells.toList)/\P.info? t=some i:=by
 obtain⟨d,i,m,k,rfl⟩:=cZ h;refine⟨i,?_,rfl,rfl,rfl,k⟩;unfold typeInfo program;simp [Sem.run,k]
section
variable {w:World}{S:Nat->Prop}
theorem cj:∀{cs:List D}{vs:List Value},aW w S cs vs->vs.length=cs.length
 |[],_,h=>by simp only[aW] at h;subst h;rfl
 |d::ds,vs,h=>by
  simp only[aW] at h;obtain⟨u,us,rfl,_,_,h⟩:=h;simp [cj h]
theorem lD:∀{cs:List D}{vs:List Value},aW w S cs vs->∀v∈vs,v.oneCell'=true
 |[],_,h,v,hv=>by simp only[aW] at h;subst h;cases hv
 |d::ds,vs,h,v,hv=>by
  simp only[aW] at h;obtain⟨u,us,rfl,h1,_,h⟩:=h;rcases bV.1 hv with rfl|hv
  ·exact h1
  ·exact lD h v hv
theorem cg:∀{cs ds:List D}{vs us:List Value},aW w S cs vs->aW w S ds us->aW w S (cs++ds) (vs++us)
 |[],ds,vs,us,h,h'=>by simp only[aW] at h;subst h;exact h'
 |d::cs,ds,vs,us,h,h'=>by
  simp only[aW] at h;obtain⟨u,i,rfl,h1,h2,h⟩:=h;simp only[dJ,aW];exact⟨u,_,rfl,h1,h2,cg h h'⟩
theorem fX:∀{cs:List D}{vs:List Value}(k:Nat),aW w S cs vs->aW w S (cs.drop k) (vs.drop k)
 |cs,vs,0,h=>h
 |[],vs,k+1,h=>by simp only[aW] at h;subst h;simp [aW]
 |d::cs,vs,k+1,h=>by
  simp only[aW] at h;obtain⟨u,i,rfl,h1,h2,h⟩:=h;exact fX k h
theorem fY:∀{cs:List D}{vs:List Value}(k:Nat),aW w S cs vs->aW w S (cs.take k) (vs.take k)
 |cs,vs,0,h=>by simp [aW]
 |[],vs,k+1,h=>by simp only[aW] at h;subst h;simp [aW]
 |d::cs,vs,k+1,h=>by
  simp only[aW] at h;obtain⟨u,i,rfl,h1,h2,h⟩:=h;simp only[List.take_succ_cons,aW];exact⟨u,_,rfl,h1,h2,fY k h⟩
theorem vJ:∀{cs:List D}{vs:List Value},aW w S cs vs->∀(j:Nat) (d:D),cs[j]?=some d->∃v,vs[j]?=some v/\v.oneCell'=true/\D.is w S d v
 |[],_,_,j,d,hd=>by simp at hd
 |d0::ds,vs,h,j,d,hd=>by
  simp only[aW] at h;obtain⟨u,us,rfl,h1,h2,h3⟩:=h;cases j with
  |zero=>exact⟨u,rfl,h1,by simp at hd;subst hd;exact h2⟩
  |succ j=>simpa using vJ h3 j d (by simpa using hd)
theorem mR:∀(vs:List Value),(∀v∈vs,v.oneCell'=true)->aW w S (vs.map .val) vs
 |[],_=>by simp [aW]
 |v::vs,h=>by
  simp only[cC,aW,D.is];exact⟨v,vs,rfl,h v (by simp),rfl,mR vs λu hu=>h u (by simp [hu])⟩
theorem cf:∀{cs:List D}{o:Nat},bU w S b o cs->∃vs,aW w S cs vs/\∀(j:Nat) (v:Value),vs[j]?=some v->w.cell? ⟨b,o+j,none⟩=some v
 |[],_,_=>⟨[],by simp [aW],λj v h=>by simp at h⟩
 |d::ds,o,h=>by
  simp only[bU] at h;obtain⟨⟨u,h1,h2,h3⟩,h4⟩:=h;obtain⟨vs,i,k⟩:=cf h4;refine⟨u::vs,by simp only[aW];exact⟨u,vs,rfl,h2,h3,i⟩,λj v hj=>?_⟩;cases j with
  |zero=>simp at hj;subst hj;exact h1
  |succ j=>rw[show o+(j+1)=o+1+j by omega];exact k j v (by simpa using hj)
theorem dD:∀{cs:List D}{o:Nat}{vs:List Value},aW w S cs vs->(∀(j:Nat) (v:Value),vs[j]?=some v->w.cell? ⟨b,o+j,none⟩=some v)->bU w S b o cs
 |[],_,_,_,_=>by simp only[bU]
 |d::ds,o,vs,h,hc=>by
  simp only[aW] at h;obtain⟨u,us,rfl,h1,h2,h3⟩:=h;simp only[bU];exact⟨⟨u,by simpa using hc 0 u rfl,h1,h2⟩,dD h3 λj v hj=>by
   have:=hc (j+1) v (by simpa using hj);rwa[show o+(j+1)=o+1+j by omega] at this⟩
theorem iQ {o:Nat}{cs:List D}(h:bU w S b o cs)(k:Nat):bU w S b (o+k) (cs.drop k):=by
 obtain⟨m,d,i⟩:=cf h;refine dD (fX k d) λj v hj=>?_;rw[show o+k+j=o+(k+j) by omega];exact i _ v (by simpa [nn] using hj)
theorem qU {o:Nat}{cs:List D}(h:bU w S b o cs)(k:Nat):bU w S b o (cs.take k):=by
 obtain⟨p,i,m⟩:=cf h;refine dD (fY k i) λj v d=>?_;refine m j v ?_;rw[mP] at d;split at d
 ·exact d
 ·cases d
theorem ca:∀{els:List (List D)}{o:Nat},cK w S b sz o els->∀(i:Nat) (el:List D),els[i]?=some el->el.length=sz/\bU w S b (o+i * sz) el
 |[],_,_,i,el,h=>by simp at h
 |e::els,o,h,i,el,hi=>by
  simp only[cK] at h;cases i with
  |zero=>simp at hi;subst hi;simpa using ⟨h.1,h.2.1⟩
  |succ i=>
   have:=ca h.2.2 i el (by simpa using hi)
   rw[show o+(i+1) * sz=o+sz+i * sz by rw[dc];omega]
   exact this
theorem dV:∀{els:List (List D)}{o:Nat},(∀(i:Nat) (el:List D),els[i]?=some el->el.length=sz/\bU w S b (o+i * sz) el)->cK w S b sz o els
 |[],_,_=>by simp only[cK]
 |e::els,o,h=>by
  simp only[cK];have h0:=h 0 e rfl;refine⟨h0.1,by simpa using h0.2,dV λi el hi=>?_⟩;have:=h (i+1) el (by simpa using hi);rwa[show o+(i+1) * sz=o+sz+i * sz by rw[dc];omega] at this
theorem mn {o:Nat}{els:List (List D)}(h:cK w S b sz o els)(k:Nat):cK w S b sz (o+k * sz) (els.drop k):=
 dV λi d hi=>by
  have:=ca h (k+i) d (by simpa [nn] using hi);rwa[show o+k * sz+i * sz=o+(k+i) * sz by rw[dc];omega]
theorem ko {o:Nat}{els:List (List D)}(h:cK w S b sz o els)(k:Nat):cK w S b sz o (els.take k):=
 dV λi m d=>by
  rw[mP] at d;split at d
  ·exact ca h i m d
  ·cases d
end
theorem fU {P:Program}(b:Nat)(t:TypeId)(fr:Nat×Nat):∀(vs:List Value) (o i:Nat) (w:World) (cs:Array Value),w.heap[b]?=some (Obj.cells cs t fr)->KL fr cs.size->o+i+vs.length<=cs.size->(∀v∈vs,v.oneCell'=true)->
  ∃w',(storeCells ⟨b,o,none⟩ vs i).run P w=.ok () w'/\w'.os=w.os/\w'.tape=w.tape/\w'.output=w.output/\w'.heap.size=w.heap.size/\(∀c,c≠b->w'.heap[c]?=w.heap[c]?)/\
   ∃k,w'.heap[b]?=some (Obj.cells k t fr)/\k.size=cs.size/\(∀j v,vs[j]?=some v->k[o+i+j]?=some v)/\∀j,(j<o+i\/o+i+vs.length<=j)->k[j]?=cs[j]?
 |[],o,i,w,cs,hb,_,_,_=>⟨w,rfl,rfl,rfl,rfl,rfl,λ_ _=>rfl,cs,hb,rfl,λj v h=>by simp at h,λ_ _=>rfl⟩
 |v::vs,o,i,w,cs,hb,xu,cd,h1=>by
  have d:o+i<cs.size:=by simp at cd;omega
  have q:(⟨b,o,none⟩:Addr).add i=⟨b,o+i,none⟩:=Addr.add_lit _ _ _;have p:w.cell? ⟨b,o+i,none⟩=some cs[o+i]:=by rw[cell_of_row w b (o+i) cs t fr hb];simp [d]
  have s:w.frozen? ⟨b,o+i,none⟩=false:=by
   have:=xu.not (o+i) d;simp only[World.frozen?,hb];simpa using λh=>Nat.le_of_not_lt (λr=>this ⟨h,r⟩)
  have m:(w.setCell ⟨b,o+i,none⟩ v).heap[b]?=some (Obj.cells (cs.setIfInBounds (o+i) v) t fr):=by simp [World.setCell,pb,hb]
  obtain⟨w',r,E,F,G,e4,H,k,I,h5,J,z⟩:=fU b t fr vs o (i+1) (w.setCell ⟨b,o+i,none⟩ v) _ m (by simpa using xu) (by simp at cd ⊢;omega) (λu K=>h1 u (by simp [K]));refine⟨w',?_,E,F,G,by simpa [World.setCell] using e4,λc D=>(H c D).trans (Below.heap_setCell w _ v c D),k,I,by simpa using h5,?_,?_⟩
  ·simp only[storeCells,Sem.run_bind,q,run_store P w _ v _ (h1 v (by simp)),p,s]
   exact r
  ·intro j u hj
   cases j with
   |zero=>
    simp at hj
    subst hj
    rw[rM,z (o+i) (by omega)]
    simp [d]
   |succ j=>rw[show o+i+(j+1)=o+(i+1)+j by omega];exact J j u (by simpa using hj)
  ·intro j hj
   rw[z j (by simp at hj ⊢;omega)];rw[Array.getElem?_setIfInBounds];rw[aC (by simp at hj;omega)]
def D.cells:D->Option (List D)
 | .agg cs=>some cs
 | .val (.agg _)| .val (.tuple _)| .eO _=>none
 |d=>some [d]
theorem D.vK {S:Nat->Prop}{d:D}{cs:List D}(h:D.is w S d v)(hc:d.cells=some cs):aW w S cs v.cells.toList:=by
 have one:∀{d:D}{v:Value},D.is w S d v->v.oneCell'=true->aW w S [d] v.cells.toList:=λ{d v} h p=>by
  have:v.cells= #[v]:=by cases v <;> first|rfl|cases p
  rw[this];simp only[aW];exact⟨v,[],rfl,p,h,rfl⟩
 cases d with
 |agg r=>
  simp only[D.cells] at hc
  injection hc with hc
  subst hc
  simp only[D.is] at h
  obtain⟨q,rfl,h⟩:=h
  exact h
 |val u=>
  have e:v=u:=by simpa only[D.is] using h
  subst e
  cases v <;> simp only[D.cells] at hc <;> first|(injection hc with hc;subst hc;exact one h rfl)|cases hc
 |eO r=>simp only[D.cells] at hc;cases hc
 |seq sz s=>
  simp only[D.cells] at hc
  injection hc with hc
  subst hc
  have m:=h
  simp only[D.is] at m
  obtain⟨A,c,rfl,_⟩:=m
  exact one h rfl
 |os b o sz k n=>
  simp only[D.cells] at hc
  injection hc with hc
  subst hc
  have m:=h
  simp only[D.is] at m
  obtain⟨A,c,rfl,_⟩:=m
  exact one h rfl
 |ep b o sz i k=>
  simp only[D.cells] at hc
  injection hc with hc
  subst hc
  have m:=h
  simp only[D.is] at m
  subst m
  exact one h rfl
 |rp cs=>
  simp only[D.cells] at hc
  injection hc with hc
  subst hc
  have m:=h
  simp only[D.is] at m
  obtain⟨b,o,rfl,_⟩:=m
  exact one h rfl
 |fn f cs=>
  simp only[D.cells] at hc
  injection hc with hc
  subst hc
  have m:=h
  simp only[D.is] at m
  obtain⟨q,rfl,_⟩:=m
  exact one h rfl
 |fb f z cs=>
  simp only[D.cells] at hc
  injection hc with hc
  subst hc
  have m:=h
  simp only[D.is] at m
  obtain⟨E,q,rfl,_⟩:=m
  exact one h rfl
 |Ep=>
  simp only[D.cells] at hc
  injection hc with hc
  subst hc
  have m:=h
  simp only[D.is] at m
  obtain⟨A,rfl⟩:=m
  exact one h rfl
theorem gN {H:aA}(o:Obj)(x:cY)(hH:eF w H):Ev H w (H.aU w.heap.size x) (w.alloc o) where
 os:=rfl
 tape:=rfl
 output:=rfl
 size:=by simp
 cM:=λb hb hn=>⟨Below.heap_alloc w o b hb,by rw[aJ (by omega)];exact hn⟩
 shape:=λb cs t fr hb=>⟨cs,fr,by rw[Below.heap_alloc w o b (jP.1 hb).1];exact hb,rfl⟩
theorem ff {H:aA}(d:eF w H):H w.heap.size=none:=by
 cases e:H w.heap.size with
 |none=>rfl
 |some x=>exact absurd (d.lt e) (by omega)
theorem Ev.jb {H H':aA}(h:Ev H w H' w'){x:cY}(hb:w'.heap[b]?=w.heap[b]?)(hx:jb w H b x):jb w' H' b x:=by
 cases x with
 |row t o sz s=>
  obtain⟨cs,z,d,k,p,q⟩:=hx
  refine⟨cs,z,hb.trans d,k,p,dV λi r I=>?_⟩
  obtain⟨D,E⟩:=ca q i r I
  refine⟨D,?_⟩
  obtain⟨K,F,G⟩:=cf E
  refine dD (bO h.kept r F) λj v J=>?_
  rw[<-G j v J]
  exact World.cell?_of_block hb
 |map m=>
  obtain⟨u,c,d,k,p,q⟩:=hx
  exact⟨u,c,hb.trans d,k,fF h.kept _ p,q⟩
 |hid=>exact zK hx h.size
 |obj o=>exact hb.trans hx
theorem eF.alloc {H:aA}(h:eF w H){o:Obj}{x:cY}(hx:jb (w.alloc o) (H.aU w.heap.size x) w.heap.size x):eF (w.alloc o) (H.aU w.heap.size x):=λb y d=>by
 by_cases e:b=w.heap.size
 ·subst e
  rw[aK] at d;injection d with d
  subst d;exact hx
 ·rw[aJ e] at d
  exact(gN o x h).jb (Below.heap_alloc w o b (h.lt d)) (h b y d)
theorem JH (n:Nat):KL (0,0) n:=.inl rfl
theorem xS {H:aA}(m:eF w H)(t:TypeId)(sz:Nat)(els:List (List D))(vs:List Value)(hv:aW w H.others els.flatten vs)(ir:∀el∈els,el.length=sz)(cd:els.length * sz<=vs.length):
  eF (w.alloc (Obj.cells ⟨vs⟩ t)) (H.aU w.heap.size (.row t 0 sz els)):=by
 refine m.alloc ⟨⟨vs⟩,(0,0),heap_alloc_new w _,JH _,by simpa using cd,?_⟩;have r:=bO (gN (Obj.cells ⟨vs⟩ t) (.row t 0 sz els) m).kept _ hv;refine dV λi el p=>⟨ir el (eh p),?_⟩;have k:∀(i:Nat) (els:List (List D)),(∀el∈els,el.length=sz)->∀el,els[i]?=some el->(els.flatten.drop (i * sz)).take sz=el:=by
  intro i
  induction i with
  |zero=>
   intro els h el h0
   cases els with
   |nil=>simp at h0
   |cons e els=>
    simp at h0
    subst h0
    have:=h e (by simp)
    simp [<-this]
  |succ i u=>
   intro els h el h0
   cases els with
   |nil=>simp at h0
   |cons e els=>
    have d:=h e (by simp)
    have h2:=u els (λx s=>h x (by simp [s])) el (by simpa using h0)
    rw[tM,dc,Nat.one_mul,List.drop_append,pK (by omega),d,cz]
    simpa [Nat.add_sub_cancel] using h2
 have q:=k i els ir el p;have d:=fY sz (fX (i * sz) r);rw[q] at d;refine dD d λj v hj=>?_;rw[kG,cell_of_row _ _ _ _ _ _ (heap_alloc_new w _)];rw[mP] at hj;split at hj
 ·rw[nn] at hj
  simpa using hj
 ·cases hj
def qP (n:Nat):Option Tmp->Prop
 |some t=>t<n
 |none=>True
theorem fI {dst:Option Tmp}(h:qP n dst):∀t,dst=some t->t<n:=λt e=>by subst e;exact h
theorem u7 {d:Operand->Value}(h:∀c,o.op≠ .defer c):o.semAt (FR ro).round d=execOp d o:=Oper.semAt_eq ro d o h
theorem mJ {i:Cx}{K:St->Prop}{s:St}(k:∀c,o.op≠ .defer c)(hd:qP i.n o.dst)
  (h:∀a w,bj i s a w->∃v w' d H',(execOp a.eval o).run i.P w=.ok (.value v) w'/\D.is w' H'.others d v/\eF w' H'/\Ev s.H w H' w'/\K ((s.cJ H').put o.dst d)):WO i o K s:=λa w m=>by
 refine⟨gw,?_⟩;rw[u7 k];obtain⟨v,w',d,H',p,q,r,u,z⟩:=h a w m;rw[p,Oper.uponIn_value];exact⟨_,(m.go u r).put (fI hd) q,z⟩
theorem fx {i:Cx}{K:St->Prop}{s:St}(k:∀c,o.op≠ .defer c)(hd:qP i.n o.dst)
  (h:∀a w,bj i s a w->∃v d,(execOp a.eval o).run i.P w=.ok (.value v) w/\D.is w s.H.others d v/\K (s.put o.dst d)):WO i o K s:=
 mJ k hd λa w m=>by
  obtain⟨v,d,p,q,r⟩:=h a w m;exact⟨v,w,d,s.H,p,q,m.H,dr _ _,r⟩
theorem Cy {d:Cx}{K:St->Prop}{s:St}(i:∀c,o.op≠ .defer c)(hd:qP d.n o.dst)
  (h:∀a w,bj d s a w->∃w' H',(execOp a.eval o).run d.P w=.ok .skip w'/\eF w' H'/\Ev s.H w H' w'/\K ((s.cJ H').put o.dst (.val undef))):WO d o K s:=λa w m=>by
 refine⟨gw,?_⟩;rw[u7 i];obtain⟨w',H',k,p,q,r⟩:=h a w m;rw[k,Oper.uponIn_skip];exact⟨_,(m.go q p).put (fI hd) (by simp only[D.is]),r⟩
theorem cQ {S:Nat->Prop}{u:Value}(h:D.is w S (.val u) v):v=u:=by simpa only[D.is] using h
theorem lN {S:Nat->Prop}(u:Value):D.is w S (.val u) u:=by simp only[D.is]
def pn (op:BinOp) (k:IntKind) (a b:Int) (K:D->Prop):Prop:=
 match op with
 | .add=>K (.val (.int k (k.wrap (a+b))))
 | .sub=>K (.val (.int k (k.wrap (a - b))))
 | .mul=>K (.val (.int k (k.wrap (a * b))))
 | .quo=>b≠0/\K (.val (.int k (k.wrap (a.tdiv b))))
 | .rem=>b≠0/\K (.val (.int k (a.tmod b)))
 | .and=>K (.val (.int k (bits .and k a b)))
 | .or=>K (.val (.int k (bits .or k a b)))
 | .xor=>K (.val (.int k (bits .xor k a b)))
 | .andNot=>K (.val (.int k (bits .andNot k a b)))
 | .eql=>K (.val (.bool (decide (a=b))))
 | .neq=>K (.val (.bool (decide (a≠b))))
 | .lss=>K (.val (.bool (decide (a<b))))
 | .leq=>K (.val (.bool (decide (a<=b))))
 | .gtr=>K (.val (.bool (decide (b<a))))
 | .geq=>K (.val (.bool (decide (b<=a))))
 |_=>False
def po (op:BinOp) (a b:ByteArray) (K:D->Prop):Prop:=
 match op with
 | .add=>a.size+b.size<=9223372036854775807/\K (.val (.string (a++b)))
 | .eql=>K (.val (.bool (decide (a.toList=b.toList))))
 | .neq=>K (.val (.bool (decide (a.toList≠b.toList))))
 | .lss=>K (.val (.bool (Op.bytesLess a.toList b.toList)))
 | .leq=>K (.val (.bool (Op.bytesLess a.toList b.toList||decide (a.toList=b.toList))))
 | .gtr=>K (.val (.bool (!(Op.bytesLess a.toList b.toList||decide (a.toList=b.toList)))))
 | .geq=>K (.val (.bool (!Op.bytesLess a.toList b.toList)))
 |_=>False
def D.nilPtr:D->Option Bool
 | .val (.pointer none)=>some true
 | .val (.pointer (some _))| .ep _ _ _ _ _| .rp _=>some false
 |_=>none
def D.iM:D->Option Bool
 | .val (.slice none _ _)=>some true
 | .val (.slice (some _) _ _)=>some false
 | .os _ _ _ _ n=>if n=0 then none else some false
 | .seq _ els=>if els.length=0 then none else some false
 |_=>none
def D.iF:D->Option Bool
 | .val (.map none)=>some true
 | .val (.map (some _))=>some false
 |_=>none
def ic (op:BinOp) (b:Bool) (K:D->Prop):Prop:=
 match op with
 | .eql=>K (.val (.bool b))
 | .neq=>K (.val (.bool (!b)))
 |_=>False
def ki (P:Program) (op:BinOp) (t:TypeId) (x:D) (K:D->Prop):Prop:=
 match cG P t,x.nilPtr with
 |some ⟨.ptr _,_,_,_⟩,some b=>ic op b K
 |_,_=>False
def j8 (P:Program) (op:BinOp) (t:TypeId) (x:D) (K:D->Prop):Prop:=
 match cG P t,x.iM with
 |some ⟨.slice _,_,_,_⟩,some b=>ic op b K
 |_,_=>False
def kh (P:Program) (op:BinOp) (t:TypeId) (x:D) (K:D->Prop):Prop:=
 match cG P t,x.iF with
 |some ⟨.map _ _,_,_,_⟩,some b=>ic op b K
 |_,_=>False
def fH (P:Program) (t:TypeId):Prop:=match cG P t with|some ⟨.bool,_,_,_⟩=>True|_=>False
def yb:List D->List D->Option (List Bool×Bool)
 |[],[]=>some ([],true)
 | .val (.int .i64 a)::x,.val (.int .i64 b)::y=>(match yb x y with|some (k,r)=>some (false::k,decide (a=b)&&r)|none=>none)
 | .val (.string a)::x,.val (.string b)::y=>(match yb x y with|some (k,r)=>some (true::k,decide (a.toList=b.toList)&&r)|none=>none)
 |_,_=>none
def Gm (P:Program) (t:TypeId) (m:List Bool):Prop:=
 ∀(i k:List D) (r:Bool) (h d:List Value) (w:World) (S:Nat->Prop) (op:BinOp) (p q:Operand),yb i k=some (m,r)->aW w S i h->aW w S k d->
  (eqGuard op t p q (.agg h.toArray) (.agg d.toArray)).run P w=.ok () w/\(Op.equal t (.agg h.toArray) (.agg d.toArray)).run P w=.ok r w
def od (P:Program) (op:BinOp) (t:TypeId) (x y:D) (K:D->Prop):Prop:=
 match x,y with
 | .val (.int k a),.val (.int k' b)=>
  (match op with
  | .shl=>0<=b/\K (.val (.int k (k.wrap (a * 2 ^ min b.toNat k.bits))))
  | .shr=>0<=b/\K (.val (.int k (a.fdiv (2 ^ min b.toNat k.bits))))
  |op=>k=k'/\pn op k a b K)
 | .val (.string a),.val (.string b)=>po op a b K
 | .val (.bool a),.val (.bool b)=>fH P t/\(match op with
  | .eql=>K (.val (.bool (decide (a=b))))
  | .neq=>K (.val (.bool (decide (a≠b))))
  |_=>False)
 | .agg d,.agg h=>(match yb d h with|some (i,r)=>Gm P t i/\ic op r K|none=>False)
 |x,.val (.pointer none)=>ki P op t x K
 |x,.val (.slice none _ _)=>j8 P op t x K
 |x,.val (.map none)=>kh P op t x K
 |_,_=>False
theorem Pb {k:IntKind}{a b:Int}{K:D->Prop}(h:pn op k a b K):∃v,(binOp op t (.int k a) (.int k b)).run P w=.ok v w/\K (.val v):=by
 cases op <;> simp only[pn] at h <;> first
  |exact⟨_,rfl,h⟩
  |(refine⟨_,?_,h.2⟩;have d:=h.1;simp [binOp,Op.intDiv,d];done)
  |(refine⟨_,?_,h⟩;simp [binOp,Op.intCmp,bne];done)
  |(refine⟨_,?_,h⟩;simp [binOp,Op.intCmp,bne];rfl)
  |exact h.elim
theorem Pc {a b:ByteArray}{K:D -> Prop}(h : po op a b K) : ∃ v, (binOp op t (.string a) (.string b)).run P w = .ok v w /\ K (.val v) := by
  have e : (a.toList == b.toList) = decide (a.toList = b.toList) := by by_cases h : a.toList = b.toList <;> simp [h]
  have d : (!decide (a.toList = b.toList)) = decide (a.toList ≠ b.toList) := by by_cases h : a.toList = b.toList <;> simp [h]
  cases op <;> simp only [po] at h <;> first
    | (refine ⟨_, ?_, h⟩; simp only [binOp, Op.stringOp, e]; rfl)
    | (refine ⟨_, ?_, h⟩; simp only [binOp, Op.stringOp, e, d]; rfl)
    | (refine ⟨_, ?_, h.2⟩
       have i : ¬ ((a.size + b.size : Nat) : Int) > IntKind.i64.max := by
        have k := h.1;have : IntKind.i64.max = 9223372036854775807 := by decide
        omega
       simp only [binOp, Op.stringOp, i, dY]; rfl)
    | exact h.elim
theorem Fx {S:Nat->Prop}{d:D}{b:Bool}(h:D.is w S d v)(hb:d.nilPtr=some b):∃p:Option Addr,v=.pointer p/\p.isNone=b:=by
 cases d with
 |val u=>
  have e:=cQ h
  subst e
  cases v with
  |pointer p=>refine⟨p,rfl,?_⟩;cases p <;> simp [D.nilPtr] at hb <;> simp [hb]
  |_=>simp [D.nilPtr] at hb
 |ep=>simp only[D.is] at h;exact⟨_,h,by simpa [D.nilPtr] using hb⟩
 |rp cs=>simp only[D.is] at h;obtain⟨b,o,rfl,_⟩:=h;exact⟨_,rfl,by simpa [D.nilPtr] using hb⟩
 |_=>simp [D.nilPtr] at hb
theorem Fw {S:Nat->Prop}{d:D}{b:Bool}(h:D.is w S d v)(hb:d.iF=some b):∃p:Option Nat,v=.map p/\p.isNone=b:=by
 cases d with
 |val u=>
  have e:=cQ h
  subst e
  cases v with
  |map p=>refine⟨p,rfl,?_⟩;cases p <;> simp [D.iF] at hb <;> simp [hb]
  |_=>simp [D.iF] at hb
 |_=>simp [D.iF] at hb
theorem Hp {S:Nat->Prop}{d:D}{b:Bool}(h:D.is w S d v)(hb:d.iM=some b):∃p n c,v=.slice p n c/\p.isNone=b:=by
 cases d with
 |val u=>
  have e:=cQ h
  subst e
  cases v with
  |slice p n c=>refine⟨p,n,c,rfl,?_⟩;cases p <;> simp [D.iM] at hb <;> simp [hb]
  |_=>simp [D.iM] at hb
 |os s o sz k n=>
  simp only[D.is] at h
  obtain⟨A,c,rfl,r,i⟩:=h
  simp only[D.iM] at hb
  split at hb
  ·cases hb
  ·rcases i with i|⟨rfl,_⟩
   ·omega
   ·exact⟨_,_,_,rfl,by simpa using hb⟩
 |seq sz q=>
  simp only[D.is] at h
  obtain⟨A,c,rfl,r,i⟩:=h
  simp only[D.iM] at hb
  split at hb
  ·cases hb
  ·rename_i m
   rcases i with i|⟨_,_,rfl,_⟩
   ·subst i;simp at m
   ·exact⟨_,_,_,rfl,by simpa using hb⟩
 |_=>simp [D.iM] at hb
theorem Nn (d:Nat)(h:P.underlying t=some (.pointer e))(p:Option Addr):(Op.equalIn (d+1) t (.pointer p) (.pointer none)).run P w=.ok p.isNone w:=by cases p <;> simp [Op.equalIn,bH h]
theorem AE (d:Nat)(h:P.underlying t=some (.slice e))(p:Option Addr)(n c k i:Nat):(Op.equalIn (d+1) t (.slice p n c) (.slice none k i)).run P w=.ok p.isNone w:=by cases p <;> simp [Op.equalIn,bH h]
theorem Nl (d:Nat){k:TypeId}(h:P.underlying t=some (.map k e))(p:Option Nat):(Op.equalIn (d+1) t (.map p) (.map none)).run P w=.ok p.isNone w:=by cases p <;> simp [Op.equalIn,bH h]
theorem LM (d:Nat)(h:P.underlying t=some .bool)(a b:Bool):(Op.equalIn (d+1) t (.bool a) (.bool b)).run P w=.ok (a==b) w:=by simp [Op.equalIn,bH h]
theorem ss {y:Value}{b:Bool}{K:D->Prop}(h:ic op b K)(hr:(Op.equal t v y).run P w=.ok b w)(d:binOp .eql t v y=(do pure (.bool (<-Op.equal t v y))))(hn:binOp .neq t v y=(do pure (.bool (!(<-Op.equal t v y))))):
  ∃u,(binOp op t v y).run P w=.ok u w/\K (.val u):=by
 cases op <;> simp only[ic] at h <;> first
  |exact⟨_,by rw[d];simp [hr,Result.andThen],h⟩
  |exact⟨_,by rw[hn];simp [hr,Result.andThen],h⟩
  |exact h.elim
theorem Lu {S:Nat->Prop}{x:D}{K:D->Prop}(h:ki P op t x K)(hx:D.is w S x v):∃u,(binOp op t v (.pointer none)).run P w=.ok u w/\K (.val u):=by
 unfold ki at h;split at h
 ·rename_i q r
  obtain⟨d,i,m,z,k⟩:=cZ q;obtain⟨p,rfl,s⟩:=Fx hx r;injection k with k
  cases d <;> simp [iI] at k
  subst k;exact ss h (by rw[<-s];exact Nn 9999 m p) rfl rfl
 ·exact h.elim
theorem Lv {S:Nat->Prop}{x:D}{c:Nat}{K:D->Prop}(h:j8 P op t x K)(hx:D.is w S x v):∃u,(binOp op t v (.slice none n c)).run P w=.ok u w/\K (.val u):=by
 unfold j8 at h;split at h
 ·rename_i r s
  obtain⟨d,i,q,F,k⟩:=cZ r;obtain⟨p,E,m,rfl,z⟩:=Hp hx s;injection k with k
  cases d <;> simp [iI] at k
  subst k;exact ss h (by rw[<-z];exact AE 9999 q p E m n c) rfl rfl
 ·exact h.elim
theorem Lt {S:Nat->Prop}{x:D}{K:D->Prop}(h:kh P op t x K)(hx:D.is w S x v):∃u,(binOp op t v (.map none)).run P w=.ok u w/\K (.val u):=by
 unfold kh at h;split at h
 ·rename_i q r
  obtain⟨d,i,m,z,k⟩:=cZ q;obtain⟨p,rfl,s⟩:=Fw hx r;injection k with k
  cases d <;> simp [iI] at k
  obtain⟨rfl,rfl⟩:=k;exact ss h (by rw[<-s];exact Nl 9999 m p) rfl rfl
 ·exact h.elim
end Go.Proofs.YtffgfafbffdgaaaGreatDoor
