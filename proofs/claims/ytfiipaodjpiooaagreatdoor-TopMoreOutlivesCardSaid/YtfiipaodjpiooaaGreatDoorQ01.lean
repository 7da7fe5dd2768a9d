/- Lemmas and contracts of functions, several texts in one. -/
import Derived.WalkKit
import Derived.Lib.Hide
import Derived.Deep.Draws
import Derived.Laws.AppendOwnNone
import Derived.Maps.AppendAt
import Derived.Laws.CopyOwn
import Derived.Lib.SlBytesConst
import Derived.OrdersIn
import Derived.TacticsIn
import Derived.Laws.Cells
set_option maxRecDepth 100000
set_option maxHeartbeats 4000000
set_option linter.all false
namespace Go.Proofs.YtfiipaodjpiooaaGreatDoor
open Go.RowKit
abbrev aI:=@eq_false
abbrev aA:=@if_neg
abbrev aK:=@eq_true
abbrev aE:=@if_pos
abbrev bI:=@Int.toNat_natCast
abbrev bC:=@List.length_map
abbrev bM:=@Int.natCast_nonneg
abbrev bX:=@List.getElem?_eq_getElem
abbrev dH:=@List.take_succ_eq_append_getElem
abbrev bB:=@decide_eq_false
abbrev bN:=@List.length_append
abbrev bG:=@decide_eq_true
abbrev bU:=@List.getElem_mem
abbrev cW:=@List.take_of_length_le
abbrev bV:=@List.mem_append
abbrev eH:=@List.drop_eq_getElem_cons
abbrev cR:=@List.mem_singleton
abbrev cQ:=@List.map_append
abbrev eT:=@List.drop_eq_nil_of_le
abbrev dN:=@List.getElem?_map
abbrev iX:=@List.eq_nil_of_length_eq_zero
abbrev dU:=@List.length_take
abbrev dJ:=@List.mem_cons
abbrev eK:=@Bool.and_eq_true
abbrev eO:=@List.length_cons
abbrev jO:=@Classical.byContradiction
abbrev eZ:=@List.all_eq_true
abbrev gY:=@List.mem_cons_of_mem
abbrev dI:=@Nat.le_refl
abbrev fV:=@decide_eq_true_eq
abbrev iQ:=@List.mem_of_getElem?
abbrev eI:=@Bool.true_and
abbrev eU:=@List.map_cons
abbrev mE:=@List.getElem?_eq_some_iff
abbrev gP:=@List.cons_append
abbrev iR:=@List.append_assoc
abbrev eW:=@List.mem_map
abbrev oT:=@List.getD_eq_getElem?_getD
abbrev gC:=@Bool.false_and
abbrev gZ:=@List.nil_append
abbrev iJ:=@List.append_nil
abbrev cS:=@congrArg
abbrev lQ:=@Nat.mul_le_mul_right
abbrev r5:=@List.getElem?_append_left
abbrev nB:=@Array.length_toList
abbrev jB:=@List.drop_zero
abbrev mF:=@Bool.false_eq_true
abbrev qO:=@List.getElem?_cons_zero
abbrev tL:=@Array.getElem?_eq_some_iff
abbrev jX:=@List.mem_filter
abbrev gE:=@Nat.add_mul
abbrev v8:=@Array.getD_eq_getD_getElem?
abbrev kI:=@Bool.and_false
abbrev r9:=@List.length_filter_le
abbrev nC:=@List.take_length
abbrev nD:=@List.length_drop
abbrev wA:=@List.getElem?_append_right
abbrev mG:=@Option.map_some
abbrev oU:=@Option.some.injEq
abbrev sA:=@List.getElem_of_mem
abbrev lR:=@Bool.and_true
abbrev uQ:=@List.take_append_drop
abbrev uR:=@List.getElem?_eq_none
abbrev qP:=@Classical.not_not
abbrev oB:=@List.mem_range
abbrev wB:=@List.length_singleton
abbrev tM:=@List.filter_append
abbrev fW:=@if_false
abbrev mI:=@Nat.zero_add
abbrev uS:=@List.getElem?_take
abbrev pW:=@Nat.mul_le_mul
abbrev yG:=@List.getElem?_toArray
abbrev EW:=@List.take_append_of_le_length
abbrev AI:=@List.getElem?_cons_succ
abbrev nE:=@List.map_nil
abbrev yH:=@List.mem_append_left
abbrev oC:=@Nat.lt_or_ge
abbrev pX:=@List.all_cons
abbrev fO:=@if_true
abbrev AJ:=@List.getElem?_of_mem
abbrev oD:=@Nat.zero_le
abbrev IJ:=@List.mem_zipIdx_iff_getElem?
abbrev sB:=@false_implies
abbrev yI:=@List.nodup_append
abbrev qQ:=@Nat.le_trans
abbrev AK:=@List.mem_cons_self
abbrev uU:=@Bool.not_false
abbrev wD:=@List.length_set
abbrev wF:=@List.length_nil
abbrev zK:=@List.drop_of_length_le
abbrev tF:=@List.mem_flatMap
abbrev nW:=@true_implies
abbrev nX:=@implies_true
abbrev nY:=@forall_const
abbrev u5:=@List.ext_getElem?
abbrev zL:=@List.length_replicate
abbrev zM:=@List.filterMap_append
abbrev qB:=@List.map_take
abbrev oY:=@Nat.succ_mul
abbrev oZ:=@List.map_map
abbrev wW:=@List.pairwise_cons
abbrev wX:=@List.getElem?_drop
abbrev zN:=@List.mem_of_mem_take
abbrev FV:=@Array.getElem?_append_right
abbrev FW:=@Array.getElem?_append_left
abbrev rN:=@Bool.not_true
abbrev wY:=@Bool.not_eq_true'
abbrev zO:=@List.map_congr_left
abbrev CT:=@Array.getElem?_modify
abbrev n9:=@Array.ext'
abbrev FX:=@decide_eq_false_iff_not
abbrev FY:=@List.filter_cons_of_pos
abbrev FZ:=@List.filter_cons_of_neg
abbrev zP:=@List.foldl_append
abbrev CU:=@List.flatMap_append
abbrev F0:=@List.pairwise_lt_range
abbrev tI:=@List.all_nil
abbrev rO:=@Int.le_refl
abbrev zQ:=@List.getElem_map
abbrev wZ:=@List.take_zero
abbrev F1:=@Array.mem_of_getElem?
abbrev zR:=@Nat.min_eq_left
abbrev zT:=@List.nodup_cons
abbrev F3:=@List.pairwise_append
abbrev CV:=@of_decide_eq_true
abbrev CW:=@List.pairwise_map
abbrev CX:=@List.flatten_cons
abbrev u6:=@Nat.add_zero
abbrev KL:=@Array.getElem?_replicate
abbrev F4:=@List.mergeSort_perm
abbrev CY:=@Option.getD_some
abbrev zU:=@List.drop_drop
abbrev KM:=@List.map_eq_append_iff
abbrev CZ:=@Bool.or_eq_true
abbrev KN:=@List.mem_append_right
abbrev KP:=@Array.getElem?_toList
abbrev F5:=@List.flatMap_cons
abbrev PJ:=@List.nodup_iff_pairwise_ne
abbrev KQ:=@List.map_eq_cons_iff
abbrev F6:=@List.any_eq_true
abbrev oA:=@eq_self
abbrev KR:=@List.mem_map_of_mem
abbrev C0:=@Nat.add_assoc
abbrev C3:=@Bool.false_or
abbrev F7:=@List.cons.injEq
abbrev KS:=@Nat.eq_zero_or_pos
abbrev KT:=@List.map_replicate
abbrev KU:=@Array.getElem?_map
abbrev PK:=@Option.map_eq_some_iff
abbrev PL:=@List.length_eq_one_iff
abbrev PM:=@List.getElem?_set_self
abbrev C4:=@getElem!_pos
abbrev C5:=@Nat.zero_mul
abbrev tK:=@Prod.ext
abbrev PN:=@List.Perm.append_left
abbrev ZQ:=@List.eq_nil_iff_forall_not_mem
abbrev KV:=@Nat.mod_eq_of_lt
abbrev KW:=@Array.all_toList
abbrev PO:=@Array.getElem?_range
abbrev C6:=@Nat.mul_one
abbrev u9:=@false_or
abbrev KX:=@List.foldl_cons
abbrev PQ:=@List.flatten_append
abbrev PR:=@List.filter_eq_self
abbrev PS:=@List.filterMap_cons
abbrev PT:=@Nat.lt_of_lt_of_le
abbrev PU:=@List.mem_replicate
abbrev PV:=@List.append_of_mem
abbrev KY:=@List.take_take
abbrev C8:=@beq_iff_eq
abbrev ZR:=@Array.getElem?_eq_getElem
abbrev PW:=@UInt8.ofNat_toNat
abbrev PX:=@List.size_toArray
abbrev PY:=@List.length_range
abbrev PZ:=@List.getElem_take
abbrev P0:=@List.getElem?_set
abbrev ZS:=@List.getElem_append_left
abbrev ZT:=@List.Pairwise.imp_of_mem
abbrev mR:=@ne_eq
abbrev ZU:=@List.pairwise_mergeSort
abbrev P2:=@List.perm_middle
abbrev zV:=@or_false
abbrev ZV:=@List.sum_replicate_nat
abbrev ZW:=@Classical.epsilon_spec
abbrev ZX:=@ByteArray.data_extract
abbrev KZ:=@Nat.sub_zero
abbrev K1:=@List.map_set
abbrev P3:=@List.range_succ
abbrev P4:=@List.all_append
def NR (w:World) (g:Nat) (t:TypeId) (cs:Array Value):Prop:=w.heap[g]?=some (.cells cs t (0,0))
section
variable {w w':World} {g:Nat} {t:TypeId} {cs:Array Value}
theorem NR.out (h:NR w g t cs):w.heap[g]?=some (.cells cs t (0,0)):=h
theorem NR.lt (h:NR w g t cs):g<w.heap.size:=by
 rcases oC g w.heap.size with kL|GM
 ·exact kL
 ·unfold NR at h;rw[Array.getElem?_eq_none GM] at h;cases h
theorem NR.cell (h:NR w g t cs) (i:Nat):w.cell? ⟨g,i,none⟩=cs[i]?:=cell_of_row w g i cs t (0,0) h
theorem NR.frozen (h:NR w g t cs) (i:Nat):w.frozen? ⟨g,i,none⟩=false:=by
 unfold NR at h
 simp [World.frozen?,h]
theorem NR.new (w:World) (t:TypeId) (cs:Array Value):NR (w.alloc (.cells cs t)) w.heap.size t cs:=heap_alloc_new w _
theorem NR.drew (h:NR w g t cs):NR w.drew g t cs:=h
theorem NR.drewN (h:NR w g t cs) (n:Nat):NR (w.drewN n) g t cs:=h
theorem NR.alloc (h:NR w g t cs) (o:Obj):NR (w.alloc o) g t cs:=(Below.heap_alloc w o g h.lt).trans h
theorem NR.grown {row:Option Nat} (h:NR w g t cs) (hb:w.grownBy w' row) (hg:some g≠row):NR w' g t cs:=(hb.block g h.lt hg).trans h
end
def Rd (w:World) (B:Nat) (A:Option Addr) (xs:List Value):Prop:=
 ∀j u,xs[j]?=some u->∃b o,A=some ⟨b,o,none⟩/\b<B/\w.cell? ⟨b,o+j,none⟩=some u
section
variable {w w':World} {B B':Nat} {A:Option Addr} {xs:List Value}
theorem Rd.fS (h:Rd w B A xs) (hk:∀p:Addr,p.block<B->w'.cell? p=w.cell? p):Rd w' B A xs:=fun j u hu=>by
 obtain⟨b,o,e,hb,hc⟩:=h j u hu
 exact⟨b,o,e,hb,(hk _ hb).trans hc⟩
theorem Rd.more (h:Rd w B A xs) (hB:B<=B'):Rd w B' A xs:=fun j u hu=>by
 obtain⟨b,o,e,hb,hc⟩:=h j u hu
 exact⟨b,o,e,by omega,hc⟩
theorem Rd.drew (h:Rd w B A xs):Rd w.drew B A xs:=h
theorem Rd.drewN (h:Rd w B A xs) (k:Nat):Rd (w.drewN k) B A xs:=h
theorem Rd.alloc (h:Rd w B A xs) (hB:B<=w.heap.size) (o:Obj):Rd (w.alloc o) B A xs:=h.fS fun p hp=>World.cell?_alloc_lt w o p (by omega)
theorem Rd.setCell (h:Rd w B A xs) {p:Addr} (hB:B<=p.block) (u:Value):Rd (w.setCell p u) B A xs:=
 h.fS fun q hq=>World.cell?_setCell_other w p q u (fun e=>by subst e;omega)
theorem Rd.grown (h:Rd w B A xs) {row:Option Nat} (hg:w.grownBy w' row) (hB:B<=w.heap.size) (hr:∀g,row=some g->B<=g):Rd w' B A xs:=
 h.fS fun p hp=>World.cell?_of_block (hg.block p.block (by omega) (fun e=>by have:=hr _ e.symm;omega))
theorem Rd.nil (w:World) (B:Nat) (A:Option Addr):Rd w B A []:=fun j u hu=>by simp at hu
end
def bv (l:List UInt8):List Value:=l.map fun c=>.int .u8 (c.toNat:Int)
def lE (l:List UInt8):ByteArray:=⟨l.toArray⟩
theorem pJ (l:List UInt8):(lE l).data.toList=l:=by simp [lE]
theorem sG (l:List UInt8):(lE l).size=l.length:=by simp [lE,ByteArray.size]
theorem xM (l:List UInt8):(lE l).toList=l:=ByteArray.toList_mk l
section
variable {P:Program} (w:World)
end
theorem Rd.kept {w w':World} {B:Nat} {A:Option Addr} {ys:List Value} {base:Nat} {e:TypeId} {v:Value} {n:Nat} {xs:List Value} (h:Rd w B A ys) (aYy:w.ownsRow base e 1 v n xs) (hg:w.grownBy w' v.ownBlock) (hB:B<=base) (hb:base<=w.heap.size):Rd w' B A ys:=
 h.grown hg (by omega) (fun g hg'=>qQ hB (aYy.lt g hg').1)
theorem Rd.lit (w:World) (t:TypeId) (cs:List Value):Rd (w.alloc (.cells cs.toArray t)) (w.heap.size+1) (some ⟨w.heap.size,0,none⟩) cs:=
 fun j u hu=>⟨w.heap.size,0,rfl,by omega,by rw[mI,(NR.new w t cs.toArray).cell];simpa using hu⟩
def part (f:Nat->Value) (z:Value) (n k:Nat):Array Value:=Array.ofFn (n:=n) fun i=>if i.val<k then f i.val else z
theorem Rd.cut {w:World} {B:Nat} {A:Option Addr} {l:List UInt8} (h:Rd w B A (bv l)) (k:Nat):Rd w B A (bv (l.take k)):=by
 intro j u hu
 have hd:bv (l.take k)=(bv l).take k:=by simp [bv]
 rw[hd,uS] at hu
 split at hu
 ·exact h j u hu
 ·cases hu
theorem aJg {w:World} {a:Addr} {v:Value} (h:w.cell? a=some v):a.block<w.heap.size:=block_lt_of_cell h
inductive D where
 |val (v:Value)
 |seq (sz:Nat) (els:List (List D))
 |os (b o sz k n:Nat)
 |ep (b o sz i k:Nat)
 |rp (cs:List D)
 |agg (cs:List D)
 |pG (ds:List D)
 |fn (f:FuncId) (eL:List D)
 |TA
instance:Inhabited D:=⟨.val undef⟩
inductive fK where
 |row (t:TypeId) (o sz:Nat) (els:List (List D))
 |map (m:List (Value×D))
 |hid
 |obj (o:Obj)
abbrev aC:=Nat->Option fK
def aC.bH (H:aC) (b:Nat) (x:fK):aC:=fun c=>if c=b then some x else H c
def aC.del (H:aC) (b:Nat):aC:=fun c=>if c=b then none else H c
def aC.none:aC:=fun _=>Option.none
theorem aC.aIx (H:aC) (b:Nat) (x:fK):(H.bH b x) b=some x:=aE rfl
abbrev aO:=@aC.aIx
theorem aC.aP4 {H:aC} {b c:Nat} {x:fK} (h:c≠b):(H.bH b x) c=H c:=aA h
abbrev aN:=@aC.aP4
theorem aC.aGZ (H:aC) (b:Nat):(H.del b) b=Option.none:=aE rfl
abbrev tG:=@aC.aGZ
theorem aC.aNb {H:aC} {b c:Nat} (h:c≠b):(H.del b) c=H c:=aA h
abbrev bS:=@aC.aNb
def aC.le (H H':aC):Prop:=∀b x,H b=some x->H' b=some x
theorem aC.le_refl (H:aC):H.le H:=fun _ _ h=>h
abbrev aG:=@aC.le_refl
theorem aC.le_trans {H H' gI:aC} (h:H.le H') (h':H'.le gI):H.le gI:=fun b x e=>h' b x (h b x e)
abbrev mH:=@aC.le_trans
theorem aC.le_none (H:aC):aC.none.le H:=fun b x e=>by cases e
abbrev iY:=@aC.le_none
theorem aC.aOl {H H':aC} {b:Nat} {x:fK} (h:H.le H') (hb:H' b=Option.none):H.le (H'.bH b x):=fun c y e=>by
 by_cases hc:c=b
 ·subst hc;rw[h _ _ e] at hb;cases hb
 ·rw[aN hc];exact h _ _ e
abbrev o8:=@aC.aOl
section
variable (w:World) (S:Nat->Prop)
mutual
def D.is:D->Value->Prop
 | .val u,v=>v=u
 | .seq sz els,v=>∃A c,v=.slice A els.length c/\els.length<=c/\(els=[]\/∃b o,A=some ⟨b,o,none⟩/\S b/\b<w.heap.size/\eB b sz o els)
 | .os b o sz k n,v=>∃A c,v=.slice A n c/\n<=c/\(c=0\/(A=some ⟨b,o+k * sz,none⟩/\∃cs t fr,w.heap[b]?=some (Obj.cells cs t fr)/\o+(k+c) * sz<=cs.size))
 | .ep b o sz i k,v=>v=.pointer (some ⟨b,o+i * sz+k,none⟩)
 | .rp cs,v=>∃b o,v=.pointer (some ⟨b,o,none⟩)/\S b/\b<w.heap.size/\dL b o cs
 | .agg cs,v=>∃vs,v=.agg ⟨vs⟩/\aU cs vs
 | .pG ds,v=>∃vs,v=.tuple ⟨vs⟩/\aW ds vs
 | .fn f eL,v=>∃vs,v=.func (.func f) #[] ⟨vs⟩/\aW eL vs
 | .TA,v=>∃A,v=.slice A 0 0
def dL (b:Nat):Nat->List D->Prop
 |_,[]=>True
 |o,d::ds=>(∃u,w.cell? ⟨b,o,none⟩=some u/\u.oneCell'=true/\D.is d u)/\dL b (o+1) ds
def eB (b sz:Nat):Nat->List (List D)->Prop
 |_,[]=>True
 |o,el::els=>el.length=sz/\dL b o el/\eB b sz (o+sz) els
def aU:List D->List Value->Prop
 |[],vs=>vs=[]
 |d::ds,vs=>∃u us,vs=u::us/\u.oneCell'=true/\D.is d u/\aU ds us
def aW:List D->List Value->Prop
 |[],vs=>vs=[]
 |d::ds,vs=>∃u us,vs=u::us/\D.is d u/\aW ds us
end
end
structure Ev (H:aC) (w:World) (H':aC) (w':World):Prop where
 os:w'.os=w.os
 tape:w'.tape=w.tape
 output:w'.output=w.output
 size:w.heap.size<=w'.heap.size
 fS:∀b:Nat,b<w.heap.size->H b=none->w'.heap[b]?=w.heap[b]?/\H' b=none
 shape:∀(b:Nat) cs t fr,w.heap[b]?=some (Obj.cells cs t fr)->∃w9 fr',w'.heap[b]?=some (Obj.cells w9 t fr')/\w9.size=cs.size
theorem Ev.refl (H:aC) (w:World):Ev H w H w:=⟨rfl,rfl,rfl,dI _,fun _ _ h=>⟨rfl,h⟩,fun _ _ _ fr h=>⟨_,fr,h,rfl⟩⟩
abbrev fT:=@Ev.refl
theorem Ev.trans {H H' gI:aC} {w w' w'':World} (h:Ev H w H' w') (h':Ev H' w' gI w''):Ev H w gI w'' where
 os:=h'.os.trans h.os
 tape:=h'.tape.trans h.tape
 output:=h'.output.trans h.output
 size:=qQ h.size h'.size
 fS:=fun b hb hn=>by
  obtain⟨h1,h2⟩:=h.fS b hb hn
  obtain⟨h3,h4⟩:=h'.fS b (PT hb h.size) h2
  exact⟨h3.trans h1,h4⟩
 shape:=fun b cs t fr hb=>by
  obtain⟨w9,fr',h1,h2⟩:=h.shape b cs t fr hb
  obtain⟨aXu,aXw,h3,h4⟩:=h'.shape b w9 t fr' h1
  exact⟨aXu,aXw,h3,h4.trans h2⟩
theorem Ev.less {H H1 H2:aC} {w w':World} (h:Ev H w H1 w') (aS:H2.le H1):Ev H w H2 w' where
 os:=h.os
 tape:=h.tape
 output:=h.output
 size:=h.size
 fS:=fun b hb hn=>⟨(h.fS b hb hn).1,by
  cases e:H2 b with
  |none=>rfl
  |some x=>have h1:=(h.fS b hb hn).2;rw[aS _ _ e] at h1;cases h1⟩
 shape:=h.shape
section
variable {w w':World} {S S':Nat->Prop}
structure P7 (S S':Nat->Prop) (w w':World):Prop where
 size:w.heap.size<=w'.heap.size
 cell:∀b:Nat,S b->b<w.heap.size->S' b/\w'.heap[b]?=w.heap[b]?
 shape:∀(b:Nat) cs t fr,w.heap[b]?=some (Obj.cells cs t fr)->∃w9 fr',w'.heap[b]?=some (Obj.cells w9 t fr')/\w9.size=cs.size
mutual
theorem D.O1 (k:P7 S S' w w'):∀(d:D) {v:Value},D.is w S d v->D.is w' S' d v
 | .val _,_,h=>h
 | .seq sz els,v,h=>by
  simp only[D.is] at h ⊢
  obtain⟨A,c,h1,h2,h3⟩:=h
  refine⟨A,c,h1,h2,?_⟩
  rcases h3 with h3|⟨b,o,h3,h4,h5,h6⟩
  ·exact .inl h3
  ·exact .inr ⟨b,o,h3,(k.cell b h4 h5).1,PT h5 k.size,NL k b sz h4 h5 els h6⟩
 | .os b o sz i n,v,h=>by
  simp only[D.is] at h ⊢
  obtain⟨A,c,h1,h2,h3⟩:=h
  refine⟨A,c,h1,h2,?_⟩
  rcases h3 with h3|⟨h3,cs,t,fr,h4,h5⟩
  ·exact .inl h3
  ·obtain⟨w9,fr',h6,h7⟩:=k.shape b cs t fr h4
   exact .inr ⟨h3,w9,t,fr',h6,by rw[h7];exact h5⟩
 | .ep _ _ _ _ _,_,h=>h
 | .rp cs,v,h=>by
  simp only[D.is] at h ⊢
  obtain⟨b,o,h1,h2,h3,h4⟩:=h
  exact⟨b,o,h1,(k.cell b h2 h3).1,PT h3 k.size,B0 k b h2 h3 cs h4⟩
 | .agg cs,v,h=>by
  simp only[D.is] at h ⊢
  obtain⟨vs,h1,h2⟩:=h
  exact⟨vs,h1,cK k cs h2⟩
 | .pG ds,v,h=>by
  simp only[D.is] at h ⊢
  obtain⟨vs,h1,h2⟩:=h
  exact⟨vs,h1,lW k ds h2⟩
 | .fn f ds,v,h=>by
  simp only[D.is] at h ⊢
  obtain⟨vs,h1,h2⟩:=h
  exact⟨vs,h1,lW k ds h2⟩
 | .TA,v,h=>by simp only[D.is] at h ⊢;exact h
theorem B0 (k:P7 S S' w w') (b:Nat) (hS:S b) (hb:b<w.heap.size):∀(ds:List D) {o:Nat},dL w S b o ds->dL w' S' b o ds
 |[],_,_=>by simp only[dL]
 |d::ds,o,h=>by
  simp only[dL] at h ⊢
  obtain⟨⟨u,h1,h2,h3⟩,h4⟩:=h
  refine⟨⟨u,?_,h2,D.O1 k d h3⟩,B0 k b hS hb ds h4⟩
  rw[<-h1]
  exact World.cell?_of_block (k.cell b hS hb).2
theorem NL (k:P7 S S' w w') (b sz:Nat) (hS:S b) (hb:b<w.heap.size):∀(els:List (List D)) {o:Nat},eB w S b sz o els->eB w' S' b sz o els
 |[],_,_=>by simp only[eB]
 |el::els,o,h=>by
  simp only[eB] at h ⊢
  exact⟨h.1,B0 k b hS hb el h.2.1,NL k b sz hS hb els h.2.2⟩
theorem cK (k:P7 S S' w w'):∀(ds:List D) {vs:List Value},aU w S ds vs->aU w' S' ds vs
 |[],_,h=>by simp only[aU] at h ⊢;exact h
 |d::ds,vs,h=>by
  simp only[aU] at h ⊢
  obtain⟨u,us,h1,h2,h3,h4⟩:=h
  exact⟨u,us,h1,h2,D.O1 k d h3,cK k ds h4⟩
theorem lW (k:P7 S S' w w'):∀(ds:List D) {vs:List Value},aW w S ds vs->aW w' S' ds vs
 |[],_,h=>by simp only[aW] at h ⊢;exact h
 |d::ds,vs,h=>by
  simp only[aW] at h ⊢
  obtain⟨u,us,h1,h3,h4⟩:=h
  exact⟨u,us,h1,D.O1 k d h3,lW k ds h4⟩
end
abbrev qD:=@D.O1
end
def aC.others (H:aC):Nat->Prop:=fun b=>H b=Option.none
theorem Ev.kept {H H':aC} {w w':World} (h:Ev H w H' w'):P7 H.others H'.others w w':=
 ⟨h.size,fun b hb kL=>⟨(h.fS b kL hb).2,(h.fS b kL hb).1⟩,h.shape⟩
theorem P7.less {H H':aC} (h:H'.le H) (w:World):P7 H.others H'.others w w:=
 ⟨dI _,fun b hb _=>⟨(by
  unfold aC.others at hb ⊢
  cases e:H' b with
  |none=>rfl
  |some x=>rw[h _ _ e] at hb;cases hb),rfl⟩,fun _ _ _ fr h=>⟨_,fr,h,rfl⟩⟩
abbrev rP:=@P7.less
def aEZ (fr:Nat×Nat) (n:Nat):Prop:=fr.1=fr.2\/n<=fr.1
theorem aEZ.not {fr:Nat×Nat} {n:Nat} (h:aEZ fr n):∀i,i<n->¬(fr.1<=i/\i<fr.2):=fun i hi h2=>by
 rcases h with h|h <;> omega
def Stm (bs:List Nat) (cI:Nat):Prop:=(∀b∈bs,b<cI)/\bs.Nodup
def aRM (w:World) (S:Nat->Prop) (es:Array MapEntry) (cI:Nat) (m:List (Value×D)):Prop:=
 es.toList.map (·.key)=m.map (·.1)/\aW w S (m.map (·.2)) (es.toList.map (·.val))/\(m.map (·.1)).Nodup/\Stm (es.toList.map (·.born)) cI
def sZ (w:World) (H:aC) (b:Nat):fK->Prop
 | .row t o sz els=>∃cs fr,w.heap[b]?=some (Obj.cells cs t fr)/\aEZ fr cs.size/\o+els.length * sz<=cs.size/\eB w H.others b sz o els
 | .map m=>∃es cI,w.heap[b]?=some (Obj.map es cI)/\aRM w H.others es cI m
 | .hid=>b<w.heap.size
 | .obj o=>w.heap[b]?=some o
def iK (w:World) (H:aC):Prop:=∀b x,H b=some x->sZ w H b x
theorem iK.lt {w:World} {H:aC} (h:iK w H) {b:Nat} {x:fK} (hb:H b=some x):b<w.heap.size:=by
 have h0:=h b x hb
 cases x with
 |row t o sz els=>obtain⟨cs,fr,h1,_⟩:=h0;exact(tL.1 h1).1
 |map m=>obtain⟨es,c,h1,_⟩:=h0;exact(tL.1 h1).1
 |hid=>exact h0
 |obj o=>exact(tL.1 h0).1
def GLB:Nat->Option (List Value):=fun g=>if g=0 then some [.int .i64 2,.int .i64 2,.int .i64 1,.int .i64 1] else if g=1 then some [.int .i64 2,.int .i64 2,.int .i64 2,.int .i64 2,.int .i64 2,.int .i64 2,.int .i64 2,.int .i64 1,.int .i64 2,.int .i64 1,.int .i64 1,.int .i64 1] else none
def DW (w:World) (H:aC):Prop:=∀g vs,GLB g=some vs->H g=none/\(∀v∈vs,v.oneCell'=true)/\∃t fr,w.heap[g]?=some (Obj.cells vs.toArray t fr)
theorem DW.ev {H H':aC} {w w':World} (g:DW w H) (h:Ev H w H' w'):DW w' H':=fun k vs e=>by
 obtain⟨h1,h0,t,fr,h2⟩:=g k vs e
 obtain⟨h3,h4⟩:=h.fS k (tL.1 h2).1 h1
 exact⟨h4,h0,t,fr,h3.trans h2⟩
theorem DW.le {H0 H:aC} {w:World} (g:DW w H) (h:H0.le H):DW w H0:=fun k vs e=>by
 obtain⟨h1,h2⟩:=g k vs e
 refine⟨?_,h2⟩
 cases e2:H0 k with
 |none=>rfl
 |some x=>rw[h k x e2] at h1;cases h1
def FR (ro:Option Nat):Fence:={Fence.wide with round:=ro}
theorem QG {ro:Option Nat} {n:Nat} {P:Program} {f:FuncId} {args:Array Value} {w:World} {R:Ending->World->Prop} (h:Calls P f args w R):CallsIn (FR ro) n P f args w R:=
 (callsIn_wide (n:=n)).2 h
theorem vA {ro:Option Nat} {n:Nat} {P:Program} {f:FuncId} {args:Array Value} {w:World} {R:Ending->World->Prop} (h:CallsIn (FR ro) n P f args w R):Calls P f args w R:=
 (callsIn_wide (n:=n)).1 h
structure St where
 fr:Nat->D
 H:aC
 df:List Deferred
def St.put (s:St) (dst:Option Tmp) (d:D):St:=
 match dst with
 |some t=>{s with fr:=fun x=>if x=t then d else s.fr x}
 |none=>s
def D.ofV:Value->D
 | .agg cs=>if cs.toList.all Value.oneCell' then .agg (cs.toList.map .val) else .val (.agg cs)
 |v=>.val v
def gD (g:Nat):D:=match GLB g with
 |some vs=>.rp (vs.map .val)
 |none=>.val (.pointer (some ⟨g,0,none⟩))
def St.ev (s:St):Operand->D
 | .tmp t=>s.fr t
 | .const v=>D.ofV v
 | .global g=>gD g
 | .func f=>.fn f []
def St.dY (s:St) (H:aC):St:={s with H:=H}
structure Cx where
 P:Program
 ro:Option Nat
 n:Nat
 H0:aC
 w0:World
 gk:DW w0 H0
structure dF (cx:Cx) (s:St) (a:Act) (w:World):Prop where
 n:a.tmps.size=cx.n
 df:a.defers=s.df
 fr:∀t,D.is w s.H.others (s.fr t) (a.tmps.getD t undef)
 H:iK w s.H
 ev:Ev cx.H0 cx.w0 s.H w
def QQ (cx:Cx) (Q:Exit->St->Prop):Exit->Act->World->Prop:=fun e a w=>∃s,dF cx s a w/\Q e s
def KK (cx:Cx) (K:St->Prop):Act->World->Prop:=fun a w=>∃s,dF cx s a w/\K s
def W (cx:Cx) (c:Code) (Q:Exit->St->Prop) (s:St):Prop:=
 ∀a w,dF cx s a w->c.wpIn (FR cx.ro) 9 cx.P (QQ cx Q) a w
def WL (cx:Cx) (aX:Array Oper) (l:List Oper) (Q:Exit->St->Prop) (s:St):Prop:=
 ∀a w,dF cx s a w->wpListIn (FR cx.ro) 9 cx.P aX (QQ cx Q) l a w
def NoQ:Exit->Act->World->Prop:=fun _ _ _=>False
def WO (cx:Cx) (o:Oper) (K:St->Prop) (s:St):Prop:=
 ∀a w,dF cx s a w->o.wpIn (FR cx.ro) 9 cx.P a w (KK cx K) NoQ
theorem xN {w:World} {S:Nat->Prop}:∀(vs:List Value),(∀v∈vs,v.oneCell'=true)->aU w S (vs.map .val) vs
 |[],_=>by simp [aU]
 |v::vs,h=>by
  simp only[eU,aU,D.is]
  exact⟨v,vs,rfl,h v (by simp),rfl,xN vs fun u hu=>h u (by simp [hu])⟩
theorem D.aOy {w:World} {S:Nat->Prop} (v:Value):D.is w S (D.ofV v) v:=by
 cases v with
 |agg cs=>
  simp only[D.ofV]
  split
  ·rename_i h
   simp only[D.is]
   exact⟨cs.toList,by simp,xN _ (fun v hv=>(eZ.1 h) v hv)⟩
  ·simp only[D.is]
 |_=>simp only[D.ofV,D.is]
theorem dF.gok {cx:Cx} {s:St} {a:Act} {w:World} (m:dF cx s a w):DW w s.H:=cx.gk.ev m.ev
theorem MT {w:World} {S:Nat->Prop} {b:Nat} {t:TypeId} {fr:Nat×Nat} {all:List Value} (hb:w.heap[b]?=some (Obj.cells all.toArray t fr)):∀(vs:List Value) (o:Nat),all.drop o=vs->(∀v∈vs,v.oneCell'=true)->dL w S b o (vs.map .val)
 |[],o,_,_=>by simp [dL]
 |v::vs,o,h,h1=>by
  simp only[eU,dL]
  have h0:all[o]?=some v:=by
   have:=cS (fun l=>l[0]?) h
   simpa using this
  refine⟨⟨v,?_,h1 v (by simp),by simp only[D.is]⟩,MT hb vs (o+1) (by rw[<-zU,h] <;> rfl) fun u hu=>h1 u (by simp [hu])⟩
  simp [World.cell?,hb,h0]
theorem aQA {w:World} {H:aC} (hG:DW w H) (g:Nat):D.is w H.others (gD g) (.pointer (some ⟨g,0,none⟩)):=by
 unfold gD
 split
 ·rename_i vs hg
  obtain⟨h1,h0,t,fr,h2⟩:=hG g vs hg
  simp only[D.is]
  exact⟨g,0,rfl,h1,(tL.1 h2).1,MT h2 vs 0 (by simp) h0⟩
 ·simp only[D.is]
theorem dF.xS {cx:Cx} {s:St} {a:Act} {w:World} (m:dF cx s a w) (x:Operand):D.is w s.H.others (s.ev x) (a.eval x):=by
 cases x with
 |tmp t=>exact m.fr t
 |const v=>exact D.aOy v
 |global g=>exact aQA m.gok g
 |func f=>simp only[St.ev,Act.eval,D.is,aW];exact⟨[],rfl,rfl⟩
theorem dF.go {cx:Cx} {s:St} {a:Act} {w:World} (m:dF cx s a w) {H':aC} {w':World} (h:Ev s.H w H' w') (hH:iK w' H'):dF cx (s.dY H') a w':=
 ⟨m.n,m.df,fun t=>qD h.kept _ (m.fr t),hH,m.ev.trans h⟩
theorem iK.less {w:World} {H H':aC} (hH:iK w H) (h:H'.le H):iK w H':=fun b x hb=>by
  have h0:=hH b x (h _ _ hb)
  cases x with
  |row t o sz els=>
   obtain⟨cs,fr,h1,h2,h3,h4⟩:=h0
   refine⟨cs,fr,h1,h2,h3,?_⟩
   exact SD h w b sz els h4
  |map mm=>
   obtain⟨es,c,h1,h2,h3,h4⟩:=h0
   exact⟨es,c,h1,h2,lW (rP h w) _ h3,h4⟩
  |hid=>exact h0
  |obj o=>exact h0
where
 MU {H H':aC} (h:H'.le H) (w:World) (b:Nat):∀(ds:List D) {o:Nat},dL w H.others b o ds->dL w H'.others b o ds
  |[],_,_=>by simp only[dL]
  |d::ds,o,h0=>by
   simp only[dL] at h0 ⊢
   obtain⟨⟨u,h1,h2,h3⟩,h4⟩:=h0
   exact⟨⟨u,h1,h2,qD (rP h w) d h3⟩,MU h w b ds h4⟩
 SD {H H':aC} (h:H'.le H) (w:World) (b sz:Nat):∀(els:List (List D)) {o:Nat},eB w H.others b sz o els->eB w H'.others b sz o els
  |[],_,_=>by simp only[eB]
  |el::els,o,h0=>by
   simp only[eB] at h0 ⊢
   exact⟨h0.1,MU h w b el h0.2.1,SD h w b sz els h0.2.2⟩
theorem dF.less {cx:Cx} {s:St} {a:Act} {w:World} (m:dF cx s a w) {H':aC} (h:H'.le s.H):dF cx (s.dY H') a w:=
 ⟨m.n,m.df,fun t=>qD (rP h w) _ (m.fr t),m.H.less h,m.ev.less h⟩
theorem AZ {α:Type} (l:Array α) (i j:Nat) (x d:α) (hi:i<l.size):(l.setIfInBounds i x).getD j d=if j=i then x else l.getD j d:=by
 simp only[v8,Array.getElem?_setIfInBounds]
 by_cases h:j=i
 ·subst h;simp [hi]
 ·rw[aA (fun e=>h e.symm),aA h]
theorem dF.put {cx:Cx} {s:St} {a:Act} {w:World} (m:dF cx s a w) {dst:Option Tmp} {d:D} {v:Value} (hd:∀t,dst=some t->t<cx.n) (h:D.is w s.H.others d v):dF cx (s.put dst d) (a.put dst v) w:=by
 cases dst with
 |none=>exact m
 |some t=>
  refine⟨by simpa [Act.put] using m.n,m.df,fun x=>?_,m.H,m.ev⟩
  have ht:t<a.tmps.size:=by rw[m.n];exact hd t rfl
  simp only[Act.put,St.put]
  rw[AZ _ _ _ _ _ ht]
  by_cases hx:x=t
  ·rw[aE hx,aE hx];exact h
  ·rw[aA hx,aA hx];exact m.fr x
section aRZ
variable {cx:Cx} {Q Q':Exit->St->Prop} {s:St}
theorem vP {c:Code} (h:W cx c Q s) (hq:∀e s,Q e s->Q' e s):W cx c Q' s:=fun a w m=>
 wpIn_mono (h a w m) fun e _ _ ⟨s',m',q⟩=>⟨s',m',hq e s' q⟩
theorem eV {c:Code} (H':aC) (h':H'.le s.H) (h:W cx c Q (s.dY H')):W cx c Q s:=fun a w m=>h a w (m.less h')
theorem dW (h:Q .normal s):W cx .skip Q s:=fun _ _ m=>wpIn_skip ⟨s,m,h⟩
theorem cU {l:Nat} (h:Q .normal s):W cx (.label l) Q s:=fun _ _ m=>wpIn_label ⟨s,m,h⟩
theorem dV {id:Nat} (h:Q (.exit id) s):W cx (.exit id) Q s:=fun _ _ m=>wpIn_exit ⟨s,m,h⟩
theorem fE (h:Q .ret s):W cx .ret Q s:=fun _ _ m=>wpIn_ret ⟨s,m,h⟩
def gK (N:St->Prop) (Q:Exit->St->Prop):Exit->St->Prop
 | .normal,s=>N s
 |e,s=>Q e s
theorem bP {x y:Code} (h:W cx x (gK (W cx y Q) Q) s):W cx (.seq x y) Q s:=fun a w m=>
 wpIn_seq (wpIn_mono (h a w m) fun e a' w' ⟨s',m',q⟩=>by
  cases e <;> first
   |exact q a' w' m'
   |exact⟨s',m',q⟩)
def iV (id:Nat) (Q:Exit->St->Prop):Exit->St->Prop
 | .exit id',s=>if id'=id then Q .normal s else Q (.exit id') s
 |e,s=>Q e s
theorem cL {id:Nat} {c:Code} (h:W cx c (iV id Q) s):W cx (.block id c) Q s:=fun a w m=>
 wpIn_block (wpIn_mono (h a w m) fun e a' w' ⟨s',m',q⟩=>by
  cases e with
  |exit id'=>
   simp only[iV] at q
   simp only[Exit.inBlock]
   by_cases hid:id'=id
   ·rw[aE hid] at q ⊢;exact⟨s',m',q⟩
   ·rw[aA hid] at q ⊢;exact⟨s',m',q⟩
  |_=>exact⟨s',m',q⟩)
theorem aNE {c:Operand} {x y:Code} (b:Bool) (hb:s.ev c=.val (.bool b)) (ht:b=true->W cx x Q s) (hf:b=false->W cx y Q s):W cx (.cond c x y) Q s:=fun a w m=>by
 have h:=m.xS c
 rw[hb] at h
 simp only[D.is] at h
 exact wpIn_cond_split h (fun e=>ht e a w m) (fun e=>hf e a w m)
theorem aHd (p:Nat->Prop) (h:∃k,p k):∃k,p k/\∀j,p j->k<=j:=by
 classical
 obtain⟨k,hk⟩:=h
 induction k using Nat.strongRecOn with
 |_ k ih=>
  by_cases h:∃j,j<k/\p j
  ·obtain⟨j,hj,hp⟩:=h
   exact ih j hj hp
  ·exact⟨k,hk,fun j hj=>by
    rcases oC j k with kL|GM
    ·exact absurd ⟨j,kL,hj⟩ h
    ·exact GM⟩
theorem aFx {c:Code} (I:St->Prop) (μ:St->Nat) (H':aC) (aS:H'.le s.H) (h0:I (s.dY H'))
  (round:∀s,I s->W cx c (gK (fun s'=>∃H',H'.le s'.H/\I (s'.dY H')/\μ (s'.dY H')<μ s) Q) s):W cx (.loop c) Q s:=fun a w m=>by
 obtain⟨f,hf⟩:∃f:Act×World->Nat,∀x:Act×World,(∃s,dF cx s x.1 x.2/\I s)->(∃s,dF cx s x.1 x.2/\I s/\μ s=f x)/\∀s,dF cx s x.1 x.2->I s->f x<=μ s:=by
  refine⟨fun x=>Classical.epsilon fun k=>(∃s,dF cx s x.1 x.2/\I s/\μ s=k)/\∀s,dF cx s x.1 x.2->I s->k<=μ s,fun x ⟨s,h1,h2⟩=>?_⟩
  refine ZW (p:=fun k=>(∃s,dF cx s x.1 x.2/\I s/\μ s=k)/\∀s,dF cx s x.1 x.2->I s->k<=μ s) ?_
  obtain⟨k,h3,h4⟩:=aHd (fun k=>∃s,dF cx s x.1 x.2/\I s/\μ s=k) ⟨_,s,h1,h2,rfl⟩
  exact⟨k,h3,fun s h5 h6=>h4 _ ⟨s,h5,h6,rfl⟩⟩
 refine wpIn_loop (fun a w=>∃s,dF cx s a w/\I s) (fun a w=>f (a,w)) ⟨_,m.less aS,h0⟩ ?_
 rintro a w hex
 obtain⟨⟨s,m,hI,hμ⟩,_⟩:=hf (a,w) hex
 rw[<-hμ]
 refine wpIn_mono (round s hI a w m) fun e a' w' ⟨s',m',q⟩=>?_
 cases e with
 |normal=>
  obtain⟨H2,h2,hI',kL⟩:=q
  exact⟨⟨_,m'.less h2,hI'⟩,Nat.lt_of_le_of_lt ((hf (a',w') ⟨_,m'.less h2,hI'⟩).2 _ (m'.less h2) hI') kL⟩
 |_=>exact⟨s',m',q⟩
theorem IZ {id:Nat} {aX:List Oper} (h:WL cx aX.toArray aX Q s):W cx (.region id aX.toArray false) Q s:=fun a w m=>wpIn_region_lit (h a w m)
theorem WR {aX:Array Oper} (h:Q .normal s):WL cx aX [] Q s:=fun _ _ m=>⟨s,m,h⟩
theorem E0 {o:Oper} {K K':St->Prop} (h:WO cx o K s) (hk:∀s,K s->K' s):WO cx o K' s:=fun a w m=>
 Oper.wpIn_mono (fun _ _ ⟨s',m',q⟩=>⟨s',m',hk s' q⟩) (h a w m)
theorem FU {F:Fence} {n:Nat} {P:Program} {o:Oper} {a:Act} {w:World} {K:Act->World->Prop} {Q:Exit->Act->World->Prop} (h:o.wpIn F n P a w K NoQ):o.wpIn F n P a w K Q:=by
 unfold Oper.wpIn at *
 refine⟨h.1,?_⟩
 have h2:=h.2
 generalize (o.semAt F.round a.eval).run P w=r at *
 cases r with
 |ok x w'=>
  cases x <;> simp only[Oper.uponIn] at h2 ⊢ <;>
   first
    |exact h2
    |exact⟨h2.1,CallsIn.mono h2.2 (fun e w'' he=>by cases e <;> first|exact he|exact he.elim|(obtain⟨_,_,hf⟩:=he;exact hf.elim))⟩
    |exact⟨h2.1,RoundIn.mono h2.2 (fun e w'' he=>by cases e <;> first|exact he|exact he.elim|(obtain⟨_,_,hf⟩:=he;exact hf.elim))⟩
 |halt x w'=>cases x <;> simp only[Oper.uponIn] at h2 ⊢ <;> first|exact h2|exact h2.elim
theorem wJ {aX:Array Oper} {o:Oper} {eJ:List Oper} (hg:o.guard=none) (h:WO cx o (WL cx aX eJ Q) s):WL cx aX (o::eJ) Q s:=fun a w m=>by
 refine wpListIn_plain hg fun K hK=>?_
 exact Oper.wpIn_mono (fun a' w' ⟨s',m',q⟩=>hK _ _ (q a' w' m')) (FU (h a w m))
def qF (aX:Array Oper) (j:Nat):Option Tmp:=(aX[j]?).bind (·.dst)
theorem oH {ro:Option Nat} {P:Program} {o:Oper} {a:Act} {w:World}:∀f,o.about P w a.eval=some f->(FR ro).fn f:=fun _ _=>trivial
theorem AP {aX:Array Oper} {o:Oper} {eJ:List Oper} {j:Nat} {fL:Bool} {t:Tmp} (hg:o.guard=some (j,fL)) (hj:qF aX j=some t) (ht:t<cx.n) (hd:∀t,o.dst=some t->t<cx.n)
  (h:(∃b,s.fr t=.val (.bool b)/\(b=fL->WO cx o (WL cx aX eJ Q) s)/\(b= !fL->WL cx aX eJ Q (s.put o.dst (.val undef))))\/(s.fr t=.val undef/\WL cx aX eJ Q (s.put o.dst (.val undef)))):WL cx aX (o::eJ) Q s:=fun a w m=>by
 refine wpListIn_step fun K hK=>?_
 have hy:yielded aX a.tmps j=match a.tmps[t]? with|some (.bool b)=>some b|_=>none:=by
  unfold yielded
  unfold qF at hj
  rw[hj]
  rfl
 have NF:t<a.tmps.size:=by rw[m.n];exact ht
 have rK:a.tmps[t]?=some (a.tmps.getD t undef):=by simp [NF]
 have hf:=m.fr t
 have hwt:Region.wanted o (yielded aX a.tmps)=(yielded aX a.tmps j==some fL):=by unfold Region.wanted;rw[hg]
 rcases h with⟨b,hb,h1,h2⟩|⟨hb,h2⟩
 ·rw[hb] at hf
  simp only[D.is] at hf
  rw[rK,hf] at hy
  simp only at hy
  rw[hy] at hwt
  by_cases e:b=fL
  ·subst e
   rw[aE (by rw[hwt];simp)]
   exact Oper.wpIn_mono (fun a' w' ⟨s',m',q⟩=>hK _ _ (q a' w' m')) (FU (h1 rfl a w m))
  ·have e2:b= !fL:=by cases b <;> cases fL <;> first|rfl|exact absurd rfl e
   have e3:(some b==some fL)=false:=by cases b <;> cases fL <;> first|rfl|exact absurd rfl e
   rw[aA (by rw[hwt,e3];simp)]
   refine⟨oH,hK _ _ (h2 e2 _ _ (m.put hd ?_))⟩
   simp only[D.is]
 ·rw[hb] at hf
  simp only[D.is] at hf
  rw[rK,hf] at hy
  simp only[undef] at hy
  rw[hy] at hwt
  rw[aA (by rw[hwt];simp)]
  refine⟨oH,hK _ _ (h2 _ _ (m.put hd ?_))⟩
  simp only[D.is]
end aRZ
def aFm (P:Program) (f:FuncId):Prop:=∀(args:Array Value) (w:World),(callFunc f args).run P w=.ok (.enter f args) w
theorem uH {P:Program} {f:FuncId} {fn:Func} {c:Code} (hf:P.funcs[f]?=some fn) (x5:(fn.name== "runtime.NumGoroutine")=false) (hb:fn.body=some c):aFm P f:=by
 intro args w
 have h1:fn.name≠ "runtime.NumGoroutine" :=by simpa using x5
 simp [callFunc,hf,h1,hb,mark]
def bE (P:Program) (f:FuncId) (ds:List D) (H:aC) (K:D->aC->Prop):Prop:=
 aFm P f/\∀(w:World) (vs:List Value),aW w H.others ds vs->iK w H->DW w H->Calls P f vs.toArray w fun e w'=>∃v d H',e=.returned v/\D.is w' H'.others d v/\iK w' H'/\Ev H w H' w'/\K d H'
theorem bE.mono {P:Program} {f:FuncId} {ds:List D} {H:aC} {K K':D->aC->Prop} (h:bE P f ds H K) (hk:∀d H',K d H'->K' d H'):bE P f ds H K':=And.intro h.1 fun w vs h1 h2 h3=>
 (h.2 w vs h1 h2 h3).mono fun _ _ ⟨v,d,H',a,b,c,e,k⟩=>⟨v,d,H',a,b,c,e,hk _ _ k⟩
def St.init (ds:List D) (H:aC):St:=⟨fun t=>ds.getD t (.val undef),H,[]⟩
def aAA (cx:Cx) (fn:Func) (s:St) (K:D->aC->Prop):Prop:=
 ∀a w,dF cx s a w->∃v d H',(results fn a.tmps).run cx.P w=.ok v w/\D.is w H'.others d v/\H'.le s.H/\K d H'
theorem lA {w:World} {S:Nat->Prop}:∀{ds:List D} {vs:List Value},aW w S ds vs->vs.length=ds.length
 |[],_,h=>by simp only[aW] at h;subst h;rfl
 |d::ds,vs,h=>by
  simp only[aW] at h
  obtain⟨u,us,rfl,_,h⟩:=h
  simp [lA h]
theorem nL {w:World} {S:Nat->Prop}:∀{ds:List D} {vs:List Value},aW w S ds vs->∀(j:Nat) (d:D),ds[j]?=some d->∃v,vs[j]?=some v/\D.is w S d v
 |[],_,_,j,d,hd=>by simp at hd
 |d0::ds,vs,h,j,d,hd=>by
  simp only[aW] at h
  obtain⟨u,us,rfl,h1,h2⟩:=h
  cases j with
  |zero=>exact⟨u,rfl,by simp at hd;subst hd;exact h1⟩
  |succ j=>simpa using nL h2 j d (by simpa using hd)
def aEq (cx:Cx) (fn:Func) (K:D->aC->Prop):Exit->St->Prop
 | .normal,s| .ret,s=>s.df=[]/\aAA cx fn s K
 |_,_=>False
theorem aBn {P:Program} {f:FuncId} {fn:Func} {c:Code} {ds:List D} {H:aC} {K:D->aC->Prop} (N:Nat) (hf:P.funcs[f]?=some fn) (x5:(fn.name== "runtime.NumGoroutine")=false) (hb:fn.body=some c) (hN:fn.ntmps=N) (hl:ds.length<=N)
  (h:∀w0 (g0:DW w0 H),W ⟨P,none,N,H,w0,g0⟩ c (aEq ⟨P,none,N,H,w0,g0⟩ fn K) (St.init ds H)):bE P f ds H K:=And.intro (uH hf x5 hb) fun w vs zD hH hG=>by
 refine vA (ro:=none) (n:=9) (callsIn_of_wp hf hb trivial ?_ rfl)
 have fJ:=lA zD
 have m:dF ⟨P,none,N,H,w,hG⟩ (St.init ds H) {tmps:=vs.toArray++Array.replicate (fn.ntmps - vs.toArray.size) undef,defers:=[]} w:=by
  refine⟨by simp;omega,rfl,fun t=>?_,hH,fT _ _⟩
  simp only[St.init]
  rcases oC t ds.length with kL|GM
  ·obtain⟨v,h1,h2⟩:=nL zD t ds[t] (by simp [kL])
   have e1:ds.getD t (.val undef)=ds[t]:=by simp [List.getD,kL]
   have e2:(vs.toArray++Array.replicate (fn.ntmps - vs.toArray.size) undef).getD t undef=v:=by
    rw[v8,FW (by simp;omega)]
    simp [h1]
   rw[e1,e2];exact h2
  ·have e1:ds.getD t (.val undef)=.val undef:=by simp [List.getD,GM]
   rw[e1]
   simp only[D.is]
   rw[v8,FV (by simp;omega),KL]
   split <;> rfl
 refine wpIn_mono (h w hG _ _ m) fun e a' w' ⟨s',m',q⟩=>?_
 have key:s'.df=[]/\aAA ⟨P,none,N,H,w,hG⟩ fn s' K->a'.defers=[]/\∃v,(results fn a'.tmps).run P w'=.ok v w'/\∃v' d H',Ending.returned v=.returned v'/\D.is w' H'.others d v'/\iK w' H'/\Ev H w H' w'/\K d H':=by
  rintro⟨aT,fG⟩
  obtain⟨v,d,H',h1,h2,h3,h4⟩:=fG a' w' m'
  have m2:=m'.less h3
  exact⟨m'.df.trans aT,v,h1,v,d,H',rfl,h2,m2.H,m2.ev,h4⟩
 cases e with
 |normal=>
  obtain⟨h1,v,h2,h3⟩:=key q
  exact⟨h1,v,h2,h3⟩
 |ret=>
  obtain⟨h1,v,h2,h3⟩:=key q
  exact⟨h1,v,h2,h3⟩
 |_=>exact q.elim
inductive TD where
 |int (k:IntKind)
 |bool
 |string
 |slice (e:TypeId)
 |array (n:Nat) (e:TypeId)
 |struct (fs:List (Nat×TypeId))
 |ptr (e:TypeId)
 |map (k e:TypeId)
 |other
structure Ti where
 d:TD
 size:Nat
 bytes:Nat
 zero:Option (List Value)
def lV:TypeDesc->TD
 | .int k=>.int k
 | .bool=>.bool
 | .string=>.string
 | .slice e=>.slice e
 | .array n e=>.array n e
 | .struct fs=>.struct (fs.toList.map fun f=>(f.offset,f.type))
 | .pointer e=>.ptr e
 | .map k e=>.map k e
 |_=>.other
def bQ (P:Program) (t:TypeId):Option Ti:=
 match P.underlying t,P.info? t with
 |some d,some i=>some ⟨lV d,i.size,i.bytes,i.zero.map (·.cells.toList)⟩
 |_,_=>none
def TD.agg:TD->Bool
 | .array _ _| .struct _=>true
 |_=>false
theorem eE {P:Program} {t:TypeId} {T:Ti} (h:bQ P t=some T):∃d i,P.underlying t=some d/\P.info? t=some i/\T=⟨lV d,i.size,i.bytes,i.zero.map (·.cells.toList)⟩:=by
 unfold bQ at h
 split at h
 ·rename_i d i h1 h2
  exact⟨d,i,h1,h2,by injection h with h;exact h.symm⟩
 ·cases h
theorem bT {P:Program} {t:TypeId} {d:TypeDesc} (h:P.underlying t=some d) (w:World):(underlying t).run P w=.ok d w:=run_underlying h w
theorem FJ {P:Program} {t:TypeId} {T:Ti} (h:bQ P t=some T) (w:World):(isAgg t).run P w=.ok T.d.agg w:=by
 obtain⟨d,i,h1,h2,rfl⟩:=eE h
 unfold isAgg
 simp only[Sem.run_bind,bT h1,Result.andThen]
 cases d <;> rfl
theorem gR {P:Program} {t:TypeId} {T:Ti} (h:bQ P t=some T) (w:World):(sizeOf t).run P w=.ok T.size w:=by
 obtain⟨d,i,h1,h2,rfl⟩:=eE h
 unfold sizeOf typeInfo program
 simp [Sem.run,h2]
theorem rH {P:Program} {t:TypeId} {T:Ti} (h:bQ P t=some T) (w:World):∃i,(typeInfo t).run P w=.ok i w/\T.size=i.size/\T.bytes=i.bytes/\T.zero=i.zero.map (·.cells.toList)/\P.info? t=some i:=by
 obtain⟨d,i,h1,h2,rfl⟩:=eE h
 refine⟨i,?_,rfl,rfl,rfl,h2⟩
 unfold typeInfo program
 simp [Sem.run,h2]
section
variable {w:World} {S:Nat->Prop}
theorem fC:∀{cs:List D} {vs:List Value},aU w S cs vs->vs.length=cs.length
 |[],_,h=>by simp only[aU] at h;subst h;rfl
 |d::ds,vs,h=>by
  simp only[aU] at h
  obtain⟨u,us,rfl,_,_,h⟩:=h
  simp [fC h]
theorem sT:∀{cs:List D} {vs:List Value},aU w S cs vs->∀v∈vs,v.oneCell'=true
 |[],_,h,v,hv=>by simp only[aU] at h;subst h;cases hv
 |d::ds,vs,h,v,hv=>by
  simp only[aU] at h
  obtain⟨u,us,rfl,h1,_,h⟩:=h
  rcases dJ.1 hv with rfl|hv
  ·exact h1
  ·exact sT h v hv
theorem fB:∀{cs ds:List D} {vs us:List Value},aU w S cs vs->aU w S ds us->aU w S (cs++ds) (vs++us)
 |[],ds,vs,us,h,h'=>by simp only[aU] at h;subst h;exact h'
 |d::cs,ds,vs,us,h,h'=>by
  simp only[aU] at h
  obtain⟨u,K9,rfl,h1,h2,h⟩:=h
  simp only[gP,aU]
  exact⟨u,_,rfl,h1,h2,fB h h'⟩
theorem kJ:∀{cs:List D} {vs:List Value} (k:Nat),aU w S cs vs->aU w S (cs.drop k) (vs.drop k)
 |cs,vs,0,h=>h
 |[],vs,k+1,h=>by simp only[aU] at h;subst h;simp [aU]
 |d::cs,vs,k+1,h=>by
  simp only[aU] at h
  obtain⟨u,K9,rfl,h1,h2,h⟩:=h
  exact kJ k h
theorem kK:∀{cs:List D} {vs:List Value} (k:Nat),aU w S cs vs->aU w S (cs.take k) (vs.take k)
 |cs,vs,0,h=>by simp [aU]
 |[],vs,k+1,h=>by simp only[aU] at h;subst h;simp [aU]
 |d::cs,vs,k+1,h=>by
  simp only[aU] at h
  obtain⟨u,K9,rfl,h1,h2,h⟩:=h
  simp only[List.take_succ_cons,aU]
  exact⟨u,_,rfl,h1,h2,kK k h⟩
theorem I7:∀{cs:List D} {vs:List Value},aU w S cs vs->∀(j:Nat) (d:D),cs[j]?=some d->∃v,vs[j]?=some v/\v.oneCell'=true/\D.is w S d v
 |[],_,_,j,d,hd=>by simp at hd
 |d0::ds,vs,h,j,d,hd=>by
  simp only[aU] at h
  obtain⟨u,us,rfl,h1,h2,h3⟩:=h
  cases j with
  |zero=>exact⟨u,rfl,h1,by simp at hd;subst hd;exact h2⟩
  |succ j=>simpa using I7 h3 j d (by simpa using hd)
theorem oO:∀(vs:List Value),(∀v∈vs,v.oneCell'=true)->aU w S (vs.map .val) vs
 |[],_=>by simp [aU]
 |v::vs,h=>by
  simp only[eU,aU,D.is]
  exact⟨v,vs,rfl,h v (by simp),rfl,oO vs fun u hu=>h u (by simp [hu])⟩
theorem fA {b:Nat}:∀{cs:List D} {o:Nat},dL w S b o cs->∃vs,aU w S cs vs/\∀(j:Nat) (v:Value),vs[j]?=some v->w.cell? ⟨b,o+j,none⟩=some v
 |[],_,_=>⟨[],by simp [aU],fun j v h=>by simp at h⟩
 |d::ds,o,h=>by
  simp only[dL] at h
  obtain⟨⟨u,h1,h2,h3⟩,h4⟩:=h
  obtain⟨vs,h5,h6⟩:=fA h4
  refine⟨u::vs,by simp only[aU];exact⟨u,vs,rfl,h2,h3,h5⟩,fun j v hj=>?_⟩
  cases j with
  |zero=>simp at hj;subst hj;exact h1
  |succ j=>rw[show o+(j+1)=o+1+j by omega];exact h6 j v (by simpa using hj)
theorem fD {b:Nat}:∀{cs:List D} {o:Nat} {vs:List Value},aU w S cs vs->(∀(j:Nat) (v:Value),vs[j]?=some v->w.cell? ⟨b,o+j,none⟩=some v)->dL w S b o cs
 |[],_,_,_,_=>by simp only[dL]
 |d::ds,o,vs,h,hc=>by
  simp only[aU] at h
  obtain⟨u,us,rfl,h1,h2,h3⟩:=h
  simp only[dL]
  exact⟨⟨u,by simpa using hc 0 u rfl,h1,h2⟩,fD h3 fun j v hj=>by
   have:=hc (j+1) v (by simpa using hj)
   rwa[show o+(j+1)=o+1+j by omega] at this⟩
theorem nM {b o:Nat} {cs:List D} (h:dL w S b o cs) (k:Nat):dL w S b (o+k) (cs.drop k):=by
 obtain⟨vs,h1,h2⟩:=fA h
 refine fD (kJ k h1) fun j v hj=>?_
 rw[show o+k+j=o+(k+j) by omega]
 exact h2 _ v (by simpa [wX] using hj)
theorem B2 {b o:Nat} {cs:List D} (h:dL w S b o cs) (k:Nat):dL w S b o (cs.take k):=by
 obtain⟨vs,h1,h2⟩:=fA h
 refine fD (kK k h1) fun j v hj=>?_
 refine h2 j v ?_
 rw[uS] at hj
 split at hj
 ·exact hj
 ·cases hj
theorem fH {b sz:Nat}:∀{els:List (List D)} {o:Nat},eB w S b sz o els->∀(i:Nat) (el:List D),els[i]?=some el->el.length=sz/\dL w S b (o+i * sz) el
 |[],_,_,i,el,h=>by simp at h
 |e::els,o,h,i,el,hi=>by
  simp only[eB] at h
  cases i with
  |zero=>simp at hi;subst hi;simpa using ⟨h.1,h.2.1⟩
  |succ i=>
   have:=fH h.2.2 i el (by simpa using hi)
   rw[show o+(i+1) * sz=o+sz+i * sz by rw[gE];omega]
   exact this
theorem gO {b sz:Nat}:∀{els:List (List D)} {o:Nat},(∀(i:Nat) (el:List D),els[i]?=some el->el.length=sz/\dL w S b (o+i * sz) el)->eB w S b sz o els
 |[],_,_=>by simp only[eB]
 |e::els,o,h=>by
  simp only[eB]
  have h0:=h 0 e rfl
  refine⟨h0.1,by simpa using h0.2,gO fun i el hi=>?_⟩
  have:=h (i+1) el (by simpa using hi)
  rwa[show o+(i+1) * sz=o+sz+i * sz by rw[gE];omega] at this
theorem vI {b sz o:Nat} {els:List (List D)} (h:eB w S b sz o els) (k:Nat):eB w S b sz (o+k * sz) (els.drop k):=
 gO fun i el hi=>by
  have:=fH h (k+i) el (by simpa [wX] using hi)
  rwa[show o+k * sz+i * sz=o+(k+i) * sz by rw[gE];omega]
theorem pU {b sz o:Nat} {els:List (List D)} (h:eB w S b sz o els) (k:Nat):eB w S b sz o (els.take k):=
 gO fun i el hi=>by
  rw[uS] at hi
  split at hi
  ·exact fH h i el hi
  ·cases hi
end
theorem kA {P:Program} (b:Nat) (t:TypeId) (fr:Nat×Nat):∀(vs:List Value) (o i:Nat) (w:World) (cs:Array Value),w.heap[b]?=some (Obj.cells cs t fr)->aEZ fr cs.size->o+i+vs.length<=cs.size->(∀v∈vs,v.oneCell'=true)->
  ∃w',(storeCells ⟨b,o,none⟩ vs i).run P w=.ok () w'/\w'.os=w.os/\w'.tape=w.tape/\w'.output=w.output/\w'.heap.size=w.heap.size/\(∀c,c≠b->w'.heap[c]?=w.heap[c]?)/\
   ∃w9,w'.heap[b]?=some (Obj.cells w9 t fr)/\w9.size=cs.size/\(∀j v,vs[j]?=some v->w9[o+i+j]?=some v)/\∀j,(j<o+i\/o+i+vs.length<=j)->w9[j]?=cs[j]?
 |[],o,i,w,cs,hb,_,_,_=>⟨w,rfl,rfl,rfl,rfl,rfl,fun _ _=>rfl,cs,hb,rfl,fun j v h=>by simp at h,fun _ _=>rfl⟩
 |v::vs,o,i,w,cs,hb,Z5,fJ,h1=>by
  have kL:o+i<cs.size:=by simp at fJ;omega
  have aKN:(⟨b,o,none⟩:Addr).add i=⟨b,o+i,none⟩:=Addr.add_lit _ _ _
  have G5:w.cell? ⟨b,o+i,none⟩=some cs[o+i]:=by
   rw[cell_of_row w b (o+i) cs t fr hb];simp [kL]
  have hfz:w.frozen? ⟨b,o+i,none⟩=false:=by
   have:=Z5.not (o+i) kL
   simp only[World.frozen?,hb]
   simpa using fun h=>Nat.le_of_not_lt (fun h2=>this ⟨h,h2⟩)
  have tU:(w.setCell ⟨b,o+i,none⟩ v).heap[b]?=some (Obj.cells (cs.setIfInBounds (o+i) v) t fr):=by
   simp [World.setCell,CT,hb]
  obtain⟨w',h2,e1,e2,e3,e4,h3,w9,h4,h5,h6,h7⟩:=kA b t fr vs o (i+1) (w.setCell ⟨b,o+i,none⟩ v) _ tU (by simpa using Z5) (by simp at fJ ⊢;omega) (fun u hu=>h1 u (by simp [hu]))
  refine⟨w',?_,e1,e2,e3,by simpa [World.setCell] using e4,fun c hc=>(h3 c hc).trans (Below.heap_setCell w _ v c hc),w9,h4,by simpa using h5,?_,?_⟩
  ·simp only[storeCells,Sem.run_bind,aKN,run_store P w _ v _ (h1 v (by simp)),G5,hfz]
   exact h2
  ·intro j u hj
   cases j with
   |zero=>
    simp at hj
    subst hj
    rw[u6,h7 (o+i) (by omega)]
    simp [kL]
   |succ j=>rw[show o+i+(j+1)=o+(i+1)+j by omega];exact h6 j u (by simpa using hj)
  ·intro j hj
   rw[h7 j (by simp at hj ⊢;omega)]
   rw[Array.getElem?_setIfInBounds]
   rw[aA (by simp at hj;omega)]
def D.cells:D->Option (List D)
 | .agg cs=>some cs
 | .val (.agg _)| .val (.tuple _)| .pG _=>none
 |d=>some [d]
theorem D.I8 {w:World} {S:Nat->Prop} {d:D} {v:Value} {cs:List D} (h:D.is w S d v) (hc:d.cells=some cs):aU w S cs v.cells.toList:=by
 have one:∀{d:D} {v:Value},D.is w S d v->v.oneCell'=true->aU w S [d] v.cells.toList:=fun {d v} h h1=>by
  have:v.cells= #[v]:=by cases v <;> first|rfl|cases h1
  rw[this]
  simp only[aU]
  exact⟨v,[],rfl,h1,h,rfl⟩
 cases d with
 |agg ds=>
  simp only[D.cells] at hc
  injection hc with hc
  subst hc
  simp only[D.is] at h
  obtain⟨vs,rfl,h⟩:=h
  exact h
 |val u=>
  have e:v=u:=by simpa only[D.is] using h
  subst e
  cases v <;> simp only[D.cells] at hc <;> first|(injection hc with hc;subst hc;exact one h rfl)|cases hc
 |pG ds=>simp only[D.cells] at hc;cases hc
 |seq sz els=>
  simp only[D.cells] at hc
  injection hc with hc
  subst hc
  have h':=h
  simp only[D.is] at h'
  obtain⟨A,c,rfl,_⟩:=h'
  exact one h rfl
 |os b o sz k n=>
  simp only[D.cells] at hc
  injection hc with hc
  subst hc
  have h':=h
  simp only[D.is] at h'
  obtain⟨A,c,rfl,_⟩:=h'
  exact one h rfl
 |ep b o sz i k=>
  simp only[D.cells] at hc
  injection hc with hc
  subst hc
  have h':=h
  simp only[D.is] at h'
  subst h'
  exact one h rfl
 |rp cs=>
  simp only[D.cells] at hc
  injection hc with hc
  subst hc
  have h':=h
  simp only[D.is] at h'
  obtain⟨b,o,rfl,_⟩:=h'
  exact one h rfl
 |fn f cs=>
  simp only[D.cells] at hc
  injection hc with hc
  subst hc
  have h':=h
  simp only[D.is] at h'
  obtain⟨vs,rfl,_⟩:=h'
  exact one h rfl
 |TA=>
  simp only[D.cells] at hc
  injection hc with hc
  subst hc
  have h':=h
  simp only[D.is] at h'
  obtain⟨A,rfl⟩:=h'
  exact one h rfl
theorem jZ {H:aC} {w:World} (o:Obj) (x:fK) (hH:iK w H):Ev H w (H.bH w.heap.size x) (w.alloc o) where
 os:=rfl
 tape:=rfl
 output:=rfl
 size:=by simp
 fS:=fun b hb hn=>⟨Below.heap_alloc w o b hb,by rw[aN (by omega)];exact hn⟩
 shape:=fun b cs t fr hb=>⟨cs,fr,by rw[Below.heap_alloc w o b (tL.1 hb).1];exact hb,rfl⟩
theorem jF {H:aC} {w:World} (hH:iK w H):H w.heap.size=none:=by
 cases e:H w.heap.size with
 |none=>rfl
 |some x=>exact absurd (hH.lt e) (by omega)
theorem Ev.sZ {H H':aC} {w w':World} (h:Ev H w H' w') {b:Nat} {x:fK} (hb:w'.heap[b]?=w.heap[b]?) (hx:sZ w H b x):sZ w' H' b x:=by
 cases x with
 |row t o sz els=>
  obtain⟨cs,fr,h1,h2,h3,h4⟩:=hx
  refine⟨cs,fr,hb.trans h1,h2,h3,gO fun i el hi=>?_⟩
  obtain⟨h5,h6⟩:=fH h4 i el hi
  refine⟨h5,?_⟩
  obtain⟨vs,h7,h8⟩:=fA h6
  refine fD (cK h.kept el h7) fun j v hj=>?_
  rw[<-h8 j v hj]
  exact World.cell?_of_block hb
 |map m=>
  obtain⟨es,c,h1,h2,h3,h4⟩:=hx
  exact⟨es,c,hb.trans h1,h2,lW h.kept _ h3,h4⟩
 |hid=>exact PT hx h.size
 |obj o=>exact hb.trans hx
theorem iK.alloc {H:aC} {w:World} (hH:iK w H) {o:Obj} {x:fK} (hx:sZ (w.alloc o) (H.bH w.heap.size x) w.heap.size x):iK (w.alloc o) (H.bH w.heap.size x):=fun b y hb=>by
 by_cases e:b=w.heap.size
 ·subst e
  rw[aO] at hb
  injection hb with hb
  subst hb
  exact hx
 ·rw[aN e] at hb
  exact(jZ o x hH).sZ (Below.heap_alloc w o b (hH.lt hb)) (hH b y hb)
theorem aAY (n:Nat):aEZ (0,0) n:=.inl rfl
theorem MF {H:aC} {w:World} (hH:iK w H) (t:TypeId) (sz:Nat) (els:List (List D)) (vs:List Value) (hv:aU w H.others els.flatten vs) (lZ:∀el∈els,el.length=sz) (fJ:els.length * sz<=vs.length):
  iK (w.alloc (Obj.cells ⟨vs⟩ t)) (H.bH w.heap.size (.row t 0 sz els)):=by
 refine hH.alloc ⟨⟨vs⟩,(0,0),heap_alloc_new w _,aAY _,by simpa using fJ,?_⟩
 have hk:=cK (jZ (Obj.cells ⟨vs⟩ t) (.row t 0 sz els) hH).kept _ hv
 refine gO fun i el hi=>⟨lZ el (iQ hi),?_⟩
 have aQW:∀(i:Nat) (els:List (List D)),(∀el∈els,el.length=sz)->∀el,els[i]?=some el->(els.flatten.drop (i * sz)).take sz=el:=by
  intro i
  induction i with
  |zero=>
   intro els hs el h0
   cases els with
   |nil=>simp at h0
   |cons e els=>
    simp at h0
    subst h0
    have:=hs e (by simp)
    simp [<-this]
  |succ i ih=>
   intro els hs el h0
   cases els with
   |nil=>simp at h0
   |cons e els=>
    have h1:=hs e (by simp)
    have h2:=ih els (fun x hx=>hs x (by simp [hx])) el (by simpa using h0)
    rw[CX,gE,Nat.one_mul,List.drop_append,zK (by omega),h1,gZ]
    simpa [Nat.add_sub_cancel] using h2
 have he:=aQW i els lZ el hi
 have h1:=kK sz (kJ (i * sz) hk)
 rw[he] at h1
 refine fD h1 fun j v hj=>?_
 rw[mI,cell_of_row _ _ _ _ _ _ (heap_alloc_new w _)]
 rw[uS] at hj
 split at hj
 ·rw[wX] at hj
  simpa using hj
 ·cases hj
end Go.Proofs.YtfiipaodjpiooaaGreatDoor

