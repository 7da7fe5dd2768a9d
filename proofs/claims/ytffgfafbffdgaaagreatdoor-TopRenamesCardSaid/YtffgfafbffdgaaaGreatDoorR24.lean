/- Lemmas and contracts of functions, several texts in one. -/
import Derived.Shelf.Sort.Plain
import Derived.Shelf.Slices.In.SortNone
import Derived.Test.YtffgfafbffdgaaaGreatDoorR23
import Derived.Shelf.SlSortCmp.WholeK
import Derived.Shelf.SlSortCmp.NoneTotal
set_option maxRecDepth 100000
set_option maxHeartbeats 4000000
set_option linter.all false
namespace Go.Proofs.YtffgfafbffdgaaaGreatDoor
open Go.RowKit Go.Sort
open Tryz
def aCn:Go.Shelf.Ren where
 f:=λx=>match x with
  |189=>244
  |125=>155
  |257=>313
  |128=>233
  |129=>234
  |294=>352
  |295=>353
  |296=>354
  |297=>355
  |298=>356
  |299=>357
  |216=>358
  |300=>359
  |301=>360
  |328=>370
  |329=>298
  |330=>299
  |331=>371
  |332=>372
  |215=>315
  |343=>375
  |n=>n
 t:=λx=>match x with
  |28=>37
  |3=>3
  |46=>228
  |0=>0
  |51=>238
  |53=>153
  |4=>4
  |183=>324
  |182=>323
  |131=>231
  |5=>5
  |9=>9
  |218=>392
  |222=>396
  |228=>429
  |229=>177
  |n=>n
 g:=λn=>n
theorem EO:Lays.n189 prog aCn where
 mixed:=by kernel_rfl
 f125:=func155.trans (ai some (by kernel_rfl))
 f128:=func233.trans (ai some (by kernel_rfl))
 f129:=func234.trans (ai some (by kernel_rfl))
 f189:=func244.trans (ai some (by kernel_rfl))
 f215:=func315.trans (ai some (by kernel_rfl))
 f216:=func358.trans (ai some (by kernel_rfl))
 f257:=func313.trans (ai some (by kernel_rfl))
 f294:=func352.trans (ai some (by kernel_rfl))
 f295:=func353.trans (ai some (by kernel_rfl))
 f296:=func354.trans (ai some (by kernel_rfl))
 f297:=func355.trans (ai some (by kernel_rfl))
 f298:=func356.trans (ai some (by kernel_rfl))
 f299:=func357.trans (ai some (by kernel_rfl))
 f300:=func359.trans (ai some (by kernel_rfl))
 f301:=func360.trans (ai some (by kernel_rfl))
 f328:=func370.trans (ai some (by kernel_rfl))
 f329:=func298.trans (ai some (by kernel_rfl))
 f330:=func299.trans (ai some (by kernel_rfl))
 f331:=func371.trans (ai some (by kernel_rfl))
 f332:=func372.trans (ai some (by kernel_rfl))
 f343:=func375.trans (ai some (by kernel_rfl))
 t0:=underlying0
 a0:=Tryz.isAgg0
 z0:=Tryz.sizeOf0
 v0:=Tryz.zeroValue0
 t3:=underlying3
 a3:=Tryz.isAgg3
 z3:=Tryz.sizeOf3
 v3:=Tryz.zeroValue3
 t4:=underlying4
 a4:=Tryz.isAgg4
 z4:=Tryz.sizeOf4
 v4:=Tryz.zeroValue4
 t5:=underlying5
 a5:=Tryz.isAgg5
 z5:=Tryz.sizeOf5
 v5:=Tryz.zeroValue5
 t9:=underlying9
 a9:=Tryz.isAgg9
 z9:=Tryz.sizeOf9
 v9:=Tryz.zeroValue9
 t28:=underlying37
 a28:=Tryz.isAgg37
 z28:=Tryz.sizeOf37
 v28:=Tryz.zeroValue37
 t46:=underlying228
 a46:=Tryz.isAgg228
 z46:=Tryz.sizeOf228
 v46:=Tryz.zeroValue228
 t51:=underlying238
 a51:=Tryz.isAgg238
 z51:=Tryz.sizeOf238
 v51:=Tryz.zeroValue238
 t53:=underlying153
 a53:=Tryz.isAgg153
 z53:=Tryz.sizeOf153
 v53:=Tryz.zeroValue153
 t131:=underlying231
 a131:=Tryz.isAgg231
 z131:=Tryz.sizeOf231
 v131:=Tryz.zeroValue231
 t182:=underlying323
 a182:=Tryz.isAgg323
 z182:=Tryz.sizeOf323
 v182:=Tryz.zeroValue323
 t183:=underlying324
 a183:=Tryz.isAgg324
 z183:=Tryz.sizeOf324
 v183:=Tryz.zeroValue324
 t218:=underlying392
 a218:=Tryz.isAgg392
 z218:=Tryz.sizeOf392
 v218:=Tryz.zeroValue392
 t222:=underlying396
 a222:=Tryz.isAgg396
 z222:=Tryz.sizeOf396
 v222:=Tryz.zeroValue396
 t228:=underlying429
 a228:=Tryz.isAgg429
 z228:=Tryz.sizeOf429
 v228:=Tryz.zeroValue429
 t229:=underlying177
 a229:=Tryz.isAgg177
 z229:=Tryz.sizeOf177
 v229:=Tryz.zeroValue177
def dL (l:List Int):List Int:=l.mergeSort λx y=>decide (x<=y)
theorem dw (l:List Int):(dL l).length=l.length:=List.length_mergeSort _
theorem Lx {l:List Int}{j:Nat}(h:j<l.length):(dL l).toArray[j]! =(dL l)[j]'(by rw[dw];exact h):=by
 have h':j<(dL l).length:=by rw[dw];exact h
 rw[nr (dL l).toArray j (by simpa using h')];simp
theorem vu {H:aA}{b o:Nat}{T:TypeId}{l:List Int}(hb:H b=some (.row T o 1 (l.map iD))) (hl:l.length<4611686018427387904):
  aN prog 244 [.os b o 1 0 l.length] H λd H'=>d=.eO []/\H'=H.aU b (.row T o 1 ((dL l).map iD)):=
 And.intro (jH func244 rfl rfl) λw vs js B _=>by
  simp only[aT] at js;obtain⟨u,_,rfl,h1,rfl⟩:=js;simp only[D.is] at h1;obtain⟨A,c,rfl,a0,h1⟩:=h1;obtain⟨cs,Z,g,xu,ir,K⟩:=B _ _ hb;rw[aS,jZ] at ir;have I:=B.lt hb;have J:∀j (hj:j<l.length),cs[o+j]?=some (.int .i64 l[j]):=λj hj=>by
   have:=(ca K j [.val (.int .i64 l[j])] (by rw[bg,az hj] <;> rfl)).2;simp only[bU,D.is] at this;obtain⟨⟨v,hv,_,rfl⟩,_⟩:=this;rw[cell_of_row _ _ _ _ _ _ g,jZ] at hv;exact hv
  by_cases R:l.length=0
  ·have S:l=[]:=cy R
   subst S;refine(Any.slices_Sort_int_none EO A c w).mono ?_;rintro e w' ⟨rfl,rfl⟩;have hs:dL []=[]:=cy (dw []);refine⟨_,_,H,rfl,(by simp only[D.is];exact⟨[],rfl,by simp only[aT]⟩),B,dr _ _,rfl,?_⟩;funext f;by_cases E:f=b
   ·subst E;rw[aK,hb,hs]
   ·rw[aJ E]
  have hA:A=some ⟨b,o,none⟩:=by
   rcases h1 with h1|h1
   ·omega
   ·rw[h1.1];simp
  subst hA;have ye:=dw l;have L:Holds (Value.int .i64) w b o l.toArray:=λj hj=>by
   have P:j<l.length:=by simpa using hj
   refine⟨?_,?_⟩
   ·rw[cell_of_row _ _ _ _ _ _ g,J j P,nr l.toArray j hj];simp
   ·have:=xu.not (o+j) (by omega)
    simp only[World.frozen?,g];simp;omega
  refine(Any.slices_Sort_int EO b o c l w L I hl).mono ?_;rintro e w' ⟨rfl,n,os,rfl⟩;obtain⟨k,m⟩:=oX ((dL l).toArray);have M:k.size=l.length:=by rw[m];simpa using ye
  rw[show(l.mergeSort λx y=>decide (x<=y)).toArray=k from m.symm];have r:(grow (putRow (Value.int .i64) (Go.Sort.ahead w n) b o k) os).heap[b]?=some (Obj.cells (putCells (Value.int .i64) o k cs) T Z):=by
   rw[heap_grow_old _ _ (by rw[size_putRow];exact I)];show(w.heap.modify b _)[b]?=_;rw[pb,aD rfl,g];rfl
  have s:∀f,f<w.heap.size->f≠b->(grow (putRow (Value.int .i64) (Go.Sort.ahead w n) b o k) os).heap[f]?=w.heap[f]?:=λf h a=>by
   rw[heap_grow_old _ _ (by rw[size_putRow];exact h)];show(w.heap.modify b _)[f]?=_;rw[pb,aC (Ne.symm a)]
  have V:Ev H w (H.aU b (.row T o 1 ((dL l).map iD))) (grow (putRow (Value.int .i64) (Go.Sort.ahead w n) b o k) os):=by
   refine⟨rfl,rfl,rfl,?_,λf h1 z=>?_,λf nN t' De h=>?_⟩
   ·rw[size_grow,size_putRow];exact wP _ _
   ·have a:f≠b:=λe=>by rw[e,hb] at z;cases z
    exact⟨s f h1 a,by rw[aJ a];exact z⟩
   ·by_cases a:f=b
    ·subst a
     rw[g] at h;cases h;exact⟨_,_,r,by simp [putCells]⟩
    ·exact⟨nN,De,by rw[s f (jP.1 h).1 a];exact h,rfl⟩
  refine⟨_,_,_,rfl,(by simp only[D.is];exact⟨[],rfl,by simp only[aT]⟩),?_,V,rfl,rfl⟩;intro f y t;by_cases a:f=b
  ·subst a
   rw[aK] at t;injection t with t
   subst t;refine⟨_,Z,r,?_,?_,dV λi el p=>?_⟩
   ·rw[show(putCells (Value.int .i64) o k cs).size=cs.size by simp [putCells]];exact xu
   ·rw[show(putCells (Value.int .i64) o k cs).size=cs.size by simp [putCells],aS,ye];omega
   ·rw[bg] at p
    have G:i<l.length:=by
     rcases fv i (dL l).length with h|h
     ·omega
     ·rw[lu h] at p;cases p
    rw[az (by omega)] at p;injection p with p
    subst p;refine⟨rfl,?_⟩;simp only[iD,i64,bU,D.is];refine⟨⟨_,?_,rfl,rfl⟩,trivial⟩;rw[cell_of_row _ _ _ _ _ _ r,jZ];have z:o+i<cs.size:=by omega
    have N:=Lx G;rw[<-m] at N;rw[nr k i (by omega)] at N;simp [putCells,z,M,G];exact N
  ·rw[aJ a] at t
   exact V.jb (s f (B.lt t) a) (B f y t)
theorem vt (H:aA):aN prog 244 [.val (.slice none 0 0)] H λd H'=>d=.eO []/\H=H':=
 And.intro (jH func244 rfl rfl) λw f b c _=>by
  simp only[aT] at b;obtain⟨u,_,rfl,a,rfl⟩:=b;simp only[D.is] at a;subst a;refine(Any.slices_Sort_int_none EO none 0 w).mono ?_;rintro e g ⟨rfl,rfl⟩;exact⟨_,_,H,rfl,(by simp only[D.is];exact⟨[],rfl,by simp only[aT]⟩),c,dr _ _,rfl,rfl⟩
end Go.Proofs.YtffgfafbffdgaaaGreatDoor
namespace Go.Proofs.YtffgfafbffdgaaaGreatDoor
open Go.RowKit
theorem sx {l:List Int}{x:Int}:x∈dL l↔x∈l:=List.mem_mergeSort
theorem vr (l:List Int):(dL l).Pairwise (·<=·):=by
 have e:(dL l).Pairwise λa b=>decide (a<=b)=true:=yz (λa b c e f=>by simp at *;omega) (λa b=>by simp;omega) l;exact e.imp λ{a b} h=>by simpa using h
end Go.Proofs.YtffgfafbffdgaaaGreatDoor
namespace Go.Proofs.YtffgfafbffdgaaaGreatDoor
open Go.ChangeMaps (setBlock)
open Go.RowKit
open Tryz
variable {e:TypeId}{H H' H0:aA}{b r sz:Nat}{gf:FuncId}{bc:List D}
def Qu (c:Array MapEntry) (a:Nat) (vs:List (Value×Value)):Prop:=
 c.toList.map (λe=>(e.key,e.val))=vs/\(∀x∈c.toList,x.born<a)/\(c.toList.map (·.born)).Nodup
theorem Bn {n:Cx}{c:Code}{Q:Exit->St->Prop}{s:St}(b:Nat)(vs:List (Value×Value))(hb:s.H b=some (.map (vs.map λp=>(p.1,.val p.2))))(h:∀j g,Qu j g vs->W n c Q (s.cJ (s.H.aU b (.obj (.map j g))))):W n c Q s:=λa w m=>by
 obtain⟨j,g,t,u,v,E,z,A⟩:=m.H _ _ hb;have k:Es (s.H.aU b (.obj (.map j g))) s.H:=λc i=>by rw[aJ (λe=>by rw[e,hb] at i;cases i)];exact i
 have l:eF w (s.H.aU b (.obj (.map j g))):=λc y i=>by
  by_cases o:c=b
  ·subst o
   rw[aK] at i;injection i with i
   subst i;exact t
  ·rw[aJ o] at i
   exact(nE k w).jb rfl (m.H c y i)
 refine h j g ⟨Af _ _ ?_ ?_,λx B=>z _ (wM (f:=(·.born)) B),A⟩ a w (m.go (nE k w) l)
 ·rw[u,gL];rfl
 ·exact Eg vs _ v
theorem Bm {j:Cx}{o:Oper}{K:St->Prop}{s:St}{t k:TypeId}{x:Operand}{b:Nat}{f:Array MapEntry}{c:Nat}{vs:List (Value×Value)}(e0:o.op=.range t x)(hd:qP j.n o.dst)(ht:j.P.underlying t=some (.map k e))
  (hx:s.ev x=.val (.map (some b))) (hb:s.H b=some (.obj (.map f c))) (hm:Qu f c vs)
  (h:∀r y,s.H r=none->r≠b->B0 (s.H.aU r (.obj y)) b r vs->K ((s.cJ (s.H.aU r (.obj y))).put o.dst (.val (.pointer (some ⟨r,0,none⟩))))):WO j o K s:=
 mJ (by simp [e0]) hd λa w m=>by
  have i:=m.nz x;rw[hx] at i;have p:=cQ i;have u:w.heap[b]?=some (.map f c):=m.H _ _ hb;have z:b<w.heap.size:=(jP.1 u).1;have g:w.heap.size≠b:=by omega
  have l:eF (w.alloc (.mapIter (some b) c #[] c)) (s.H.aU w.heap.size (.obj (.mapIter (some b) c #[] c))):=eF.alloc m.H (heap_alloc_new w _);refine⟨.pointer (some ⟨w.heap.size,0,none⟩),_,_,_,?_,lN _,l,gN _ _ m.H,h w.heap.size _ (ff m.H) g ⟨f,c,c,#[],c,?_,aK ..,hm.2.1,bh _,bh _,hm.2.2,?_⟩⟩
  ·simp only[execOp,e0,p]
   have:=run_range_map (P:=j.P) w t k e b f c ht u;simp only[Sem.run_bind,this,Result.andThen,Sem.run_pure]
  ·rw[aJ (Ne.symm g),hb]
  ·have v:leftOf f #[]=f:=by
    unfold leftOf;rw[Array.filter_eq_self];intro y _;simp
   rw[v]
   exact hm.1.symm
theorem Ex.obj {p:Value×Value}(h:Ex H b r p):∃y,H r=some (.obj y):=by
 obtain⟨g,a,c,seen,e,i,f,j⟩:=h;exact⟨_,f⟩
theorem B0.obj {a:List (Value×Value)}(h:B0 H b r a):∃y,H r=some (.obj y):=by
 obtain⟨j,c,f,seen,i,k,g,l⟩:=h;exact⟨_,g⟩
theorem B0.map {a:List (Value×Value)}(h:B0 H b r a):∃y,H b=some (.obj y):=by
 obtain⟨j,c,f,seen,i,g,k,l⟩:=h;exact⟨_,g⟩
theorem QZ {x:cY}(hr:H' r=some x)(hk:∀c,c≠r->H' c=H c):H'=H.aU r x:=funext λc=>by
 by_cases e:c=r
 ·rw[e,hr,aK]
 ·rw[hk c e,aJ e]
def Xy {a:Type}(S:List a) (l:List a):Prop:=∃r,(l++r).Perm S
def KQ (c:Nat) (f:Array MapEntry) (a:Nat) (H:aA):Prop:=H c=some (.obj (.map f a))
theorem OZ (S:List Int)(m:Nat)(N:Array MapEntry)(j:Nat)(hm:Qu N j (SV S)):
  ph prog 310 [.rp [.val (.map (some m))]] (λx:Int=>[i64 x]) (Xy S) (·.Perm S) (KQ m N j) (KQ m N j):=by
 refine v7 _ func310 rfl rfl ntmps310 results310 (by simp) λl J Jx H w0 g0 Q dC hJ hC a1 t hY aB=>?_;unfold KQ at dC t;refine tq @yD.eq_1 ?_;intro U Y O C;refine Bm rfl (show(5:Nat)<14 by decide) underlying338 rfl dC hm ?_;intro r y g a2 L;refine Y _ ?_;refine t0 ?_;intro U Y O C;refine jz (λk s=>∃(c i:List Int),k=c.length/\s.df=[]/\s.fr 0=yD l/\s.fr 5=.val (.pointer (some ⟨r,0,none⟩))/\B0 s.H m r (SV c)/\J i s.H/\(i++c).Perm S) S.length ⟨S,[],rfl,rfl,rfl,rfl,L,hC _ _ _ _ g (λz w=>by rw[g] at w;cases w) hJ,List.Perm.refl _⟩ ?_;rintro n s ⟨c,i,rfl,o,P,K,L,hj,hp⟩;refine tq K ?_;intro U Y O C;refine uw rfl (show(6:Nat)<14 by decide) K L (λu=>?_) (λl1 p l2 I u T A Z=>?_)
 ·have a0:c=[]:=by
   cases c with
   |nil=>rfl
   |cons a l=>cases u
  subst a0
  refine eV trivial ?_;refine nx ?_
  refine t0 ?_;intro U Y O C
  rw[bz] at hp
  exact aB _ _ (.inl rfl) o (.inl ⟨i,hp,hj⟩)
 ·obtain⟨t1,a3,e1,e2,e3⟩:=wH.1 u
  obtain⟨b,t2,e4,e5,e6⟩:=wL.1 e3;subst e1 e4 e2 e6 e5;have G:((i++[b])++(t1++t2)).Perm S:=by
   refine List.Perm.trans ?_ hp;rw[bE];exact zF _ (zQ (l₁:=t1) (l₂:=t2) (a:=b)).symm
  have V:B0 I m r (SV (t1++t2)):=by
   have:SV (t1++t2)=SV t1++SV t2:=bI;rw[this];exact T
  obtain⟨y3,v⟩:=A.obj;have R:=QZ v Z;have B:J i I:=by
   rw[R];exact hC _ _ _ _ g (λz w=>by obtain⟨y',h⟩:=L.obj;rw[h] at w;injection w with w;exact⟨_,w.symm⟩) hj
  refine eV trivial ?_;refine nx ?_;refine t0 ?_;intro U Y O C;refine rj rfl (show(8:Nat)<14 by decide) (by exact K) A ?_;refine eV (av P @yD.eq_1) ?_;refine nx ?_;refine tq (av P @yD.eq_1) ?_;intro U Y O C;refine nu i b rfl rfl rfl (by simp [qP]) hY (dr _ _) ⟨_,G⟩ B rfl (λM f E=>?_) λM f E=>?_
  ·have k1:M m=I m:=by
    have h1:=t _ _ B;have h2:=t _ _ f;rw[h1,h2]
   have k2:M r=I r:=by rw[v];exact E r y3 g v
   refine eV trivial ?_;refine nx ?_
   refine tz ?_
   exact⟨_,by show(t1++t2).length<(t1++b::t2).length;rw[aV,aV,bx];omega,t1++t2,i++[b],rfl,o,P,K,V.cM k1 k2,f,G⟩
  ·refine eV trivial ?_;refine nx ?_
   refine t0 ?_;intro U Y O C;exact aB _ _ (.inr rfl) o (.inr ⟨_,f⟩)
def ApI (H:aA) (c:Nat) (l:List Int) (a:aA):Prop:=H.le a/\∃x f,a c=some (.row 37 0 1 [[x]])/\Gl H 3 1 (l.map iD) x a f/\f≠some c
theorem Gl.Am {els:List (List D)}{d:D}{ob:Option Nat}(h:Gl H0 e sz els d H ob)(hr:Am H H'):Gl H0 e sz els d H' ob:=by
 rcases h with j|⟨c,o,a,f,g,i⟩
 ·exact .inl j
 ·exact .inr ⟨c,o,a,f,g,hr _ _ i (by simp)⟩
theorem OD {els:List (List D)}{d:D}{ob:Option Nat}{M:Nat}{o:Obj}{x:cY}(h:Gl H0 e sz els d H ob)(j:H M=some (.obj o)):Gl H0 e sz els d (H.aU M x) ob:=h.cM λc f=>aJ λe=>by
 rcases h with⟨g,_⟩|⟨k,l,a,_,_,i⟩
 ·rw[g] at f;cases f
 ·rw[f] at a;injection a with a;rw[<-a,e,j] at i;cases i
theorem RT {Pf Fn:List Int->Prop}{ok kp:aA->Prop}(it:ph prog gf bc (λx:Int=>[i64 x]) Pf Fn ok kp)(H:aA)(dC:∀H',H.le H'->ok H')(V:∀f,gE H f->kp f)(hP:∀l,Pf l->l.length<=1000000000000):
  aN prog 351 [.val (.slice none 0 0),.fn gf bc] H λd H'=>∃G ob,Fn G/\Gl H 3 1 (G.map iD) d H' ob/\H.le H':=by
 refine lH _ _ func351 rfl rfl ntmps351 results351 (by simp) λw0 g0 Q aB=>?_;refine t0 ?_;intro U Y O C;intro i v;refine Y _ ?_;refine t0 ?_;intro U Y O C;have m:H.le (H.aU i (.row 37 0 1 [[.val (.slice none 0 0)]])):=aQ (aF _) v;refine iz (λs=>s.df=[]/\s.fr 2=.ep i 0 1 0 0/\s.fr 6=.fn gf bc/\H.le s.H/\ApI H.qb i [] s.H) ⟨rfl,rfl,rfl,m,iL (uV H) m,_,none,aK _ _ _,eB _ _ _ _,by simp⟩ ?_;rintro s ⟨w,p,f6,g,R⟩;refine lC rfl it f6 (λH' h=>dC H' (iL g h)) (by simp) (λ_=>rfl) (λ_=>True) (λ_ _=>trivial) (λa=>ApI H.qb i a) (λ_ f _ h=>V f λb o hb=>h b o trivial (g _ _ hb)) (λ_ _ _=>False) ?_ ?_ ?_ ?_ ?_ ?_
 ·rintro a H1 b o _ hz ⟨h1,x,ob,h2,h3,h4⟩
  exact⟨gO (jK H) h1 (lQ hz),x,ob,lQ hz _ _ h2 (by simp),h3.Am (lQ hz),h4⟩
 ·exact λ_ _ _ _ _ _ _ h=>h
 ·exact R
 ·rintro l w1 a x f o a2 _ J ⟨k,xs,ob,j,t,g4⟩ A Z
  rw[Ls];refine tq (cw cR cO cE au w) ?_;intro U Y O C;simp only[cF];refine⟨rfl,λb o _ h=>h,λw2 y a3 _=>?_⟩;have a0:=hP _ J;rw[aV,eE] at a0;have n2:i≠l:=λe=>by rw[e,Z] at j;cases j
  have r2:(f.aU l (.obj y)) i=some (.row 37 0 1 [[xs]]):=(aJ n2).trans j;have u:Gl H.qb 3 1 (a.map iD) xs (f.aU l (.obj y)) ob:=t.Am (kA Z);have L:H.qb.le (f.aU l (.obj y)):=gO (jK H) k (kA Z);simp only[au,eL,fC,iN,cO,fS];have a5:mI (λ_=>True) (f.aU l (.obj y)) (f.aU l (.obj y)):=λb o _ h=>h;refine tq (eP p cR cO cE au r2) ?_;intro U Y O C;refine ax (e:=3) fk rfl fk rfl yv rfl (by decide) L u (new:=[iD x]) (by exact⟨rfl,rfl⟩) (by rw[aS];show(_+1) * 8<=_;omega) λd H6 a1 z I B=>?_;have q3:=B _ _ r2 g4;have E:=q3.1;have S:∃c o n,d=.os c o 1 0 n:=by
   rcases z with⟨_,_,h⟩|⟨c,o,_,h,_⟩
   ·simp at h
   ·exact⟨c,o,_,h⟩
  obtain⟨c',o',n',rfl⟩:=S;have e:(a++[x]).map iD=a.map iD++[iD x]:=by simp
  refine eV (av p E) ?_;refine nx ?_;refine⟨rfl,λb o _ h=>(qD (jU _) u B).row E (by simp) b o h,aQ I (jL v),_,a1,aK _ _ _,?_,q3.2⟩;rw[e];exact z.cM λc h=>aJ λe=>q3.2 (by rw[h,e])
 ·rintro G f M T ⟨k,xs,ob,j,t,g4⟩ A N P
  rw[mK,cp,cF,w];have a4:i≠M:=λe=>by rw[e,N] at j;cases j
  have k:=lO k g λb o h=>A b o trivial h;have t:=Di t k;refine tq (av p j) ?_;intro U Y O C;refine aB _ _ (.inr rfl) ?_ ?_
  ·refine eG p ?_
   exact Ql N
  ·refine eG p ?_
   rw[sP];have K:H.le (f.aU M .hid):=aQ k (iY g P);exact⟨_,aF _,G,ob,T,OD t N,K⟩
 ·exact λ_ _ _ _ _ _ h=>h.elim
theorem IM {l c:List Int}(h:l.Perm c):dL l=dL c:=
 List.Perm.eq_of_pairwise (λa b _ _ f g=>Int.le_antisymm f g) (vr l) (vr c) (((tK l _).trans h).trans (tK c _).symm)
theorem Rg {i Fn:List Int->Prop}{ok k:aA->Prop}(s:ph prog gf bc (λx:Int=>[i64 x]) i Fn ok k)(H:aA)(o:∀H',H.le H'->ok H')(g:∀h,gE H h->k h)(p:∀l,i l->l.length<=1000000000000):
  aN prog 309 [.fn gf bc] H λd H'=>∃a ob,Fn a/\Gl H 3 1 (a.map iD) d H' ob/\H.le H':=by
 refine dO func309 ntmps309 results309 λw v Q m=>?_;refine t0 ?_;intro U Y O C;refine(RT s H o g p).mono ?_;rintro d t ⟨a,ob,f,j,n⟩;obtain⟨u,rfl⟩:=oX d;have c:=j.cells;refine ur m trivial c ?_;exact⟨_,aF _,a,ob,f,j,n⟩
theorem MB {p Fn:List Int->Prop}{ok v:aA->Prop}(J:ph prog gf bc (λx:Int=>[i64 x]) p Fn ok v)(S:List Int)(H:aA)(y:∀H',H.le H'->ok H')(j:∀n,gE H n->v n)(A:∀l,p l->l.length<=1000000000000)(B:∀l,Fn l->l.Perm S)(hl:S.length<=1000000000000):
  aN prog 241 [.fn gf bc] H λd H'=>d=.seq 1 ((dL S).map iD)/\H=H':=by
 refine aq (K:=λd=>d=.seq 1 ((dL S).map iD)) ?_;refine dO func241 ntmps241 results241 λP M Q s=>?_;refine t0 ?_;intro U Y O C;refine(Rg J H y j A).mono ?_;rintro d w ⟨g,N,i,E,t⟩;have u:=B g i;have I:g.length<=1000000000000:=by rw[u.length_eq];exact hl
 have f:=IM u;rcases E with⟨_,h,e2⟩|⟨c,o,L,h,e2,z⟩
 ·have m:g=[]:=by simpa using e2
  subst h;refine t0 ?_;intro U Y O C;refine(vt _).q ?_;refine u0 s ?_;exact⟨_,aF _,t,.seq 1 [],iq,by rw[<-f,m];simp [dL]⟩
 ·rw[aS] at h
  subst h;refine t0 ?_;intro U Y O C;refine(vu z (by omega)).mono ?_;rintro d _ ⟨rfl,rfl⟩;refine u0 s ?_;have a:H.le (w.aU c (.row 3 o 1 ((dL g).map iD))):=aQ t e2;have G:=dw g;exact⟨_,aF _,a,_,nY (k:=0) a (aK _ _ _) e2 (by rw[aS];omega),by rw[dj,bK (by rw[aS];omega),f]⟩
theorem SU (c:Nat)(H:aA):aN prog 242 [.val (.map (some c))] H λd H'=>d=.fn 310 [.rp [.val (.map (some c))]]/\H=H':=by
 refine dO func242 ntmps242 results242 λi h Q f=>?_;refine t0 ?_;intro U Y O C;intro g a;refine Y _ ?_;refine cm 1 a ?_;refine u0 f ?_;exact⟨_,aF _,by first|rfl|exact⟨rfl,rfl⟩⟩
end Go.Proofs.YtffgfafbffdgaaaGreatDoor
namespace Go.Proofs.YtffgfafbffdgaaaGreatDoor
open Go.RowKit Go.Sort
open Tryz
theorem ZB (a:Int) (w:World):Calls prog 315 #[.int .i64 a] w λe b=>e=.returned (.bool false)/\b=w:=by
 go_enter func315,ntmps315;go_wp2;go_ret;exact⟨by simp,rfl⟩
theorem Y2 (a b:Int) (w:World):Calls prog 249 #[.int .i64 a,.int .i64 b] w λe f=>e=.returned (.int .i64 (yR a b))/\f=w:=by
 have g:=λc W=>ZB c W;go_enter func249,ntmps249;go_wp2_with (go_at_call 315;refine(g _ _).mono ?_;rintro e f ⟨rfl,rfl⟩)
 all_goals (go_ret;refine⟨?_,rfl⟩)
 all_goals (show Ending.returned (Value.int .i64 _)=_;unfold yR;first|(simp_all;done)|(split <;> (try split) <;> simp_all <;> omega))
theorem Pn (a b c d:Int) (n1 n2:Nat) (w:World) (i:w.cell? ⟨n1,0,none⟩=some (.int .i64 a)) (j:w.cell? ⟨n1,1,none⟩=some (.int .i64 b)) (k:w.cell? ⟨n2,0,none⟩=some (.int .i64 c)) (l:w.cell? ⟨n2,1,none⟩=some (.int .i64 d)):
  Calls prog 172 #[.slice (some ⟨n1,0,none⟩) 2 2,.slice (some ⟨n2,0,none⟩) 2 2] w λe g=>e=.returned (.int .i64 (nB [a,b] [c,d]))/\g=w:=by
 have h:=λa b W=>Y2 a b W;generalize f:nB [a,b] [c,d]=r;go_enter func172,ntmps172;go_wp2;refine wp_loop_rounds 3 ?_;rw[rounds_succ];go_wp2_with (go_at_call 249;refine(h _ _ _).mono ?_;rintro e g ⟨rfl,rfl⟩)
 ·go_ret
  refine⟨?_,rfl⟩;show Ending.returned (Value.int .i64 _)=_;rw[<-f];unfold nB;split <;> simp_all
 rw[rounds_succ];go_wp2_with (go_at_call 249;refine(h _ _ _).mono ?_;rintro e g ⟨rfl,rfl⟩)
 ·go_ret
  refine⟨?_,rfl⟩;show Ending.returned (Value.int .i64 _)=_;rw[<-f];simp only[nB];split <;> (try split) <;> simp_all
 rw[rounds_succ];go_wp2;go_ret;refine⟨?_,rfl⟩;show Ending.returned (Value.int .i64 _)=_;rw[<-f];simp only[nB];simp_all
theorem Vu (x y:Int×Int) (W:World):Calls prog 185 #[.agg #[.int .i64 x.1,.int .i64 x.2],.agg #[.int .i64 y.1,.int .i64 y.2]] W λe h=>e=.returned (.int .i64 (nB [x.1,x.2] [y.1,y.2]))/\∃q f,h=grow (W.drewN q) f:=by have g:=λa b c d n1 n2 w=>Pn a b c d n1 n2 w;go_enter func185,ntmps185;go_wp2;have i:=underlying60;have j:=underlying3;go_quiet ((go_at_call 172;exact Calls.quiet_of_same (g x.1 x.2 y.1 y.2 _ _ _ (by simp) (by simp) (by simp) (by simp))));go_wp2;go_ret;exact⟨rfl,_,_,by rw[alloc_eq_grow,alloc_eq_grow,grow_grow] <;> rfl⟩
theorem Vv (x y:Int×Int) (W:World):Calls prog 171 #[.agg #[.int .i64 x.1,.int .i64 x.2],.agg #[.int .i64 y.1,.int .i64 y.2]] W λe h=>e=.returned (.int .i64 (nB [x.1,x.2] [y.1,y.2]))/\∃q f,h=grow (W.drewN q) f:=by have g:=λa b c d n1 n2 w=>Pn a b c d n1 n2 w;go_enter func171,ntmps171;go_wp2;have i:=underlying60;have j:=underlying3;go_quiet ((go_at_call 172;exact Calls.quiet_of_same (g x.1 x.2 y.1 y.2 _ _ _ (by simp) (by simp) (by simp) (by simp))));go_wp2;go_ret;exact⟨rfl,_,_,by rw[alloc_eq_grow,alloc_eq_grow,grow_grow] <;> rfl⟩
def aCm:Go.Shelf.Ren where
 f:=λx=>match x with
  |6=>184
  |14=>256
  |15=>155
  |20=>318
  |21=>319
  |22=>320
  |23=>321
  |24=>322
  |25=>323
  |26=>324
  |27=>325
  |28=>233
  |29=>234
  |46=>361
  |47=>298
  |48=>299
  |49=>362
  |50=>363
  |57=>373
  |n=>n
 t:=λx=>match x with
  |0=>0
  |3=>3
  |4=>4
  |5=>5
  |9=>9
  |22=>23
  |25=>251
  |39=>228
  |45=>323
  |46=>324
  |50=>231
  |53=>238
  |55=>153
  |66=>392
  |70=>396
  |76=>429
  |77=>177
  |24=>60
  |n=>n
 g:=λn=>n
theorem EN:SlLaysF0.n6 prog aCm where
 mixed:=by kernel_rfl
 f6:=⟨Tryz.f184.name,by kernel_rfl,func184.trans (ai some (by kernel_rfl))⟩
 f14:=⟨Tryz.f256.name,by kernel_rfl,func256.trans (ai some (by kernel_rfl))⟩
 f15:=func155.trans (ai some (by kernel_rfl))
 f20:=⟨Tryz.f318.name,by kernel_rfl,func318.trans (ai some (by kernel_rfl))⟩
 f21:=⟨Tryz.f319.name,by kernel_rfl,func319.trans (ai some (by kernel_rfl))⟩
 f22:=⟨Tryz.f320.name,by kernel_rfl,func320.trans (ai some (by kernel_rfl))⟩
 f23:=⟨Tryz.f321.name,by kernel_rfl,func321.trans (ai some (by kernel_rfl))⟩
 f24:=⟨Tryz.f322.name,by kernel_rfl,func322.trans (ai some (by kernel_rfl))⟩
 f25:=⟨Tryz.f323.name,by kernel_rfl,func323.trans (ai some (by kernel_rfl))⟩
 f26:=⟨Tryz.f324.name,by kernel_rfl,func324.trans (ai some (by kernel_rfl))⟩
 f27:=⟨Tryz.f325.name,by kernel_rfl,func325.trans (ai some (by kernel_rfl))⟩
 f28:=func233.trans (ai some (by kernel_rfl))
 f29:=func234.trans (ai some (by kernel_rfl))
 f46:=⟨Tryz.f361.name,by kernel_rfl,func361.trans (ai some (by kernel_rfl))⟩
 f47:=func298.trans (ai some (by kernel_rfl))
 f48:=func299.trans (ai some (by kernel_rfl))
 f49:=⟨Tryz.f362.name,by kernel_rfl,func362.trans (ai some (by kernel_rfl))⟩
 f50:=⟨Tryz.f363.name,by kernel_rfl,func363.trans (ai some (by kernel_rfl))⟩
 f57:=⟨Tryz.f373.name,by kernel_rfl,func373.trans (ai some (by kernel_rfl))⟩
 t0:=underlying0
 a0:=Tryz.isAgg0
 z0:=Tryz.sizeOf0
 v0:=Tryz.zeroValue0
 t3:=underlying3
 a3:=Tryz.isAgg3
 z3:=Tryz.sizeOf3
 v3:=Tryz.zeroValue3
 t4:=underlying4
 a4:=Tryz.isAgg4
 z4:=Tryz.sizeOf4
 v4:=Tryz.zeroValue4
 t5:=underlying5
 a5:=Tryz.isAgg5
 z5:=Tryz.sizeOf5
 v5:=Tryz.zeroValue5
 t9:=underlying9
 a9:=Tryz.isAgg9
 z9:=Tryz.sizeOf9
 v9:=Tryz.zeroValue9
 t22:=underlying23
 a22:=Tryz.isAgg23
 z22:=Tryz.sizeOf23
 v22:=Tryz.zeroValue23
 t25:=underlying251
 a25:=Tryz.isAgg251
 z25:=Tryz.sizeOf251
 v25:=Tryz.zeroValue251
 t39:=underlying228
 a39:=Tryz.isAgg228
 z39:=Tryz.sizeOf228
 v39:=Tryz.zeroValue228
 t45:=underlying323
 a45:=Tryz.isAgg323
 z45:=Tryz.sizeOf323
 v45:=Tryz.zeroValue323
 t46:=underlying324
 a46:=Tryz.isAgg324
 z46:=Tryz.sizeOf324
 v46:=Tryz.zeroValue324
 t50:=underlying231
 a50:=Tryz.isAgg231
 z50:=Tryz.sizeOf231
 v50:=Tryz.zeroValue231
 t53:=underlying238
 a53:=Tryz.isAgg238
 z53:=Tryz.sizeOf238
 v53:=Tryz.zeroValue238
 t55:=underlying153
 a55:=Tryz.isAgg153
 z55:=Tryz.sizeOf153
 v55:=Tryz.zeroValue153
 t66:=underlying392
 a66:=Tryz.isAgg392
 z66:=Tryz.sizeOf392
 v66:=Tryz.zeroValue392
 t70:=underlying396
 a70:=Tryz.isAgg396
 z70:=Tryz.sizeOf396
 v70:=Tryz.zeroValue396
 t76:=underlying429
 a76:=Tryz.isAgg429
 z76:=Tryz.sizeOf429
 v76:=Tryz.zeroValue429
 t77:=underlying177
 a77:=Tryz.isAgg177
 z77:=Tryz.sizeOf177
 v77:=Tryz.zeroValue177
def LI (x:Int×Int):List Value:=[.int .i64 x.1,.int .i64 x.2]
def R6 (x y:Int×Int):Int:=nB [x.1,x.2] [y.1,y.2]
theorem uU (x y:Int×Int):ltOf R6 x y=decide (mH x y):=by
 unfold ltOf;have h:=Im x y;unfold R6;by_cases a:mH x y
 ·rw[ah a,ah]
  exact Int.not_le.1 λb=>h.1 b a
 ·rw[af a,af]
  exact Int.not_lt.2 (h.2 a)
theorem aCu:SWO (ltOf R6) where
 irrefl x:=by rw[uU];simp [mH]
 trans x y z h1 h2:=by simp only[uU,dF] at *;unfold mH at *;omega
 ntrans x y z h1 h2:=by simp only[uU,tE] at *;unfold mH at *;omega
theorem ZE (x y:Int×Int) (h1:ltOf R6 x y=false) (h2:ltOf R6 y x=false):x=y:=by
 simp only[uU,tE] at *;unfold mH at *;exact mc (by omega) (by omega)
def en (l:List (Int×Int)):List (Int×Int):=l.mergeSort λx y=> !(ltOf R6) y x
theorem jV (l:List (Int×Int)):(en l).length=l.length:=List.length_mergeSort _
theorem sy {l:List (Int×Int)}{x:Int×Int}:x∈en l↔x∈l:=List.mem_mergeSort
theorem BB (l:List (Int×Int)):(en l).Pairwise λx y=>¬mH y x:=by
 have e:(en l).Pairwise λx y=>(!(ltOf R6) y x)=true:=yz (λa b c e f=>by simp only[uU,mY,tE] at *;unfold mH at *;omega) (λa b=>by simp only[uU,rJ,mY,tE];unfold mH;omega) l;exact e.imp λ{a b} h=>by simpa only[uU,mY,tE] using h
theorem Iw (x:Int×Int) (j:Nat) (h:j<2):(LI x)[j]! =.int .i64 (if j=0 then x.1 else x.2):=by
 match j,h with
 |0,_=>rfl
 |1,_=>rfl
def Qq (g:FuncId):Prop:=Gj prog g/\∀(x y:Int×Int) (W:World),Calls prog g #[.agg #[.int .i64 x.1,.int .i64 x.2],.agg #[.int .i64 y.1,.int .i64 y.2]] W λe b=>e=.returned (.int .i64 (nB [x.1,x.2] [y.1,y.2]))/\∃q a,b=grow (W.drewN q) a
theorem Ch {H:aA}{b o:Nat}{T:TypeId}{l:List (Int×Int)}{g:FuncId}(hg:Qq g) (hb:H b=some (.row T o 2 (l.map pD))) (hl:l.length<4611686018427387904):
  aN prog 184 [.os b o 2 0 l.length,.fn g []] H λd H'=>d=.eO []/\H'=H.aU b (.row T o 2 ((en l).map pD)):=
 And.intro (jH func184 rfl rfl) λw vs js I _=>by
  simp only[aT] at js;obtain⟨u,_,rfl,h1,u2,_,rfl,k,rfl⟩:=js;simp only[D.is] at h1 k;obtain⟨A,c,rfl,a4,h1⟩:=h1;obtain⟨cv,rfl,k⟩:=k;simp only[aT] at k;subst k;obtain⟨cs,fr,m,xu,ir,S⟩:=I _ _ hb;rw[aS] at ir;have L:=I.lt hb;have R:∀i (hi:i<l.length),cs[o+i * 2]?=some (.int .i64 l[i].1)/\cs[o+i * 2+1]?=some (.int .i64 l[i].2):=λi hi=>by
   have:=(ca S i (pD l[i]) (by rw[bg,az hi] <;> rfl)).2;simp only[pD,i64,bU,D.is] at this;obtain⟨⟨v,M,_,rfl⟩,⟨v2,N,_,rfl⟩,_⟩:=this;rw[cell_of_row _ _ _ _ _ _ m] at M N;exact⟨M,N⟩
  by_cases Z:l.length=0
  ·have a0:l=[]:=cy Z
   subst a0;refine(AnyF.slices_SortFunc_none EN A c _ w).mono ?_;rintro e w' ⟨rfl,rfl⟩;have hs:en []=[]:=cy (jV []);refine⟨_,_,H,rfl,(by simp only[D.is];exact⟨[],rfl,by simp only[aT]⟩),I,dr _ _,rfl,?_⟩;funext f;by_cases K:f=b
   ·subst K;rw[aK,hb,hs]
   ·rw[aJ K]
  have hA:A=some ⟨b,o,none⟩:=by
   rcases h1 with h1|h1
   ·omega
   ·rw[h1.1];simp
  subst hA;have ye:=jV l;have V:HoldsK LI 2 w b o l.toArray:=λj hj=>by
   rw[size_flatK] at hj;have a3:j<l.length * 2:=by simpa using hj
   have hi:j / 2<l.length:=by omega
   obtain⟨q1,q2⟩:=R (j / 2) hi;refine⟨?_,?_⟩
   ·rw[cell_of_row _ _ _ _ _ _ m,get_flatK _ _ _ _ hj,Iw _ _ (by omega),nr l.toArray (j / 2) (by simpa using hi)]
    by_cases h0:j % 2=0
    ·rw[aD h0,show o+j=o+j / 2 * 2 by omega,q1];simp
    ·rw[aC h0,show o+j=o+j / 2 * 2+1 by omega,q2];simp
   ·have:=xu.not (o+j) (by omega)
    simp only[World.frozen?,m];simp;omega
  refine(AnyQ.slices_SortFunc_total EN 2 Tryz.isAgg60 Tryz.sizeOf60 LI (λ_=>rfl) (λx v M=>by simp [LI] at M;rcases M with rfl|rfl <;> rfl) R6 aCu g #[] b o c l.toArray w hg.1 (λ_ _ _ _ x y=>hg.2 x y _) V L (by simpa using hl) ZE).mono ?_;rintro e w' ⟨rfl,n,os,rfl⟩;obtain⟨G,r⟩:=oX ((en l).toArray);have E:G.size=l.length:=by rw[r];simpa using ye
  rw[show(l.toArray.toList.mergeSort λx y=> !(ltOf R6) y x).toArray=G from r.symm];obtain⟨p,s⟩:=oX (flatK LI 2 G);have a1:p.size=l.length * 2:=by rw[s,size_flatK,E]
  have ew:sortWorldK LI 2 w b o n G os=grow (putRow id (Go.Sort.ahead w n) b o p) os:=by rw[s];rfl
  rw[ew];have t:(grow (putRow id (Go.Sort.ahead w n) b o p) os).heap[b]?=some (Obj.cells (putCells id o p cs) T fr):=by
   rw[heap_grow_old _ _ (by rw[size_putRow];exact L)];show(w.heap.modify b _)[b]?=_;rw[pb,aD rfl,m];rfl
  have z:∀f,f<w.heap.size->f≠b->(grow (putRow id (Go.Sort.ahead w n) b o p) os).heap[f]?=w.heap[f]?:=λf h a=>by
   rw[heap_grow_old _ _ (by rw[size_putRow];exact h)];show(w.heap.modify b _)[f]?=_;rw[pb,aC (Ne.symm a)]
  have fV:Ev H w (H.aU b (.row T o 2 ((en l).map pD))) (grow (putRow id (Go.Sort.ahead w n) b o p) os):=by
   refine⟨rfl,rfl,rfl,?_,λf h1 k=>?_,λf nN t' De h=>?_⟩
   ·rw[size_grow,size_putRow];exact wP _ _
   ·have a:f≠b:=λe=>by rw[e,hb] at k;cases k
    exact⟨z f h1 a,by rw[aJ a];exact k⟩
   ·by_cases a:f=b
    ·subst a
     rw[m] at h;cases h;exact⟨_,_,t,by simp [putCells]⟩
    ·exact⟨nN,De,by rw[z f (jP.1 h).1 a];exact h,rfl⟩
  refine⟨_,_,_,rfl,(by simp only[D.is];exact⟨[],rfl,by simp only[aT]⟩),?_,fV,rfl,rfl⟩;intro f y B;by_cases a:f=b
  ·subst a
   rw[aK] at B;injection B with B
   subst B;refine⟨_,fr,t,?_,?_,dV λi el hi=>?_⟩
   ·rw[show(putCells id o p cs).size=cs.size by simp [putCells]];exact xu
   ·rw[show(putCells id o p cs).size=cs.size by simp [putCells],aS,ye];omega
   ·rw[bg] at hi
    have a2:i<l.length:=by
     rcases fv i (en l).length with h|h
     ·omega
     ·rw[lu h] at hi;cases hi
    have P:i<(en l).length:=by omega
    rw[az P] at hi;injection hi with hi
    subst hi;have J:∀j,j<2->(grow (putRow id (Go.Sort.ahead w n) f o p) os).cell? ⟨f,o+i * 2+j,none⟩=some (.int .i64 (if j=0 then (en l)[i].1 else (en l)[i].2)):=λj hj=>by
     rw[cell_of_row _ _ _ _ _ _ t];have k:o+i * 2+j<cs.size:=by omega
     have h3:o+i * 2+j - o=i * 2+j:=by omega
     have h4:p[i * 2+j]! =.int .i64 (if j=0 then (en l)[i].1 else (en l)[i].2):=by
      rw[s,get_flatK _ _ _ _ (by rw[E];omega),show(i * 2+j) / 2=i by omega,show(i * 2+j) % 2=j by omega,Iw _ _ hj,nr G i (by omega)];simp [r]
     unfold putCells;rw[Array.getElem?_mapIdx,Array.getElem?_eq_getElem k,gJ,aD ⟨by omega,by omega⟩,h3,h4];rfl
    refine⟨rfl,?_⟩;simp only[pD,i64,bU,D.is];exact⟨⟨_,J 0 (by omega),rfl,rfl⟩,⟨_,J 1 (by omega),rfl,rfl⟩,trivial⟩
  ·rw[aJ a] at B
   exact fV.jb (z f (I.lt B) a) (I f y B)
theorem Cg {g:FuncId}(H:aA):aN prog 184 [.val (.slice none 0 0),.fn g []] H λd H'=>d=.eO []/\H=H':=
 And.intro (jH func184 rfl rfl) λw j c f _=>by
  simp only[aT] at c;obtain⟨u,_,rfl,b,i,_,rfl,a,rfl⟩:=c;simp only[D.is] at b a;subst b;obtain⟨h,rfl,a⟩:=a;refine(AnyF.slices_SortFunc_none EN none 0 _ w).mono ?_;rintro e k ⟨rfl,rfl⟩;exact⟨_,_,H,rfl,(by simp only[D.is];exact⟨[],rfl,by simp only[aT]⟩),f,dr _ _,rfl,rfl⟩
end Go.Proofs.YtffgfafbffdgaaaGreatDoor
namespace Go.Proofs.YtffgfafbffdgaaaGreatDoor
open Go.ChangeMaps (setBlock)
open Go.RowKit
open Tryz
variable {gf:FuncId}{bc:List D}
def RH (S:List (Int×Int)):List (Value×Value):=S.map λk=>(pk k.1 k.2,.bool true)
def yO (S:List (Int×Int)):List (Value×D):=(RH S).map λp=>(p.1,.val p.2)
theorem ri (a:Int×Int)(S:List (Int×Int)):yO (a::S)=(pk a.1 a.2,.val (.bool true))::yO S:=rfl
theorem IA {a b:Int×Int}:pk a.1 a.2=pk b.1 b.2↔a=b:=by
 constructor
 ·intro h
  have c:a.1=b.1/\a.2=b.2:=by simpa [pk] using h
  exact mc c.1 c.2
 ·rintro rfl;rfl
def uQ (S:List (Int×Int)) (x:Int×Int):List (Int×Int):=if x∈S then S else S++[x]
theorem Fm {S:List (Int×Int)}{x y:Int×Int}:y∈uQ S x↔y∈S\/y=x:=by
 unfold uQ;split
 ·rename_i h
  exact⟨.inl,λa=>a.elim id λe=>e▸h⟩
 ·rw[bB,bM]
theorem OP (S:List (Int×Int))(x:Int×Int):(uQ S x).length<=S.length+1:=by unfold uQ;split <;> simp
theorem I8 (S:List (Int×Int))(x:Int×Int):eJ (yO S) (pk x.1 x.2) (.val (.bool true))=yO (uQ S x):=by
 induction S with
 |nil=>rfl
 |cons a S b=>
  rw[ri]
  by_cases e:a=x
  ·subst e
   simp only[eJ,dN]
   unfold uQ
   rw[aD (by simp),ri]
  ·simp only[eJ]
   rw[aC (λh=>e (IA.1 h)),b]
   unfold uQ
   by_cases h:x∈S
   ·rw[aD h,aD (dH _ h),ri]
   ·rw[aC h,aC (by simp only[bV,not_or];exact⟨λh=>e h.symm,h⟩)];rfl
theorem Ey {S:List (Int×Int)}(h:∀x∈S,du x.1/\du x.2){x:Int×Int}(hx:du x.1/\du x.2):SP prog 60 (yO S) (pk x.1 x.2):=
 ⟨Go.Maps.Keyed.of_law Ad.law,v8 hx.1 hx.2,λp a=>by
  unfold yO RH at a;rw[gL,cD] at a;obtain⟨y,b,rfl⟩:=a;exact v8 (h y b).1 (h y b).2⟩
theorem ZI (b:Int×Int)(w:World)(S:Nat->Prop):D.is w S (.agg [i64 b.1,i64 b.2]) (pk b.1 b.2):=by
 simp only[D.is,aW,pk,i64];exact⟨_,rfl,_,_,rfl,rfl,rfl,_,_,rfl,rfl,rfl,rfl⟩
theorem KX {i:Cx}{o:Oper}{K:St->Prop}{s:St}{x:Operand}{b r:Nat}{p:Value×Value}(t:D)(e0:o.op=.entry x)(hd:qP i.n o.dst)
  (hx:s.ev x=.val (.pointer (some ⟨r,0,none⟩))) (v:Ex s.H b r p) (hk:∀w S,D.is w S t p.1) (h:K (s.put o.dst (.eO [t,.val p.2]))):WO i o K s:=
 fx (by simp [e0]) hd λa w m=>by
  have c:=m.nz x;rw[hx] at c;have l:=cQ c;obtain⟨u,f,g,seen,e,y,z,j,k,rfl⟩:=v;refine⟨.tuple #[e.key,e.val],_,?_,?_,h⟩
  ·simp only[execOp,e0,l,Sem.run_bind,run_entry_at (P:=i.P) w r b g seen u f e (m.H _ _ z) (m.H _ _ y) j k,Result.andThen,Sem.run_pure]
  ·simp only[D.is,aT]
   exact⟨_,rfl,_,_,rfl,hk _ _,_,_,rfl,rfl,rfl⟩
theorem O0 (S:List (Int×Int))(j:Nat)(N:Array MapEntry)(i:Nat)(hm:Qu N i (RH S)):
  ph prog 248 [.rp [.val (.map (some j))]] (λx:Int×Int=>[.agg [i64 x.1,i64 x.2]]) (Xy S) (·.Perm S) (KQ j N i) (KQ j N i):=by
 refine v7 _ func248 rfl rfl ntmps248 results248 (by simp) λl J Jx H w0 g0 Q dC hJ hC a1 o hY aB=>?_;unfold KQ at dC o;refine tq @yD.eq_1 ?_;intro U Y O C;refine Bm rfl (show(5:Nat)<14 by decide) underlying167 rfl dC hm ?_;intro r y f a2 L;refine Y _ ?_;refine t0 ?_;intro U Y O C;refine jz (λk s=>∃(c g:List (Int×Int)),k=c.length/\s.df=[]/\s.fr 0=yD l/\s.fr 5=.val (.pointer (some ⟨r,0,none⟩))/\B0 s.H j r (RH c)/\J g s.H/\(g++c).Perm S) S.length ⟨S,[],rfl,rfl,rfl,rfl,L,hC _ _ _ _ f (λz v=>by rw[f] at v;cases v) hJ,List.Perm.refl _⟩ ?_;rintro n s ⟨c,g,rfl,m,I,K,L,hj,hp⟩;refine tq K ?_;intro U Y O C;refine uw rfl (show(6:Nat)<14 by decide) K L (λt=>?_) (λl1 p l2 G t R w Z=>?_)
 ·have a0:c=[]:=by
   cases c with
   |nil=>rfl
   |cons a l=>cases t
  subst a0
  refine eV trivial ?_;refine nx ?_
  refine t0 ?_;intro U Y O C
  rw[bz] at hp
  exact aB _ _ (.inl rfl) m (.inl ⟨g,hp,hj⟩)
 ·obtain⟨t1,a3,e1,e2,e3⟩:=wH.1 t
  obtain⟨b,t2,e4,e5,e6⟩:=wL.1 e3;subst e1 e4 e2 e6 e5;have E:((g++[b])++(t1++t2)).Perm S:=by
   refine List.Perm.trans ?_ hp;rw[bE];exact zF _ (zQ (l₁:=t1) (l₂:=t2) (a:=b)).symm
  have T:B0 G j r (RH (t1++t2)):=by
   have:RH (t1++t2)=RH t1++RH t2:=bI;rw[this];exact R
  obtain⟨y3,u⟩:=w.obj;have P:=QZ u Z;have A:J g G:=by
   rw[P];exact hC _ _ _ _ f (λz v=>by obtain⟨y',h⟩:=L.obj;rw[h] at v;injection v with v;exact⟨_,v.symm⟩) hj
  refine eV trivial ?_;refine nx ?_;refine t0 ?_;intro U Y O C;refine KX (.agg [i64 b.1,i64 b.2]) rfl (show(8:Nat)<14 by decide) (by exact K) w (ZI b) ?_;refine eV (av I @yD.eq_1) ?_;refine nx ?_;refine tq (av I @yD.eq_1) ?_;intro U Y O C;intro b3 V;refine Y _ ?_;refine cm 3 V ?_;refine tq (av I @yD.eq_1) ?_;intro U Y O C;refine nu g b rfl rfl rfl (by simp [qP]) hY (dr _ _) ⟨_,E⟩ A rfl (λM e B=>?_) λM e B=>?_
  ·have k1:M j=G j:=by
    have h1:=o _ _ A;have h2:=o _ _ e;rw[h1,h2]
   have k2:M r=G r:=by rw[u];exact B r y3 f u
   refine eV trivial ?_;refine nx ?_
   refine tz ?_
   exact⟨_,by show(t1++t2).length<(t1++b::t2).length;rw[aV,aV,bx];omega,t1++t2,g++[b],rfl,m,I,K,T.cM k1 k2,e,E⟩
  ·refine eV trivial ?_;refine nx ?_
   refine t0 ?_;intro U Y O C;exact aB _ _ (.inr rfl) m (.inr ⟨_,e⟩)
def ApP (H:aA) (c:Nat) (l:List (Int×Int)) (a:aA):Prop:=H.le a/\∃x b,a c=some (.row 23 0 1 [[x]])/\Gl H 60 2 (l.map pD) x a b/\b≠some c
theorem RU {Pf Fn:List (Int×Int)->Prop}{ok kp:aA->Prop}(it:ph prog gf bc (λx:Int×Int=>[.agg [i64 x.1,i64 x.2]]) Pf Fn ok kp)(H:aA)(dC:∀H',H.le H'->ok H')(a1:∀f,gE H f->kp f)(hP:∀l,Pf l->l.length<=1000000000000):
  aN prog 314 [.val (.slice none 0 0),.fn gf bc] H λd H'=>∃I ob,Fn I/\Gl H 60 2 (I.map pD) d H' ob/\H.le H':=by
 refine lH _ _ func314 rfl rfl ntmps314 results314 (by simp) λw0 g0 Q aB=>?_;refine t0 ?_;intro U Y O C;intro i v;refine Y _ ?_;refine t0 ?_;intro U Y O C;have p:H.le (H.aU i (.row 23 0 1 [[.val (.slice none 0 0)]])):=aQ (aF _) v;refine iz (λs=>s.df=[]/\s.fr 2=.ep i 0 1 0 0/\s.fr 6=.fn gf bc/\H.le s.H/\ApP H.qb i [] s.H) ⟨rfl,rfl,rfl,p,iL (uV H) p,_,none,aK _ _ _,eB _ _ _ _,by simp⟩ ?_;rintro s ⟨w,r,f6,g,V⟩;refine lC rfl it f6 (λH' h=>dC H' (iL g h)) (by simp) (λ_=>rfl) (λ_=>True) (λ_ _=>trivial) (λa=>ApP H.qb i a) (λ_ f _ h=>a1 f λb o hb=>h b o trivial (g _ _ hb)) (λ_ _ _=>False) ?_ ?_ ?_ ?_ ?_ ?_
 ·rintro a H1 b o _ hz ⟨h1,x,ob,h2,h3,h4⟩
  exact⟨gO (jK H) h1 (lQ hz),x,ob,lQ hz _ _ h2 (by simp),h3.Am (lQ hz),h4⟩
 ·exact λ_ _ _ _ _ _ _ h=>h
 ·exact V
 ·rintro l w1 a x f o a4 _ K ⟨m,xs,ob,j,t,g4⟩ B A
  rw[Ls];refine tq (cw cR cO cE au w) ?_;intro U Y O C;intro P k;refine Y _ ?_;simp only[cF];refine⟨rfl,λb o _ h=>gE.new (jU _) k b o h,λw2 y a5 _=>?_⟩;have a2:=hP _ K;rw[aV,eE] at a2;have n2:i≠l:=λe=>by rw[e,A] at j;cases j
  have l5:l≠P:=λe=>by rw[e,k] at A;cases A
  have r2:(f.aU l (.obj y)) i=some (.row 23 0 1 [[xs]]):=(aJ n2).trans j;have u:Gl H.qb 60 2 (a.map pD) xs (f.aU l (.obj y)) ob:=t.Am (kA A);have R:H.qb.le (f.aU l (.obj y)):=gO (jK H) m (kA A);refine dZ 5 rfl (b:=P) (by simp only[iN,cO,fS];rw[aJ (Ne.symm l5),aK]) rfl ?_;simp only[St.ku,iN,cO,fS,fC,au,eL,kC (Ne.symm l5),kX,iy k,List.drop];have N:=λ(x:cY) (hx:∀o,x≠ .obj o)=>oC (H:=f) (b:=P) (l:=l) (y:=y) hx;refine tq (eP r cR cO cE au r2) ?_;intro U Y O C;refine ax (e:=60) qm rfl qm rfl Bi rfl (by decide) R u (new:=[pD x]) (by exact⟨rfl,rfl⟩) (by rw[aS];show(_+1) * 16<=_;omega) λd H6 a3 z J E=>?_;have q3:=E _ _ r2 g4;have G:=q3.1;have Z:∃c o n,d=.os c o 2 0 n:=by
   rcases z with⟨_,_,h⟩|⟨c,o,_,h,_⟩
   ·simp at h
   ·exact⟨c,o,_,h⟩
  obtain⟨c',o',n',rfl⟩:=Z;have e:(a++[x]).map pD=a.map pD++[pD x]:=by simp
  refine eV (av r G) ?_;refine nx ?_;refine⟨rfl,λb o _ h=>(qD (N _ (by simp)) u E).row G (by simp) b o h,aQ J (jL v),_,a3,aK _ _ _,?_,q3.2⟩;rw[e];exact z.cM λc h=>aJ λe=>q3.2 (by rw[h,e])
 ·rintro I f M a0 ⟨m,xs,ob,j,t,g4⟩ B S T
  rw[mK,cp,cF,w];have a6:i≠M:=λe=>by rw[e,S] at j;cases j
  have m:=lO m g λb o h=>B b o trivial h;have t:=Di t m;refine tq (av r j) ?_;intro U Y O C;refine aB _ _ (.inr rfl) ?_ ?_
  ·refine eG r ?_
   exact Ql S
  ·refine eG r ?_
   rw[sP];have L:H.le (f.aU M .hid):=aQ m (iY g T);exact⟨_,aF _,I,ob,a0,OD t S,L⟩
 ·exact λ_ _ _ _ _ _ h=>h.elim
theorem Rh {g Fn:List (Int×Int)->Prop}{ok i:aA->Prop}(o:ph prog gf bc (λx:Int×Int=>[.agg [i64 x.1,i64 x.2]]) g Fn ok i)(H:aA)(m:∀H',H.le H'->ok H')(e:∀f,gE H f->i f)(n:∀l,g l->l.length<=1000000000000):
  aN prog 247 [.fn gf bc] H λd H'=>∃a ob,Fn a/\Gl H 60 2 (a.map pD) d H' ob/\H.le H':=by
 refine dO func247 ntmps247 results247 λt s Q j=>?_;refine t0 ?_;intro U Y O C;refine(RU o H m e n).mono ?_;rintro d p ⟨a,ob,c,h,k⟩;obtain⟨r,rfl⟩:=oX d;have b:=h.cells;refine ur j trivial b ?_;exact⟨_,aF _,a,ob,c,h,k⟩
theorem IN {l c:List (Int×Int)}(h:l.Perm c):en l=en c:=
 List.Perm.eq_of_pairwise (λa b _ _ e f=>by unfold mH at e f;exact mc (by omega) (by omega)) (BB l) (BB c) (((tK l _).trans h).trans (tK c _).symm)
theorem MC {g:FuncId}{p Fn:List (Int×Int)->Prop}{ok u:aA->Prop}(i:Qq g)(I:ph prog gf bc (λx:Int×Int=>[.agg [i64 x.1,i64 x.2]]) p Fn ok u)(S:List (Int×Int))(H:aA)(w:∀H',H.le H'->ok H')(j:∀n,gE H n->u n)(z:∀l,p l->l.length<=1000000000000)(A:∀l,Fn l->l.Perm S)(hl:S.length<=1000000000000):
  aN prog 169 [.fn gf bc,.fn g []] H λd H'=>d=.seq 2 ((en S).map pD)/\H=H':=by
 refine aq (K:=λd=>d=.seq 2 ((en S).map pD)) ?_;refine dO func169 ntmps169 results169 λN L Q r=>?_;refine t0 ?_;intro U Y O C;refine(Rh I H w j z).mono ?_;rintro d v ⟨e,M,h,B,s⟩;have t:=A e h;have G:e.length<=1000000000000:=by rw[t.length_eq];exact hl
 have b:=IN t;rcases B with⟨_,f,e2⟩|⟨c,o,J,f,e2,y⟩
 ·have m:e=[]:=by simpa using e2
  subst f;refine t0 ?_;intro U Y O C;refine(Cg _).q ?_;refine u0 r ?_;exact⟨_,aF _,s,.seq 2 [],iq,by rw[<-b,m];simp [en]⟩
 ·rw[aS] at f
  subst f;refine t0 ?_;intro U Y O C;refine(Ch i y (by omega)).mono ?_;rintro d _ ⟨rfl,rfl⟩;refine u0 r ?_;have a:H.le (v.aU c (.row 60 o 2 ((en e).map pD))):=aQ s e2;have E:=jV e;exact⟨_,aF _,a,_,nY (k:=0) a (aK _ _ _) e2 (by rw[aS];omega),by rw[dj,bK (by rw[aS];omega),b]⟩
theorem SX (b:Nat)(H:aA):aN prog 170 [.val (.map (some b))] H λd H'=>d=.fn 248 [.rp [.val (.map (some b))]]/\H=H':=by
 refine dO func170 ntmps170 results170 λg f Q c=>?_;refine t0 ?_;intro U Y O C;intro e a;refine Y _ ?_;refine cm 1 a ?_;refine u0 c ?_;exact⟨_,aF _,by first|rfl|exact⟨rfl,rfl⟩⟩
end Go.Proofs.YtffgfafbffdgaaaGreatDoor
