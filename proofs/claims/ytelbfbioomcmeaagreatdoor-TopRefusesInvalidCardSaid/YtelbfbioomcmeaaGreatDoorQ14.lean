/- Lemmas and contracts of functions, several texts in one. -/
import Derived.Test.YtelbfbioomcmeaaGreatDoorQ13
import Derived.Shelf.Sort.Plain
import Derived.Shelf.Slices.In.SortNone
set_option maxRecDepth 100000
set_option maxHeartbeats 4000000
set_option linter.all false
namespace Go.Proofs.YtelbfbioomcmeaaGreatDoor
open Go.RowKit
def ClR (T:TypeId) (sz:Nat) (els:List (List D)) (H:aA) (d:D) (H':aA):Prop:=(d=.val (.slice none 0 0)/\els=[]/\H'=H)\/∃b o,H b=none/\d=.os b o sz 0 els.length/\H'=H.bH b (.row T o sz els)
def ClA (T:TypeId) (sz:Nat) (els:List (List D)) (d:D) (A:aA):Prop:=(A=aA.none/\d=.val (.slice none 0 0)/\els=[])\/∃b o,A=aA.none.bH b (.row T o sz els)/\d=.os b o sz 0 els.length
theorem ClR.ok {P:Program} {f:FuncId} {args:List D} {T:TypeId} {sz:Nat} {els:List (List D)} (h:∀H,aT P f args H (ClR T sz els H)) (H:aA):dY P f args H (ClA T sz els):=
 K1 (fun eL _=>h eL) fun eL d H' hk=>by
  rcases hk with⟨rfl,he,rfl⟩|⟨b,o,hb,rfl,rfl⟩
  ·exact⟨.none,rQ _,rfl,.inl ⟨rfl,rfl,he⟩⟩
  ·exact⟨aA.none.bH b (.row T o sz els),uN hb,(rN _ _ _).symm,.inr ⟨b,o,rfl,rfl⟩⟩
open Tryz
theorem aI5 (els:List (List D)) (H:aA) (hl:els.length<=1000000):aT prog 29 [.seq 1 els] H (ClR 9 1 els H):=by
 refine aN _ _ func29 rfl rfl ntmps29 results29 (by simp) fun w0 g0 Q aC=>?_
 refine tq trivial ?_;intro Nx aB Gx aG
 intro b hb
 refine aB _ ?_
 cases b with
 |true=>
  refine tq trivial ?_;intro Nx aB Gx aG
  refine rt aC trivial ?_
  have he:els=[]:=kF fun e=>Bool.noConfusion (hb fun e0=>e (gP e0))
  exact⟨H,aE _,.inl ⟨rfl,he,rfl⟩⟩
 |false=>
  refine tq trivial ?_;intro Nx aB Gx aG
  intro b1 sI
  refine cY (e:=9) EW rfl EW rfl ty9 rfl (by decide) (bQ (aE _) sI) (.inr ⟨b1,0,rfl,rfl,sI,aQ _ _ _⟩:Gl H 9 1 [] (.os b1 0 1 0 0) (H.bH b1 (.row 9 0 1 [])) (some b1)) (new:=els) (by exact⟨rfl,rfl⟩) (by rw[mS];show(_+_) * 16<=_;omega) fun d H6 qL kK eJ _=>?_
  refine tq trivial ?_;intro Nx aB Gx aG
  refine rt aC trivial ?_
  rw[fR] at kK
  rcases kK with⟨_,rfl,he⟩|⟨c,o,_,rfl,h2,h3⟩
  ·exact⟨H,eJ,.inl ⟨rfl,he,rfl⟩⟩
  ·refine⟨H.bH c (.row 9 o 1 els),fun b x hx=>?_,.inr ⟨c,o,h2,rfl,rfl⟩⟩
   by_cases e:b=c
   ·rw[e,aQ] at hx;rw[e,h3];exact hx
   ·rw[aP e] at hx;exact eJ _ _ hx
def OwS (H:aA) (l:List ByteArray) (d:D) (H':aA):Prop:=∃c o,d=.os c o 1 0 l.length/\H c=none/\H' c=some (.row 9 o 1 (l.map sD))
theorem OwS.gl {H:aA} {l:List ByteArray} {d:D} {H':aA} (h:OwS H l d H'):∃ob,Gl H 9 1 (l.map sD) d H' ob:=by
 obtain⟨c,o,h1,h2,h3⟩:=h
 exact⟨some c,.inr ⟨c,o,rfl,by rw[bK];exact h1,h2,h3⟩⟩
theorem OwS.of {H:aA} {l:List ByteArray} {els:List (List D)} {d:D} {H':aA} {ob:Option Nat} (h:Gl H 9 1 els d H' ob) (he:els=l.map sD) (hl:l≠[]):OwS H l d H':=by
 subst he
 rcases h with⟨_,_,h⟩|⟨c,o,_,h1,h2,h3⟩
 ·exact absurd (by simpa using h) hl
 ·exact⟨c,o,by rw[h1,bK],h2,h3⟩
end Go.Proofs.YtelbfbioomcmeaaGreatDoor
namespace Go.Proofs.YtelbfbioomcmeaaGreatDoor
open Go.RowKit Go.Sort
open Tryz
def aXx:Go.Shelf.Ren where
 f:=fun x=>match x with
  |190=>88
  |125=>192
  |258=>191
  |128=>286
  |129=>287
  |302=>277
  |303=>278
  |304=>279
  |305=>280
  |306=>281
  |307=>282
  |308=>283
  |309=>284
  |310=>285
  |333=>359
  |329=>360
  |330=>361
  |334=>362
  |335=>363
  |336=>364
  |344=>422
  |n=>n
 t:=fun x=>match x with
  |31=>22
  |3=>3
  |46=>285
  |0=>0
  |51=>295
  |53=>184
  |4=>4
  |183=>391
  |182=>390
  |131=>288
  |5=>5
  |9=>9
  |218=>455
  |222=>459
  |228=>502
  |229=>203
  |n=>n
 g:=fun n=>n
theorem OJ:Lays.n190 prog aXx where
 mixed:=by kernel_rfl
 f125:=func192.trans (cV some (by kernel_rfl))
 f128:=func286.trans (cV some (by kernel_rfl))
 f129:=func287.trans (cV some (by kernel_rfl))
 f190:=func88.trans (cV some (by kernel_rfl))
 f336:=func364.trans (cV some (by kernel_rfl))
 f308:=func283.trans (cV some (by kernel_rfl))
 f258:=func191.trans (cV some (by kernel_rfl))
 f302:=func277.trans (cV some (by kernel_rfl))
 f303:=func278.trans (cV some (by kernel_rfl))
 f304:=func279.trans (cV some (by kernel_rfl))
 f305:=func280.trans (cV some (by kernel_rfl))
 f306:=func281.trans (cV some (by kernel_rfl))
 f307:=func282.trans (cV some (by kernel_rfl))
 f309:=func284.trans (cV some (by kernel_rfl))
 f310:=func285.trans (cV some (by kernel_rfl))
 f333:=func359.trans (cV some (by kernel_rfl))
 f329:=func360.trans (cV some (by kernel_rfl))
 f330:=func361.trans (cV some (by kernel_rfl))
 f334:=func362.trans (cV some (by kernel_rfl))
 f335:=func363.trans (cV some (by kernel_rfl))
 f344:=func422.trans (cV some (by kernel_rfl))
 t0:=underlying0
 a0:=Tryz.isAgg0
 z0:=Tryz.sizeOf0
 v0:=Tryz.zeroValue0
 t3:=underlying3
 a3:=Tryz.isAgg3
 z3:=Tryz.sizeOf3
 v3:=Tryz.zeroValue3
 t4:=underlying4
 a4:=Tryz.isAgg4
 z4:=Tryz.sizeOf4
 v4:=Tryz.zeroValue4
 t5:=underlying5
 a5:=Tryz.isAgg5
 z5:=Tryz.sizeOf5
 v5:=Tryz.zeroValue5
 t9:=underlying9
 a9:=Tryz.isAgg9
 z9:=Tryz.sizeOf9
 v9:=Tryz.zeroValue9
 t31:=underlying22
 a31:=Tryz.isAgg22
 z31:=Tryz.sizeOf22
 v31:=Tryz.zeroValue22
 t46:=underlying285
 a46:=Tryz.isAgg285
 z46:=Tryz.sizeOf285
 v46:=Tryz.zeroValue285
 t51:=underlying295
 a51:=Tryz.isAgg295
 z51:=Tryz.sizeOf295
 v51:=Tryz.zeroValue295
 t53:=underlying184
 a53:=Tryz.isAgg184
 z53:=Tryz.sizeOf184
 v53:=Tryz.zeroValue184
 t131:=underlying288
 a131:=Tryz.isAgg288
 z131:=Tryz.sizeOf288
 v131:=Tryz.zeroValue288
 t182:=underlying390
 a182:=Tryz.isAgg390
 z182:=Tryz.sizeOf390
 v182:=Tryz.zeroValue390
 t183:=underlying391
 a183:=Tryz.isAgg391
 z183:=Tryz.sizeOf391
 v183:=Tryz.zeroValue391
 t218:=underlying455
 a218:=Tryz.isAgg455
 z218:=Tryz.sizeOf455
 v218:=Tryz.zeroValue455
 t222:=underlying459
 a222:=Tryz.isAgg459
 z222:=Tryz.sizeOf459
 v222:=Tryz.zeroValue459
 t228:=underlying502
 a228:=Tryz.isAgg502
 z228:=Tryz.sizeOf502
 v228:=Tryz.zeroValue502
 t229:=underlying203
 a229:=Tryz.isAgg203
 z229:=Tryz.sizeOf203
 v229:=Tryz.zeroValue203
def mkS (t:List UInt8):ByteArray:=⟨t.toArray⟩
theorem OA (t:List UInt8):(mkS t).toList=t:=by rw[ByteArray.toList_eq];rfl
theorem UJ (s:ByteArray):mkS s.toList=s:=fG.1 (OA _)
def OS (l:List ByteArray):List (List UInt8):=(l.map (·.toList)).mergeSort fun x y=>decide (x<=y)
def mM (l:List ByteArray):List ByteArray:=(OS l).map mkS
theorem yG (l:List ByteArray):(OS l).length=l.length:=by unfold OS;rw[List.length_mergeSort,bK]
theorem kB (l:List ByteArray):(mM l).length=l.length:=by unfold mM;rw[bK,yG]
theorem aAC {l:List ByteArray} {j:Nat} (h:j<l.length):mkS ((OS l).toArray[j]!)=(mM l)[j]'(by rw[kB];exact h):=by
 have h':j<(OS l).length:=by rw[yG];exact h
 rw[DR (OS l).toArray j (by simpa using h')]
 simp [mM]
theorem L4 {H:aA} {b o:Nat} {T:TypeId} {l:List ByteArray} (hb:H b=some (.row T o 1 (l.map sD))) (hl:l.length<4611686018427387904):
  aT prog 88 [.os b o 1 0 l.length] H fun d H'=>d=.fV []/\H'=H.bH b (.row T o 1 ((mM l).map sD)):=
 And.intro (tZ func88 rfl rfl) fun w vs sN hH _=>by
  simp only[aW] at sN
  obtain⟨u,_,rfl,h1,rfl⟩:=sN
  simp only[D.is] at h1
  obtain⟨A,c,rfl,hnc,h1⟩:=h1
  obtain⟨cs,fr,uS,SY,lE,WI⟩:=hH _ _ hb
  rw[bK,rO] at lE
  have gL:=hH.lt hb
  have AW:∀j (hj:j<l.length),cs[o+j]?=some (.string l[j]):=fun j hj=>by
   have:=(eA WI j [.val (.string l[j])] (by rw[cR,cP hj] <;> rfl)).2
   simp only[cK,D.is] at this
   obtain⟨⟨v,hv,_,rfl⟩,_⟩:=this
   rw[cell_of_row _ _ _ _ _ _ uS,rO] at hv
   exact hv
  by_cases CS:l.length=0
  ·have yX:l=[]:=gP CS
   subst yX
   refine(Any.slices_Sort_string_none OJ A c w).mono ?_
   rintro e w' ⟨rfl,rfl⟩
   have hs:mM []=[]:=gP (kB [])
   refine⟨_,_,H,rfl,(by simp only[D.is];exact⟨[],rfl,by simp only[aW]⟩),hH,gC _ _,rfl,?_⟩
   funext b'
   by_cases QJ:b'=b
   ·subst QJ;rw[aQ,hb,hs]
   ·rw[aP QJ]
  have hA:A=some ⟨b,o,none⟩:=by
   rcases h1 with h1|h1
   ·omega
   ·rw[h1.1];simp
  subst hA
  have PB:=kB l
  have aGv:Holds encStr w b o (l.map (·.toList)).toArray:=fun j hj=>by
   have hj':j<l.length:=by simpa using hj
   refine⟨?_,?_⟩
   ·rw[cell_of_row _ _ _ _ _ _ uS,AW j hj',DR (l.map (·.toList)).toArray j hj]
    have e:(l.map (·.toList)).toArray[j]=l[j].toList:=by simp
    rw[e]
    show _=some (Value.string (mkS l[j].toList))
    rw[UJ]
   ·have:=SY.not (o+j) (by omega)
    simp only[World.frozen?,uS]
    simp
    omega
  have cI:(l.map (·.toList)).length=l.length:=bK _
  have aFd:=Any.slices_Sort_string OJ b o c (l.map (·.toList)) w aGv gL (by rw[cI];exact hl)
  rw[cI] at aFd
  refine aFd.mono ?_
  rintro e w' ⟨rfl,n,os,rfl⟩
  obtain⟨ar,nM⟩:∃ar,ar=(OS l).toArray:=⟨_,rfl⟩
  have aXE:ar.size=l.length:=by rw[nM];simpa using yG l
  rw[show((l.map (·.toList)).mergeSort fun x y=>decide (x<=y)).toArray=ar from nM.symm]
  have hwb:(grow (putRow encStr (Go.Sort.ahead w n) b o ar) os).heap[b]?=some (Obj.cells (putCells encStr o ar cs) T fr):=by
   rw[heap_grow_old _ _ (by rw[size_putRow];exact gL)]
   show(w.heap.modify b _)[b]?=_
   rw[zR,aH rfl,uS]
   rfl
  have hwo:∀b',b'<w.heap.size->b'≠b->(grow (putRow encStr (Go.Sort.ahead w n) b o ar) os).heap[b']?=w.heap[b']?:=fun b' h fP=>by
   rw[heap_grow_old _ _ (by rw[size_putRow];exact h)]
   show(w.heap.modify b _)[b']?=_
   rw[zR,aD (Ne.symm fP)]
  have iP:Ev H w (H.bH b (.row T o 1 ((mM l).map sD))) (grow (putRow encStr (Go.Sort.ahead w n) b o ar) os):=by
   refine⟨rfl,rfl,rfl,?_,fun b' h1 h2=>?_,fun b' sZ t' TR h=>?_⟩
   ·rw[size_grow,size_putRow];exact Nat.le_add_right _ _
   ·have fP:b'≠b:=fun e=>by rw[e,hb] at h2;cases h2
    exact⟨hwo b' h1 fP,by rw[aP fP];exact h2⟩
   ·by_cases fP:b'=b
    ·subst fP
     rw[uS] at h
     cases h
     exact⟨_,_,hwb,by simp [putCells]⟩
    ·exact⟨sZ,TR,by rw[hwo b' (nR.1 h).1 fP];exact h,rfl⟩
  refine⟨_,_,_,rfl,(by simp only[D.is];exact⟨[],rfl,by simp only[aW]⟩),?_,iP,rfl,rfl⟩
  intro b' y hy
  by_cases fP:b'=b
  ·subst fP
   rw[aQ] at hy
   injection hy with hy
   subst hy
   refine⟨_,fr,hwb,?_,?_,eY fun i el hi=>?_⟩
   ·rw[show(putCells encStr o ar cs).size=cs.size by simp [putCells]];exact SY
   ·rw[show(putCells encStr o ar cs).size=cs.size by simp [putCells],bK,PB];omega
   ·rw[cR] at hi
    have aZ:i<l.length:=by
     rcases jW i (mM l).length with h|h
     ·omega
     ·rw[DG h] at hi;cases hi
    rw[cP (by omega)] at hi
    injection hi with hi
    subst hi
    refine⟨rfl,?_⟩
    simp only[sD,bX,cK,D.is]
    refine⟨⟨_,?_,rfl,rfl⟩,trivial⟩
    rw[cell_of_row _ _ _ _ _ _ hwb,rO]
    have h2:o+i<cs.size:=by omega
    have h3:=aAC aZ
    rw[<-nM] at h3
    rw[DR ar i (by omega)] at h3
    simp [putCells,h2,aXE,aZ]
    exact h3
  ·rw[aP fP] at hy
   exact iP.rC (hwo b' (hH.lt hy) fP) (hH b' y hy)
theorem aAE (H:aA):aT prog 88 [.val (.slice none 0 0)] H fun d H'=>d=.fV []/\H=H':=
 And.intro (tZ func88 rfl rfl) fun w vs sN hH _=>by
  simp only[aW] at sN
  obtain⟨u,_,rfl,h1,rfl⟩:=sN
  simp only[D.is] at h1
  subst h1
  refine(Any.slices_Sort_string_none OJ none 0 w).mono ?_
  rintro e w' ⟨rfl,rfl⟩
  exact⟨_,_,H,rfl,(by simp only[D.is];exact⟨[],rfl,by simp only[aW]⟩),hH,gC _ _,rfl,rfl⟩
end Go.Proofs.YtelbfbioomcmeaaGreatDoor
namespace Go.Proofs.YtelbfbioomcmeaaGreatDoor
open Go.RowKit
def IX (a b:ByteArray):Prop:=a.toList<b.toList
def leB (a b:ByteArray):Prop:=a.toList<=b.toList
theorem N9 (a:ByteArray):¬IX a a:=List.lt_irrefl _
theorem LM {a b c:ByteArray} (h:IX a b) (h2:IX b c):IX a c:=List.lt_trans h h2
theorem ZU {a b:ByteArray} (h:IX a b):¬IX b a:=List.lt_asymm h
theorem aCG {a b:ByteArray} (h:leB a b) (fP:a≠b):IX a b:=by
 refine kF fun hn=>fP (fG.1 (List.le_antisymm h hn))
theorem JJ:∀{l m:List ByteArray},l.Pairwise IX->m.Pairwise IX->(∀x,x∈l↔x∈m)->l=m
 |[],[],_,_,_=>rfl
 |[],b::m,_,_,h=>by have:=(h b).2 (by simp);simp at this
 |a::l,[],_,_,h=>by have:=(h a).1 (by simp);simp at this
 |a::l,b::m,h1,h2,h=>by
  rw[yK] at h1 h2
  have hab:a=b:=by
   have ha:=(h a).1 (by simp)
   have hb:=(h b).2 (by simp)
   rcases eG.1 ha with e|ha
   ·exact e
   rcases eG.1 hb with e|hb
   ·exact e.symm
   exact absurd (h1.1 b hb) (ZU (h2.1 a ha))
  subst hab
  rw[JJ h1.2 h2.2 fun x=>?_]
  constructor
  ·intro hx
   have:=h1.1 x hx
   rcases eG.1 ((h x).1 (jR _ hx)) with e|h
   ·subst e;exact absurd this (N9 _)
   ·exact h
  ·intro hx
   have:=h2.1 x hx
   rcases eG.1 ((h x).2 (jR _ hx)) with e|h
   ·subst e;exact absurd this (N9 _)
   ·exact h
def E8 (acc:List ByteArray) (x:ByteArray):List ByteArray:=if acc.getLast?=some x then acc else acc++[x]
def mU (l:List ByteArray):List ByteArray:=l.foldl E8 []
theorem uL (l:List ByteArray) (x:ByteArray):mU (l++[x])=E8 (mU l) x:=by unfold mU;rw[zV];rfl
theorem TM (acc:List ByteArray) (x:ByteArray):(E8 acc x).getLast?=some x:=by
 unfold E8
 split
 ·assumption
 ·simp
theorem YB {l:List ByteArray} {i:Nat} (h:i<l.length):(mU (l.take (i+1))).getLast?=some l[i]:=by
 rw[dH h,uL,TM]
theorem K6 {l:List ByteArray} {i:Nat} (h:i+1<l.length):mU (l.take (i+1+1))=if l[i]=l[i+1] then mU (l.take (i+1)) else mU (l.take (i+1))++[l[i+1]]:=by
 rw[dH h,uL]
 have h1:=YB (l:=l) (i:=i) (by omega)
 unfold E8
 rw[h1]
 simp only[pJ]
theorem u5 {p:List ByteArray->Prop} (h0:p []) (h1:∀l a,p l->p (l++[a])) (l:List ByteArray):p l:=by
 rw[<-List.reverse_reverse l]
 induction l.reverse with
 |nil=>exact h0
 |cons a t ih=>rw[List.reverse_cons];exact h1 _ _ ih
theorem HV {l:List ByteArray} {x:ByteArray}:x∈mU l↔x∈l:=by
 induction l using u5 with
 |h0=>exact Iff.rfl
 |h1 l a ih=>
  rw[uL,cS,eS,<-ih]
  unfold E8
  split
  ·rename_i h
   exact⟨.inl,fun h'=>h'.elim id fun e=>e▸List.mem_of_getLast? h⟩
  ·rw[cS,eS]
theorem aAg (l:List ByteArray):(mU l).length<=l.length:=by
 induction l using u5 with
 |h0=>exact fA _
 |h1 l a ih=>
  rw[uL,bJ]
  unfold E8
  split
  ·simp;omega
  ·rw[bJ];simp;omega
theorem P2 {l:List ByteArray} (h:l.Pairwise leB):(mU l).Pairwise IX:=by
 induction l using u5 with
 |h0=>exact List.Pairwise.nil
 |h1 l a ih=>
  rw[DH] at h
  have h1:=ih h.1
  rw[uL]
  unfold E8
  split
  ·exact h1
  ·rename_i fP
   rw[DH]
   refine⟨h1,by simp,fun x hx y hy=>?_⟩
   rw[eS] at hy
   subst hy
   have aR:=h.2.2 x (HV.1 hx) y (by simp)
   refine aCG aR fun h3=>?_
   subst h3
   apply fP
   obtain⟨q,hq⟩:∃q,(mU l).getLast?=some q:=by
    cases e:(mU l).getLast? with
    |none=>rw[List.getLast?_eq_none_iff] at e;rw[e] at hx;cases hx
    |some q=>exact⟨q,rfl⟩
   have hqm:=List.mem_of_getLast? hq
   have hql:=h.2.2 q (HV.1 hqm) x (by simp)
   obtain⟨ys,S5⟩:=List.getLast?_eq_some_iff.1 hq
   rw[S5,cS,eS] at hx
   rcases hx with hx|hx
   ·rw[S5,DH] at h1
    exact absurd (h1.2.2 x hx q (by simp)) hql
   ·rw[hq,hx]
theorem L5 (l:List ByteArray) {t:List UInt8}:t∈OS l↔t∈l.map (·.toList):=List.mem_mergeSort
theorem aAD {l:List ByteArray} {x:ByteArray}:x∈mM l↔x∈l:=by
 unfold mM
 rw[mT]
 constructor
 ·rintro⟨t,ht,rfl⟩
  obtain⟨y,hy,rfl⟩:=mT.1 ((L5 l).1 ht)
  rw[UJ];exact hy
 ·intro h
  exact⟨x.toList,(L5 l).2 (mT.2 ⟨x,h,rfl⟩),UJ x⟩
theorem aCg (l:List ByteArray):(mM l).Pairwise leB:=by
 have h1:(OS l).Pairwise fun a b=>decide (a<=b)=true:=List.pairwise_mergeSort (fun a b c h1 h2=>by simp only[jU] at *;exact List.le_trans h1 h2) (fun a b=>by simp only[zW,jU];exact List.le_total a b) _
 unfold mM
 rw[List.pairwise_map]
 refine h1.imp fun {a b} h=>?_
 unfold leB
 rw[OA,OA]
 simpa using h
def N2 (s:ByteArray):List ByteArray->List ByteArray
 |[]=>[s]
 |x::l=>if s=x then x::l else if s.toList<x.toList then s::x::l else x::N2 s l
theorem IS {s:ByteArray} {x:ByteArray}:∀{l:List ByteArray},x∈N2 s l↔x=s\/x∈l
 |[]=>by simp [N2]
 |y::l=>by
  unfold N2
  split
  ·rename_i h;subst h;simp
  ·split
   ·simp
   ·rw[eG,IS,eG]
    constructor
    ·rintro(h|h|h)
     ·exact .inr (.inl h)
     ·exact .inl h
     ·exact .inr (.inr h)
    ·rintro(h|h|h)
     ·exact .inr (.inl h)
     ·exact .inl h
     ·exact .inr (.inr h)
theorem FL {s:ByteArray}:∀{l:List ByteArray},l.Pairwise IX->(N2 s l).Pairwise IX
 |[],_=>by simp [N2]
 |y::l,h=>by
  unfold N2
  split
  ·exact h
  ·rename_i fP
   split
   ·rename_i gL
    rw[yK]
    refine⟨fun z hz=>?_,h⟩
    rw[yK] at h
    rcases eG.1 hz with rfl|hz
    ·exact gL
    ·exact LM gL (h.1 z hz)
   ·rename_i hnl
    rw[yK] at h ⊢
    refine⟨fun z hz=>?_,FL h.2⟩
    rcases IS.1 hz with rfl|hz
    ·exact aCG hnl fun e=>fP e.symm
    ·exact h.1 z hz
def vN (l:List ByteArray):List ByteArray:=l.foldl (fun acc x=>N2 x acc) []
theorem FK (l:List ByteArray) (x:ByteArray):vN (l++[x])=N2 x (vN l):=by unfold vN;rw[zV];rfl
theorem UD {l:List ByteArray} {x:ByteArray}:x∈vN l↔x∈l:=by
 induction l using u5 with
 |h0=>exact Iff.rfl
 |h1 l a ih=>rw[FK,IS,ih,cS,eS,or_comm]
theorem KL (l:List ByteArray):(vN l).Pairwise IX:=by
 induction l using u5 with
 |h0=>exact List.Pairwise.nil
 |h1 l a ih=>rw[FK];exact FL ih
theorem IZ (l:List ByteArray):mU (mM l)=vN l:=
 JJ (P2 (aCg l)) (KL l) fun x=>by rw[HV,aAD,UD]
open Tryz
theorem MR (H:aA):aT prog 89 [.val (.slice none 0 0)] H fun d H'=>d=.val (.slice none 0 0)/\H=H':=by
 refine aN _ _ func89 rfl rfl ntmps89 results89 (by simp) fun w0 g0 Q aC=>?_
 refine tq trivial ?_;intro Nx aB Gx aG
 refine rt aC trivial ?_
 exact⟨_,aE _,by first|rfl|exact⟨rfl,rfl⟩⟩
theorem CH {H:aA} {b o:Nat} {T:TypeId} {l:List ByteArray} (hb:H b=some (.row T o 1 (l.map sD))) (hl:l.length<=140737488351232):
  aT prog 89 [.os b o 1 0 l.length] H fun d H'=>d=.os b o 1 0 (mU l).length/\∃wX:List ByteArray,H'=H.bH b (.row T o 1 (wX.map sD))/\wX.take (mU l).length=mU l:=by
 have mA:=lm sD l
 refine aN _ _ func89 rfl rfl ntmps89 results89 (by simp) fun w0 g0 Q aC=>?_
 by_cases h2:l.length<2
 ·have q1:((l.length:Int)<2)=True:=aK (by omega)
  have B2:mU l=l:=by
   match l,h2 with
   |[],_=>rfl
   |[a],_=>rfl
  refine tq (cZ mA q1) ?_;intro Nx aB Gx aG
  refine rt aC trivial ?_
  exact⟨_,aE _,by rw[B2],l,(EY hb).symm,by rw[B2,kW]⟩
 have q1:((l.length:Int)<2)=False:=aI (by omega)
 refine tq (cZ mA q1) ?_;intro Nx aB Gx aG
 refine bB (l.length - 1) (fun i s=>s.df=[]/\s.fr 0=.os b o 1 0 l.length/\s.fr 3=i64 ((i+1:Nat):Int)/\s.H=H/\i+1<=l.length/\mU (l.take (i+1))=l.take (i+1)) ⟨rfl,rfl,rfl,rfl,by omega,by rw[dH (show 0<l.length by omega)] <;> rfl⟩ ?_
 rintro i s hi ⟨bG,f0,f3,hH,aZ,hcm⟩
 have QF:s.H b=some (.row T o 1 (l.map sD)):=by rw[hH];exact hb
 by_cases JY:i+1<l.length
 case neg=>
  have q2:(((i+1:Nat):Int)<(l.length:Int))=False:=aI (by omega)
  rw[dQ (by omega)] at hcm
  refine tq (dZ f0 f3 q2) ?_;intro Nx aB Gx aG
  refine rt aC bG ?_
  exact⟨_,aE _,by rw[hcm],l,by rw[hH];exact(EY hb).symm,by rw[hcm,kW]⟩
 have q2:(((i+1:Nat):Int)<(l.length:Int))=True:=aK (by omega)
 have hx:((i+1:Nat):Int).toNat=i+1:=bL _
 have hx0:=bL i
 have cL:(0:Int)<=((i+1:Nat):Int):=bY _
 have aIb:=bY i
 have KF:=jG JY
 have B3:=jG (show i<l.length by omega)
 have aGw:i<l.length:=by omega
 have q3:=lT i l.length (by omega)
 have w1:IntKind.i64.wrap (((i+1:Nat):Int) - 1)=(i:Int):=by rw[aY (by omega)];omega
 have w2:IntKind.i64.wrap (((i+1:Nat):Int)+1)=((i+1+1:Nat):Int):=by rw[aY (by omega)];omega
 have O9:=K6 JY
 by_cases he:l[i]=l[i+1]
 case neg=>
  have q4:(l[i+1].toList=l[i].toList)=False:=aI fun e=>he (fG.1 e).symm
  rw[aD he] at O9
  refine tq (dZ f0 f3 q2) ?_;intro Nx aB Gx aG
  refine dE (fun _ _ _ _=>False) fun Nx aB=>?_;refine dst (aAe f0 f3 QF KF B3 hx hx0 cL aIb JY aGw mA q2 q3 q4 w1) ?_;intro Nx aB Gx aG
  refine tq (cZ f3 w2) ?_;intro Nx aB Gx aG
  exact⟨by show i<l.length - 1;omega,bG,f0,rfl,hH,by omega,by rw[O9,hcm,<-dH JY]⟩
 have q4:(l[i+1].toList=l[i].toList)=True:=aK (by rw[he])
 rw[aH he] at O9
 refine tq (dZ f0 f3 q2) ?_;intro Nx aB Gx aG
 refine dE (fun _ _ _ _=>False) fun Nx aB=>?_;refine dst (aAe f0 f3 QF KF B3 hx hx0 cL aIb JY aGw mA q2 q3 q4 w1) ?_;intro Nx aB Gx aG
 have q5:(((i+1:Nat):Int)<=(l.length:Int))=True:=aK (by omega)
 refine tq (lM f0 f3 q2 hx cL mA q5) ?_;intro Nx aB Gx aG
 obtain⟨n2,hn2⟩:∃n2,n2=l.length - (i+1):=⟨_,rfl⟩
 rw[<-hn2]
 refine bB (n2 - 1) (fun j s=>s.df=[]/\s.fr 0=.os b o 1 0 l.length/\s.fr 4=.os b o 1 (i+1) n2/\s.fr 5=i64 ((j+1:Nat):Int)/\j+1<=n2/\∃(wX:List ByteArray) (k:Nat),s.H=H.bH b (.row T o 1 (wX.map sD))/\wX.length=l.length/\s.fr 3=i64 k/\wX.take k=mU (l.take (i+1+j+1))/\(∀m (h:m<l.length) (h':m<wX.length),i+1+j<=m->wX[m]=l[m])/\k<=i+1+j) ⟨bG,f0,rfl,rfl,by omega,l,i+1,by show s.H=_;rw[hH];exact(EY hb).symm,rfl,f3,by show _=mU (l.take (i+1+1));rw[O9,hcm],fun _ _ _ _=>rfl,by omega⟩ ?_
 rintro j s2 hj ⟨mY,g0,g4,g5,hjn,wX,k,iW,B2,g3,uX,WH,hki⟩
 have aDk:s2.H b=some (.row T o 1 (wX.map sD)):=by rw[iW];exact aQ _ _ _
 have aDs:=lm sD wX
 by_cases kR:j+1<n2
 case neg=>
  have q6:(((j+1:Nat):Int)<(n2:Int))=False:=aI (by omega)
  have aIs:i+1+j+1=l.length:=by omega
  rw[aIs,kW] at uX
  have F8:k=(mU l).length:=by rw[<-uX,dJ];omega
  have q7:((k:Int)<=(l.length:Int))=True:=aK (by omega)
  have hxk:=bL k
  have h0k:=bY k
  have hkc:k<=wX.length:=by omega
  refine tq (CF g0 g3 g4 g5 q6 q7 hxk h0k aDk aDs hkc @Nat.sub_zero) ?_;intro Nx aB Gx aG
  refine rt aC mY ?_
  have IM:(mU l).length<=wX.length:=by have:=aAg l;omega
  exact⟨_,aE _,by rw[F8],mU l,by rw[iW,zI,<-sW,uX],kW⟩
 have q6:(((j+1:Nat):Int)<(n2:Int))=True:=aK (by omega)
 have FG:i+1+j+1<l.length:=by omega
 have KF:(wX.map sD)[i+1+(j+1)]?=some [.val (.string wX[i+1+j+1])]:=jG (show i+1+j+1<wX.length by omega)
 have B3:=jG (show i+1+j<wX.length by omega)
 rw[WH _ FG (by omega) (by omega)] at KF
 rw[WH _ (show i+1+j<l.length by omega) (by omega) (by omega)] at B3
 have hxj:((j+1:Nat):Int).toNat=j+1:=bL _
 have aJP:=bL j
 have GP:(0:Int)<=((j+1:Nat):Int):=bY _
 have aIc:=bY j
 have q7:((j:Int)<(n2:Int))=True:=aK (by omega)
 have JZ:j<n2:=by omega
 have w3:IntKind.i64.wrap (((j+1:Nat):Int) - 1)=(j:Int):=by rw[aY (by omega)];omega
 have w4:IntKind.i64.wrap (((j+1:Nat):Int)+1)=((j+1+1:Nat):Int):=by rw[aY (by omega)];omega
 have w5:=wS k (by omega)
 have aB4:=K6 (l:=l) (i:=i+1+j) FG
 obtain⟨x,CW⟩:∃x,x=l[i+1+j]:=⟨_,rfl⟩
 obtain⟨y,ZJ⟩:∃y,y=l[i+1+j+1]:=⟨_,rfl⟩
 rw[<-ZJ] at KF
 rw[<-CW] at B3
 rw[<-CW,<-ZJ] at aB4
 by_cases he2:x=y
 ·have q8:(y.toList=x.toList)=True:=aK (by rw[he2])
  rw[aH he2] at aB4
  refine tq (gE g0 g3 g4 g5 q6) ?_;intro Nx aB Gx aG
  refine dE (fun _ _ _ _=>False) fun Nx aB=>?_;refine dst (aAe g4 g5 aDk KF B3 hxj aJP GP aIc kR JZ aDs q6 q7 q8 w3) ?_;intro Nx aB Gx aG
  refine tq (cZ g5 w4) ?_;intro Nx aB Gx aG
  exact⟨by show j<n2 - 1;omega,mY,g0,g4,rfl,by omega,wX,k,iW,B2,g3,by rw[show i+1+(j+1)+1=i+1+j+1+1 by omega,aB4];exact uX,fun m h h' hm=>WH m h h' (by omega),by omega⟩
 ·have q8:(y.toList=x.toList)=False:=aI fun e=>he2 (fG.1 e).symm
  rw[aD he2] at aB4
  have hxk:=bL k
  have h0k:=bY k
  have F8:k<l.length:=by omega
  have aX1:=lT k l.length (by omega)
  have hkc:k<wX.length:=by omega
  have hgk:=jG hkc
  refine tq (gE g0 g3 g4 g5 q6) ?_;intro Nx aB Gx aG
  refine dE (fun _ _ _ _=>False) fun Nx aB=>?_;refine dst (aAe g4 g5 aDk KF B3 hxj aJP GP aIc kR JZ aDs q6 q7 q8 w3) ?_;intro Nx aB Gx aG
  refine tq (aWv g0 g3 g4 g5 q6 q7 q8 w4 w5 aDk KF B3 hgk hxj GP hxk h0k F8 aX1 hkc kR aDs) ?_;intro Nx aB Gx aG
  have AP:(List.map sD wX).set k [.val (.string y)]=(wX.set k y).map sD:=by rw[List.map_set];rfl
  refine⟨by show j<n2 - 1;omega,mY,g0,g4,rfl,by omega,wX.set k y,k+1,by show s2.H.bH b _=_;rw[iW,zI,<-AP],by rw[DO];exact B2,rfl,?_,fun m h h' hm=>?_,by omega⟩
  ·rw[show i+1+(j+1)+1=i+1+j+1+1 by omega,aB4,dH (by rw[DO];exact hkc),List.take_set_of_le (fA _),uX,List.getElem_set_self]
  ·rw[List.getElem_set_ne (by omega)]
   exact WH m h (by rw[DO] at h';exact h') (by omega)
theorem MQ {Hb H:aA} {b o:Nat} {T:TypeId} {l:List ByteArray} (aR:Hb.le H) (h0:Hb b=none) (hb:H b=some (.row T o 1 (l.map sD))) (hl:l.length<=140737488351232):
  aT prog 89 [.os b o 1 0 l.length] H fun d H'=>d=.seq 1 ((mU l).map sD)/\Hb=H':=
 (CH hb hl).OM fun d H' ⟨hd,wX,hH,aB5⟩=>by
  subst hd hH
  have mO:Hb.le (H.bH b (.row T o 1 (wX.map sD))):=bQ aR h0
  have hnl:(mU l).length<=wX.length:=by have:=cV List.length aB5;rw[dJ] at this;omega
  refine⟨_,Hb,fun k hk=>AA mO hk,fun w hw=>hw.less mO,NK (k:=0) mO (aQ _ _ _) h0 (by rw[bK];omega),?_,rfl⟩
  rw[iY,<-sW,aB5]
def aH7:D:=.val (.pointer none)
def fY (l:List ByteArray):D:=.rp [.seq 1 (l.map sD)]
def LH (l:List ByteArray):D:=if (∀s∈l,qO s=true) then .fV [fY (vN l),i64 0] else .fV [aH7,i64 12]
theorem aHO (l:List ByteArray) (H:aA) (hl:l.length<=1000000) (hs:∀s∈l,fC s.size):aT prog 42 [.seq 1 (l.map sD)] H fun d H'=>d=LH l/\H=H':=by
 refine bM (K:=fun d=>d=LH l) ?_
 have cI:=lm sD l
 refine aN _ _ func42 rfl rfl ntmps42 results42 (by simp) fun w0 g0 Q aC=>?_
 refine tq cI ?_;intro Nx aB Gx aG
 refine bB l.length (fun i s=>s.df=[]/\s.fr 0=.seq 1 (l.map sD)/\s.fr 7=.seq 1 (l.map sD)/\s.fr 8=i64 l.length/\s.fr 9=i64 i/\s.H=H/\∀s∈l.take i,qO s=true) ⟨rfl,rfl,rfl,rfl,rfl,rfl,by intro s hs;cases hs⟩ ?_
 rintro i s hi ⟨bG,f0,f7,f8,f9,hH,ha⟩
 have hx:=bL i
 have cL:=bY i
 by_cases aZ:i<l.length
 case neg=>
  have p1:=lF i l.length (by omega)
  rw[dQ (by omega)] at ha
  have hd:LH l=.fV [fY (vN l),i64 0]:=aH ha
  rw[<-IZ] at hd
  refine tq (gE f0 f7 f8 f9 p1) ?_;intro Nx aB Gx aG
  refine(aI5 (l.map sD) _ (by rw[cI];exact hl)).mono ?_
  rintro d H1 (⟨rfl,h0,rfl⟩|⟨b,o,hb,rfl,rfl⟩)
  ·have CS:l=[]:=by simpa using h0
   refine tq (fJ f0 f7 f8 f9) ?_;intro Nx aB Gx aG
   refine(aAE _).mono ?_
   rintro d _ ⟨rfl,rfl⟩
   refine tq (fJ f0 f7 f8 f9) ?_;intro Nx aB Gx aG
   refine(MR _).mono ?_
   rintro d _ ⟨rfl,rfl⟩
   have he:mU (mM l)=[]:=by rw[CS,IZ];rfl
   refine aIS 22 (.seq 1 ((mU (mM l)).map sD)) (fun w v hv=>by rw[he];exact kZ _ _ _ hv) ?_
   refine tq (fJ f0 f7 f8 f9) ?_;intro Nx aB Gx aG
   intro c hc
   refine aB _ ?_
   refine tq trivial ?_;intro Nx aB Gx aG
   refine rt aC bG ?_
   rw[hH] at hc ⊢
   have eJ:=bQ (x:=.row 163 0 1 [[.seq 1 ((mU (mM l)).map sD)]]) (aE H) hc
   exact⟨_,aE _,eJ,.fV [fY (mU (mM l)),i64 0],pS ⟨aBQ eJ (aQ _ _ _) hc rfl,aJ eJ,trivial⟩,by rw[hd]⟩
  ·rw[cI]
   have CP:H b=none:=by rw[<-hH];exact hb
   refine tq (fJ f0 f7 f8 f9) ?_;intro Nx aB Gx aG
   refine(L4 (aQ _ _ _) (by omega)).mono ?_
   rintro d _ ⟨rfl,rfl⟩
   rw[zI]
   refine tq (fJ f0 f7 f8 f9) ?_;intro Nx aB Gx aG
   have h6:=MQ (Hb:=H) (T:=9) (o:=o) (l:=mM l) (bQ (by rw[hH];exact aE _) CP) CP (aQ s.H b _) (by rw[kB];omega)
   rw[kB] at h6
   refine h6.mono ?_
   rintro d _ ⟨rfl,rfl⟩
   refine tq (fJ f0 f7 f8 f9) ?_;intro Nx aB Gx aG
   intro c hc
   refine aB _ ?_
   refine tq trivial ?_;intro Nx aB Gx aG
   refine rt aC bG ?_
   have eJ:=bQ (x:=.row 163 0 1 [[.seq 1 ((mU (mM l)).map sD)]]) (aE H) hc
   exact⟨_,aE _,eJ,.fV [fY (mU (mM l)),i64 0],pS ⟨aBQ eJ (aQ _ _ _) hc rfl,aJ eJ,trivial⟩,by rw[hd]⟩
 have cN:(i:Int)<(l.length:Int):=by omega
 have p1:((i:Int)<(l.length:Int))=True:=aK cN
 have b8:=jG aZ
 have w3:=wS i (by omega)
 refine tq (rF f0 f7 f8 f9 p1 cI b8 hx cL aZ) ?_;intro Nx aB Gx aG
 refine(EH l[i] _ (hs _ (bZ aZ))).mono ?_
 rintro d _ ⟨rfl,rfl⟩
 cases hid:qO l[i]
 ·have hd:LH l=.fV [aH7,i64 12]:=aD fun h=>by rw[h _ (bZ aZ)] at hid;cases hid
  refine tq (fJ f0 f7 f8 f9) ?_;intro Nx aB Gx aG
  refine rt aC bG ?_
  exact⟨_,aE _,by rw[hH];exact aE _,.fV [aH7,i64 12],by rw[hH];exact aJ (aE _),hd.symm⟩
 ·refine tq (gE f0 f7 f8 f9 w3) ?_;intro Nx aB Gx aG
  refine⟨aZ,bG,f0,f7,f8,rfl,hH,fun s hs=>?_⟩
  rw[dH aZ] at hs
  rcases cS.1 hs with h|h
  ·exact ha s h
  ·rw[eS.1 h];exact hid
theorem OR (n:Nat) (hn:n<=140737488351232) (g:FuncId) (dO:List D) (f:Nat->Bool) (H:aA) (hf:∀k<n,aT prog g (i64 k::dO) H fun d H'=>d=.val (.bool (f k))/\H=H')
  (hm:∀k m,k<=m->m<n->f k=true->f m=true):aT prog 365 [i64 n,.fn g dO] H fun d H'=>(∃i:Nat,d=i64 i/\i<=n/\(∀k<i,f k=false)/\∀k,i<=k->k<n->f k=true)/\H=H':=by
 refine aN _ _ func365 rfl rfl ntmps365 results365 (by simp) fun w0 g0 Q aC=>?_
 refine tq trivial ?_;intro Nx aB Gx aG
 refine MI (fun m s=>s.df=[]/\s.fr 1=.fn g dO/\s.H=H/\∃i j:Nat,s.fr 5=i64 i/\s.fr 6=i64 j/\m=j - i/\i<=j/\j<=n/\(∀k<i,f k=false)/\∀k,j<=k->k<n->f k=true) n ⟨rfl,rfl,rfl,0,n,rfl,rfl,rfl,tV _,fA _,fun k h=>absurd h (by omega),fun k h1 h2=>absurd h2 (by omega)⟩ ?_
 rintro m s ⟨bG,f1,hH,i,j,f5,f6,rfl,hij,hjn,ha,hb⟩
 by_cases gL:i<j
 case neg=>
  have p1:((i:Int)<(j:Int))=False:=aI (by omega)
  have e:j=i:=by omega
  refine tq (fJ f1 f5 f6 p1) ?_;intro Nx aB Gx aG
  refine rt aC f5 ?_
  exact⟨_,aE _,⟨i,rfl,by omega,ha,fun k h=>hb k (by omega)⟩,hH.symm⟩
 have p1:((i:Int)<(j:Int))=True:=aK (by omega)
 obtain⟨h,hh⟩:∃h,h=(i+j) / 2:=⟨_,rfl⟩
 have w1:IntKind.i64.wrap ((i:Int)+(j:Int))=((i+j:Nat):Int):=by rw[aY (by omega)];omega
 have w2:IntKind.u64.wrap ((i+j:Nat):Int)=((i+j:Nat):Int):=by rw[IntKind.wrap_u64];omega
 have w3:((i+j:Nat):Int).fdiv (2 ^ min 1 64)=(h:Int):=by
  rw[show((2:Int) ^ min 1 64)=2 by decide,Int.fdiv_eq_ediv_of_nonneg _ (by omega)];omega
 have w4:IntKind.i64.wrap (h:Int)=(h:Int):=aY (by omega)
 have w5:IntKind.u64.wrap (h:Int)=(h:Int):=by rw[IntKind.wrap_u64];omega
 refine tq (yP f1 f5 f6 p1 w1 w2 w3 w4 w5) ?_;intro Nx aB Gx aG
 have hq:=hf h (by omega)
 rw[<-hH] at hq
 refine hq.mono ?_
 rintro d _ ⟨rfl,rfl⟩
 have w6:=wS h (by omega)
 cases hfh:f h
 ·refine tq (fJ f1 f5 f6 w6) ?_;intro Nx aB Gx aG
  refine⟨j - (h+1),by show _<_;omega,bG,f1,hH,h+1,j,rfl,f6,rfl,by omega,hjn,fun k hk=>?_,hb⟩
  cases EB:f k
  ·rfl
  ·rw[hm k h (by omega) (by omega) EB] at hfh;cases hfh
 ·refine tq (dZ f1 f5 f6) ?_;intro Nx aB Gx aG
  exact⟨h - i,by show _<_;omega,bG,f1,hH,i,h,f5,rfl,rfl,by omega,by omega,ha,fun k hk hkn=>hm h k hk hkn hfh⟩
theorem UF (l:List ByteArray) (hl:l.length<=140737488351232) (g:FuncId) (dO:List D) (p:ByteArray->Bool) (H:aA) (hp:∀s∈l,∀H,aT prog g (bX s::dO) H fun d H'=>d=.val (.bool (p s))/\H=H') (k:Nat) (hk:k<l.length):
  aT prog 366 [i64 k,.rp [.fn g dO],.rp [.seq 1 (l.map sD)]] H fun d H'=>d=.val (.bool (!p l[k]))/\H=H':=by
 have hx:=bL k
 have cL:=bY k
 have b8:=jG hk
 have cI:=lm sD l
 have cN:(k:Int)<(l.length:Int):=by omega
 refine aN _ _ func366 rfl rfl ntmps366 results366 (by simp) fun w0 g0 Q aC=>?_
 refine tq trivial ?_;intro Nx aB Gx aG
 refine dE (fun t _ d A=>A=.none/\d=.val (.bool (p l[k]))) fun Nx aB=>?_;refine dst (gE b8 hx cL cI cN) ?_;intro Nx aB Gx aG
 refine⟨bN fun eL eO=>(hp l[k] (bZ hk) eL).mono fun d H' h=>h,?_⟩
 (first|refine aG _ ?_|refine aB _ ?_|skip)
 refine dst trivial ?_;intro Nx aB Gx aG
 (first|refine aG _ ?_|refine aB _ ?_|skip)
 refine tq trivial ?_;intro Nx aB Gx aG
 refine rt aC trivial ?_
 (first|exact⟨_,aE _,rfl⟩|exact⟨_,aE _,rfl,rfl⟩)
theorem ZP (l:List ByteArray) (hl:l.length<=140737488351232) (g:FuncId) (dO:List D) (p:ByteArray->Bool) (H:aA) (hp:∀s∈l,∀H,aT prog g (bX s::dO) H fun d H'=>d=.val (.bool (p s))/\H=H')
  (hm:∀(k m:Nat) (h1:k<l.length) (h2:m<l.length),k<=m->p l[m]=true->p l[k]=true):aT prog 288 [.seq 1 (l.map sD),.fn g dO] H fun d H'=>(∃i:Nat,d=i64 i/\i<=l.length/\(∀(k:Nat) (h:k<l.length),k<i->p l[k]=true)/\∀(k:Nat) (h:k<l.length),i<=k->p l[k]=false)/\H=H':=by
 have cI:=lm sD l
 refine aN _ _ func288 rfl rfl ntmps288 results288 (by simp) fun w0 g0 Q aC=>?_
 refine tq trivial ?_;intro Nx aB Gx aG
 intro c2 pZ c3 mH
 refine aB _ ?_
 refine fW 3 mH ?_
 refine fW 2 pZ ?_
 refine tq cI ?_;intro Nx aB Gx aG
 refine(OR l.length hl 366 [.rp [.fn g dO],.rp [.seq 1 (l.map sD)]] (fun k=>if h:k<l.length then !p l[k] else true) _ (fun k hk=>(UF l hl g dO p _ hp k hk).mono fun d H' h=>⟨by rw[h.1,rR hk],h.2⟩) (fun k m SZ cI hk=>?_)).mono ?_
 ·have F8:k<l.length:=by omega
  simp only[rR cI,rR F8] at hk ⊢
  cases e:p l[m]
  ·rfl
  ·rw[hm k m F8 cI SZ e] at hk;cases hk
 rintro d _ ⟨⟨i,rfl,hi,ha,hb⟩,rfl⟩
 refine tq trivial ?_;intro Nx aB Gx aG
 refine rt aC trivial ?_
 refine⟨_,aE _,⟨i,rfl,hi,fun k hk hki=>?_,fun k hk hki=>?_⟩,rfl⟩
 ·have:=ha k hki
  simpa only[rR hk,Bool.not_eq_false'] using this
 ·have:=hb k hki hk
  simpa only[rR hk,wA] using this
instance (a b:ByteArray):Decidable (IX a b):=inferInstanceAs (Decidable (a.toList<b.toList))
theorem aEF (x s:ByteArray) (H:aA):aT prog 289 [bX x,.rp [bX s]] H fun d H'=>d=.val (.bool (decide (IX x s)))/\H=H':=by
 have e:Op.bytesLess x.toList s.toList=decide (IX x s):=by rw[Go.Proofs.bytesLess_eq];rfl
 refine aN _ _ func289 rfl rfl ntmps289 results289 (by simp) fun w0 g0 Q aC=>?_
 refine tq (cZ @bX.eq_1 e) ?_;intro Nx aB Gx aG
 refine rt aC trivial ?_
 (first|exact⟨_,aE _,rfl⟩|exact⟨_,aE _,rfl,rfl⟩)
def CX (l:List ByteArray) (s:ByteArray):D:=.fV [i64 (if FM l s<l.length then (FM l s:Int) else 0),.val (.bool (decide (FM l s<l.length)))]
theorem aBn (l:List ByteArray) (s:ByteArray) (H:aA) (hl:l.length<=140737488351232) (hs:l.Pairwise IX):aT prog 193 [fY l,bX s] H fun d H'=>d=CX l s/\H=H':=by
 have cI:=lm sD l
 refine aN _ _ func193 rfl rfl ntmps193 results193 (by simp) fun w0 g0 Q aC=>?_
 refine tq (cZ @fY.eq_1 @bX.eq_1) ?_;intro Nx aB Gx aG
 intro c3 mH
 refine aB _ ?_
 refine fW 3 mH ?_
 refine tq trivial ?_;intro Nx aB Gx aG
 have hpw:=List.pairwise_iff_getElem.1 hs
 refine(ZP l hl 289 [.rp [bX s]] (fun x=>decide (IX x s)) _ (fun x _ H=>aEF x s H) (fun k m h1 h2 SZ hp=>?_)).mono ?_
 ·by_cases e:k=m
  ·subst e;exact hp
  ·exact bF (LM (hpw k m h1 h2 (by omega)) (zU hp))
 rintro d _ ⟨⟨i,rfl,hi,ha,hb⟩,rfl⟩
 have gL:∀(k:Nat) (hk:k<l.length),k<i->l[k]≠s:=fun k hk hki e=>N9 s (by have:=zU (ha k hk hki);rwa[e] at this)
 by_cases aZ:i<l.length
 case neg=>
  have p1:((i:Int)=(l.length:Int))=True:=aK (by omega)
  have FH:¬FM l s<l.length:=fun h=>by
   obtain⟨k,hk,e⟩:=wM (qP.1 h)
   exact gL k hk (by omega) e
  have hd:CX l s=.fV [i64 0,.val (.bool false)]:=by unfold CX;rw[aD FH,bC FH]
  refine tq trivial ?_;intro Nx aB Gx aG
  refine dE (fun _ _ _ _=>False) fun Nx aB=>?_;refine dst (cZ cI p1) ?_;intro Nx aB Gx aG
  (first|refine aG _ ?_|refine aB _ ?_|skip)
  refine tq trivial ?_;intro Nx aB Gx aG
  refine rt aC trivial ?_
  exact⟨_,aE _,hd.symm,rfl⟩
 have p1:((i:Int)=(l.length:Int))=False:=aI (by omega)
 have b8:=jG aZ
 have hx:=bL i
 have cL:=bY i
 have cN:(i:Int)<(l.length:Int):=by omega
 by_cases he:l[i]=s
 ·have LD:=aBt aZ he gL
  have q1:(l[i].toList=s.toList)=True:=aK (by rw[he])
  have hd:CX l s=.fV [i64 i,.val (.bool true)]:=by unfold CX;rw[LD,aH aZ,bF aZ]
  refine tq trivial ?_;intro Nx aB Gx aG
  refine dE (fun _ _ _ _=>False) fun Nx aB=>?_;refine dst (lM cI p1 b8 hx cL cN q1) ?_;intro Nx aB Gx aG
  (first|refine aG _ ?_|refine aB _ ?_|skip)
  refine tq trivial ?_;intro Nx aB Gx aG
  refine rt aC trivial ?_
  exact⟨_,aE _,hd.symm,rfl⟩
 ·have FH:¬FM l s<l.length:=fun h=>by
   obtain⟨k,hk,e⟩:=wM (qP.1 h)
   by_cases h1:k<i
   ·exact gL k hk h1 e
   ·by_cases h2:k=i
    ·subst h2;exact he e
    ·have h3:=hpw i k aZ hk (by omega)
     rw[e] at h3
     exact of_decide_eq_false (hb i aZ (fA _)) h3
  have q1:(l[i].toList=s.toList)=False:=aI fun h=>he (fG.1 h)
  have hd:CX l s=.fV [i64 0,.val (.bool false)]:=by unfold CX;rw[aD FH,bC FH]
  refine tq trivial ?_;intro Nx aB Gx aG
  refine dE (fun _ _ _ _=>False) fun Nx aB=>?_;refine dst (lM cI p1 b8 hx cL cN q1) ?_;intro Nx aB Gx aG
  (first|refine aG _ ?_|refine aB _ ?_|skip)
  refine tq trivial ?_;intro Nx aB Gx aG
  refine rt aC trivial ?_
  exact⟨_,aE _,hd.symm,rfl⟩
theorem UC (l:List ByteArray) (H:aA):aT prog 80 [fY l] H fun d H'=>d=i64 l.length/\H=H':=by
 have cI:=lm sD l
 refine aN _ _ func80 rfl rfl ntmps80 results80 (by simp) fun w0 g0 Q aC=>?_
 refine tq (cZ @fY.eq_1 cI) ?_;intro Nx aB Gx aG
 refine rt aC trivial ?_
 (first|exact⟨_,aE _,rfl⟩|exact⟨_,aE _,rfl,rfl⟩)
def UB (l:List ByteArray) (i:Int):D:=if dG l.length i then .fV [bX (l.getD i.toNat ByteArray.empty),.val (.bool true)] else .fV [bX ByteArray.empty,.val (.bool false)]
theorem aJT (l:List ByteArray) (i:Int) (H:aA):aT prog 262 [fY l,i64 i] H fun d H'=>d=UB l i/\H=H':=by
 have cI:=lm sD l
 by_cases h0:i<0
 ·have p1:(i<0)=True:=aK h0
  have hd:UB l i=.fV [bX ByteArray.empty,.val (.bool false)]:=aD fun h=>by unfold dG at h;omega
  rw[hd]
  refine aN _ _ func262 rfl rfl ntmps262 results262 (by simp) fun w0 g0 Q aC=>?_
  refine tq (cZ @fY.eq_1 p1) ?_;intro Nx aB Gx aG
  refine rt aC trivial ?_
  (first|exact⟨_,aE _,rfl⟩|exact⟨_,aE _,rfl,rfl⟩)
 have p1:(i<0)=False:=aI h0
 by_cases hi:i<l.length
 case neg=>
  have p2:(i≥(l.length:Int))=True:=aK (by omega)
  have hd:UB l i=.fV [bX ByteArray.empty,.val (.bool false)]:=aD fun h=>by unfold dG at h;omega
  rw[hd]
  refine aN _ _ func262 rfl rfl ntmps262 results262 (by simp) fun w0 g0 Q aC=>?_
  refine tq (cZ @fY.eq_1 p1) ?_;intro Nx aB Gx aG
  refine(UC l _).mono ?_
  rintro d _ ⟨rfl,rfl⟩
  (first|refine aG _ ?_|refine aB _ ?_|skip)
  refine tq p2 ?_;intro Nx aB Gx aG
  refine rt aC trivial ?_
  (first|exact⟨_,aE _,rfl⟩|exact⟨_,aE _,rfl,rfl⟩)
 have p2:(i≥(l.length:Int))=False:=aI (by omega)
 have aZ:i.toNat<l.length:=by omega
 have b8:=jG aZ
 have cL:(0:Int)<=i:=by omega
 have hd:UB l i=.fV [bX l[i.toNat],.val (.bool true)]:=by
  unfold UB
  rw[aH (by unfold dG;omega),l6,cP aZ];rfl
 rw[hd]
 refine aN _ _ func262 rfl rfl ntmps262 results262 (by simp) fun w0 g0 Q aC=>?_
 refine tq (cZ @fY.eq_1 p1) ?_;intro Nx aB Gx aG
 refine(UC l _).mono ?_
 rintro d _ ⟨rfl,rfl⟩
 (first|refine aG _ ?_|refine aB _ ?_|skip)
 refine tq (jA p2 @fY.eq_1 cI b8 cL hi) ?_;intro Nx aB Gx aG
 refine rt aC trivial ?_
 (first|exact⟨_,aE _,rfl⟩|exact⟨_,aE _,rfl,rfl⟩)
end Go.Proofs.YtelbfbioomcmeaaGreatDoor

