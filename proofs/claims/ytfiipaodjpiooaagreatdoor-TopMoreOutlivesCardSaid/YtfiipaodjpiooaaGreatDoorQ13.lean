/- Lemmas and contracts of functions, several texts in one. -/
import Derived.Test.YtfiipaodjpiooaaGreatDoorQ12
import Derived.WideKeyPair
import Derived.Shelf.SlSortCmp.WholeK
import Derived.Shelf.SlSortCmp.NoneTotal
set_option maxRecDepth 100000
set_option maxHeartbeats 4000000
set_option linter.all false
namespace Go.Proofs.YtfiipaodjpiooaaGreatDoor
open Go.RowKit
open Tryz
def pk (a b:Int):Value:=.agg #[.int .i64 a,.int .i64 b]
theorem R1:Go.WideMaps.ArrKey prog 48 3 2:=⟨underlying48,by kernel_rfl,by kernel_rfl,by kernel_rfl⟩
theorem aC7:∃m,(prog).types.size=m+1:=⟨(prog).types.size - 1,by kernel_rfl⟩
theorem aJE {a:Int} (h: -9223372036854775808<=a/\a<=9223372036854775807):(Lit.int .i64 a).wf=true:=by simp [Lit.wf,IntKind.min,IntKind.max,IntKind.signed,IntKind.bits];omega
theorem JU {a b:Int} (ha:fU a) (hb:fU b):∃l,keyOf prog 48 (pk a b)=some l:=
 ⟨_,Go.WideMaps.keyOf_pair R1 underlying3 aC7 (aJE ha) (aJE hb)⟩
def NV (a b:Int):Int:=if a<b then -1 else if b<a then 1 else 0
theorem aMm (a:Int) (H:aC):bE prog 82 [i64 a] H fun d H'=>d=.val (.bool false)/\H=H':=by
 refine aQ _ _ func82 rfl rfl ntmps82 results82 (by simp) fun w0 g0 Q aD=>?_
 (have fs:=trivial;(repeat(first|refine bP ?_|refine cL ?_|refine dW ?_|refine dV ?_|refine fE ?_|refine cU ?_|refine cV ?_|((first|refine kD (by kernel_rfl) ?_|refine vO ?_|refine kC (by kernel_rfl) (by kernel_rfl) ?_);refine G2 ?_)));(try clear fs))
 refine Y9 aD trivial ?_;exact⟨_,aG _,by first|rfl|exact⟨rfl,rfl⟩|assumption⟩
theorem aPt (a b:Int) (H:aC):bE prog 37 [i64 a,i64 b] H fun d H'=>d=i64 (NV a b)/\H=H':=by
 refine aQ _ _ func37 rfl rfl ntmps37 results37 (by simp) fun w0 g0 Q aD=>?_
 (have fs:=trivial;(repeat(first|refine bP ?_|refine cL ?_|refine dW ?_|refine dV ?_|refine fE ?_|refine cU ?_|refine cV ?_|((first|refine kD (by kernel_rfl) ?_|refine vO ?_|refine kC (by kernel_rfl) (by kernel_rfl) ?_);refine G2 ?_)));(try clear fs))
 refine(aMm a _).mono ?_
 rintro d _ ⟨rfl,rfl⟩
 (have fs:=trivial;(repeat(first|refine bP ?_|refine cL ?_|refine dW ?_|refine dV ?_|refine fE ?_|refine cU ?_|refine cV ?_|((first|refine kD (by kernel_rfl) ?_|refine vO ?_|refine kC (by kernel_rfl) (by kernel_rfl) ?_);refine G2 ?_)));(try clear fs))
 refine(aMm b _).mono ?_
 rintro d _ ⟨rfl,rfl⟩
 unfold NV at aD
 by_cases h1:a<b
 ·rw[aE h1] at aD
  have q1:(a<b)=True:=aK h1
  (have fs:=q1;(repeat(first|refine bP ?_|refine cL ?_|refine dW ?_|refine dV ?_|refine fE ?_|refine cU ?_|refine cV ?_|((first|refine kD (by kernel_rfl) ?_|refine vO ?_|refine kC (by kernel_rfl) (by kernel_rfl) ?_);refine G2 ?_)));(try clear fs))
  refine Y9 aD trivial ?_;exact⟨_,aG _,by first|rfl|exact⟨rfl,rfl⟩|assumption⟩
 have q1:(a<b)=False:=aI h1
 rw[aA h1] at aD
 by_cases h2:b<a
 ·rw[aE h2] at aD
  have q2:(b<a)=True:=aK h2
  (have fs:=And.intro q1 q2;(repeat(first|refine bP ?_|refine cL ?_|refine dW ?_|refine dV ?_|refine fE ?_|refine cU ?_|refine cV ?_|((first|refine kD (by kernel_rfl) ?_|refine vO ?_|refine kC (by kernel_rfl) (by kernel_rfl) ?_);refine G2 ?_)));(try clear fs))
  refine Y9 aD trivial ?_;exact⟨_,aG _,by first|rfl|exact⟨rfl,rfl⟩|assumption⟩
 have q2:(b<a)=False:=aI h2
 rw[aA h2] at aD
 (have fs:=And.intro q1 q2;(repeat(first|refine bP ?_|refine cL ?_|refine dW ?_|refine dV ?_|refine fE ?_|refine cU ?_|refine cV ?_|((first|refine kD (by kernel_rfl) ?_|refine vO ?_|refine kC (by kernel_rfl) (by kernel_rfl) ?_);refine G2 ?_)));(try clear fs))
 refine Y9 aD trivial ?_;exact⟨_,aG _,by first|rfl|exact⟨rfl,rfl⟩|assumption⟩
def vD:List Int->List Int->Int
 |[],[]=>0
 |[],_::_=> -1
 |_::_,[]=>1
 |x::xs,y::ys=>if NV x y=0 then vD xs ys else NV x y
def CmI (l m:List Int) (H:aC) (i:Nat) (s:St):Prop:=s.df=[]/\s.fr 0=.seq 1 (l.map iD)/\s.fr 1=.seq 1 (m.map iD)/\s.fr 9=.seq 1 (l.map iD)/\s.fr 10=i64 l.length/\s.fr 11=i64 i/\s.H=H/\i<=m.length/\vD l m=vD (l.drop i) (m.drop i)
theorem aEg (l m:List Int) (H:aC) (hl:l.length<=140737488351232) (hm:m.length<=140737488351232):bE prog 19 [.seq 1 (l.map iD),.seq 1 (m.map iD)] H fun d H'=>d=i64 (vD l m)/\H=H':=by
 have jY:=lm iD l
 have dX:=lm iD m
 refine aQ _ _ func19 rfl rfl ntmps19 results19 (by simp) fun w0 g0 Q aD=>?_
 (have fs:=jY;(repeat(first|refine bP ?_|refine cL ?_|refine dW ?_|refine dV ?_|refine fE ?_|refine cU ?_|refine cV ?_|((first|refine kD (by kernel_rfl) ?_|refine vO ?_|refine kC (by kernel_rfl) (by kernel_rfl) ?_);refine G2 ?_)));(try clear fs))
 refine aZ l.length (CmI l m H) ⟨rfl,rfl,rfl,rfl,rfl,rfl,rfl,by omega,rfl⟩ ?_
 rintro i s hi ⟨aT,f0,f1,f9,f10,f11,hH,VH,hc⟩
 have hx:=bI i
 have cJ:=bM i
 by_cases aV:i<l.length
 ·have q1:=lT i l.length (by omega)
  have cD:=cO aV
  have w3:=wS i (by omega)
  by_cases aHG:i<m.length
  ·have q2:((m.length:Int)<=(i:Int))=False:=aI (by omega)
   have qR:=cO aHG
   have hd:vD l m=if NV l[i] m[i]=0 then vD (l.drop (i+1)) (m.drop (i+1)) else NV l[i] m[i]:=by
    rw[hc,eH aV,eH aHG];rfl
   (have fs:=And.intro f0 (And.intro f1 (And.intro f9 (And.intro f10 (And.intro f11 (And.intro jY (And.intro dX (And.intro q1 (And.intro q2 (And.intro cD (And.intro qR (And.intro hx (And.intro cJ (And.intro aV aHG)))))))))))));(repeat(first|refine bP ?_|refine cL ?_|refine dW ?_|refine dV ?_|refine fE ?_|refine cU ?_|refine cV ?_|((first|refine kD (by kernel_rfl) ?_|refine vO ?_|refine kC (by kernel_rfl) (by kernel_rfl) ?_);refine G2 ?_)));(try clear fs))
   refine(aPt l[i] m[i] _).mono ?_
   rintro d _ ⟨rfl,rfl⟩
   by_cases h0:NV l[i] m[i]=0
   ·rw[aE h0] at hd
    have q3:(NV l[i] m[i]=0)=True:=aK h0
    (have fs:=And.intro q3 (And.intro f11 w3);(repeat(first|refine bP ?_|refine cL ?_|refine dW ?_|refine dV ?_|refine fE ?_|refine cU ?_|refine cV ?_|((first|refine kD (by kernel_rfl) ?_|refine vO ?_|refine kC (by kernel_rfl) (by kernel_rfl) ?_);refine G2 ?_)));(try clear fs))
    exact⟨aV,aT,f0,f1,f9,f10,rfl,hH,by omega,hd⟩
   ·rw[aA h0] at hd
    have q3:(NV l[i] m[i]=0)=False:=aI h0
    (have fs:=q3;(repeat(first|refine bP ?_|refine cL ?_|refine dW ?_|refine dV ?_|refine fE ?_|refine cU ?_|refine cV ?_|((first|refine kD (by kernel_rfl) ?_|refine vO ?_|refine kC (by kernel_rfl) (by kernel_rfl) ?_);refine G2 ?_)));(try clear fs))
    refine Y9 aD aT ?_
    exact⟨_,aG _,by rw[hd],hH.symm⟩
  ·have q2:((m.length:Int)<=(i:Int))=True:=aK (by omega)
   have hd:vD l m=1:=by
    rw[hc,eH aV,eT (show m.length<=i by omega)];rfl
   (have fs:=And.intro f0 (And.intro f1 (And.intro f9 (And.intro f10 (And.intro f11 (And.intro jY (And.intro dX (And.intro q1 (And.intro q2 (And.intro cD (And.intro hx (And.intro cJ aV)))))))))));(repeat(first|refine bP ?_|refine cL ?_|refine dW ?_|refine dV ?_|refine fE ?_|refine cU ?_|refine cV ?_|((first|refine kD (by kernel_rfl) ?_|refine vO ?_|refine kC (by kernel_rfl) (by kernel_rfl) ?_);refine G2 ?_)));(try clear fs))
   refine Y9 aD aT ?_
   exact⟨_,aG _,by rw[hd],hH.symm⟩
 ·have q1:=lF i l.length (by omega)
  have DK:i=l.length:=by omega
  by_cases aHG:i<m.length
  ·have q2:((l.length:Int)<(m.length:Int))=True:=aK (by omega)
   have hd:vD l m= -1:=by
    rw[hc,eT (show l.length<=i by omega),eH aHG];rfl
   (have fs:=And.intro f0 (And.intro f1 (And.intro f9 (And.intro f10 (And.intro f11 (And.intro jY (And.intro dX (And.intro q1 q2)))))));(repeat(first|refine bP ?_|refine cL ?_|refine dW ?_|refine dV ?_|refine fE ?_|refine cU ?_|refine cV ?_|((first|refine kD (by kernel_rfl) ?_|refine vO ?_|refine kC (by kernel_rfl) (by kernel_rfl) ?_);refine G2 ?_)));(try clear fs))
   refine Y9 aD aT ?_
   exact⟨_,aG _,by rw[hd],hH.symm⟩
  ·have q2:((l.length:Int)<(m.length:Int))=False:=aI (by omega)
   have hd:vD l m=0:=by
    rw[hc,eT (show l.length<=i by omega),eT (show m.length<=i by omega)];rfl
   (have fs:=And.intro f0 (And.intro f1 (And.intro f9 (And.intro f10 (And.intro f11 (And.intro jY (And.intro dX (And.intro q1 q2)))))));(repeat(first|refine bP ?_|refine cL ?_|refine dW ?_|refine dV ?_|refine fE ?_|refine cU ?_|refine cV ?_|((first|refine kD (by kernel_rfl) ?_|refine vO ?_|refine kC (by kernel_rfl) (by kernel_rfl) ?_);refine G2 ?_)));(try clear fs))
   refine Y9 aD aT ?_
   exact⟨_,aG _,by rw[hd],hH.symm⟩
theorem QM (a b c d:Int) (H:aC):bE prog 19 [.seq 1 [[.val (.int .i64 a)],[.val (.int .i64 b)]],.seq 1 [[.val (.int .i64 c)],[.val (.int .i64 d)]]] H fun x H'=>x=i64 (vD [a,b] [c,d])/\H=H':=
 aEg [a,b] [c,d] H (by simp) (by simp)
def sJ (q p:Int×Int):Prop:=q.1<p.1\/(q.1=p.1/\q.2<p.2)
instance (q p:Int×Int):Decidable (sJ q p):=by unfold sJ;exact inferInstance
theorem aDH (q p:Int×Int):(0<=vD [q.1,q.2] [p.1,p.2])↔¬sJ q p:=by
 unfold sJ
 simp only[vD,NV]
 split <;> split <;> (try split) <;> omega
def VW:Option (Int×Int)->Int×Int->Bool
 |none,_=>true
 |some q,p=>decide (sJ q p)
def zW (n:Int):Option (Int×Int)->List (Int×Int)->Nat
 |_,[]=>0
 |q,p::l=>if p.1<0\/p.2<0\/n<=p.1\/n<=p.2 then 3 else if p.1=p.2 then 2 else if VW q p then zW n (some p) l else 21
def jA (l:List (Int×Int)) (n:Int):Nat:=if 65535<l.length then 15 else zW n none l
def BJ (l:List (Int×Int)):Nat->Option (Int×Int)
 |0=>none
 |i+1=>l[i]?
theorem mU {l:List (Int×Int)} {i:Nat} (h:i<l.length):(l.map pD)[i]?=some [.val (.int .i64 l[i].1),.val (.int .i64 l[i].2)]:=by
 rw[dN,bX h];rfl
def RcI (l:List (Int×Int)) (n:Int) (H:aC) (i:Nat) (s:St):Prop:=s.df=[]/\s.fr 0=.seq 2 (l.map pD)/\s.fr 1=i64 n/\s.fr 10=.seq 2 (l.map pD)/\s.fr 11=i64 l.length/\s.fr 12=i64 i/\H.le s.H/\zW n none l=zW n (BJ l i) (l.drop i)
theorem aBJ (l:List (Int×Int)) (n:Int) (H:aC) (hl:l.length<=140737488351232):bE prog 105 [.seq 2 (l.map pD),i64 n] H fun d H'=>d=i64 (jA l n)/\H=H':=by
 have jY:=lm pD l
 refine bO (K:=fun d=>d=i64 (jA l n)) ?_
 refine aQ _ _ func105 rfl rfl ntmps105 results105 (by simp) fun w0 g0 Q aD=>?_
 by_cases hb:65535<l.length
 ·have q0:((65535:Int)<(l.length:Int))=True:=aK (by omega)
  have hc:jA l n=15:=aE hb
  rw[hc] at aD
  (have fs:=And.intro jY q0;(repeat(first|refine bP ?_|refine cL ?_|refine dW ?_|refine dV ?_|refine fE ?_|refine cU ?_|refine cV ?_|((first|refine kD (by kernel_rfl) ?_|refine vO ?_|refine kC (by kernel_rfl) (by kernel_rfl) ?_);refine G2 ?_)));(try clear fs))
  refine Y9 aD jY ?_
  exact⟨_,aG _,aG _,_,aH (aG _),rfl⟩
 have q0:((65535:Int)<(l.length:Int))=False:=aI (by omega)
 have hc:jA l n=zW n none l:=aA hb
 rw[hc] at aD
 (have fs:=And.intro jY q0;(repeat(first|refine bP ?_|refine cL ?_|refine dW ?_|refine dV ?_|refine fE ?_|refine cU ?_|refine cV ?_|((first|refine kD (by kernel_rfl) ?_|refine vO ?_|refine kC (by kernel_rfl) (by kernel_rfl) ?_);refine G2 ?_)));(try clear fs))
 refine aZ l.length (RcI l n H) ⟨rfl,rfl,rfl,rfl,rfl,rfl,aG _,rfl⟩ ?_
 rintro i s hi ⟨aT,f0,f1,f10,f11,f12,aS,gV⟩
 have hx:=bI i
 have cJ:=bM i
 by_cases aV:i<l.length
 case neg=>
  have q1:=lF i l.length (by omega)
  rw[eT (show l.length<=i by omega)] at gV
  (have fs:=And.intro f10 (And.intro f11 (And.intro f12 q1));(repeat(first|refine bP ?_|refine cL ?_|refine dW ?_|refine dV ?_|refine fE ?_|refine cU ?_|refine cV ?_|((first|refine kD (by kernel_rfl) ?_|refine vO ?_|refine kC (by kernel_rfl) (by kernel_rfl) ?_);refine G2 ?_)));(try clear fs))
  refine Y9 aD aT ?_
  exact⟨_,aG _,aS,_,aH aS,by rw[gV] <;> rfl⟩
 have q1:=lT i l.length (by omega)
 have cD:=mU aV
 have w3:=wS i (by omega)
 rw[eH aV] at gV
 simp only[zW] at gV
 (have fs:=And.intro f0 (And.intro f1 (And.intro f10 (And.intro f11 (And.intro f12 (And.intro q1 (And.intro cD (And.intro hx (And.intro cJ (And.intro aV jY)))))))));(repeat(first|refine bP ?_|refine cL ?_|refine dW ?_|refine dV ?_|refine fE ?_|refine cU ?_|refine cV ?_|((first|refine kD (by kernel_rfl) ?_|refine vO ?_|refine kC (by kernel_rfl) (by kernel_rfl) ?_);refine G2 ?_)));(try clear fs))
 intro b B7
 refine fZ 6 B7 ?_
 have fin:∀(e:Nat),zW n none l=e->∃H',H'.le s.H/\H.le H'/\∃d0,GB H H' (i64 e) d0/\d0=i64 (zW n none l):=fun e he=>⟨_,aG _,aS,_,aH aS,by rw[he]⟩
 by_cases h1:min l[i].1 l[i].2<0
 ·rw[aE (by omega)] at gV
  have p1:(min l[i].1 l[i].2<0)=True:=aK h1
  (have fs:=And.intro f1 (And.intro f12 p1);(repeat(first|refine bP ?_|refine cL ?_|refine dW ?_|refine dV ?_|refine fE ?_|refine cU ?_|refine cV ?_|((first|refine kD (by kernel_rfl) ?_|refine vO ?_|refine kC (by kernel_rfl) (by kernel_rfl) ?_);refine G2 ?_)));(try clear fs))
  refine Y9 aD aT ?_
  exact fin 3 gV
 have p1:(min l[i].1 l[i].2<0)=False:=aI h1
 by_cases h2:n<=max l[i].1 l[i].2
 ·rw[aE (by omega)] at gV
  have p2:(n<=max l[i].1 l[i].2)=True:=aK h2
  (have fs:=And.intro f1 (And.intro f12 (And.intro p1 p2));(repeat(first|refine bP ?_|refine cL ?_|refine dW ?_|refine dV ?_|refine fE ?_|refine cU ?_|refine cV ?_|((first|refine kD (by kernel_rfl) ?_|refine vO ?_|refine kC (by kernel_rfl) (by kernel_rfl) ?_);refine G2 ?_)));(try clear fs))
  refine Y9 aD aT ?_
  exact fin 3 gV
 have p2:(n<=max l[i].1 l[i].2)=False:=aI h2
 rw[aA (by omega)] at gV
 by_cases h3:l[i].1=l[i].2
 ·rw[aE h3] at gV
  have p3:(l[i].1=l[i].2)=True:=aK h3
  (have fs:=And.intro f1 (And.intro f12 (And.intro p1 (And.intro p2 p3)));(repeat(first|refine bP ?_|refine cL ?_|refine dW ?_|refine dV ?_|refine fE ?_|refine cU ?_|refine cV ?_|((first|refine kD (by kernel_rfl) ?_|refine vO ?_|refine kC (by kernel_rfl) (by kernel_rfl) ?_);refine G2 ?_)));(try clear fs))
  refine Y9 aD aT ?_
  exact fin 2 gV
 have p3:(l[i].1=l[i].2)=False:=aI h3
 rw[aA h3] at gV
 (have fs:=And.intro f1 (And.intro f12 (And.intro p1 (And.intro p2 p3)));(repeat(first|refine bP ?_|refine cL ?_|refine dW ?_|refine dV ?_|refine fE ?_|refine cU ?_|refine cV ?_|((first|refine kD (by kernel_rfl) ?_|refine vO ?_|refine kC (by kernel_rfl) (by kernel_rfl) ?_);refine G2 ?_)));(try clear fs))
 by_cases hi0:i=0
 ·have p4:((0:Int)<(i:Int))=False:=aI (by omega)
  have NC:BJ l i=none:=by rw[hi0];rfl
  rw[NC] at gV
  simp only[VW,fO] at gV
  refine WT (fun _ _ _ _=>False) (by kernel_rfl) (by kernel_rfl) (by kernel_rfl) ?_;simp (maxSteps:=4000000) only[vX,vB,vT,vZ,oN,kV,mmV,O6,RT,mB,jI,kW,↓nV,OS,eG,W8,QF,U2,yQ,yM,AQ,AR,sF,qE,sE,oL,D.nilPtr,D.nK,D.mY,jK,UK,U8,K3,nH,rE,fieldsOf,l3,TW,UA,UB,UC,EP,TK,D.cells,rG,W4,WW,AS,iN,iL,TS,S8,qI,YS,DG,UI,mK,TD.kX,TD.agg,ZY,DI,yN,cpV,wP,AE,AD,UD,TV,tY,BK,gK,iV,Value.oneCell',nY,nW,mR,reduceCtorEq,sB,oA,fO,fW,↓reduceIte,Nat.reduceEqDiff,Int.reduceLE,Int.reduceLT,Int.reduceNeg,Int.reduceToNat,Nat.reduceAdd,Nat.reduceMul,Nat.reduceLeDiff,Nat.reduceMod,Nat.reduceSub,Int.reduceEq,Int.reduceNe,Int.reduceAdd,Int.reduceSub,Int.reduceMul,nX,eY,eX,eN,bW,eQ,lD,fP,jC,kY,j9,jT,jU,jS,PG,tZ,gN,St.out,sC,qC,nP,nO,oU,or_true,true_or,zV,u9,↓HI,f0,f1,f12,i64,p4]
  (have fs:=And.intro f12 w3;(repeat(first|refine bP ?_|refine cL ?_|refine dW ?_|refine dV ?_|refine fE ?_|refine cU ?_|refine cV ?_|((first|refine kD (by kernel_rfl) ?_|refine vO ?_|refine kC (by kernel_rfl) (by kernel_rfl) ?_);refine G2 ?_)));(try clear fs))
  exact⟨aV,aT,f0,f1,f10,f11,rfl,aS,by rw[gV,BJ,bX aV]⟩
 ·obtain⟨j,hj⟩:∃j,i=j+1:=⟨i - 1,by omega⟩
  have fQ:j<l.length:=by omega
  have p4:((0:Int)<(i:Int))=True:=aK (by omega)
  have hgp:=mU fQ
  have w4:IntKind.i64.wrap ((i:Int) - 1)=(j:Int):=by rw[bF (by omega)];omega
  have xB:=bM j
  have G8:=bI j
  have aQc:=aDH l[j] l[i]
  have NC:BJ l i=some l[j]:=by rw[hj,BJ,bX fQ]
  rw[NC] at gV
  simp only[VW,fV] at gV
  by_cases h4:sJ l[j] l[i]
  ·rw[aE h4] at gV
   have p5:((0:Int)<=vD [l[j].1,l[j].2] [l[i].1,l[i].2])=False:=aI (fun h=>aQc.1 h h4)
   refine WT (fun _ _ d A=>A=.none/\d=i64 (vD [l[j].1,l[j].2] [l[i].1,l[i].2])) (by kernel_rfl) (by kernel_rfl) (by kernel_rfl) ?_;simp (maxSteps:=4000000) only[vX,vB,vT,vZ,oN,kV,mmV,O6,RT,mB,jI,kW,↓nV,OS,eG,W8,QF,U2,yQ,yM,AQ,AR,sF,qE,sE,oL,D.nilPtr,D.nK,D.mY,jK,UK,U8,K3,nH,rE,fieldsOf,l3,TW,UA,UB,UC,EP,TK,D.cells,rG,W4,WW,AS,iN,iL,TS,S8,qI,YS,DG,UI,mK,TD.kX,TD.agg,ZY,DI,yN,cpV,wP,AE,AD,UD,TV,tY,BK,gK,iV,Value.oneCell',nY,nW,mR,reduceCtorEq,sB,oA,fO,fW,↓reduceIte,Nat.reduceEqDiff,Int.reduceLE,Int.reduceLT,Int.reduceNeg,Int.reduceToNat,Nat.reduceAdd,Nat.reduceMul,Nat.reduceLeDiff,Nat.reduceMod,Nat.reduceSub,Int.reduceEq,Int.reduceNe,Int.reduceAdd,Int.reduceSub,Int.reduceMul,nX,eY,eX,eN,bW,eQ,lD,fP,jC,kY,j9,jT,jU,jS,PG,tZ,gN,St.out,sC,qC,nP,nO,oU,or_true,true_or,zV,u9,↓HI,f0,f1,f12,i64,p4,p5,hgp,w4,xB,G8,fQ,jY]
   refine⟨cF fun gI _=>QM l[j].1 l[j].2 l[i].1 l[i].2 gI,?_⟩
   (have fs:=And.intro f12 w3;(repeat(first|refine bP ?_|refine cL ?_|refine dW ?_|refine dV ?_|refine fE ?_|refine cU ?_|refine cV ?_|((first|refine kD (by kernel_rfl) ?_|refine vO ?_|refine kC (by kernel_rfl) (by kernel_rfl) ?_);refine G2 ?_)));(try clear fs))
   exact⟨aV,aT,f0,f1,f10,f11,rfl,aS,by rw[gV,BJ,bX aV]⟩
  ·rw[aA h4] at gV
   have p5:((0:Int)<=vD [l[j].1,l[j].2] [l[i].1,l[i].2])=True:=aK (aQc.2 h4)
   refine WT (fun _ _ d A=>A=.none/\d=i64 (vD [l[j].1,l[j].2] [l[i].1,l[i].2])) (by kernel_rfl) (by kernel_rfl) (by kernel_rfl) ?_;simp (maxSteps:=4000000) only[vX,vB,vT,vZ,oN,kV,mmV,O6,RT,mB,jI,kW,↓nV,OS,eG,W8,QF,U2,yQ,yM,AQ,AR,sF,qE,sE,oL,D.nilPtr,D.nK,D.mY,jK,UK,U8,K3,nH,rE,fieldsOf,l3,TW,UA,UB,UC,EP,TK,D.cells,rG,W4,WW,AS,iN,iL,TS,S8,qI,YS,DG,UI,mK,TD.kX,TD.agg,ZY,DI,yN,cpV,wP,AE,AD,UD,TV,tY,BK,gK,iV,Value.oneCell',nY,nW,mR,reduceCtorEq,sB,oA,fO,fW,↓reduceIte,Nat.reduceEqDiff,Int.reduceLE,Int.reduceLT,Int.reduceNeg,Int.reduceToNat,Nat.reduceAdd,Nat.reduceMul,Nat.reduceLeDiff,Nat.reduceMod,Nat.reduceSub,Int.reduceEq,Int.reduceNe,Int.reduceAdd,Int.reduceSub,Int.reduceMul,nX,eY,eX,eN,bW,eQ,lD,fP,jC,kY,j9,jT,jU,jS,PG,tZ,gN,St.out,sC,qC,nP,nO,oU,or_true,true_or,zV,u9,↓HI,f0,f1,f12,i64,p4,p5,hgp,w4,xB,G8,fQ,jY]
   refine⟨cF fun gI _=>QM l[j].1 l[j].2 l[i].1 l[i].2 gI,?_⟩
   (have fs:=f12;(repeat(first|refine bP ?_|refine cL ?_|refine dW ?_|refine dV ?_|refine fE ?_|refine cU ?_|refine cV ?_|((first|refine kD (by kernel_rfl) ?_|refine vO ?_|refine kC (by kernel_rfl) (by kernel_rfl) ?_);refine G2 ?_)));(try clear fs))
   refine Y9 aD aT ?_
   exact fin 21 gV
end Go.Proofs.YtfiipaodjpiooaaGreatDoor
namespace Go.Proofs.YtfiipaodjpiooaaGreatDoor
open Go.RowKit Go.Sort
open Tryz
theorem aRO (a:Int) (w:World):Calls prog 82 #[.int .i64 a] w fun e w'=>e=.returned (.bool false)/\w'=w:=by
 go_enter func82,ntmps82
 go_wp2
 go_ret
 exact⟨by simp,rfl⟩
theorem aPs (a b:Int) (w:World):Calls prog 37 #[.int .i64 a,.int .i64 b] w fun e w'=>e=.returned (.int .i64 (NV a b))/\w'=w:=by
 have h1:=fun c W=>aRO c W
 go_enter func37,ntmps37
 go_wp2_with (go_at_call 82;refine(h1 _ _).mono ?_;rintro e w' ⟨rfl,rfl⟩)
 all_goals (go_ret;refine⟨?_,rfl⟩)
 all_goals (show Ending.returned (Value.int .i64 _)=_;unfold NV;first|(simp_all;done)|(split <;> (try split) <;> simp_all <;> omega))
theorem aCe (a b c d:Int) (n1 n2:Nat) (w:World) (h10:w.cell? ⟨n1,0,none⟩=some (.int .i64 a)) (h11:w.cell? ⟨n1,1,none⟩=some (.int .i64 b)) (h20:w.cell? ⟨n2,0,none⟩=some (.int .i64 c)) (h21:w.cell? ⟨n2,1,none⟩=some (.int .i64 d)):
  Calls prog 19 #[.slice (some ⟨n1,0,none⟩) 2 2,.slice (some ⟨n2,0,none⟩) 2 2] w fun e w'=>e=.returned (.int .i64 (vD [a,b] [c,d]))/\w'=w:=by
 have h1:=fun a b W=>aPs a b W
 generalize hr:vD [a,b] [c,d]=r
 go_enter func19,ntmps19
 go_wp2
 refine wp_loop_rounds 3 ?_
 rw[rounds_succ]
 go_wp2_with (go_at_call 37;refine(h1 _ _ _).mono ?_;rintro e w' ⟨rfl,rfl⟩)
 ·go_ret
  refine⟨?_,rfl⟩
  show Ending.returned (Value.int .i64 _)=_
  rw[<-hr]
  unfold vD
  split <;> simp_all
 rw[rounds_succ]
 go_wp2_with (go_at_call 37;refine(h1 _ _ _).mono ?_;rintro e w' ⟨rfl,rfl⟩)
 ·go_ret
  refine⟨?_,rfl⟩
  show Ending.returned (Value.int .i64 _)=_
  rw[<-hr]
  simp only[vD]
  split <;> (try split) <;> simp_all
 rw[rounds_succ]
 go_wp2
 go_ret
 refine⟨?_,rfl⟩
 show Ending.returned (Value.int .i64 _)=_
 rw[<-hr]
 simp only[vD]
 simp_all
theorem aNZ (x y:Int×Int) (W:World):Calls prog 101 #[.agg #[.int .i64 x.1,.int .i64 x.2],.agg #[.int .i64 y.1,.int .i64 y.2]] W fun e w'=>e=.returned (.int .i64 (vD [x.1,x.2] [y.1,y.2]))/\∃q os',w'=grow (W.drewN q) os':=by have h1:=fun a b c d n1 n2 w=>aCe a b c d n1 n2 w;go_enter func101,ntmps101;go_wp2;have u1:=underlying48;have u2:=underlying3;go_quiet ((go_at_call 19;exact Calls.quiet_of_same (h1 x.1 x.2 y.1 y.2 _ _ _ (by simp) (by simp) (by simp) (by simp))));go_wp2;go_ret;exact⟨rfl,_,_,by rw[alloc_eq_grow,alloc_eq_grow,grow_grow] <;> rfl⟩
theorem aN0 (x y:Int×Int) (W:World):Calls prog 61 #[.agg #[.int .i64 x.1,.int .i64 x.2],.agg #[.int .i64 y.1,.int .i64 y.2]] W fun e w'=>e=.returned (.int .i64 (vD [x.1,x.2] [y.1,y.2]))/\∃q os',w'=grow (W.drewN q) os':=by have h1:=fun a b c d n1 n2 w=>aCe a b c d n1 n2 w;go_enter func61,ntmps61;go_wp2;have u1:=underlying48;have u2:=underlying3;go_quiet ((go_at_call 19;exact Calls.quiet_of_same (h1 x.1 x.2 y.1 y.2 _ _ _ (by simp) (by simp) (by simp) (by simp))));go_wp2;go_ret;exact⟨rfl,_,_,by rw[alloc_eq_grow,alloc_eq_grow,grow_grow] <;> rfl⟩
def aZR:Go.Shelf.Ren where
 f:=fun x=>match x with
  |6=>17
  |14=>35
  |15=>36
  |20=>72
  |21=>73
  |22=>74
  |23=>75
  |24=>76
  |25=>77
  |26=>78
  |27=>79
  |28=>80
  |29=>81
  |46=>133
  |47=>134
  |48=>135
  |49=>136
  |50=>137
  |57=>167
  |n=>n
 t:=fun x=>match x with
  |0=>0
  |3=>3
  |4=>4
  |5=>5
  |9=>9
  |22=>23
  |25=>64
  |39=>80
  |45=>138
  |46=>139
  |50=>86
  |53=>145
  |55=>147
  |66=>203
  |70=>207
  |76=>238
  |77=>160
  |24=>48
  |n=>n
 g:=fun n=>n
theorem Y2:SlLaysF0.n6 prog aZR where
 mixed:=by kernel_rfl
 f6:=⟨Tryz.f17.name,by kernel_rfl,func17.trans (cS some (by kernel_rfl))⟩
 f14:=⟨Tryz.f35.name,by kernel_rfl,func35.trans (cS some (by kernel_rfl))⟩
 f15:=func36.trans (cS some (by kernel_rfl))
 f20:=⟨Tryz.f72.name,by kernel_rfl,func72.trans (cS some (by kernel_rfl))⟩
 f21:=⟨Tryz.f73.name,by kernel_rfl,func73.trans (cS some (by kernel_rfl))⟩
 f22:=⟨Tryz.f74.name,by kernel_rfl,func74.trans (cS some (by kernel_rfl))⟩
 f23:=⟨Tryz.f75.name,by kernel_rfl,func75.trans (cS some (by kernel_rfl))⟩
 f24:=⟨Tryz.f76.name,by kernel_rfl,func76.trans (cS some (by kernel_rfl))⟩
 f25:=⟨Tryz.f77.name,by kernel_rfl,func77.trans (cS some (by kernel_rfl))⟩
 f26:=⟨Tryz.f78.name,by kernel_rfl,func78.trans (cS some (by kernel_rfl))⟩
 f27:=⟨Tryz.f79.name,by kernel_rfl,func79.trans (cS some (by kernel_rfl))⟩
 f28:=func80.trans (cS some (by kernel_rfl))
 f29:=func81.trans (cS some (by kernel_rfl))
 f46:=⟨Tryz.f133.name,by kernel_rfl,func133.trans (cS some (by kernel_rfl))⟩
 f47:=func134.trans (cS some (by kernel_rfl))
 f48:=func135.trans (cS some (by kernel_rfl))
 f49:=⟨Tryz.f136.name,by kernel_rfl,func136.trans (cS some (by kernel_rfl))⟩
 f50:=⟨Tryz.f137.name,by kernel_rfl,func137.trans (cS some (by kernel_rfl))⟩
 f57:=⟨Tryz.f167.name,by kernel_rfl,func167.trans (cS some (by kernel_rfl))⟩
 t0:=underlying0
 a0:=Tryz.isAgg0
 z0:=Tryz.sizeOf0
 v0:=Tryz.zeroValue0
 t3:=underlying3
 a3:=Tryz.isAgg3
 z3:=Tryz.sizeOf3
 v3:=Tryz.zeroValue3
 t4:=underlying4
 a4:=Tryz.isAgg4
 z4:=Tryz.sizeOf4
 v4:=Tryz.zeroValue4
 t5:=underlying5
 a5:=Tryz.isAgg5
 z5:=Tryz.sizeOf5
 v5:=Tryz.zeroValue5
 t9:=underlying9
 a9:=Tryz.isAgg9
 z9:=Tryz.sizeOf9
 v9:=Tryz.zeroValue9
 t22:=underlying23
 a22:=Tryz.isAgg23
 z22:=Tryz.sizeOf23
 v22:=Tryz.zeroValue23
 t25:=underlying64
 a25:=Tryz.isAgg64
 z25:=Tryz.sizeOf64
 v25:=Tryz.zeroValue64
 t39:=underlying80
 a39:=Tryz.isAgg80
 z39:=Tryz.sizeOf80
 v39:=Tryz.zeroValue80
 t45:=underlying138
 a45:=Tryz.isAgg138
 z45:=Tryz.sizeOf138
 v45:=Tryz.zeroValue138
 t46:=underlying139
 a46:=Tryz.isAgg139
 z46:=Tryz.sizeOf139
 v46:=Tryz.zeroValue139
 t50:=underlying86
 a50:=Tryz.isAgg86
 z50:=Tryz.sizeOf86
 v50:=Tryz.zeroValue86
 t53:=underlying145
 a53:=Tryz.isAgg145
 z53:=Tryz.sizeOf145
 v53:=Tryz.zeroValue145
 t55:=underlying147
 a55:=Tryz.isAgg147
 z55:=Tryz.sizeOf147
 v55:=Tryz.zeroValue147
 t66:=underlying203
 a66:=Tryz.isAgg203
 z66:=Tryz.sizeOf203
 v66:=Tryz.zeroValue203
 t70:=underlying207
 a70:=Tryz.isAgg207
 z70:=Tryz.sizeOf207
 v70:=Tryz.zeroValue207
 t76:=underlying238
 a76:=Tryz.isAgg238
 z76:=Tryz.sizeOf238
 v76:=Tryz.zeroValue238
 t77:=underlying160
 a77:=Tryz.isAgg160
 z77:=Tryz.sizeOf160
 v77:=Tryz.zeroValue160
def aEp (x:Int×Int):List Value:=[.int .i64 x.1,.int .i64 x.2]
def cfP (x y:Int×Int):Int:=vD [x.1,x.2] [y.1,y.2]
theorem HZ (x y:Int×Int):ltOf cfP x y=decide (sJ x y):=by
 unfold ltOf
 have h:=aDH x y
 unfold cfP
 by_cases h1:sJ x y
 ·rw[bG h1,bG]
  exact Int.not_le.1 fun h2=>h.1 h2 h1
 ·rw[bB h1,bB]
  exact Int.not_lt.2 (h.2 h1)
theorem aZV:SWO (ltOf cfP) where
 irrefl x:=by rw[HZ];simp [sJ]
 trans x y z h1 h2:=by simp only[HZ,fV] at *;unfold sJ at *;omega
 ntrans x y z h1 h2:=by simp only[HZ,FX] at *;unfold sJ at *;omega
theorem aRT (x y:Int×Int) (h1:ltOf cfP x y=false) (h2:ltOf cfP y x=false):x=y:=by
 simp only[HZ,FX] at *
 unfold sJ at *
 exact tK (by omega) (by omega)
def iH (l:List (Int×Int)):List (Int×Int):=l.mergeSort fun x y=> !(ltOf cfP) y x
theorem jJ (l:List (Int×Int)):(iH l).length=l.length:=List.length_mergeSort _
theorem uP {l:List (Int×Int)} {x:Int×Int}:x∈iH l↔x∈l:=List.mem_mergeSort
theorem SK (l:List (Int×Int)):(iH l).Pairwise fun x y=>¬sJ y x:=by
 have h1:(iH l).Pairwise fun x y=>(!(ltOf cfP) y x)=true:=ZU (fun a b c h1 h2=>by simp only[HZ,wY,FX] at *;unfold sJ at *;omega) (fun a b=>by simp only[HZ,CZ,wY,FX];unfold sJ;omega) l
 exact h1.imp fun {a b} h=>by simpa only[HZ,wY,FX] using h
theorem aDQ (x:Int×Int) (j:Nat) (h:j<2):(aEp x)[j]! =.int .i64 (if j=0 then x.1 else x.2):=by
 match j,h with
 |0,_=>rfl
 |1,_=>rfl
def aFl (g:FuncId):Prop:=aFm prog g/\∀(x y:Int×Int) (W:World),Calls prog g #[.agg #[.int .i64 x.1,.int .i64 x.2],.agg #[.int .i64 y.1,.int .i64 y.2]] W fun e w'=>e=.returned (.int .i64 (vD [x.1,x.2] [y.1,y.2]))/\∃q os',w'=grow (W.drewN q) os'
theorem MI {H:aC} {b o:Nat} {T:TypeId} {l:List (Int×Int)} {g:FuncId} (hg:aFl g) (hb:H b=some (.row T o 2 (l.map pD))) (hl:l.length<4611686018427387904):
  bE prog 17 [.os b o 2 0 l.length,.fn g []] H fun d H'=>d=.pG []/\H'=H.bH b (.row T o 2 ((iH l).map pD)):=
 And.intro (uH func17 rfl rfl) fun w vs zD hH _=>by
  simp only[aW] at zD
  obtain⟨u,_,rfl,h1,u2,_,rfl,h2,rfl⟩:=zD
  simp only[D.is] at h1 h2
  obtain⟨A,c,rfl,hnc,h1⟩:=h1
  obtain⟨cv,rfl,h2⟩:=h2
  simp only[aW] at h2
  subst h2
  obtain⟨cs,fr,NA,Z5,lZ,G7⟩:=hH _ _ hb
  rw[bC] at lZ
  have kL:=hH.lt hb
  have CD:∀i (hi:i<l.length),cs[o+i * 2]?=some (.int .i64 l[i].1)/\cs[o+i * 2+1]?=some (.int .i64 l[i].2):=fun i hi=>by
   have:=(fH G7 i (pD l[i]) (by rw[dN,bX hi] <;> rfl)).2
   simp only[pD,i64,dL,D.is] at this
   obtain⟨⟨v,hv,_,rfl⟩,⟨v2,hv2,_,rfl⟩,_⟩:=this
   rw[cell_of_row _ _ _ _ _ _ NA] at hv hv2
   exact⟨hv,hv2⟩
  by_cases YA:l.length=0
  ·have BT:l=[]:=iX YA
   subst BT
   refine(AnyF.slices_SortFunc_none Y2 A c _ w).mono ?_
   rintro e w' ⟨rfl,rfl⟩
   have hs:iH []=[]:=iX (jJ [])
   refine⟨_,_,H,rfl,(by simp only[D.is];exact⟨[],rfl,by simp only[aW]⟩),hH,fT _ _,rfl,?_⟩
   funext b'
   by_cases M9:b'=b
   ·subst M9;rw[aO,hb,hs]
   ·rw[aN M9]
  have hA:A=some ⟨b,o,none⟩:=by
   rcases h1 with h1|h1
   ·omega
   ·rw[h1.1];simp
  subst hA
  have ND:=jJ l
  have aCA:HoldsK aEp 2 w b o l.toArray:=fun j hj=>by
   rw[size_flatK] at hj
   have DR:j<l.length * 2:=by simpa using hj
   have hi:j / 2<l.length:=by omega
   obtain⟨q1,q2⟩:=CD (j / 2) hi
   refine⟨?_,?_⟩
   ·rw[cell_of_row _ _ _ _ _ _ NA,get_flatK _ _ _ _ hj,aDQ _ _ (by omega),C4 l.toArray (j / 2) (by simpa using hi)]
    by_cases h0:j % 2=0
    ·rw[aE h0,show o+j=o+j / 2 * 2 by omega,q1];simp
    ·rw[aA h0,show o+j=o+j / 2 * 2+1 by omega,q2];simp
   ·have:=Z5.not (o+j) (by omega)
    simp only[World.frozen?,NA]
    simp
    omega
  refine(AnyQ.slices_SortFunc_total Y2 2 Tryz.isAgg48 Tryz.sizeOf48 aEp (fun _=>rfl) (fun x v hv=>by simp [aEp] at hv;rcases hv with rfl|rfl <;> rfl) cfP aZV g #[] b o c l.toArray w hg.1 (fun _ _ _ _ x y=>hg.2 x y _) aCA kL (by simpa using hl) aRT).mono ?_
  rintro e w' ⟨rfl,n,os,rfl⟩
  obtain⟨ar,oF⟩:∃ar,ar=(iH l).toArray:=⟨_,rfl⟩
  have aKO:ar.size=l.length:=by rw[oF];simpa using ND
  rw[show(l.toArray.toList.mergeSort fun x y=> !(ltOf cfP) y x).toArray=ar from oF.symm]
  obtain⟨fl,mM⟩:∃fl,fl=flatK aEp 2 ar:=⟨_,rfl⟩
  have hfs:fl.size=l.length * 2:=by rw[mM,size_flatK,aKO]
  have ew:sortWorldK aEp 2 w b o n ar os=grow (putRow id (Go.Sort.ahead w n) b o fl) os:=by rw[mM];rfl
  rw[ew]
  have hwb:(grow (putRow id (Go.Sort.ahead w n) b o fl) os).heap[b]?=some (Obj.cells (putCells id o fl cs) T fr):=by
   rw[heap_grow_old _ _ (by rw[size_putRow];exact kL)]
   show(w.heap.modify b _)[b]?=_
   rw[CT,aE rfl,NA]
   rfl
  have hwo:∀b',b'<w.heap.size->b'≠b->(grow (putRow id (Go.Sort.ahead w n) b o fl) os).heap[b']?=w.heap[b']?:=fun b' h fM=>by
   rw[heap_grow_old _ _ (by rw[size_putRow];exact h)]
   show(w.heap.modify b _)[b']?=_
   rw[CT,aA (Ne.symm fM)]
  have lO:Ev H w (H.bH b (.row T o 2 ((iH l).map pD))) (grow (putRow id (Go.Sort.ahead w n) b o fl) os):=by
   refine⟨rfl,rfl,rfl,?_,fun b' h1 h2=>?_,fun b' w9 t' fr' h=>?_⟩
   ·rw[size_grow,size_putRow];exact Nat.le_add_right _ _
   ·have fM:b'≠b:=fun e=>by rw[e,hb] at h2;cases h2
    exact⟨hwo b' h1 fM,by rw[aN fM];exact h2⟩
   ·by_cases fM:b'=b
    ·subst fM
     rw[NA] at h
     cases h
     exact⟨_,_,hwb,by simp [putCells]⟩
    ·exact⟨w9,fr',by rw[hwo b' (tL.1 h).1 fM];exact h,rfl⟩
  refine⟨_,_,_,rfl,(by simp only[D.is];exact⟨[],rfl,by simp only[aW]⟩),?_,lO,rfl,rfl⟩
  intro b' y hy
  by_cases fM:b'=b
  ·subst fM
   rw[aO] at hy
   injection hy with hy
   subst hy
   refine⟨_,fr,hwb,?_,?_,gO fun i el hi=>?_⟩
   ·rw[show(putCells id o fl cs).size=cs.size by simp [putCells]];exact Z5
   ·rw[show(putCells id o fl cs).size=cs.size by simp [putCells],bC,ND];omega
   ·rw[dN] at hi
    have aV:i<l.length:=by
     rcases oC i (iH l).length with h|h
     ·omega
     ·rw[uR h] at hi;cases hi
    have DK:i<(iH l).length:=by omega
    rw[bX DK] at hi
    injection hi with hi
    subst hi
    have xC:∀j,j<2->(grow (putRow id (Go.Sort.ahead w n) b' o fl) os).cell? ⟨b',o+i * 2+j,none⟩=some (.int .i64 (if j=0 then (iH l)[i].1 else (iH l)[i].2)):=fun j hj=>by
     rw[cell_of_row _ _ _ _ _ _ hwb]
     have h2:o+i * 2+j<cs.size:=by omega
     have h3:o+i * 2+j - o=i * 2+j:=by omega
     have h4:fl[i * 2+j]! =.int .i64 (if j=0 then (iH l)[i].1 else (iH l)[i].2):=by
      rw[mM,get_flatK _ _ _ _ (by rw[aKO];omega),show(i * 2+j) / 2=i by omega,show(i * 2+j) % 2=j by omega,aDQ _ _ hj,C4 ar i (by omega)]
      simp [oF]
     unfold putCells
     rw[Array.getElem?_mapIdx,ZR h2,mG,aE ⟨by omega,by omega⟩,h3,h4]
     rfl
    refine⟨rfl,?_⟩
    simp only[pD,i64,dL,D.is]
    exact⟨⟨_,xC 0 (by omega),rfl,rfl⟩,⟨_,xC 1 (by omega),rfl,rfl⟩,trivial⟩
  ·rw[aN fM] at hy
   exact lO.sZ (hwo b' (hH.lt hy) fM) (hH b' y hy)
theorem V7 {g:FuncId} (H:aC):bE prog 17 [.val (.slice none 0 0),.fn g []] H fun d H'=>d=.pG []/\H=H':=
 And.intro (uH func17 rfl rfl) fun w vs zD hH _=>by
  simp only[aW] at zD
  obtain⟨u,_,rfl,h1,u2,_,rfl,h2,rfl⟩:=zD
  simp only[D.is] at h1 h2
  subst h1
  obtain⟨cv,rfl,h2⟩:=h2
  refine(AnyF.slices_SortFunc_none Y2 none 0 _ w).mono ?_
  rintro e w' ⟨rfl,rfl⟩
  exact⟨_,_,H,rfl,(by simp only[D.is];exact⟨[],rfl,by simp only[aW]⟩),hH,fT _ _,rfl,rfl⟩
end Go.Proofs.YtfiipaodjpiooaaGreatDoor
namespace Go.Proofs.YtfiipaodjpiooaaGreatDoor
open Go.ChangeMaps (setBlock)
open Go.RowKit
open Tryz
def SVP (S:List (Int×Int)):List (Value×Value):=S.map fun k=>(pk k.1 k.2,.bool true)
def NT (S:List (Int×Int)):List (Value×D):=(SVP S).map fun p=>(p.1,.val p.2)
theorem DX (a:Int×Int) (S:List (Int×Int)):NT (a::S)=(pk a.1 a.2,.val (.bool true))::NT S:=rfl
theorem aC4 {a b:Int×Int}:pk a.1 a.2=pk b.1 b.2↔a=b:=by
 constructor
 ·intro h
  have h1:a.1=b.1/\a.2=b.2:=by simpa [pk] using h
  exact tK h1.1 h1.2
 ·rintro rfl;rfl
def HV (S:List (Int×Int)) (x:Int×Int):List (Int×Int):=if x∈S then S else S++[x]
theorem aAs {S:List (Int×Int)} {x y:Int×Int}:y∈HV S x↔y∈S\/y=x:=by
 unfold HV
 split
 ·rename_i h
  exact⟨.inl,fun h2=>h2.elim id fun e=>e▸h⟩
 ·rw[bV,cR]
theorem aHV (S:List (Int×Int)) (x:Int×Int):(HV S x).length<=S.length+1:=by unfold HV;split <;> simp
theorem aCs (S:List (Int×Int)) (x:Int×Int):iM (NT S) (pk x.1 x.2) (.val (.bool true))=NT (HV S x):=by
 induction S with
 |nil=>rfl
 |cons a S ih=>
  rw[DX]
  by_cases e:a=x
  ·subst e
   simp only[iM,fO]
   unfold HV
   rw[aE (by simp),DX]
  ·simp only[iM]
   rw[aA (fun h=>e (aC4.1 h)),ih]
   unfold HV
   by_cases h:x∈S
   ·rw[aE h,aE (gY _ h),DX]
   ·rw[aA h,aA (by simp only[dJ,not_or];exact⟨fun h=>e h.symm,h⟩)];rfl
theorem aAC {S:List (Int×Int)} (h:∀x∈S,fU x.1/\fU x.2) {x:Int×Int} (hx:fU x.1/\fU x.2):kOK prog 48 (NT S) (pk x.1 x.2):=
 ⟨Go.Maps.Keyed.of_law R1.law,JU hx.1 hx.2,fun p hp=>by
  unfold NT SVP at hp
  rw[oZ,eW] at hp
  obtain⟨y,hy,rfl⟩:=hp
  exact JU (h y hy).1 (h y hy).2⟩
theorem aRV (b:Int×Int) (w:World) (S:Nat->Prop):D.is w S (.agg [i64 b.1,i64 b.2]) (pk b.1 b.2):=by
 simp only[D.is,aU,pk,i64]
 exact⟨_,rfl,_,_,rfl,rfl,rfl,_,_,rfl,rfl,rfl,rfl⟩
theorem aE2 {cx:Cx} {o:Oper} {K:St->Prop} {s:St} {x:Operand} {b r:Nat} {p:Value×Value} (dk:D) (e0:o.op=.entry x) (hd:DE cx.n o.dst)
  (hx:s.ev x=.val (.pointer (some ⟨r,0,none⟩))) (hR:aAB s.H b r p) (hk:∀w S,D.is w S dk p.1) (h:K (s.put o.dst (.pG [dk,.val p.2]))):WO cx o K s:=
 lB (by simp [e0]) hd fun a w m=>by
  have NG:=m.xS x
  rw[hx] at NG
  have OE:=dZ NG
  obtain⟨es,cI,mL,seen,e,hb,hr,hem,IK,rfl⟩:=hR
  refine⟨.tuple #[e.key,e.val],_,?_,?_,h⟩
  ·simp only[execOp,e0,OE,Sem.run_bind,run_entry_at (P:=cx.P) w r b mL seen es cI e (m.H _ _ hr) (m.H _ _ hb) hem IK,Result.andThen,Sem.run_pure]
  ·simp only[D.is,aW]
   exact⟨_,rfl,_,_,rfl,hk _ _,_,_,rfl,rfl,rfl⟩
theorem aH4 (S:List (Int×Int)) (bm:Nat) (es:Array MapEntry) (cI:Nat) (hm:aJQ es cI (SVP S)):
  AN prog 125 [.rp [.val (.map (some bm))]] (fun x:Int×Int=>[.agg [i64 x.1,i64 x.2]]) (aPc S) (·.Perm S) (aE0 bm es cI) (aE0 bm es cI):=by
 refine JT _ func125 rfl rfl ntmps125 results125 (by simp) fun l J Jx H w0 g0 Q fI hJ hC hCx G6 hY aD=>?_
 unfold aE0 at fI G6
 refine tq @yD.eq_1 ?_;intro Nx aB Gx aF
 refine UN rfl (show(5:Nat)<14 by decide) underlying94 rfl fI hm ?_
 intro r y JP hrb hR
 refine aB _ ?_
 refine tq trivial ?_;intro Nx aB Gx aF
 refine pZ (fun k s=>∃(kO dn:List (Int×Int)),k=kO.length/\s.df=[]/\s.fr 0=yD l/\s.fr 5=.val (.pointer (some ⟨r,0,none⟩))/\TP s.H bm r (SVP kO)/\J dn s.H/\(dn++kO).Perm S) S.length ⟨S,[],rfl,rfl,rfl,rfl,hR,hC _ _ _ _ JP (fun z hz=>by rw[JP] at hz;cases hz) hJ,List.Perm.refl _⟩ ?_
 rintro n s ⟨kO,dn,rfl,aT,f0,f5,hR,hj,hp⟩
 refine tq f5 ?_;intro Nx aB Gx aF
 refine IX rfl (show(6:Nat)<14 by decide) f5 hR (fun YH=>?_) (fun l1 p l2 H3 YH hR3 hE3 qS=>?_)
 ·have T6:kO=[]:=by
   cases kO with
   |nil=>rfl
   |cons a l=>cases YH
  subst T6
  (have fs:=trivial;refine qK ?_;try clear fs);(first|refine aF _ ?_|refine aB _ ?_|skip)
  refine tq trivial ?_;intro Nx aB Gx aF
  rw[iJ] at hp
  exact aD _ _ (.inl rfl) aT (.inl ⟨dn,hp,hj⟩)
 ·obtain⟨t1,t2',e1,e2,e3⟩:=KM.1 YH
  obtain⟨b,t2,e4,e5,e6⟩:=KQ.1 e3
  subst e1 e4 e2 e6 e5
  have VJ:((dn++[b])++(t1++t2)).Perm S:=by
   refine List.Perm.trans ?_ hp
   rw[iR]
   exact PN _ (P2 (l₁:=t1) (l₂:=t2) (a:=b)).symm
  have hR4:TP H3 bm r (SVP (t1++t2)):=by
   have:SVP (t1++t2)=SVP t1++SVP t2:=cQ
   rw[this];exact hR3
  obtain⟨y3,hy3⟩:=hE3.obj
  have y8:=aIw hy3 qS
  have hj3:J dn H3:=by
   rw[y8]
   exact hC _ _ _ _ JP (fun z hz=>by obtain⟨y',h⟩:=hR.obj;rw[h] at hz;injection hz with hz;exact⟨_,hz.symm⟩) hj
  (have fs:=trivial;refine qK ?_;try clear fs);(first|refine aF _ ?_|refine aB _ ?_|skip)
  refine tq trivial ?_;intro Nx aB Gx aF
  refine aE2 (.agg [i64 b.1,i64 b.2]) rfl (show(8:Nat)<14 by decide) (by exact f5) hE3 (aRV b) ?_
  (have fs:=And.intro f0 @yD.eq_1;refine qK ?_;try clear fs);(first|refine aF _ ?_|refine aB _ ?_|skip)
  refine tq (dG f0 @yD.eq_1) ?_;intro Nx aB Gx aF
  intro b3 hb3
  refine aB _ ?_
  refine fZ 3 hb3 ?_
  refine tq (dG f0 @yD.eq_1) ?_;intro Nx aB Gx aF
  refine w8 dn b rfl rfl rfl (by simp [DE]) hY (fT _ _) ⟨_,VJ⟩ hj3 rfl (fun H4 hj4 vE=>?_) fun H4 hj4 vE=>?_
  ·have k1:H4 bm=H3 bm:=by
    have h1:=G6 _ _ hj3
    have h2:=G6 _ _ hj4
    rw[h1,h2]
   have k2:H4 r=H3 r:=by rw[hy3];exact vE r y3 JP hy3
   (have fs:=trivial;refine qK ?_;try clear fs);(first|refine aF _ ?_|refine aB _ ?_|skip)
   refine tq trivial ?_;intro Nx aB Gx aF
   exact⟨_,by show(t1++t2).length<(t1++b::t2).length;rw[bN,bN,eO];omega,t1++t2,dn++[b],rfl,aT,f0,f5,hR4.fS k1 k2,hj4,VJ⟩
  ·(have fs:=trivial;refine qK ?_;try clear fs);(first|refine aF _ ?_|refine aB _ ?_|skip)
   refine tq trivial ?_;intro Nx aB Gx aF
   exact aD _ _ (.inr rfl) aT (.inr ⟨_,hj4⟩)
def ApP (H:aC) (c:Nat) (l:List (Int×Int)) (Hc:aC):Prop:=H.le Hc/\∃x ob,Hc c=some (.row 23 0 1 [[x]])/\Gl H 48 2 (l.map pD) x Hc ob/\ob≠some c
theorem aJ8 {gf:FuncId} {eL:List D} {Pf Fn:List (Int×Int)->Prop} {ok kp:aC->Prop} (it:AN prog gf eL (fun x:Int×Int=>[.agg [i64 x.1,i64 x.2]]) Pf Fn ok kp) (H:aC) (fI:∀H',H.le H'->ok H') (G6:∀Hc,lU H Hc->kp Hc) (hP:∀l,Pf l->l.length<=1000000000000):
  bE prog 164 [.val (.slice none 0 0),.fn gf eL] H fun d H'=>∃ys ob,Fn ys/\Gl H 48 2 (ys.map pD) d H' ob/\H.le H':=by
 refine xR _ _ func164 rfl rfl ntmps164 results164 (by simp) fun w0 g0 Q aD=>?_
 refine tq trivial ?_;intro Nx aB Gx aF
 intro c2 lH
 refine aB _ ?_
 refine tq trivial ?_;intro Nx aB Gx aF
 have rT:H.le (H.bH c2 (.row 23 0 1 [[.val (.slice none 0 0)]])):=bK (aG _) lH
 refine sR (fun s=>s.df=[]/\s.fr 2=.ep c2 0 1 0 0/\s.fr 6=.fn gf eL/\H.le s.H/\ApP H.DS c2 [] s.H) ⟨rfl,rfl,rfl,rT,mH (L6 H) rT,_,none,aO _ _ _,iW _ _ _ _,by simp⟩ ?_
 rintro s ⟨aT,f2,f6,aY,hI0⟩
 refine sS rfl it f6 (fun H' h=>fI H' (mH aY h)) (by simp) (fun _=>rfl) (fun _=>True) (fun _ _=>trivial) (fun pre=>ApP H.DS c2 pre) (fun _ Hc _ h=>G6 Hc fun b o hb=>h b o trivial (aY _ _ hb)) (fun _ _ _=>False) ?_ ?_ ?_ ?_ ?_ ?_
 ·rintro pre H1 b o _ hz ⟨h1,x,ob,h2,h3,h4⟩
  exact⟨nU (rX H) h1 (s6 hz),x,ob,s6 hz _ _ h2 (by simp),h3.SB (s6 hz),h4⟩
 ·exact fun _ _ _ _ _ _ _ h=>h
 ·exact hI0
 ·rintro l w1 pre x Hc o gk1 _ lP ⟨g1,xs,ob,g2,g3,g4⟩ kN hl
  rw[aIR]
  refine tq (jE eY eX eN bW aT) ?_;intro Nx aB Gx aF
  intro b9 hb9
  refine aB _ ?_
  simp only[eQ]
  refine⟨rfl,fun b o _ h=>lU.new (xE _) hb9 b o h,fun w2 y gk2 _=>?_⟩
  have zB:=hP _ lP
  rw[bN,wB] at zB
  have n2:c2≠l:=fun e=>by rw[e,hl] at g2;cases g2
  have l5:l≠b9:=fun e=>by rw[e,hb9] at hl;cases hl
  have r2:(Hc.bH l (.obj y)) c2=some (.row 23 0 1 [[xs]]):=(aN n2).trans g2
  have g3':Gl H.DS 48 2 (pre.map pD) xs (Hc.bH l (.obj y)) ob:=g3.SB (s7 hl)
  have g1':H.DS.le (Hc.bH l (.obj y)):=nU (rX H) g1 (s7 hl)
  refine cA 5 rfl (b:=b9) (by simp only[s5,eX,lX];rw[aN (Ne.symm l5),aO]) rfl ?_
  simp only[St.jH,s5,eX,lX,nA,bW,jN,F8 (Ne.symm l5),wC,tH hb9,List.drop]
  have OC:=fun (x:fK) (hx:∀o,x≠ .obj o)=>BI (H:=Hc) (b:=b9) (l:=l) (y:=y) hx
  refine tq (kB f2 eY eX eN bW r2) ?_;intro Nx aB Gx aF
  refine dD (e:=48) vY rfl vY rfl ML rfl (by decide) g1' g3' (new:=[pD x]) (by exact⟨rfl,rfl⟩) (by rw[bC];show(_+1) * 16<=_;omega) fun d H6 oG j6 eM nJ=>?_
  have q3:=nJ _ _ r2 g4
  have q31:=q3.1
  have hd6:∃c o n,d=.os c o 2 0 n:=by
   rcases j6 with⟨_,_,h⟩|⟨c,o,_,h,_⟩
   ·simp at h
   ·exact⟨c,o,_,h⟩
  obtain⟨c',o',n',rfl⟩:=hd6
  have e:(pre++[x]).map pD=pre.map pD++[pD x]:=by simp
  (have fs:=And.intro f2 q31;refine qK ?_;try clear fs);(first|refine aF _ ?_|refine aB _ ?_|skip)
  refine⟨rfl,fun b o _ h=>(FF (OC _ (by simp)) g3' nJ).row q31 (by simp) b o h,bK eM (rB lH),_,oG,aO _ _ _,?_,q3.2⟩
  rw[e]
  exact j6.fS fun c h=>aN fun e=>q3.2 (by rw[h,e])
 ·rintro ys Hc M EJ ⟨g1,xs,ob,g2,g3,g4⟩ kN hD NZ
  rw[xP,fP,eQ,aT]
  have TB:c2≠M:=fun e=>by rw[e,hD] at g2;cases g2
  have g1:=vH g1 aY fun b o h=>kN b o trivial h
  have g3:=XY g3 g1
  refine tq (dG f2 g2) ?_;intro Nx aB Gx aF
  refine aD _ _ (.inr rfl) ?_ ?_
  ·(have fs:=f2;refine evG ?_;clear fs)
   exact mk1 hD
  ·(have fs:=f2;refine evG ?_;clear fs)
   rw[J1]
   have iC:H.le (Hc.bH M .hid):=bK g1 (tJ aY NZ)
   exact⟨_,aG _,ys,ob,EJ,aGo g3 hD,iC⟩
 ·exact fun _ _ _ _ _ _ h=>h.elim
theorem aJm {gf:FuncId} {eL:List D} {Pf Fn:List (Int×Int)->Prop} {ok kp:aC->Prop} (it:AN prog gf eL (fun x:Int×Int=>[.agg [i64 x.1,i64 x.2]]) Pf Fn ok kp) (H:aC) (fI:∀H',H.le H'->ok H') (G6:∀Hc,lU H Hc->kp Hc) (hP:∀l,Pf l->l.length<=1000000000000):
  bE prog 124 [.fn gf eL] H fun d H'=>∃ys ob,Fn ys/\Gl H 48 2 (ys.map pD) d H' ob/\H.le H':=by
 refine aQ _ _ func124 rfl rfl ntmps124 results124 (by simp) fun w0 g0 Q aD=>?_
 refine tq trivial ?_;intro Nx aB Gx aF
 refine(aJ8 it H fI G6 hP).mono ?_
 rintro d H1 ⟨ys,ob,EJ,hg,aS⟩
 obtain⟨dx,rfl⟩:∃dx,dx=d:=⟨_,rfl⟩
 have hdc:=hg.cells
 refine tq trivial ?_;intro Nx aB Gx aF
 refine rt aD hdc ?_
 exact⟨_,aG _,ys,ob,EJ,hg,aS⟩
theorem aCi {l l':List (Int×Int)} (h:l.Perm l'):iH l=iH l':=
 List.Perm.eq_of_pairwise (fun a b _ _ h1 h2=>by unfold sJ at h1 h2;exact tK (by omega) (by omega)) (SK l) (SK l') (((F4 l _).trans h).trans (F4 l' _).symm)
theorem aF7 {gf g:FuncId} {eL:List D} {Pf Fn:List (Int×Int)->Prop} {ok kp:aC->Prop} (GK:aFl g) (it:AN prog gf eL (fun x:Int×Int=>[.agg [i64 x.1,i64 x.2]]) Pf Fn ok kp) (S:List (Int×Int)) (H:aC) (fI:∀H',H.le H'->ok H') (G6:∀Hc,lU H Hc->kp Hc) (hP:∀l,Pf l->l.length<=1000000000000) (hS:∀l,Fn l->l.Perm S) (hl:S.length<=1000000000000):
  bE prog 59 [.fn gf eL,.fn g []] H fun d H'=>d=.seq 2 ((iH S).map pD)/\H=H':=by
 refine bO (K:=fun d=>d=.seq 2 ((iH S).map pD)) ?_
 refine aQ _ _ func59 rfl rfl ntmps59 results59 (by simp) fun w0 g0 Q aD=>?_
 refine tq trivial ?_;intro Nx aB Gx aF
 refine(aJm it H fI G6 hP).mono ?_
 rintro d H1 ⟨ys,ob,EJ,hg,aS⟩
 have hp:=hS ys EJ
 have hyl:ys.length<=1000000000000:=by rw[hp.length_eq];exact hl
 have hso:=aCi hp
 rcases hg with⟨_,e1,e2⟩|⟨c,o,e0,e1,e2,e3⟩
 ·have hy0:ys=[]:=by simpa using e2
  subst e1
  refine tq trivial ?_;intro Nx aB Gx aF
  refine(V7 _).mono ?_
  rintro d _ ⟨rfl,rfl⟩
  refine tq trivial ?_;intro Nx aB Gx aF
  refine rt aD trivial ?_
  exact⟨_,aG _,aS,.seq 2 [],qA,by rw[<-hso,hy0];simp [iH]⟩
 ·rw[bC] at e1
  subst e1
  refine tq trivial ?_;intro Nx aB Gx aF
  refine(MI GK e3 (by omega)).mono ?_
  rintro d _ ⟨rfl,rfl⟩
  refine tq trivial ?_;intro Nx aB Gx aF
  refine rt aD trivial ?_
  have eM:H.le (H1.bH c (.row 48 o 2 ((iH ys).map pD))):=bK aS e2
  have hnl:=jJ ys
  exact⟨_,aG _,eM,_,yY (k:=0) eM (aO _ _ _) e2 (by rw[bC];omega),by rw[jB,cW (by rw[bC];omega),hso]⟩
theorem aKn (bm:Nat) (H:aC):bE prog 60 [.val (.map (some bm))] H fun d H'=>d=.fn 125 [.rp [.val (.map (some bm))]]/\H=H':=by
 refine aQ _ _ func60 rfl rfl ntmps60 results60 (by simp) fun w0 g0 Q aD=>?_
 refine tq trivial ?_;intro Nx aB Gx aF
 intro c1 mA
 refine aB _ ?_
 refine fZ 1 mA ?_
 refine tq trivial ?_;intro Nx aB Gx aF
 refine rt aD trivial ?_
 exact⟨_,aG _,by first|rfl|exact⟨rfl,rfl⟩⟩
end Go.Proofs.YtfiipaodjpiooaaGreatDoor

