/- Lemmas and contracts of functions, several texts in one. -/
import Derived.Test.YtfiipaodjpiooaaGreatDoorQ36
import Derived.Test.YtfiipaodjpiooaaGreatDoorQ37
set_option maxRecDepth 100000
set_option maxHeartbeats 4000000
set_option linter.all false
namespace Go.Proofs.YtfiipaodjpiooaaGreatDoor
open Go.RowKit
open Tryz
theorem aLB (p:Int) (s:EZ):(VQ p s).length=if s.k=0/\s.rv.k=1 then 1 else 0:=by unfold VQ;split <;> rfl
theorem Y6 {n m:Nat} {P:Int->Int->Prop} (h:n=0):tO n m P=[]:=by subst h;rfl
theorem aOp (b:cT) (ok:AG b):bE prog 5 [.agg (iS b)] .none fun d _=>d=.val (.bool true):=by
 have TI:=fun H1=>ES b H1 ok
 have sQ:=lm jP b.bl
 unfold iS at TI ⊢
 refine aQ _ _ func5 rfl rfl ntmps5 results5 (by simp) fun w0 g0 Q aD=>?_
 refine tq trivial ?_;intro Nx aB Gx aF
 intro c1 mA
 refine aB _ ?_
 refine fZ 1 mA ?_
 refine tq trivial ?_;intro Nx aB Gx aF
 refine(TI _).mono ?_
 rintro d _ ⟨hd,rfl⟩
 rcases hd with rfl|⟨rfl,ts⟩
 ·refine tq trivial ?_;intro Nx aB Gx aF
  refine(kQ _).mono ?_
  rintro d _ ⟨rfl,rfl⟩
  refine tq trivial ?_;intro Nx aB Gx aF
  refine rt aD trivial ?_
  exact⟨_,aG _⟩
 have hex:=fun H1=>LJ b H1 (OP ts.tb).ex
 have gV:=fun H1=>I9 ts.tb H1
 have X4:=ts.cn
 have hlc:=HY b
 have hvl:(mO b).length=0->rZ b=[]:=fun h=>Y6 h
 unfold iS at hex gV
 refine tq sQ ?_;intro Nx aB Gx aF
 refine aZ b.bl.length (fun i s=>s.df=[]/\s.fr 1=.rp [cX b.nm,.seq 1 (b.rg.map sD),.seq 2 (b.ol.map pD),.seq 5 (b.ty.map cP),.seq 2 (b.lc.map mN),i64 b.ag,.seq 7 (b.bl.map jP)]/\s.fr 3=i64 (L4 0 (b.bl.take i)).length/\s.fr 17=.seq 7 (b.bl.map jP)/\s.fr 18=i64 b.bl.length/\s.fr 19=i64 i/\s.H=aC.none) ⟨rfl,rfl,rfl,rfl,rfl,rfl,rfl⟩ ?_
 rintro i s hi ⟨aT,f1,f3,f17,f18,f19,hH⟩
 have hx:=bI i
 have cJ:=bM i
 have l4:=FC (dK b)
 rw[jR] at l4
 by_cases aV:i<b.bl.length
 case neg=>
  have q1:=lF i b.bl.length (by omega)
  rw[cW (by omega)] at f3
  refine tq (gQ f1 f18 f19 q1) ?_;intro Nx aB Gx aF
  refine(hex _).mono ?_
  rintro d _ ⟨S,⟨hSl,hS⟩,rfl,rfl⟩
  have NB:(List.map vS (mO b)).length=(mO b).length:=bC _
  refine tq trivial ?_;intro Nx aB Gx aF
  intro c8 X1
  refine aB _ ?_
  refine fZ 8 X1 ?_
  refine tq f1 ?_;intro Nx aB Gx aF
  refine(gV _).mono ?_
  rintro d _ ⟨rfl,rfl⟩
  refine tq trivial ?_;intro Nx aB Gx aF
  refine(kQ _).mono ?_
  rintro d _ ⟨rfl,rfl⟩
  by_cases h0:(mO b).length=0
  ·have e1:=hvl h0
   have e2:tO (mO b).length (bZ (dK b)) (rW b)=[]:=Y6 h0
   have e3:tO (mO b).length (bZ (dK b)) (qN b)=[]:=Y6 h0
   have f3':s.fr 3=i64 0:=by rw[f3];show i64 ((mO b).length:Int)=_;rw[h0];rfl
   have h0':((mO b).length:Int)=0:=by omega
   have e4:List.map pD []=[]:=rfl
   have e5:([]:List (List D)).length=0:=rfl
   refine tq (wG f3' NB h0' e1 e2 e3 e4 e5) ?_;intro Nx aB Gx aF
   refine rt aD aT ?_
   exact⟨_,aG _,rfl⟩
  ·have q3:(0:Int)<((mO b).length:Int):=by omega
   have f3':s.fr 3=i64 (mO b).length:=f3
   refine tq (eA f3' NB q3) ?_;intro Nx aB Gx aF
   refine rt aD aT ?_
   exact⟨_,aG _⟩
 have cC:(i:Int)<(b.bl.length:Int):=by omega
 have q1:((i:Int)<(b.bl.length:Int))=True:=aK cC
 have w3:=wS i (by omega)
 have cD:(b.bl.map jP)[i]?=some (jP b.bl[i]):=fY aV
 have LW:=aDl aV
 have hfc:cY (dK b) (i+1)<=bZ (dK b):=AX
 have hfs:cY (dK b) (i+1)=cY (dK b) i+b.bl[i].st.length+1:=by rw[mT (by rw[jR];exact aV),sW aV]
 have jY:=O7 (b.bl.take i) 0
 have aY9:bZ ((b.bl.take i).map fun x=>(x.st.length,x.tm.tg))=cY (dK b) i:=by unfold cY dK;rw[qB]
 rw[aY9] at jY
 obtain⟨x,tV⟩:∃x,x=b.bl[i]:=⟨_,rfl⟩
 rw[<-tV] at cD LW hfs
 have wO:=lm vV x.st
 simp only[jP] at cD
 refine tq (nN f17 f18 f19 sQ q1 cD hx cJ aV cC) ?_;intro Nx aB Gx aF
 intro c5 lY
 refine aB _ ?_
 refine fZ 5 lY ?_
 refine tq wO ?_;intro Nx aB Gx aF
 obtain⟨F,hF⟩:∃F:Int,F=cY (dK b) i:=⟨_,rfl⟩
 obtain⟨n0,YE⟩:∃n0,n0=(L4 0 (b.bl.take i)).length:=⟨_,rfl⟩
 rw[<-YE] at f3 jY
 rw[<-hF] at LW
 have hn1:(L4 0 (b.bl.take (i+1))).length=n0+(DD F x.st).length:=by rw[LW,bN,YE]
 refine aZ x.st.length (fun j s2=>s2.df=[]/\s2.fr 1=s.fr 1/\s2.fr 3=i64 (n0+(DD F (x.st.take j)).length:Nat)/\s2.fr 17=.seq 7 (b.bl.map jP)/\s2.fr 18=i64 b.bl.length/\s2.fr 19=i64 i/\s2.fr 24=.seq 11 (x.st.map vV)/\s2.fr 25=i64 x.st.length/\s2.fr 26=i64 j/\s2.H=aC.none) ⟨aT,rfl,f3,f17,f18,f19,rfl,rfl,rfl,hH⟩ ?_
 rintro j s2 hj ⟨GG,g1,g3,g17,g18,g19,g24,g25,g26,gH⟩
 rw[f1] at g1
 have G8:=bI j
 have xB:=bM j
 by_cases fQ:j<x.st.length
 case neg=>
  have q2:=lF j x.st.length (by omega)
  rw[cW (by omega),<-hn1] at g3
  refine tq (jE g19 g25 g26 q2 w3) ?_;intro Nx aB Gx aF
  exact⟨aV,GG,g1,g3,g17,g18,rfl,gH⟩
 have RE:(j:Int)<(x.st.length:Int):=by omega
 have q2:((j:Int)<(x.st.length:Int))=True:=aK RE
 have w4:=wS j (by omega)
 have qR:(x.st.map vV)[j]?=some (vV x.st[j]):=fY fQ
 have aFH:(DD F (x.st.take (j+1))).length=(DD F (x.st.take j)).length+(if x.st[j].k=0/\x.st[j].rv.k=1 then 1 else 0):=by
  rw[dH fQ,RQ,bN,aLB]
 have wI:=O8 (x.st.take j) F
 rw[dU] at wI
 obtain⟨u,hu⟩:∃u,u=x.st[j]:=⟨_,rfl⟩
 rw[<-hu] at qR aFH
 simp only[vV] at qR
 refine tq (nN g24 g25 g26 wO q2 qR G8 xB fQ RE) ?_;intro Nx aB Gx aF
 intro c7 EG
 refine aB _ ?_
 refine fZ 7 EG ?_
 have fin:∀s3:St,s3.df=[]->s3.fr 1=s.fr 1->s3.fr 17=.seq 7 (b.bl.map jP)->True:=fun _ _ _ _=>trivial
 by_cases hk:u.k=0
 case neg=>
  have q3:(u.k=0)=False:=aI hk
  rw[aA (fun h=>hk h.1),u6] at aFH
  refine tq (eA g26 q3 w4) ?_;intro Nx aB Gx aF
  exact⟨fQ,GG,g1.trans f1.symm,by rw[aFH];exact g3,g17,g18,g19,g24,g25,rfl,gH⟩
 have q3:(u.k=0)=True:=aK hk
 by_cases hr:u.rv.k=1
 case neg=>
  have q4:(u.rv.k=1)=False:=aI hr
  rw[aA (fun h=>hr h.2),u6] at aFH
  refine tq (gQ g26 q3 q4 w4) ?_;intro Nx aB Gx aF
  exact⟨fQ,GG,g1.trans f1.symm,by rw[aFH];exact g3,g17,g18,g19,g24,g25,rfl,gH⟩
 have q4:(u.rv.k=1)=True:=aK hr
 rw[aE ⟨hk,hr⟩] at aFH
 have w5:IntKind.i64.wrap (((n0+(DD F (x.st.take j)).length:Nat):Int)+1)=((n0+(DD F (x.st.take (j+1))).length:Nat):Int):=by rw[bF (by omega)];omega
 refine tq (kB g3 g26 q3 q4 w4 w5) ?_;intro Nx aB Gx aF
 exact⟨fQ,GG,g1.trans f1.symm,rfl,g17,g18,g19,g24,g25,rfl,gH⟩
theorem IV (x0:X) (v0:Value) (w:World) (o0:DT.ok (DT.struct [DT.string,DT.slice 1 16 (DT.string),DT.slice 2 16 (DT.array 2 (DT.int .i64)),DT.slice 5 56 (DT.struct [DT.int .i64,DT.bool,DT.int .i64,DT.int .i64,DT.slice 1 8 (DT.int .i64)]),DT.slice 2 24 (DT.struct [DT.string,DT.int .i64]),DT.int .i64,DT.slice 7 128 (DT.struct [DT.slice 11 136 (DT.struct [DT.int .i64,DT.struct [DT.int .i64,DT.slice 2 16 (DT.struct [DT.int .i64,DT.int .i64])],DT.struct [DT.int .i64,DT.int .i64,DT.int .i64,DT.bool,DT.struct [DT.int .i64,DT.slice 2 16 (DT.struct [DT.int .i64,DT.int .i64])],DT.slice 4 48 (DT.struct [DT.int .i64,DT.struct [DT.int .i64,DT.slice 2 16 (DT.struct [DT.int .i64,DT.int .i64])],DT.int .i64])],DT.int .i64]),DT.struct [DT.int .i64,DT.slice 1 8 (DT.int .i64),DT.slice 4 48 (DT.struct [DT.int .i64,DT.struct [DT.int .i64,DT.slice 2 16 (DT.struct [DT.int .i64,DT.int .i64])],DT.int .i64]),DT.struct [DT.int .i64,DT.slice 2 16 (DT.struct [DT.int .i64,DT.int .i64])],DT.string]])]) x0) (i0:D.is w aC.none.others x0.d v0) (hG:DW w aC.none):
  Calls prog 5 #[v0] w fun e w'=>e=.returned (.bool true)/\Below w.heap.size w w':=by
 obtain⟨a,ha,YF⟩:=J2 o0
 rw[ha] at i0
 exact KI (aOp a YF) ⟨_,_,rfl,i0,rfl⟩ hG
end Go.Proofs.YtfiipaodjpiooaaGreatDoor

