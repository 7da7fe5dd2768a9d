/- Lemmas and contracts of functions, several texts in one. -/
import Derived.Test.YtfiipaodjpiooaaGreatDoorQ28
import Derived.Test.YtfiipaodjpiooaaGreatDoorQ30
import Derived.Test.YtfiipaodjpiooaaGreatDoorQ29
import Derived.Test.YtfiipaodjpiooaaGreatDoorQ23
set_option maxRecDepth 100000
set_option maxHeartbeats 4000000
set_option linter.all false
namespace Go.Proofs.YtfiipaodjpiooaaGreatDoor
open Go.RowKit
open Tryz
theorem aL4 {l:List (Int×Int)} {b1 b2:Nat} {H H':aC} (h:yL l b1 b2 H) (h1:H' b1=H b1) (h2:H' b2=H b2):yL l b1 b2 H':=by
 obtain⟨m1,m2,a1,a2,a3,a4⟩:=h
 exact⟨m1,m2,h1.trans a1,a2,h2.trans a3,a4⟩
theorem aOv (b:cT) (H:aC) (hn:b.rg.length<=1000000) (hc:jA b.ol b.rg.length=0):bE prog 52 [.agg (iS b)] H fun d H'=>∃b1 b2 m1 m2,d=.agg (D7 b b.rg.length b1 b2)/\H b1=none/\H b2=none/\b1≠b2/\H'=(H.bH b1 (.map m1)).bH b2 (.map m2)/\yL b.ol b1 b2 H'/\H.le H':=by
 have CC:=lm sD b.rg
 rw[pI]
 refine aQ _ _ func52 rfl rfl ntmps52 results52 (by simp) fun w0 g0 Q aD=>?_
 refine tq trivial ?_;intro Nx aB Gx aF
 intro c1 mA c2 lH
 refine aB _ ?_
 obtain⟨lK,sH⟩:=bY.1 lH;refine cA 1 rfl ((aN lK.symm).trans (aO _ _ _)) rfl ?_;refine eV _ (HX mA sH lK) ?_;simp only[St.jH,List.drop]
 refine tq CC ?_;intro Nx aB Gx aF
 refine(aMn b.ol b.rg.length _ (by omega) hc).mono ?_
 rintro d H1 ⟨b1,b2,m1,m2,rfl,DQ,VG,fM,rfl,hR,kU⟩
 obtain⟨n1,DQ⟩:=bY.1 DQ
 obtain⟨n2,VG⟩:=bY.1 VG
 obtain⟨R,hRR⟩:∃R:fK,(H.bH c2 R) c2=some R/\R=.row 100 0 8 [[.val (.string ByteArray.empty),.val (.slice none 0 0),.val (.slice none 0 0),.val (.slice none 0 0),.val (.slice none 0 0),i64 0,.val (.slice none 0 0),.val (.pointer none)]]:=⟨_,aO _ _ _,rfl⟩
 obtain⟨H2,mV⟩:∃H2,H2=((H.bH c2 R).bH b1 (.map m1)).bH b2 (.map m2):=⟨_,rfl⟩
 have xZ:H2 c2=some R:=by rw[mV,aN n2.symm,aN n1.symm,aO]
 rw[hRR.2] at mV xZ
 simp only[i64] at mV xZ ⊢
 rw[<-mV]
 refine tq (dG @jL.eq_1 xZ) ?_;intro Nx aB Gx aF
 refine rt aD trivial ?_
 have hH':((H.bH b1 (.map m1)).bH b2 (.map m2)).le (H2.bH c2 (.row 100 0 8 [[cX b.nm,.seq 1 (b.rg.map sD),.seq 2 (b.ol.map pD),.seq 5 (b.ty.map cP),.seq 2 (b.lc.map mN),i64 b.ag,.seq 7 (b.bl.map jP),jL b.rg.length b1 b2]])):=fun c z hz=>by
  have hz':c≠c2:=fun e=>by
   rw[e,aN n2.symm,aN n1.symm,sH] at hz;cases hz
  rw[aN hz',mV]
  by_cases e2:c=b2
  ·subst e2;rw[aO] at hz ⊢;exact hz
  ·rw[aN e2] at hz ⊢
   by_cases e1:c=b1
   ·subst e1;rw[aO] at hz ⊢;exact hz
   ·rw[aN e1] at hz ⊢;rw[aN hz'];exact hz
 refine⟨_,hH',b1,b2,m1,m2,rfl,DQ,VG,fM,rfl,aL4 hR ?_ ?_,?_⟩
 ·rw[aN fM,aO,aN fM,aO]
 ·rw[aO,aO]
 ·exact o8 (o8 (aG _) DQ) ((aN fM.symm).trans VG)
def NW (t:HF) (x y:Int):Bool:=decide ((t.tg.length:Int)=x)&&decide ((t.ar.length:Int)=y)
theorem aGV (t:HF) (x y:Int) (H:aC) (hp:aFW t):bE prog 154 [i64 x,i64 y,.rp (tmD t)] H fun d H'=>d=.val (.bool (NW t x y))/\H=H':=by
 refine bO (K:=fun d=>d=.val (.bool (NW t x y))) ?_
 have aS:=aG H
 have dX:=lm iD t.tg
 have vQ:=lm jW t.ar
 obtain⟨z,hz⟩:∃z,z=NW t x y:=⟨_,rfl⟩
 rw[<-hz]
 unfold NW at hz
 refine aQ _ _ func154 rfl rfl ntmps154 results154 (by simp) fun w0 g0 Q aD=>?_
 by_cases h1:(t.tg.length:Int)=x
 case neg=>
  have q1:((t.tg.length:Int)=x)=False:=aI h1
  have e:z=false:=by rw[hz,bB h1];rfl
  exact oz aD (eA @tmD.eq_1 dX q1) aS e
 have q1:((t.tg.length:Int)=x)=True:=aK h1
 by_cases h2:(t.ar.length:Int)=y
 ·have q2:((t.ar.length:Int)=y)=True:=aK h2
  have e:z=true:=by rw[hz,bG h1,bG h2];rfl
  exact oz aD (jE @tmD.eq_1 dX vQ q1 q2) aS e
 ·have q2:((t.ar.length:Int)=y)=False:=aI h2
  have e:z=false:=by rw[hz,bB h2,kI]
  exact oz aD (jE @tmD.eq_1 dX vQ q1 q2) aS e
theorem aDV (t:HF):yO t=if t.k=0 then NW t 1 0&&gL t.pl&&decide (t.nm=ByteArray.empty)
  else if t.k=1 then NW t 2 1&&gL t.pl&&decide (t.nm=ByteArray.empty)
  else if t.k=3 then decide ((t.tg.length:Int)=1)
  else if t.k=4 then NW t 1 0&&decide (t.nm=ByteArray.empty)
  else NW t 0 0&&gL t.pl&&decide (t.nm=ByteArray.empty):=by
 unfold yO NW
 have e:∀(n m:Nat),decide ((n:Int)=(m:Int))=decide (n=m):=fun n m=>by
  by_cases h:n=m
  ·subst h;simp
  ·rw[bB h,bB (by omega)]
 have e0:∀n:Nat,decide ((n:Int)=0)=decide (n=0):=fun n=>e n 0
 have e1:∀n:Nat,decide ((n:Int)=1)=decide (n=1):=fun n=>e n 1
 have e2:∀n:Nat,decide ((n:Int)=2)=decide (n=2):=fun n=>e n 2
 simp only[e0,e1,e2]
theorem aGg (t:HF) (H:aC) (hp:aFW t):bE prog 111 [.agg (tmD t)] H fun d H'=>d=.val (.bool (yO t))/\H=H':=by
 refine bO (K:=fun d=>d=.val (.bool (yO t))) ?_
 have aS:=aG H
 have hc:∀x y,bE prog 154 [i64 x,i64 y,.rp (tmD t)] H fun d H'=>d=.val (.bool (NW t x y))/\H=H':=fun x y=>aGV t x y H hp
 have hz:=S6 t.pl H hp.2.2
 have dX:=lm iD t.tg
 obtain⟨y,hy⟩:∃y,y=yO t:=⟨_,rfl⟩
 rw[<-hy]
 rw[aDV] at hy
 obtain⟨C,hC⟩:∃C,C=NW t:=⟨_,rfl⟩
 rw[<-hC] at hc hy
 clear hC
 obtain⟨Z,hZ⟩:∃Z,Z=gL t.pl:=⟨_,rfl⟩
 rw[<-hZ] at hz hy
 clear hZ
 obtain⟨k,tg,ar,pl,nm⟩:=t
 simp only at hy dX
 simp only[tmD] at hc ⊢
 simp only[lN] at hz
 refine aQ _ _ func111 rfl rfl ntmps111 results111 (by simp) fun w0 g0 Q aD=>?_
 refine tq trivial ?_;intro Nx aB Gx aF
 intro c1 mA
 refine aB _ ?_
 refine fZ 1 mA ?_
 by_cases hk:k=0
 ·have k0:(k=0)=True:=aK hk
  rw[aE hk] at hy
  have hcc:=hc 1 0
  obtain⟨v,hv⟩:∃v,v=C 1 0:=⟨_,rfl⟩
  rw[<-hv] at hcc hy
  clear hv
  refine tq k0 ?_;intro Nx aB Gx aF
  refine hcc.mono ?_
  rintro d _ ⟨rfl,rfl⟩
  cases v
  ·have e:y=false:=by rw[hy];rfl
   exact oz aD @cX.eq_1 aS e
  rw[eI] at hy
  refine tq trivial ?_;intro Nx aB Gx aF
  refine hz.mono ?_
  rintro d _ ⟨rfl,rfl⟩
  cases Z
  ·have e:y=false:=by rw[hy];rfl
   exact oz aD @cX.eq_1 aS e
  rw[eI] at hy
  by_cases hn:nm=ByteArray.empty
  ·have q1:decide (nm.toList=(ByteArray.mk #[]).toList)=true:=bG (kH.2 hn)
   have e:y=true:=by rw[hy,bG hn]
   exact oz aD (dG @cX.eq_1 q1) aS e
  ·have q1:decide (nm.toList=(ByteArray.mk #[]).toList)=false:=bB (fun h=>hn (kH.1 h))
   have e:y=false:=by rw[hy,bB hn]
   exact oz aD (dG @cX.eq_1 q1) aS e
 have k0:(k=0)=False:=aI hk
 rw[aA hk] at hy
 by_cases hk:k=1
 ·have k1:(k=1)=True:=aK hk
  rw[aE hk] at hy
  have hcc:=hc 2 1
  obtain⟨v,hv⟩:∃v,v=C 2 1:=⟨_,rfl⟩
  rw[<-hv] at hcc hy
  clear hv
  refine tq (dG k0 k1) ?_;intro Nx aB Gx aF
  refine hcc.mono ?_
  rintro d _ ⟨rfl,rfl⟩
  cases v
  ·have e:y=false:=by rw[hy];rfl
   exact oz aD @cX.eq_1 aS e
  rw[eI] at hy
  refine tq trivial ?_;intro Nx aB Gx aF
  refine hz.mono ?_
  rintro d _ ⟨rfl,rfl⟩
  cases Z
  ·have e:y=false:=by rw[hy];rfl
   exact oz aD @cX.eq_1 aS e
  rw[eI] at hy
  by_cases hn:nm=ByteArray.empty
  ·have q1:decide (nm.toList=(ByteArray.mk #[]).toList)=true:=bG (kH.2 hn)
   have e:y=true:=by rw[hy,bG hn]
   exact oz aD (dG @cX.eq_1 q1) aS e
  ·have q1:decide (nm.toList=(ByteArray.mk #[]).toList)=false:=bB (fun h=>hn (kH.1 h))
   have e:y=false:=by rw[hy,bB hn]
   exact oz aD (dG @cX.eq_1 q1) aS e
 have k1:(k=1)=False:=aI hk
 rw[aA hk] at hy
 by_cases hk:k=3
 ·have k3:(k=3)=True:=aK hk
  rw[aE hk] at hy
  by_cases h1:(tg.length:Int)=1
  ·have q1:((tg.length:Int)=1)=True:=aK h1
   have e:y=true:=by rw[hy,bG h1]
   exact oz aD (jE k0 k1 k3 q1 dX) aS e
  ·have q1:((tg.length:Int)=1)=False:=aI h1
   have e:y=false:=by rw[hy,bB h1]
   exact oz aD (jE k0 k1 k3 q1 dX) aS e
 have k3:(k=3)=False:=aI hk
 rw[aA hk] at hy
 by_cases hk:k=4
 ·have k4:(k=4)=True:=aK hk
  rw[aE hk] at hy
  have hcc:=hc 1 0
  obtain⟨v,hv⟩:∃v,v=C 1 0:=⟨_,rfl⟩
  rw[<-hv] at hcc hy
  clear hv
  refine tq (gQ k0 k1 k3 k4) ?_;intro Nx aB Gx aF
  refine hcc.mono ?_
  rintro d _ ⟨rfl,rfl⟩
  cases v
  ·have e:y=false:=by rw[hy];rfl
   exact oz aD @cX.eq_1 aS e
  rw[eI] at hy
  by_cases hn:nm=ByteArray.empty
  ·have q1:decide (nm.toList=(ByteArray.mk #[]).toList)=true:=bG (kH.2 hn)
   have e:y=true:=by rw[hy,bG hn]
   exact oz aD (dG @cX.eq_1 q1) aS e
  ·have q1:decide (nm.toList=(ByteArray.mk #[]).toList)=false:=bB (fun h=>hn (kH.1 h))
   have e:y=false:=by rw[hy,bB hn]
   exact oz aD (dG @cX.eq_1 q1) aS e
 have k4:(k=4)=False:=aI hk
 rw[aA hk] at hy
 have hcc:=hc 0 0
 obtain⟨v,hv⟩:∃v,v=C 0 0:=⟨_,rfl⟩
 rw[<-hv] at hcc hy
 clear hv
 refine tq (gQ k0 k1 k3 k4) ?_;intro Nx aB Gx aF
 refine hcc.mono ?_
 rintro d _ ⟨rfl,rfl⟩
 cases v
 ·have e:y=false:=by rw[hy];rfl
  exact oz aD @cX.eq_1 aS e
 rw[eI] at hy
 refine tq trivial ?_;intro Nx aB Gx aF
 refine hz.mono ?_
 rintro d _ ⟨rfl,rfl⟩
 cases Z
 ·have e:y=false:=by rw[hy];rfl
  exact oz aD @cX.eq_1 aS e
 rw[eI] at hy
 by_cases hn:nm=ByteArray.empty
 ·have q1:decide (nm.toList=(ByteArray.mk #[]).toList)=true:=bG (kH.2 hn)
  have e:y=true:=by rw[hy,bG hn]
  exact oz aD (dG @cX.eq_1 q1) aS e
 ·have q1:decide (nm.toList=(ByteArray.mk #[]).toList)=false:=bB (fun h=>hn (kH.1 h))
  have e:y=false:=by rw[hy,bB hn]
  exact oz aD (dG @cX.eq_1 q1) aS e
theorem aGh {t:HF} (h:yO t=true) (hk:t.k=1):t.ar.length=1:=by
 unfold yO at h
 rw[aA (by omega),aE hk] at h
 simp only[eK,fV] at h
 exact h.1.1.2
theorem aLW {t:HF} (h:t.ar.length=1):(t.ar.map jW)[0]?=some (jW (TJ t)):=by
 rw[ER (by omega:0<t.ar.length)]
 unfold TJ
 rw[oT,bX (by omega)];rfl
theorem aDv {t:HF} (h:t.ar.length=1):TJ t∈t.ar:=by
 unfold TJ
 rw[oT,bX (by omega)]
 exact bU _
theorem aPT (b:cT) (n:Int) (b1 b2:Nat) (t:HF) (H:aC) (ck:Ck b) (hn:n=b.rg.length) (hR:yL b.ol b1 b2 H) (hp:aFW t) (hnm:dO t.nm.size):bE prog 54 [.agg (D7 b n b1 b2),.agg (tmD t)] H fun d H'=>d=i64 (BU b t)/\H=H':=by
 refine bO (K:=fun d=>d=i64 (BU b t)) ?_
 have aS:=aG H
 have mM:=aGg t H hp
 have T3:=(CF b n b1 b2 t.ar [] H ck hn hR hp.2.1.1 hp.2.1.2 (by unfold dO;simp) (fun f hf=>by cases hf)).imp (ds:=[.agg (D7 b n b1 b2),.seq 4 (t.ar.map jW),.val (.slice none 0 0)]) ⟨dQ _,dQ _,fR,trivial⟩
 have AB:t.ar.length=1->∀H1,eF prog 112 [.agg (D7 b n b1 b2),.agg (jW (TJ t))] H1 fun d A=>A=aC.none/\d=i64 (qU b (TJ t)):=fun h H1=>cF fun gI gX=>VU b n b1 b2 (TJ t) gI ck (hp.2.1.2 _ (aDv h))
 have VI:t.ar.length=1->qU b (TJ t)=0->∀H1,eF prog 114 [.agg (D7 b n b1 b2),.agg (jW (TJ t))] H1 fun d A=>A=aC.none/\d=i64 (IL b (TJ t)):=fun h hz H1=>cF fun gI gX=>RO b n b1 b2 (TJ t) gI ck (hp.2.1.2 _ (aDv h)) hz
 have hfa:∀x H1,eF prog 113 [.val (.bool x)] H1 fun d A=>A=aC.none/\d=i64 (if x=true then 22 else 0):=fun x H1=>cF fun gI gX=>AW x gI
 have hfd:=fun x=>AW x H
 have X6:=fun a c=>Q1 a c H
 have hid:=YK t.nm H hnm
 have K8:=S4 b n b1 b2 t.pl H ck hp.2.2
 have pE:=xA b n b1 b2 t.pl H ck hp.2.2
 have K5:=aD2 t.pl H hp.2.2
 have lJ:=lm iD t.tg
 have vQ:=lm jW t.ar
 have sQ:=lm jP b.bl
 obtain⟨y,hy⟩:∃y,y=BU b t:=⟨_,rfl⟩
 rw[<-hy]
 unfold BU at hy
 have GK:t.ar.length=1->(t.ar.map jW)[0]?=some (jW (TJ t)):=aLW
 have oF:yO t=true->t.k=1->t.ar.length=1:=aGh
 obtain⟨O,hO⟩:∃O,O=TJ t:=⟨_,rfl⟩
 rw[<-hO] at AB VI hy GK
 obtain⟨oE,hoE⟩:∃oE,oE=qU b O:=⟨_,rfl⟩
 rw[<-hoE] at AB VI hy
 obtain⟨kE,hkE⟩:∃kE,kE=IL b O:=⟨_,rfl⟩
 rw[<-hkE] at VI hy
 obtain⟨F,hF⟩:∃F,F=yO t:=⟨_,rfl⟩
 rw[<-hF] at mM hy oF
 obtain⟨I,hI⟩:∃I,I=x7 t.nm:=⟨_,rfl⟩
 rw[<-hI] at hid hy
 obtain⟨S,hS⟩:∃S,S=gA b t.ar []:=⟨_,rfl⟩
 rw[<-hS] at T3 hy
 obtain⟨E,hE⟩:∃E,E=GX b t.pl:=⟨_,rfl⟩
 rw[<-hE] at K8 hy
 obtain⟨T,hT⟩:∃T,T=uE b t.pl:=⟨_,rfl⟩
 rw[<-hT] at K8 pE hy
 obtain⟨Z,hZ⟩:∃Z,Z=y9 t.pl 0:=⟨_,rfl⟩
 rw[<-hZ] at K5 hy
 clear hO hoE hkE hF hI hS hE hT hZ
 have wI:=hp.1
 have rJ:=hp.2.1.1
 have l4:=ck.bll
 unfold dO at wI rJ l4
 rw[D8] at T3 AB VI K8 pE ⊢
 obtain⟨k,tg,ar,pl,nm⟩:=t
 simp only at hy lJ vQ wI rJ oF GK AB VI T3
 simp only[tmD] at mM ⊢
 simp only[lN] at K8 pE K5
 simp only[jW] at GK AB VI
 refine aQ _ _ func54 rfl rfl ntmps54 results54 (by simp) fun w0 g0 Q aD=>?_
 refine tq trivial ?_;intro Nx aB Gx aF
 intro c2 lH c3 j5
 refine aB _ ?_
 obtain⟨lK,sH⟩:=bY.1 j5;refine cA 2 rfl ((aN lK.symm).trans (aO _ _ _)) rfl ?_;refine cA 3 rfl ((bS lK).trans (aO _ _ _)) rfl ?_;refine eV _ (kF lH sH) ?_;simp only[St.jH,List.drop]
 by_cases h1:k<0
 ·have q1:(k<0)=True:=aK h1
  have e:y=14:=hy.trans (aE (.inl h1))
  exact oz aD q1 aS e
 have q1:(k<0)=False:=aI h1
 by_cases h2:5<k
 ·have q2:(5<k)=True:=aK h2
  have e:y=14:=hy.trans (aE (.inr h2))
  exact oz aD (dG q1 q2) aS e
 have q2:(5<k)=False:=aI h2
 rw[aA (by omega)] at hy
 refine tq (dG q1 q2) ?_;intro Nx aB Gx aF
 refine mM.mono ?_
 rintro d _ ⟨rfl,rfl⟩
 cases F
 ·have e:y=2:=hy
  exact oz aD q1 aS e
 rw[aA (fun h=>by cases h)] at hy
 refine tq lJ ?_;intro Nx aB Gx aF
 refine aZ tg.length (fun i s=>s.df=[]/\s.fr 2=.rp [cX b.nm,.seq 1 (b.rg.map sD),.seq 2 (b.ol.map pD),.seq 5 (b.ty.map cP),.seq 2 (b.lc.map mN),i64 b.ag,.seq 7 (b.bl.map jP),jL n b1 b2]/\s.fr 3=.rp [i64 k,.seq 1 (tg.map iD),.seq 4 (ar.map jW),i64 pl.lo,.seq 2 (pl.pr.map pD),cX nm]/\s.fr 25=.seq 1 (tg.map iD)/\s.fr 26=i64 tg.length/\s.fr 27=i64 i/\s.H=H/\(tg.all fun x=>decide (cE b.bl.length x))=((tg.drop i).all fun x=>decide (cE b.bl.length x))) ⟨rfl,rfl,rfl,rfl,rfl,rfl,rfl,rfl⟩ ?_
 rintro i s hi ⟨aT,f2,f3,f25,f26,f27,hH,ha⟩
 have hx:=bI i
 have cJ:=bM i
 have aY:H.le s.H:=by rw[hH];exact aG _
 by_cases aV:i<tg.length
 case pos=>
  have cC:(i:Int)<(tg.length:Int):=by omega
  have q6:((i:Int)<(tg.length:Int))=True:=aK cC
  have w3:=wS i (by omega)
  have cD:=cO aV
  rw[eH aV,pX] at ha
  obtain⟨v,hv⟩:∃v,v=tg[i]:=⟨_,rfl⟩
  rw[<-hv] at cD ha
  have HL:¬cE b.bl.length v->y=3:=fun h=>by rw[bB h,gC] at ha;rw[hy,ha];rfl
  by_cases h3:v<0
  ·have q3:(v<0)=True:=aK h3
   have e:=HL (by unfold cE;omega)
   exact oz aD (zY f2 f25 f26 f27 lJ q6 cD hx cJ aV cC q3) aY e
  have q3:(v<0)=False:=aI h3
  by_cases h4:(b.bl.length:Int)<=v
  ·have q4:(v≥(b.bl.length:Int))=True:=aK h4
   have e:=HL (by unfold cE;omega)
   exact oz aD (DH f2 f25 f26 f27 lJ sQ q6 cD hx cJ aV cC q3 q4) aY e
  have q4:(v≥(b.bl.length:Int))=False:=aI h4
  rw[bG (by unfold cE;omega:cE b.bl.length v),eI] at ha
  refine tq (aEb f2 f25 f26 f27 lJ sQ q6 cD hx cJ aV cC q3 q4 w3) ?_;intro Nx aB Gx aF
  exact⟨aV,aT,f2,f3,f25,f26,rfl,hH,ha⟩
 have q6:=lF i tg.length (by omega)
 rw[eT (by omega),tI] at ha
 rw[ha,aA (fun h=>by cases h)] at hy
 clear ha
 by_cases pB:k=1
 ·have k1:(k=1)=True:=aK pB
  rw[aE pB] at hy
  have hl:=oF rfl pB
  have GK:=GK hl
  have aOL:0<(ar.map jW).length:=by rw[vQ];omega
  have a1u:(0:Int)<((ar.map jW).length:Int):=by omega
  refine tq (kB f2 f3 f26 f27 q6 k1) ?_;intro Nx aB Gx aF
  refine dE (fun _ _ d A=>A=.none/\d=i64 oE) fun Nx aB=>?_;refine dst (jE f2 f3 GK vQ hl) ?_;intro Nx aB Gx aF
  refine⟨AB hl _,?_⟩
  (first|refine aF _ ?_|refine aB _ ?_|skip)
  by_cases h5:oE=0
  case neg=>
   have q5:(oE=0)=False:=aI h5
   have e:y=oE:=hy.trans (aE h5)
   exact oz aD q5 aY e
  have q5:(oE=0)=True:=aK h5
  rw[aA (fun h=>h h5)] at hy
  have VI:=VI hl h5
  by_cases h7:kE=1
  ·have q7:(kE=1)=True:=aK h7
   have e:y=0:=hy.trans (aA (fun h=>h h7))
   refine tq q5 ?_;intro Nx aB Gx aF
   refine dE (fun t0 _ d A=>A=.none/\d=(if t0=some 60 then i64 kE else i64 0)) fun Nx aB=>?_;refine dst (kB f2 f3 GK vQ hl q7) ?_;intro Nx aB Gx aF
   refine⟨VI _,hfa _ _,?_⟩
   (first|refine aF _ ?_|refine aB _ ?_|skip)
   exact oz aD q7 aY e
  ·have q7:(kE=1)=False:=aI h7
   have e:y=22:=hy.trans (aE h7)
   refine tq q5 ?_;intro Nx aB Gx aF
   refine dE (fun t0 _ d A=>A=.none/\d=(if t0=some 60 then i64 kE else i64 22)) fun Nx aB=>?_;refine dst (kB f2 f3 GK vQ hl q7) ?_;intro Nx aB Gx aF
   refine⟨VI _,hfa _ _,?_⟩
   (first|refine aF _ ?_|refine aB _ ?_|skip)
   exact oz aD q7 aY e
 have k1:(k=1)=False:=aI pB
 rw[aA pB] at hy
 by_cases qS:k=3
 ·have k3:(k=3)=True:=aK qS
  rw[aE qS] at hy
  rw[<-hH] at hid T3 K8
  refine tq (nF f2 f3 f26 f27 q6 k1 k3) ?_;intro Nx aB Gx aF
  refine hid.mono ?_
  rintro d _ ⟨rfl,mV⟩
  cases I
  ·have e:y=12:=hy
   rw[mV] at aY
   exact oz aD q6 aY e
  rw[aA (fun h=>by cases h)] at hy
  by_cases h5:65535<ar.length
  ·have q5:((65535:Int)<(ar.length:Int))=True:=aK (by omega)
   have e:y=15:=hy.trans (aE h5)
   rw[mV] at aY
   exact oz aD (eA f3 q5 vQ) aY e
  have q5:((65535:Int)<(ar.length:Int))=False:=aI (by omega)
  rw[aA h5] at hy
  rw[mV] at T3
  refine tq (gQ f2 f3 q5 vQ) ?_;intro Nx aB Gx aF
  refine T3.mono ?_
  rintro d _ ⟨rfl,y8⟩
  by_cases h6:S=0
  case neg=>
   have q7:(S=0)=False:=aI h6
   have e:y=S:=hy.trans (aE h6)
   rw[mV,y8] at aY
   exact oz aD q7 aY e
  have q7:(S=0)=True:=aK h6
  rw[aA (fun h=>h h6)] at hy
  rw[mV,y8] at K8
  refine tq (eA f2 f3 q7) ?_;intro Nx aB Gx aF
  refine K8.mono ?_
  rintro d _ ⟨rfl,hH4⟩
  have e:=hy
  rw[mV,y8,hH4] at aY
  exact oz aD q7 aY e
 have k3:(k=3)=False:=aI qS
 rw[aA qS] at hy
 by_cases vE:k=4
 ·have k4:(k=4)=True:=aK vE
  rw[aE vE] at hy
  rw[<-hH] at pE K5 hfd X6
  refine tq (wG f2 f3 f26 f27 q6 k1 k3 k4) ?_;intro Nx aB Gx aF
  refine pE.mono ?_
  rintro d _ ⟨rfl,mV⟩
  rw[mV] at K5 hfd X6
  refine tq (dG f2 f3) ?_;intro Nx aB Gx aF
  refine K5.mono ?_
  rintro d _ ⟨rfl,y8⟩
  rw[y8] at hfd X6
  refine tq (dG f2 f3) ?_;intro Nx aB Gx aF
  refine(hfd _).mono ?_
  rintro d _ ⟨rfl,hH4⟩
  rw[hH4] at X6
  refine tq (dG f2 f3) ?_;intro Nx aB Gx aF
  refine(X6 _ _).mono ?_
  rintro d _ ⟨rfl,hH5⟩
  have e:=hy
  rw[mV,y8,hH4,hH5] at aY
  exact oz aD q6 aY e
 have k4:(k=4)=False:=aI vE
 rw[aA vE] at hy
 have e:=hy
 exact oz aD (nF f3 f26 f27 q6 k1 k3 k4) aY e
theorem JC {b:cT} (h:oI b=0):x7 b.nm=true/\uO b.rg=0/\jA b.ol b.rg.length=0/\B4 b.ty b.rg.length=0/\JX b=0/\b.bl.length≠0/\b.bl.length<=65535:=by
 unfold oI at h
 by_cases h1:x7 b.nm=false
 ·rw[aE h1] at h;cases h
 rw[aA h1] at h
 by_cases h2:uO b.rg=0
 case neg=>rw[aE h2] at h;exact absurd h h2
 rw[aA (fun k=>k h2)] at h
 by_cases h3:jA b.ol b.rg.length=0
 case neg=>rw[aE h3] at h;exact absurd (by omega) h3
 rw[aA (fun k=>k h3)] at h
 by_cases h4:B4 b.ty b.rg.length=0
 case neg=>rw[aE h4] at h;exact absurd (by omega) h4
 rw[aA (fun k=>k h4)] at h
 by_cases h5:JX b=0
 case neg=>rw[aE h5] at h;exact absurd h h5
 rw[aA (fun k=>k h5)] at h
 by_cases h6:b.bl.length=0\/65535<b.bl.length
 ·rw[aE h6] at h;cases h
 exact⟨by cases h:x7 b.nm;exact absurd h h1;rfl,h2,h3,h4,h5,by omega,by omega⟩
theorem aGX {b:cT} (h:oI b=0):jA b.ol b.rg.length=0:=(JC h).2.2.1
theorem aBh {l:List mP} {i:Nat} (h:i<l.length):(l.map jP)[i]?=some (jP l[i]):=by
 rw[dN,bX h];rfl
theorem aIf {l:List EZ} {i:Nat} (h:i<l.length):(l.map vV)[i]?=some (vV l[i]):=by
 rw[dN,bX h];rfl
theorem U3 (b:cT) (H:aC) (sb:Sb b) (gV:oI b=0->Ck b):bE prog 27 [.agg (iS b)] H fun d H'=>d=i64 (qJ b)/\H=H':=by
 refine bO (K:=fun d=>d=i64 (qJ b)) ?_
 have aS:=aG H
 obtain⟨o1,o2,⟨o3,o4⟩,o5,o6,o7⟩:=sb.ok
 have hts:=sb.ts
 have hde:=aN8 b H sb
 have sQ:=lm jP b.bl
 unfold dO at o6
 obtain⟨y,hy⟩:∃y,y=qJ b:=⟨_,rfl⟩
 rw[<-hy]
 unfold qJ at hy
 have hnw:oI b=0->bE prog 52 [.agg (iS b)] H fun d H'=>∃b1 b2 m1 m2,d=.agg (D7 b b.rg.length b1 b2)/\H b1=none/\H b2=none/\b1≠b2/\H'=(H.bH b1 (.map m1)).bH b2 (.map m2)/\yL b.ol b1 b2 H'/\H.le H':=fun h=>aOv b H (gV h).rgl (aGX h)
 obtain⟨D0,hD⟩:∃D0,D0=oI b:=⟨_,rfl⟩
 rw[<-hD] at hde gV hnw hy
 rw[pI] at hde hnw ⊢
 refine aQ _ _ func27 rfl rfl ntmps27 results27 (by simp) fun w0 g0 Q aD=>?_
 refine tq trivial ?_;intro Nx aB Gx aF
 intro c1 mA
 refine aB _ ?_
 refine fZ 1 mA ?_
 refine tq trivial ?_;intro Nx aB Gx aF
 refine hde.mono ?_
 rintro d _ ⟨rfl,rfl⟩
 by_cases h0:D0=0
 case neg=>
  have q0:(D0=0)=False:=aI h0
  have e:y=D0:=hy.trans (aE h0)
  refine tq q0 ?_;intro Nx aB Gx aF
  refine rt aD trivial ?_
  exact⟨_,aG _,aS,_,aH aS,by rw[e]⟩
 have q0:(D0=0)=True:=aK h0
 rw[aA (fun h=>h h0)] at hy
 have ck:=gV h0
 refine tq q0 ?_;intro Nx aB Gx aF
 refine(hnw h0).mono ?_
 rintro d H1 ⟨b1,b2,m1,m2,rfl,DQ,VG,fM,uK,hR,kU⟩
 rw[D8]
 clear uK
 refine tq trivial ?_;intro Nx aB Gx aF
 intro c4 uL
 refine aB _ ?_
 refine fZ 4 uL ?_
 refine tq sQ ?_;intro Nx aB Gx aF
 refine aZ b.bl.length (fun i s=>s.df=[]/\s.fr 3=i64 0/\s.fr 4=.rp [cX b.nm,.seq 1 (b.rg.map sD),.seq 2 (b.ol.map pD),.seq 5 (b.ty.map cP),.seq 2 (b.lc.map mN),i64 b.ag,.seq 7 (b.bl.map jP),jL (b.rg.length:Int) b1 b2]/\s.fr 17=.seq 7 (b.bl.map jP)/\s.fr 18=i64 b.bl.length/\s.fr 19=i64 i/\s.H=H1/\uG b b.bl=uG b (b.bl.drop i)) ⟨rfl,by rw[h0] <;> rfl,rfl,rfl,rfl,rfl,rfl,rfl⟩ ?_
 rintro i s hi ⟨aT,f3,f4,f17,f18,f19,hH,ha⟩
 have hx:=bI i
 have cJ:=bM i
 have aY:H.le s.H:=by rw[hH];exact kU
 by_cases aV:i<b.bl.length
 case neg=>
  have q6:=lF i b.bl.length (by omega)
  rw[eT (by omega)] at ha
  have e:y=0:=by rw[hy,ha];rfl
  exact oz aD (gQ f3 f18 f19 q6) aY e
 have cC:(i:Int)<(b.bl.length:Int):=by omega
 have q6:((i:Int)<(b.bl.length:Int))=True:=aK cC
 have w3:=wS i (by omega)
 have cD:=aBh aV
 have fI:=o7 b.bl[i] (bU aV)
 have hnm:=hts b.bl[i] (bU aV)
 rw[eH aV,uG] at ha
 obtain⟨x,T7⟩:∃x,x=b.bl[i]:=⟨_,rfl⟩
 rw[<-T7] at cD fI hnm ha
 clear T7
 obtain⟨xs,xt⟩:=x
 obtain⟨⟨ND,hso⟩,hto⟩:=fI
 simp only at ND hso hto ha hnm
 have K6:=aPT b b.rg.length b1 b2 xt H1 ck rfl hR hto hnm
 have nI:=fun s hs=>aPQ b b.rg.length b1 b2 s H1 ck rfl hR (hso s hs)
 rw[D8] at K6 nI
 have wO:=lm vV xs
 unfold dO at ND
 simp only[jP] at cD
 simp only[tmD] at K6
 refine tq (nN f17 f18 f19 sQ q6 cD hx cJ aV cC) ?_;intro Nx aB Gx aF
 intro c6 DJ
 refine aB _ ?_
 refine fZ 6 DJ ?_
 by_cases h1:65535<xs.length
 ·have q1:((65535:Int)<(xs.length:Int))=True:=aK (by omega)
  have e:y=15:=by rw[hy,ha,aE h1]
  exact oz aD (dG wO q1) aY e
 have q1:((65535:Int)<(xs.length:Int))=False:=aI (by omega)
 rw[aA h1] at ha
 refine tq (dG wO q1) ?_;intro Nx aB Gx aF
 refine aZ xs.length (fun j s2=>s2.df=[]/\s2.fr 3=i64 0/\s2.fr 4=.rp [cX b.nm,.seq 1 (b.rg.map sD),.seq 2 (b.ol.map pD),.seq 5 (b.ty.map cP),.seq 2 (b.lc.map mN),i64 b.ag,.seq 7 (b.bl.map jP),jL (b.rg.length:Int) b1 b2]/\s2.fr 6=.rp [.seq 11 (xs.map vV),i64 xt.k,.seq 1 (xt.tg.map iD),.seq 4 (xt.ar.map jW),i64 xt.pl.lo,.seq 2 (xt.pl.pr.map pD),cX xt.nm]/\s2.fr 17=.seq 7 (b.bl.map jP)/\s2.fr 18=i64 b.bl.length/\s2.fr 19=i64 i/\s2.fr 28=.seq 11 (xs.map vV)/\s2.fr 29=i64 xs.length/\s2.fr 30=i64 j/\s2.H=H1/\tB b xs=tB b (xs.drop j)) ⟨aT,f3,f4,rfl,f17,f18,f19,rfl,rfl,rfl,hH,rfl⟩ ?_
 rintro j s2 hj ⟨aT,f3,f4,f6,f17,f18,f19,f28,f29,f30,hH,hb⟩
 have hy0:=bI j
 have g00:=bM j
 have aY:H.le s2.H:=by rw[hH];exact kU
 by_cases fQ:j<xs.length
 case pos=>
  have RE:(j:Int)<(xs.length:Int):=by omega
  have p6:((j:Int)<(xs.length:Int))=True:=aK RE
  have w4:=wS j (by omega)
  have qR:=aIf fQ
  have nI:=nI xs[j] (bU fQ)
  rw[eH fQ,tB] at hb
  obtain⟨v,hv⟩:∃v,v=xs[j]:=⟨_,rfl⟩
  rw[<-hv] at qR nI hb
  clear hv
  obtain⟨E,hE⟩:∃E,E=IN b v:=⟨_,rfl⟩
  rw[<-hE] at nI hb
  clear hE
  simp only[vV] at qR nI
  rw[<-hH] at nI
  refine tq (nN f28 f29 f30 wO p6 qR hy0 g00 fQ RE) ?_;intro Nx aB Gx aF
  intro c8 X1
  refine aB _ ?_
  refine fZ 8 X1 ?_
  refine tq f4 ?_;intro Nx aB Gx aF
  refine nI.mono ?_
  rintro d _ ⟨rfl,mV⟩
  by_cases h2:E=0
  ·have q2:(E=0)=True:=aK h2
   rw[aA (fun h=>h h2)] at hb
   refine tq (eA f30 q2 w4) ?_;intro Nx aB Gx aF
   exact⟨fQ,aT,by rw[h2] <;> rfl,f4,f6,f17,f18,f19,f28,f29,rfl,by rw[<-mV];exact hH,hb⟩
  ·have q2:(E=0)=False:=aI h2
   rw[aE h2] at hb
   have e:y=E:=by rw[hy,ha,hb,aE h2]
   rw[mV] at aY
   exact oz aD q2 aY e
 have p6:=lF j xs.length (by omega)
 rw[eT (by omega),tB] at hb
 rw[hb,aA (fun h=>h rfl)] at ha
 clear hb
 obtain⟨E,hE⟩:∃E,E=BU b xt:=⟨_,rfl⟩
 rw[<-hE] at K6 ha
 clear hE
 rw[<-hH] at K6
 refine tq (jE f4 f6 f29 f30 p6) ?_;intro Nx aB Gx aF
 refine K6.mono ?_
 rintro d _ ⟨rfl,mV⟩
 by_cases h2:E=0
 ·have q2:(E=0)=True:=aK h2
  rw[aA (fun h=>h h2)] at ha
  refine tq (eA f19 q2 w3) ?_;intro Nx aB Gx aF
  exact⟨aV,aT,by rw[h2] <;> rfl,f4,f17,f18,rfl,by rw[<-mV];exact hH,ha⟩
 ·have q2:(E=0)=False:=aI h2
  rw[aE h2] at ha
  have e:y=E:=by rw[hy,ha]
  rw[mV] at aY
  exact oz aD q2 aY e
structure Sm (b:cT):Prop where
 tt:tot b<=3000
 ol:b.ol.length<=200
 rg:b.rg.length<=200
 bl:b.bl.length<=200
theorem aCg {α:Type} {f:α->Nat} (hf:∀x,1<=f x):∀l:List α,l.length<=sm f l
 |[]=>dI _
 |x::l=>by
  have:=aCg hf l
  have:=hf x
  simp only[sm,eO];omega
theorem AH (b:cT):tot b=b.nm.size+b.ol.length+sm (fun s:ByteArray=>1+s.size) b.rg+sm (fun t:dS=>1+t.ar.length) b.ty+sm (fun l:AO=>1+l.nm.size) b.lc+sm WB b.bl:=by
 unfold tot t4 t3 t2 t1
 simp only[nC]
theorem aBS {b:cT} (sm:Sm b):∀x∈b.bl,x.st.length<=65535:=fun x hx=>by
 have h:=sm.tt
 rw[AH] at h
 have h2:=CN (f:=WB) hx
 have h3:x.st.length<=WB x:=by unfold WB;omega
 omega
theorem aI1 {b:cT} (ok:AG b) (h:Sm b):Sb b where
 ok:=ok
 nm:=by have:=h.tt;rw[AH] at this;unfold dO;omega
 rs:=fun s hs=>by have:=h.tt;rw[AH] at this;have:=CN (f:=fun s:ByteArray=>1+s.size) hs;unfold dO;omega
 ls:=fun s hs=>by have:=h.tt;rw[AH] at this;have:=CN (f:=fun l:AO=>1+l.nm.size) hs;unfold dO;omega
 ts:=fun s hs=>by
  have h1:=h.tt
  rw[AH] at h1
  have h2:=CN (f:=WB) hs
  have h3:s.tm.nm.size<=WB s:=by unfold WB;omega
  unfold dO
  omega
theorem aM1 {b:cT} (ok:AG b) (h:Sm b) (hd:oI b=0):Ck b:=by
 obtain⟨h1,h2,h3,h4,h5,h6,h7⟩:=JC hd
 obtain⟨o1,o2,⟨o3,o4⟩,o5,o6,o7⟩:=ok
 have ht:=h.tt
 rw[AH] at ht
 obtain⟨-,fI⟩:=W6.1 h4
 have h5':EO b.ty.length [] b.lc=0:=by
  unfold JX at h5
  by_cases p:65535<b.lc.length
  ·rw[aE p] at h5;cases h5
  rw[aA p] at h5
  exact jO fun q=>by rw[aE q] at h5;exact q h5
 exact {
  wt:=KJ fI
  rf:=aFZ fI
  wl:=aHc h5'
  ar:=fun t K6=>by have:=CN (f:=fun t:dS=>1+t.ar.length) K6;omega
  tl:=by have:=aCg (f:=fun t:dS=>1+t.ar.length) (fun x=>by omega) b.ty;omega
  ol:=(LH h3).2
  oll:=by have:=h.ol;omega
  rgl:=by have:=h.rg;omega
  lcl:=o5
  bll:=o6}
theorem aIb (b:cT) (H:aC) (ok:AG b):bE prog 22 [.agg (iS b)] H fun d H'=>(d=i64 1\/(d=i64 0/\Sm b))/\H=H':=by
 refine bO (K:=fun d=>d=i64 1\/(d=i64 0/\Sm b)) ?_
 have aS:=aG H
 obtain⟨o1,o2,⟨o3,o4⟩,o5,o6,o7⟩:=id ok
 have tN:=aKy b H ok
 have TI:=aLy b.ty H o3 o4
 have hkt:=aH1 b.ty b.rg.length H o3 o4
 have fI:B4 b.ty b.rg.length=0->zJ b.ty:=fun h=>KJ (W6.1 h).2
 have CC:=lm sD b.rg
 have hmo:=lm pD b.ol
 have lJ:=lm cP b.ty
 have sQ:=lm jP b.bl
 unfold dO at o1 o2 o3 o6
 obtain⟨L,hL⟩:∃L,L=lg b:=⟨_,rfl⟩
 rw[<-hL] at tN
 unfold lg at hL
 obtain⟨C,hC⟩:∃C,C=B4 b.ty b.rg.length:=⟨_,rfl⟩
 rw[<-hC] at hkt fI
 clear hC
 rw[pI] at tN ⊢
 refine aQ _ _ func22 rfl rfl ntmps22 results22 (by simp) fun w0 g0 Q aD=>?_
 refine tq trivial ?_;intro Nx aB Gx aF
 intro c1 mA
 refine aB _ ?_
 refine fZ 1 mA ?_
 refine tq trivial ?_;intro Nx aB Gx aF
 refine tN.mono ?_
 rintro d _ ⟨rfl,rfl⟩
 by_cases h1:3000<tot b
 ·rw[aE h1] at hL
  subst hL
  refine tq trivial ?_;intro Nx aB Gx aF;refine rt aD trivial ?_;exact⟨_,aG _,aS,_,aH aS,.inl rfl⟩
 rw[aA h1] at hL
 subst hL
 refine tq trivial ?_;intro Nx aB Gx aF
 refine TI.mono ?_
 rintro d _ ⟨hd,rfl⟩
 rcases hd with rfl|⟨rfl,h6⟩
 ·refine tq trivial ?_;intro Nx aB Gx aF;refine rt aD trivial ?_;exact⟨_,aG _,aS,_,aH aS,.inl rfl⟩
 by_cases h2:200<b.ol.length
 ·have q2:((200:Int)<(b.ol.length:Int))=True:=aK (by omega)
  refine tq (dG hmo q2) ?_;intro Nx aB Gx aF;refine rt aD trivial ?_;exact⟨_,aG _,aS,_,aH aS,.inl rfl⟩
 have q2:((200:Int)<(b.ol.length:Int))=False:=aI (by omega)
 by_cases h3:200<b.rg.length
 ·have q3:((200:Int)<(b.rg.length:Int))=True:=aK (by omega)
  refine tq (gQ hmo CC q2 q3) ?_;intro Nx aB Gx aF;refine rt aD trivial ?_;exact⟨_,aG _,aS,_,aH aS,.inl rfl⟩
 have q3:((200:Int)<(b.rg.length:Int))=False:=aI (by omega)
 by_cases h4:200<b.bl.length
 ·have q4:((200:Int)<(b.bl.length:Int))=True:=aK (by omega)
  refine tq (kB hmo CC sQ q2 q3 q4) ?_;intro Nx aB Gx aF;refine rt aD trivial ?_;exact⟨_,aG _,aS,_,aH aS,.inl rfl⟩
 have q4:((200:Int)<(b.bl.length:Int))=False:=aI (by omega)
 have hsm:Sm b:=⟨by omega,by omega,by omega,by omega⟩
 have wI:b.ty.length<=1000000:=by
  have:=h1;rw[AH] at this
  have:=aCg (f:=fun t:dS=>1+t.ar.length) (fun x=>by omega) b.ty;omega
 refine tq (kB hmo CC sQ q2 q3 q4) ?_;intro Nx aB Gx aF
 refine hkt.mono ?_
 rintro d _ ⟨rfl,rfl⟩
 by_cases h5:C=0
 case neg=>
  have q5:((C:Int)=0)=False:=aI (by omega)
  refine tq q5 ?_;intro Nx aB Gx aF
  refine rt aD trivial ?_
  exact⟨_,aG _,aS,_,aH aS,.inr ⟨rfl,hsm⟩⟩
 have q5:((C:Int)=0)=True:=aK (by omega)
 have hw:=fI h5
 refine tq (dG q5 lJ) ?_;intro Nx aB Gx aF
 refine aZ b.ty.length (fun i s=>s.df=[]/\s.fr 1=.rp [cX b.nm,.seq 1 (b.rg.map sD),.seq 2 (b.ol.map pD),.seq 5 (b.ty.map cP),.seq 2 (b.lc.map mN),i64 b.ag,.seq 7 (b.bl.map jP)]/\s.fr 40=i64 b.ty.length/\s.fr 41=i64 i/\s.H=H) ⟨rfl,rfl,rfl,rfl,rfl⟩ ?_
 rintro i s hi ⟨aT,f1,f40,f41,hH⟩
 have aY:H.le s.H:=by rw[hH];exact aS
 by_cases aV:i<b.ty.length
 case neg=>
  have q6:=lF i b.ty.length (by omega)
  refine tq (eA f40 f41 q6) ?_;intro Nx aB Gx aF
  refine rt aD aT ?_
  exact⟨_,aG _,aY,_,aH aY,.inr ⟨rfl,hsm⟩⟩
 have q6:=lT i b.ty.length (by omega)
 have w3:=wS i (by omega)
 have hdp:=aOa b.ty i s.H wI o4 hw
 obtain⟨D0,hD⟩:∃D0,D0=QP b.ty i:=⟨_,rfl⟩
 rw[<-hD] at hdp
 clear hD
 refine tq (gQ f1 f40 f41 q6) ?_;intro Nx aB Gx aF
 refine hdp.mono ?_
 rintro d _ ⟨rfl,E9⟩
 by_cases h8:8<D0
 ·have q8:((8:Int)<(D0:Int))=True:=aK (by omega)
  rw[E9] at aY
  refine tq q8 ?_;intro Nx aB Gx aF
  refine rt aD aT ?_
  exact⟨_,aG _,aY,_,aH aY,.inl rfl⟩
 ·have q8:((8:Int)<(D0:Int))=False:=aI (by omega)
  refine tq (eA f41 q8 w3) ?_;intro Nx aB Gx aF
  exact⟨aV,aT,f1,f40,rfl,E9▸hH⟩
structure Tb (b:cT):Prop where
 ok:AG b
 sb:Sb b
 ck:Ck b
 ch:qJ b=0
 cn:bZ (dK b)<=130
 lc:b.lc.length<=20
 rg:b.rg.length<=10
 ar:∀x∈b.bl,(∀s∈x.st,s.rv.ar.length<=3000/\s.rv.pl.pr.length<=3000)/\x.tm.ar.length<=3000
section
variable {b:cT}
theorem aEQ {p:pA} (h:(uE b p).2=0):cE b.lc.length p.lo:=by
 unfold uE cG at h
 split at h
 ·rename_i h1;exact absurd h h1
 ·rename_i h1
  split at h
  ·cases h
  ·rename_i h2
   have h1:=qP.1 h1
   unfold lG at h1
   split at h1
   ·cases h1
   ·unfold cE;omega
theorem FH:∀{l:List qV} {fs:List Int},gA b l fs=0->∀o∈l,qU b o=0
 |[],_,_,o,h=>by cases h
 |p::l,fs,h,o,ho=>by
  simp only[gA] at h
  split at h
  ·rename_i h1;exact absurd h h1
  ·rename_i h1
   rcases dJ.1 ho with rfl|ho
   ·exact qP.1 h1
   ·cases fs with
    |nil=>exact FH h o ho
    |cons f fs=>
     simp only at h
     split at h
     ·cases h
     ·exact FH h o ho
theorem aRU {o:qV} (h:qU b o=0) (hk:o.k=0\/o.k=1):cE b.lc.length o.pl.lo:=by
 unfold qU at h
 split at h
 ·cases h
 split at h
 ·cases h
 split at h
 ·cases h
 split at h
 ·omega
 split at h
 ·rename_i h1;exact absurd h h1
 ·rename_i h1;exact aEQ (qP.1 h1)
theorem aMg {l:List qV} (h:∀o∈l,qU b o=0) {y:Int} (hy:y∈GR l):cE b.lc.length y:=by
 unfold GR Y0 at hy
 obtain⟨o,ho,rfl⟩:=eW.1 hy
 rw[jX,fV] at ho
 exact aRU (h o ho.1) ho.2
theorem aPJ {r:G0} {t:Int} (h:SG b r t=0):∀o∈r.ar,qU b o=0:=by
 unfold SG at h
 split at h
 ·cases h
 split at h
 ·cases h
 rename_i h1 h2
 split at h
 ·exact FH h
 split at h
 ·rename_i h3 h4
  intro o ho
  have h5:GV r=true:=by cases e:GV r;exact absurd e h2;rfl
  unfold GV at h5
  rw[aE h4,eK,fV,fV] at h5
  rw[iX h5.2] at ho
  cases ho
 have opr:∀n x,vU b r t n x=0->∀o∈r.ar,qU b o=0:=fun n x h=>by
  unfold vU at h
  split at h
  ·cases h
  split at h
  ·rename_i h5;exact absurd h h5
  ·rename_i h5;exact FH (qP.1 h5)
 split at h
 ·exact opr _ _ h
 split at h
 ·exact opr _ _ h
 split at h
 ·cases h
 ·exact FH h
theorem aCd {r:G0} {t:Int} (h:SG b r t=0) (hk:r.k=1):cE b.lc.length r.pl.lo/\cE b.rg.length r.rg:=by
 unfold SG at h
 rw[aA (by omega)] at h
 split at h
 ·cases h
 rw[aA (by omega)] at h
 unfold I3 at h
 split at h
 ·rename_i h1;exact absurd h h1
 rename_i h1
 split at h
 ·cases h
 ·exact⟨aEQ (qP.1 h1),by unfold cE;omega⟩
theorem aR0 {r:G0} {t:Int} (h:SG b r t=0):cE b.lc.length r.pl.lo\/r.pl.lo=0:=by
 by_cases hk:r.k=1
 ·exact .inl (aCd h hk).1
 ·unfold SG at h
  split at h
  ·cases h
  split at h
  ·cases h
  rename_i h1 h2
  have h5:GV r=true:=by cases e:GV r;exact absurd e h2;rfl
  unfold GV at h5
  rw[aA hk,eK,eK] at h5
  have h6:=h5.1.2
  unfold gL at h6
  rw[eK,fV] at h6
  exact .inr h6.1
theorem aJJ {p:pA} (h:GX b p=0):cE b.lc.length p.lo:=by
 unfold GX at h
 split at h
 ·rename_i h1;exact absurd h h1
 ·rename_i h1;exact aEQ (qP.1 h1)
theorem aMA {s:EZ} (h:IN b s=0) (hk:s.k=0):cE b.lc.length s.pl.lo/\SG b s.rv (uE b s.pl).1=0:=by
 unfold IN at h
 rw[aE hk] at h
 split at h
 ·cases h
 split at h
 ·rename_i h1;exact absurd h h1
 ·rename_i h1;exact⟨aJJ (qP.1 h1),h⟩
theorem aZU {s:EZ} (h:IN b s=0) (hk:s.k=1):cE b.lc.length s.lo:=by
 unfold IN at h
 rw[aA (by omega),aE hk] at h
 split at h
 ·cases h
 split at h
 ·cases h
 ·unfold cE;omega
theorem aPW {t:HF} (h:BU b t=0):yO t=true/\0<=t.k/\t.k<=5:=by
 unfold BU at h
 split at h
 ·cases h
 split at h
 ·cases h
 rename_i h1 h2
 exact⟨by cases e:yO t;exact absurd e h2;rfl,by omega,by omega⟩
theorem aRa {t:HF} (h:BU b t=0):t.tg.length<=2:=by
 have h1:=(aPW h).1
 unfold yO at h1
 repeat' split at h1
 all_goals (simp only[eK,fV] at h1;omega)
theorem aPX {t:HF} (h:BU b t=0):∀o∈t.ar,qU b o=0:=by
 obtain⟨hf,h0,h5⟩:=aPW h
 unfold yO at hf
 unfold BU at h
 rw[aA (by omega)] at h
 split at h
 ·cases h
 split at h
 ·cases h
 by_cases k1:t.k=1
 ·rw[aA (by omega),aE k1] at hf
  simp only[eK,fV] at hf
  rw[aE k1] at h
  split at h
  ·rename_i h1;exact absurd h h1
  rename_i h1
  intro o ho
  have h2:=hf.1.1.2
  obtain⟨a,ha⟩:=PL.1 h2
  have h3:TJ t=a:=by unfold TJ;rw[ha];rfl
  rw[ha,cR] at ho
  rw[ho,<-h3];exact qP.1 h1
 by_cases k3:t.k=3
 ·rw[aA k1,aE k3] at h
  split at h
  ·cases h
  split at h
  ·cases h
  split at h
  ·rename_i h1;exact absurd h h1
  ·rename_i h1;exact FH (qP.1 h1)
 have:t.ar.length=0:=by
  rw[aA k1,aA k3] at hf
  repeat' split at hf
  all_goals (simp only[eK,fV] at hf;omega)
 intro o ho
 rw[iX this] at ho
 cases ho
theorem aIl {t:HF} (h:BU b t=0) (hk:t.k=3\/t.k=4):cE b.lc.length t.pl.lo:=by
 obtain⟨hf,h0,h5⟩:=aPW h
 unfold BU at h
 rw[aA (by omega)] at h
 split at h
 ·cases h
 split at h
 ·cases h
 rw[aA (by omega)] at h
 rcases hk with hk|hk
 ·rw[aE hk] at h
  split at h
  ·cases h
  split at h
  ·cases h
  split at h
  ·rename_i h1;exact absurd h h1
  ·exact aJJ h
 ·rw[aA (by omega),aE hk] at h
  split at h
  ·rename_i h1;exact absurd h h1
  ·rename_i h1;exact aEQ (qP.1 h1)
theorem aEM:∀{l:List EZ},tB b l=0->∀s∈l,IN b s=0
 |[],_,s,h=>by cases h
 |p::l,h,s,hs=>by
  simp only[tB] at h
  split at h
  ·rename_i h1;exact absurd h h1
  ·rename_i h1
   rcases dJ.1 hs with rfl|hs
   ·exact qP.1 h1
   ·exact aEM h s hs
theorem aDC:∀{l:List mP},uG b l=0->∀x∈l,x.st.length<=65535/\(∀s∈x.st,IN b s=0)/\BU b x.tm=0
 |[],_,s,h=>by cases h
 |p::l,h,s,hs=>by
  simp only[uG] at h
  split at h
  ·cases h
  rename_i h0
  split at h
  ·rename_i h1;exact absurd h h1
  rename_i h1
  split at h
  ·rename_i h2;exact absurd h h2
  rename_i h2
  rcases dJ.1 hs with rfl|hs
  ·exact⟨by omega,aEM (qP.1 h1),qP.1 h2⟩
  ·exact aDC h s hs
theorem uY (h:qJ b=0):oI b=0/\∀x∈b.bl,x.st.length<=65535/\(∀s∈x.st,IN b s=0)/\BU b x.tm=0:=by
 unfold qJ at h
 split at h
 ·rename_i h1;exact absurd h h1
 ·rename_i h1;exact⟨qP.1 h1,aDC h⟩
theorem aJI {p:pA} (h:cE b.lc.length p.lo) {y:Int} (hy:y∈wrV p):cE b.lc.length y:=by
 unfold wrV at hy
 split at hy
 ·cases hy
 ·rw[cR] at hy;rw[hy];exact h
theorem aJH {p:pA} (h:cE b.lc.length p.lo) {y:Int} (hy:wrF p=some y):cE b.lc.length y:=by
 unfold wrF at hy
 split at hy
 ·injection hy with hy;rw[<-hy];exact h
 ·cases hy
theorem aUu {s:EZ} (h:IN b s=0) {y:Int} (hy:y∈usS s):cE b.lc.length y:=by
 unfold usS at hy
 split at hy
 ·rename_i hk
  obtain⟨h1,h2⟩:=aMA h hk
  rcases bV.1 hy with hy|hy
  ·exact aMg (aPJ h2) hy
  rcases bV.1 hy with hy|hy
  ·split at hy
   ·rename_i jG
    rw[cR] at hy;rw[hy];exact(aCd h2 jG).1
   ·cases hy
  ·exact aJI h1 hy
 ·cases hy
theorem aUv {t:HF} (h:BU b t=0) {y:Int} (hy:y∈usT t):cE b.lc.length y:=by
 unfold usT at hy
 rcases bV.1 hy with hy|hy
 ·exact aMg (aPX h) hy
 split at hy
 ·rename_i hk;exact aJI (aIl h (.inl hk)) hy
 split at hy
 ·rename_i hk;rw[cR] at hy;rw[hy];exact aIl h (.inr hk)
 ·cases hy
theorem aPv {s:EZ} (h:IN b s=0) {y:Int} (hy:dfS s=some y):cE b.lc.length y:=by
 unfold dfS at hy
 split at hy
 ·rename_i hk;exact aJH (aMA h hk).1 hy
 split at hy
 ·rename_i hk;injection hy with hy;rw[<-hy];exact aZU h hk
 ·cases hy
theorem aPw {t:HF} (h:BU b t=0) {y:Int} (hy:dfT t=some y):cE b.lc.length y:=by
 unfold dfT at hy
 split at hy
 ·rename_i hk;exact aJH (aIl h (.inl hk)) hy
 ·cases hy
theorem aIy (h:qJ b=0) {x:mP} (hx:x∈b.bl) {k:Nat} {y:Int} (hy:y∈usB x k):cE b.lc.length y:=by
 obtain⟨_,h2,h3⟩:=(uY h).2 x hx
 unfold usB at hy
 split at hy
 ·rename_i s e;exact aUu (h2 s (iQ e)) hy
 ·exact aUv h3 hy
theorem aNc (h:qJ b=0) {x:mP} (hx:x∈b.bl) {k:Nat} {y:Int} (hy:ZZ x k=some y):cE b.lc.length y:=by
 obtain⟨_,h2,h3⟩:=(uY h).2 x hx
 unfold ZZ at hy
 split at hy
 ·rename_i s e;exact aPv (h2 s (iQ e)) hy
 ·exact aPw h3 hy
theorem I2 {p:Int} {x:mP} {k:Nat} (h:MS b p x k):x∈b.bl:=by
 obtain⟨i,hi,_,rfl⟩:=h
 exact bU _
theorem aRK (h:qJ b=0) {p x:Int} (hl:GZ b p x):cE b.lc.length x:=by
 induction hl with
 |use h1 h2=>exact aIy h (I2 h1) h2
 |step _ _ _ _ ih=>exact ih
theorem aDj:∀{l:List EZ} {p:Int} {z:uV},z∈DD p l->(p<=z.pt/\z.pt<p+l.length)/\∃s∈l,s.k=0/\s.rv.k=1/\z.rg=s.rv.rg/\z.pl=s.rv.pl
 |[],_,_,h=>by cases h
 |s::l,p,z,h=>by
  rw[DD,bV] at h
  rw[eO]
  rcases h with h|h
  ·unfold VQ at h
   split at h
   ·rename_i hk
    rw[cR] at h
    subst h
    exact⟨⟨rO _,by simp only;omega⟩,s,by simp,hk.1,hk.2,rfl,rfl⟩
   ·cases h
  ·obtain⟨h1,s',h2,h3⟩:=aDj h
   exact⟨⟨by omega,by omega⟩,s',gY _ h2,h3⟩
theorem YO:∀{l:List mP} {p:Int} {z:uV},z∈L4 p l->(p<=z.pt/\z.pt<p+bZ (l.map fun x=>(x.st.length,x.tm.tg)))/\∃x∈l,∃s∈x.st,s.k=0/\s.rv.k=1/\z.rg=s.rv.rg/\z.pl=s.rv.pl
 |[],_,_,h=>by cases h
 |x::l,p,z,h=>by
  rw[L4,bV] at h
  have e:bZ ((x::l).map fun x=>(x.st.length,x.tm.tg))=x.st.length+1+bZ (l.map fun x=>(x.st.length,x.tm.tg)):=by simp only[eU,bZ]
  rw[e]
  rcases h with h|h
  ·obtain⟨h1,s,h2,h3⟩:=aDj h
   exact⟨⟨h1.1,by omega⟩,x,by simp,s,h2,h3⟩
  ·obtain⟨h1,y,h2,h3⟩:=YO h
   exact⟨⟨by omega,by omega⟩,y,gY _ h2,h3⟩
end
section
variable {b:cT}
theorem aDm (l:List qV):(GR l).length<=l.length:=by
 unfold GR Y0
 rw[bC]
 exact r9 _ _
theorem aEW (p:pA):(wrV p).length<=1:=by unfold wrV;split <;> simp
theorem aMM (t:Tb b) {x:mP} (hx:x∈b.bl) (k:Nat):(usB x k).length<=3002:=by
 obtain⟨h1,h2⟩:=t.ar x hx
 unfold usB
 split
 ·rename_i s e
  have h3:=(h1 s (iQ e)).1
  have h4:=aDm s.rv.ar
  have h5:=aEW s.pl
  unfold usS
  split
  ·rw[bN,bN]
   have h6:(if s.rv.k=1 then [s.rv.pl.lo] else []).length<=1:=by split <;> simp
   omega
  ·simp
 ·have h4:=aDm x.tm.ar
  have h5:=aEW x.tm.pl
  unfold usT
  rw[bN]
  have h6:(if x.tm.k=3 then wrV x.tm.pl else if x.tm.k=4 then [x.tm.pl.lo] else []).length<=1:=by
   split
   ·exact h5
   ·split <;> simp
  omega
theorem aDA (t:Tb b) {x:mP} (hx:x∈b.bl) (k:Nat):(WZ x k).length<=3000:=by
 obtain⟨h1,h2⟩:=t.ar x hx
 unfold WZ
 split
 ·rename_i s e;exact(h1 s (iQ e)).1
 ·exact h2
theorem aHx (t:Tb b) {x:mP} (hx:x∈b.bl):aLS x:=t.ok.2.2.2.2.2 x hx
theorem aJK (t:Tb b) {x:mP} (hx:x∈b.bl) (k:Nat):dO (yT x k).1.pr.length:=by
 obtain⟨⟨_,h1⟩,_,_,h2⟩:=aHx t hx
 unfold yT
 split
 ·rename_i s e
  have h3:=(h1 s (iQ e)).1
  unfold L9 at h3
  repeat' split
  all_goals first|exact h3|(unfold dO;simp)
 ·unfold L9 at h2
  repeat' split
  all_goals first|exact h2|(unfold dO;simp)
theorem aPj (t:Tb b) {x:mP} (hx:x∈b.bl) (k:Nat):∀a∈acB x k,dO a.pl.pr.length:=by
 obtain⟨⟨_,h1⟩,_,⟨_,h3⟩,h2⟩:=aHx t hx
 have hO:∀l:List qV,(∀o∈l,RW o)->∀a∈TR l,dO a.pl.pr.length:=fun l hl a ha=>by
  unfold TR Y0 at ha
  obtain⟨o,ho,rfl⟩:=eW.1 ha
  exact hl o (jX.1 ho).1
 intro a ha
 unfold acB at ha
 split at ha
 ·rename_i s e
  obtain⟨h4,h5,_,h6⟩:=h1 s (iQ e)
  unfold acS at ha
  rcases bV.1 ha with ha|ha
  ·exact hO _ h6 a ha
  rcases bV.1 ha with ha|ha
  ·split at ha
   ·rw[cR] at ha;rw[ha];exact h5
   ·cases ha
  ·split at ha
   ·rw[cR] at ha;rw[ha];exact h4
   split at ha
   ·rw[cR] at ha;rw[ha];unfold dO;simp
   ·cases ha
 ·unfold acT at ha
  rcases bV.1 ha with ha|ha
  ·exact hO _ h3 a ha
  ·split at ha
   ·rw[cR] at ha;rw[ha];exact h2
   ·cases ha
theorem aO2 {n:Nat} (hn:n<=20) {x:Int} (h:cE n x):fU x:=by unfold cE at h;unfold fU;omega
theorem aLF (t:Tb b):aB6 b where
 cn:=t.cn
 us:=by
  have h:(ET b).length<=(vN (bZ (dK b))).length * 3002:=EE fun p _=>by
   unfold ZL
   split
   ·rename_i h;exact aMM t (I2 h.choose_spec) _
   ·simp
  rw[oX] at h
  have:=t.cn
  omega
 ef:=fun p i k h xC=>by
  have hx:=bU h
  obtain⟨c1,c2,c3⟩:=(uY t.ch).2 _ hx
  refine⟨by unfold dO;omega,?_,fun y hy=>aO2 t.lc (aIy t.ch hx hy),fun y hy=>aO2 t.lc (aNc t.ch hx hy),by have:=aDA t hx k;unfold dO;omega,aJK t hx k,fun s hs hk=>?_⟩
  ·obtain⟨_,h2,_⟩:=xC
   rw[sW h] at h2
   exact h2
  ·have h3:=aMA (c2 s (iQ hs)) hk
   rcases aR0 h3.2 with h4|h4
   ·exact aO2 t.lc h4
   ·rw[h4];unfold fU;omega
 ta:=fun x hx=>by have:=aRa ((uY t.ch).2 x hx).2.2;omega
theorem aL5 (t:Tb b):aMz b where
 lv:=aLF t
 ck:=fun H=>(U3 b H t.sb fun _=>t.ck).mono fun d H' h=>by rw[t.ch] at h;exact h
 rel:=aGX (uY t.ch).1
 wt:=t.ck.wt
 rb:=by
  obtain⟨_,_,_,h4,_⟩:=JC (uY t.ch).1
  intro u hu h3
  obtain⟨i,hi,rfl⟩:=sA hu
  have h5:=((W6.1 h4).2 i hi).rr h3
  have:=t.rg
  omega
 tl:=t.ck.tl
 ar:=t.ck.ar.dO
 rgl:=by have:=t.rg;omega
 oll:=t.ck.oll
 lcl:=by have:=t.lc;omega
 lin:=fun p x h=>aRK t.ch h
theorem OP (t:Tb b):aPb b where
 ex:={
  rg:=aL5 t
  ln:=fun x hx s hs=>by have:=((t.ar x hx).1 s hs).2;omega
  ac:=fun p x k h=>⟨⟨by have:=aDA t (I2 h) k;unfold dO;omega,aPj t (I2 h) k⟩,aJK t (I2 h) k⟩
  ll:=by have:=HY b;have:=t.cn;omega
  lp:=fun l hl=>by
   obtain⟨_,x,hx,s,hs,_,_,_,e⟩:=YO hl
   rw[e]
   have:=((t.ar x hx).1 s hs).2
   unfold dO;omega}
 lr:=fun l hl=>by
  obtain⟨h1,x,hx,s,hs,k1,k2,e1,e2⟩:=YO hl
  have h2:=aMA (((uY t.ch).2 x hx).2.1 s hs) k1
  have h3:=(aCd h2.2 k2).2
  have:=t.rg
  rw[e1]
  refine⟨by unfold cE at h3;unfold fU;omega,?_⟩
  unfold cE
  have e:dK b=b.bl.map fun x=>(x.st.length,x.tm.tg):=rfl
  rw[e]
  omega
theorem I9 (t:Tb b) (H:aC):bE prog 11 [.agg (iS b)] H fun d H'=>d=.pG [.seq 2 ((rZ b).map pD),i64 0]/\H=H':=aHb b H (OP t)
end
end Go.Proofs.YtfiipaodjpiooaaGreatDoor

