/- Lemmas and contracts of functions, several texts in one. -/
import Derived.Test.YtelbfbioomcmeaaGreatDoorQ27
import Derived.Test.YtelbfbioomcmeaaGreatDoorQ28
set_option maxRecDepth 100000
set_option maxHeartbeats 4000000
set_option linter.all false
namespace Go.Proofs.YtelbfbioomcmeaaGreatDoor
open Go.RowKit
open Tryz
theorem aEf {l:List (Int×Int)} {b1 b2:Nat} {H H':aA} (h:uJ l b1 b2 H) (h1:H' b1=H b1) (h2:H' b2=H b2):uJ l b1 b2 H':=by
 obtain⟨m1,m2,a1,a2,a3,a4⟩:=h
 exact⟨m1,m2,h1.trans a1,a2,h2.trans a3,a4⟩
theorem aH5 (b:iF) (H:aA) (hn:b.rg.length<=1000000) (hc:iI b.ol b.rg.length=0):aT prog 72 [.agg (iG b)] H fun d H'=>∃b1 b2 m1 m2,d=.agg (xL b b.rg.length b1 b2)/\H b1=none/\H b2=none/\b1≠b2/\H'=(H.bH b1 (.map m1)).bH b2 (.map m2)/\uJ b.ol b1 b2 H'/\H.le H':=by
 have BN:=lm sD b.rg
 rw[lK]
 refine aN _ _ func72 rfl rfl ntmps72 results72 (by simp) fun w0 g0 Q aC=>?_
 refine tq trivial ?_;intro Nx aB Gx aG
 intro c1 l9 c2 pZ
 refine aB _ ?_
 obtain⟨mJ,s5⟩:=bT.1 pZ;refine bS 1 rfl ((aP mJ.symm).trans (aQ _ _ _)) rfl ?_;refine eZ _ (aHZ l9 s5 mJ) ?_;simp only[St.gU,List.drop]
 refine tq BN ?_;intro Nx aB Gx aG
 refine(aJ5 b.ol b.rg.length _ (by omega) hc).mono ?_
 rintro d H1 ⟨b1,b2,m1,m2,rfl,sI,mW,fP,rfl,hR,j9⟩
 obtain⟨n1,sI⟩:=bT.1 sI
 obtain⟨n2,mW⟩:=bT.1 mW
 obtain⟨R,hRR⟩:∃R:gB,(H.bH c2 R) c2=some R/\R=.row 137 0 8 [[.val (.string ByteArray.empty),.val (.slice none 0 0),.val (.slice none 0 0),.val (.slice none 0 0),.val (.slice none 0 0),i64 0,.val (.slice none 0 0),.val (.pointer none)]]:=⟨_,aQ _ _ _,rfl⟩
 obtain⟨H2,iW⟩:∃H2,H2=((H.bH c2 R).bH b1 (.map m1)).bH b2 (.map m2):=⟨_,rfl⟩
 have s7:H2 c2=some R:=by rw[iW,aP n2.symm,aP n1.symm,aQ]
 rw[hRR.2] at iW s7
 simp only[i64] at iW s7 ⊢
 rw[<-iW]
 refine tq (cZ @iM.eq_1 s7) ?_;intro Nx aB Gx aG
 refine rt aC trivial ?_
 have hH':((H.bH b1 (.map m1)).bH b2 (.map m2)).le (H2.bH c2 (.row 137 0 8 [[bX b.nm,.seq 1 (b.rg.map sD),.seq 2 (b.ol.map pD),.seq 5 (b.ty.map cE),.seq 2 (b.lc.map lI),i64 b.ag,.seq 7 (b.bl.map rE),iM b.rg.length b1 b2]])):=fun c z hz=>by
  have hz':c≠c2:=fun e=>by
   rw[e,aP n2.symm,aP n1.symm,s5] at hz;cases hz
  rw[aP hz',iW]
  by_cases e2:c=b2
  ·subst e2;rw[aQ] at hz ⊢;exact hz
  ·rw[aP e2] at hz ⊢
   by_cases e1:c=b1
   ·subst e1;rw[aQ] at hz ⊢;exact hz
   ·rw[aP e1] at hz ⊢;rw[aP hz'];exact hz
 refine⟨_,hH',b1,b2,m1,m2,rfl,sI,mW,fP,rfl,aEf hR ?_ ?_,?_⟩
 ·rw[aP fP,aQ,aP fP,aQ]
 ·rw[aQ,aQ]
 ·exact nH (nH (aE _) sI) ((aP fP.symm).trans mW)
def F1 (t:PM) (x y:Int):Bool:=decide ((t.tg.length:Int)=x)&&decide ((t.ar.length:Int)=y)
theorem aAi (t:PM) (x y:Int) (H:aA) (hp:ZX t):aT prog 254 [i64 x,i64 y,.rp (SI t)] H fun d H'=>d=.val (.bool (F1 t x y))/\H=H':=by
 refine bM (K:=fun d=>d=.val (.bool (F1 t x y))) ?_
 have aR:=aE H
 have cI:=lm iD t.tg
 have sK:=lm jL t.ar
 obtain⟨z,hz⟩:∃z,z=F1 t x y:=⟨_,rfl⟩
 rw[<-hz]
 unfold F1 at hz
 refine aN _ _ func254 rfl rfl ntmps254 results254 (by simp) fun w0 g0 Q aC=>?_
 by_cases h1:(t.tg.length:Int)=x
 case neg=>
  have q1:((t.tg.length:Int)=x)=False:=aI h1
  have e:z=false:=by rw[hz,bC h1];rfl
  exact oz aC (dZ @SI.eq_1 cI q1) aR e
 have q1:((t.tg.length:Int)=x)=True:=aK h1
 by_cases h2:(t.ar.length:Int)=y
 ·have q2:((t.ar.length:Int)=y)=True:=aK h2
  have e:z=true:=by rw[hz,bF h1,bF h2];rfl
  exact oz aC (gE @SI.eq_1 cI sK q1 q2) aR e
 ·have q2:((t.ar.length:Int)=y)=False:=aI h2
  have e:z=false:=by rw[hz,bC h2,kH]
  exact oz aC (gE @SI.eq_1 cI sK q1 q2) aR e
theorem VZ (t:PM):xU t=if t.k=0 then F1 t 1 0&&eV t.pl&&decide (t.nm=ByteArray.empty)
  else if t.k=1 then F1 t 2 1&&eV t.pl&&decide (t.nm=ByteArray.empty)
  else if t.k=3 then decide ((t.tg.length:Int)=1)
  else if t.k=4 then F1 t 1 0&&decide (t.nm=ByteArray.empty)
  else F1 t 0 0&&eV t.pl&&decide (t.nm=ByteArray.empty):=by
 unfold xU F1
 have e:∀(n m:Nat),decide ((n:Int)=(m:Int))=decide (n=m):=fun n m=>by
  by_cases h:n=m
  ·subst h;simp
  ·rw[bC h,bC (by omega)]
 have e0:∀n:Nat,decide ((n:Int)=0)=decide (n=0):=fun n=>e n 0
 have e1:∀n:Nat,decide ((n:Int)=1)=decide (n=1):=fun n=>e n 1
 have e2:∀n:Nat,decide ((n:Int)=2)=decide (n=2):=fun n=>e n 2
 simp only[e0,e1,e2]
theorem aBN (t:PM) (H:aA) (hp:ZX t):aT prog 164 [.agg (SI t)] H fun d H'=>d=.val (.bool (xU t))/\H=H':=by
 refine bM (K:=fun d=>d=.val (.bool (xU t))) ?_
 have aR:=aE H
 have hc:∀x y,aT prog 254 [i64 x,i64 y,.rp (SI t)] H fun d H'=>d=.val (.bool (F1 t x y))/\H=H':=fun x y=>aAi t x y H hp
 have hz:=JV t.pl H hp.2.2
 have cI:=lm iD t.tg
 obtain⟨y,hy⟩:∃y,y=xU t:=⟨_,rfl⟩
 rw[<-hy]
 rw[VZ] at hy
 obtain⟨C,hC⟩:∃C,C=F1 t:=⟨_,rfl⟩
 rw[<-hC] at hc hy
 clear hC
 obtain⟨Z,hZ⟩:∃Z,Z=eV t.pl:=⟨_,rfl⟩
 rw[<-hZ] at hz hy
 clear hZ
 obtain⟨k,tg,ar,pl,nm⟩:=t
 simp only at hy cI
 simp only[SI] at hc ⊢
 simp only[kT] at hz
 refine aN _ _ func164 rfl rfl ntmps164 results164 (by simp) fun w0 g0 Q aC=>?_
 refine tq trivial ?_;intro Nx aB Gx aG
 intro c1 l9
 refine aB _ ?_
 refine fW 1 l9 ?_
 by_cases hk:k=0
 ·have k0:(k=0)=True:=aK hk
  rw[aH hk] at hy
  have ZB:=hc 1 0
  obtain⟨v,hv⟩:∃v,v=C 1 0:=⟨_,rfl⟩
  rw[<-hv] at ZB hy
  clear hv
  refine tq k0 ?_;intro Nx aB Gx aG
  refine ZB.mono ?_
  rintro d _ ⟨rfl,rfl⟩
  cases v
  ·have e:y=false:=by rw[hy];rfl
   exact oz aC @bX.eq_1 aR e
  rw[cT] at hy
  refine tq trivial ?_;intro Nx aB Gx aG
  refine hz.mono ?_
  rintro d _ ⟨rfl,rfl⟩
  cases Z
  ·have e:y=false:=by rw[hy];rfl
   exact oz aC @bX.eq_1 aR e
  rw[cT] at hy
  by_cases hn:nm=ByteArray.empty
  ·have q1:decide (nm.toList=(ByteArray.mk #[]).toList)=true:=bF (fG.2 hn)
   have e:y=true:=by rw[hy,bF hn]
   exact oz aC (cZ @bX.eq_1 q1) aR e
  ·have q1:decide (nm.toList=(ByteArray.mk #[]).toList)=false:=bC (fun h=>hn (fG.1 h))
   have e:y=false:=by rw[hy,bC hn]
   exact oz aC (cZ @bX.eq_1 q1) aR e
 have k0:(k=0)=False:=aI hk
 rw[aD hk] at hy
 by_cases hk:k=1
 ·have k1:(k=1)=True:=aK hk
  rw[aH hk] at hy
  have ZB:=hc 2 1
  obtain⟨v,hv⟩:∃v,v=C 2 1:=⟨_,rfl⟩
  rw[<-hv] at ZB hy
  clear hv
  refine tq (cZ k0 k1) ?_;intro Nx aB Gx aG
  refine ZB.mono ?_
  rintro d _ ⟨rfl,rfl⟩
  cases v
  ·have e:y=false:=by rw[hy];rfl
   exact oz aC @bX.eq_1 aR e
  rw[cT] at hy
  refine tq trivial ?_;intro Nx aB Gx aG
  refine hz.mono ?_
  rintro d _ ⟨rfl,rfl⟩
  cases Z
  ·have e:y=false:=by rw[hy];rfl
   exact oz aC @bX.eq_1 aR e
  rw[cT] at hy
  by_cases hn:nm=ByteArray.empty
  ·have q1:decide (nm.toList=(ByteArray.mk #[]).toList)=true:=bF (fG.2 hn)
   have e:y=true:=by rw[hy,bF hn]
   exact oz aC (cZ @bX.eq_1 q1) aR e
  ·have q1:decide (nm.toList=(ByteArray.mk #[]).toList)=false:=bC (fun h=>hn (fG.1 h))
   have e:y=false:=by rw[hy,bC hn]
   exact oz aC (cZ @bX.eq_1 q1) aR e
 have k1:(k=1)=False:=aI hk
 rw[aD hk] at hy
 by_cases hk:k=3
 ·have k3:(k=3)=True:=aK hk
  rw[aH hk] at hy
  by_cases h1:(tg.length:Int)=1
  ·have q1:((tg.length:Int)=1)=True:=aK h1
   have e:y=true:=by rw[hy,bF h1]
   exact oz aC (gE k0 k1 k3 q1 cI) aR e
  ·have q1:((tg.length:Int)=1)=False:=aI h1
   have e:y=false:=by rw[hy,bC h1]
   exact oz aC (gE k0 k1 k3 q1 cI) aR e
 have k3:(k=3)=False:=aI hk
 rw[aD hk] at hy
 by_cases hk:k=4
 ·have k4:(k=4)=True:=aK hk
  rw[aH hk] at hy
  have ZB:=hc 1 0
  obtain⟨v,hv⟩:∃v,v=C 1 0:=⟨_,rfl⟩
  rw[<-hv] at ZB hy
  clear hv
  refine tq (fJ k0 k1 k3 k4) ?_;intro Nx aB Gx aG
  refine ZB.mono ?_
  rintro d _ ⟨rfl,rfl⟩
  cases v
  ·have e:y=false:=by rw[hy];rfl
   exact oz aC @bX.eq_1 aR e
  rw[cT] at hy
  by_cases hn:nm=ByteArray.empty
  ·have q1:decide (nm.toList=(ByteArray.mk #[]).toList)=true:=bF (fG.2 hn)
   have e:y=true:=by rw[hy,bF hn]
   exact oz aC (cZ @bX.eq_1 q1) aR e
  ·have q1:decide (nm.toList=(ByteArray.mk #[]).toList)=false:=bC (fun h=>hn (fG.1 h))
   have e:y=false:=by rw[hy,bC hn]
   exact oz aC (cZ @bX.eq_1 q1) aR e
 have k4:(k=4)=False:=aI hk
 rw[aD hk] at hy
 have ZB:=hc 0 0
 obtain⟨v,hv⟩:∃v,v=C 0 0:=⟨_,rfl⟩
 rw[<-hv] at ZB hy
 clear hv
 refine tq (fJ k0 k1 k3 k4) ?_;intro Nx aB Gx aG
 refine ZB.mono ?_
 rintro d _ ⟨rfl,rfl⟩
 cases v
 ·have e:y=false:=by rw[hy];rfl
  exact oz aC @bX.eq_1 aR e
 rw[cT] at hy
 refine tq trivial ?_;intro Nx aB Gx aG
 refine hz.mono ?_
 rintro d _ ⟨rfl,rfl⟩
 cases Z
 ·have e:y=false:=by rw[hy];rfl
  exact oz aC @bX.eq_1 aR e
 rw[cT] at hy
 by_cases hn:nm=ByteArray.empty
 ·have q1:decide (nm.toList=(ByteArray.mk #[]).toList)=true:=bF (fG.2 hn)
  have e:y=true:=by rw[hy,bF hn]
  exact oz aC (cZ @bX.eq_1 q1) aR e
 ·have q1:decide (nm.toList=(ByteArray.mk #[]).toList)=false:=bC (fun h=>hn (fG.1 h))
  have e:y=false:=by rw[hy,bC hn]
  exact oz aC (cZ @bX.eq_1 q1) aR e
theorem aBO {t:PM} (h:xU t=true) (hk:t.k=1):t.ar.length=1:=by
 unfold xU at h
 rw[aD (by omega),aH hk] at h
 simp only[eF,jU] at h
 exact h.1.1.2
theorem aE7 {t:PM} (h:t.ar.length=1):(t.ar.map jL)[0]?=some (jL (LU t)):=by
 rw[yB (by omega:0<t.ar.length)]
 unfold LU
 rw[l6,cP (by omega)];rfl
theorem W0 {t:PM} (h:t.ar.length=1):LU t∈t.ar:=by
 unfold LU
 rw[l6,cP (by omega)]
 exact bZ _
theorem aIA (b:iF) (n:Int) (b1 b2:Nat) (t:PM) (H:aA) (ck:Ck b) (hn:n=b.rg.length) (hR:uJ b.ol b1 b2 H) (hp:ZX t) (FH:fC t.nm.size):aT prog 74 [.agg (xL b n b1 b2),.agg (SI t)] H fun d H'=>d=i64 (tmE b t)/\H=H':=by
 refine bM (K:=fun d=>d=i64 (tmE b t)) ?_
 have aR:=aE H
 have kQ:=aBN t H hp
 have KH:=(vP b n b1 b2 t.ar [] H ck hn hR hp.2.1.1 hp.2.1.2 (by unfold fC;simp) (fun f hf=>by cases hf)).imp (ds:=[.agg (xL b n b1 b2),.seq 4 (t.ar.map jL),.val (.slice none 0 0)]) ⟨oG _,oG _,kZ,trivial⟩
 have tA:t.ar.length=1->∀H1,dY prog 165 [.agg (xL b n b1 b2),.agg (jL (LU t))] H1 fun d A=>A=aA.none/\d=i64 (qS b (LU t)):=fun h H1=>bN fun eL eO=>LV b n b1 b2 (LU t) eL ck (hp.2.1.2 _ (W0 h))
 have QV:t.ar.length=1->qS b (LU t)=0->∀H1,dY prog 167 [.agg (xL b n b1 b2),.agg (jL (LU t))] H1 fun d A=>A=aA.none/\d=i64 (B6 b (LU t)):=fun h hz H1=>bN fun eL eO=>IU b n b1 b2 (LU t) eL ck (hp.2.1.2 _ (W0 h)) hz
 have SX:∀x H1,dY prog 166 [.val (.bool x)] H1 fun d A=>A=aA.none/\d=i64 (if x=true then 22 else 0):=fun x H1=>bN fun eL eO=>uP x eL
 have hfd:=fun x=>uP x H
 have NT:=fun a c=>IH a c H
 have hid:=EH t.nm H FH
 have KI:=JT b n b1 b2 t.pl H ck hp.2.2
 have lG:=rS b n b1 b2 t.pl H ck hp.2.2
 have KE:=V8 t.pl H hp.2.2
 have iX:=lm iD t.tg
 have sK:=lm jL t.ar
 have CT:=lm rE b.bl
 obtain⟨y,hy⟩:∃y,y=tmE b t:=⟨_,rfl⟩
 rw[<-hy]
 unfold tmE at hy
 have B3:t.ar.length=1->(t.ar.map jL)[0]?=some (jL (LU t)):=aE7
 have nM:xU t=true->t.k=1->t.ar.length=1:=aBO
 obtain⟨O,hO⟩:∃O,O=LU t:=⟨_,rfl⟩
 rw[<-hO] at tA QV hy B3
 obtain⟨oE,hoE⟩:∃oE,oE=qS b O:=⟨_,rfl⟩
 rw[<-hoE] at tA QV hy
 obtain⟨kE,hkE⟩:∃kE,kE=B6 b O:=⟨_,rfl⟩
 rw[<-hkE] at QV hy
 obtain⟨F,hF⟩:∃F,F=xU t:=⟨_,rfl⟩
 rw[<-hF] at kQ hy nM
 obtain⟨I,hI⟩:∃I,I=qO t.nm:=⟨_,rfl⟩
 rw[<-hI] at hid hy
 obtain⟨S,hS⟩:∃S,S=fX b t.ar []:=⟨_,rfl⟩
 rw[<-hS] at KH hy
 obtain⟨E,hE⟩:∃E,E=DC b t.pl:=⟨_,rfl⟩
 rw[<-hE] at KI hy
 obtain⟨T,hT⟩:∃T,T=qI b t.pl:=⟨_,rfl⟩
 rw[<-hT] at KI lG hy
 obtain⟨Z,hZ⟩:∃Z,Z=tL t.pl 0:=⟨_,rfl⟩
 rw[<-hZ] at KE hy
 clear hO hoE hkE hF hI hS hE hT hZ
 have sM:=hp.1
 have sH:=hp.2.1.1
 have nX:=ck.bll
 unfold fC at sM sH nX
 rw[xM] at KH tA QV KI lG ⊢
 obtain⟨k,tg,ar,pl,nm⟩:=t
 simp only at hy iX sK sM sH nM B3 tA QV KH
 simp only[SI] at kQ ⊢
 simp only[kT] at KI lG KE
 simp only[jL] at B3 tA QV
 refine aN _ _ func74 rfl rfl ntmps74 results74 (by simp) fun w0 g0 Q aC=>?_
 refine tq trivial ?_;intro Nx aB Gx aG
 intro c2 pZ c3 mH
 refine aB _ ?_
 obtain⟨mJ,s5⟩:=bT.1 mH;refine bS 2 rfl ((aP mJ.symm).trans (aQ _ _ _)) rfl ?_;refine bS 3 rfl ((bP mJ).trans (aQ _ _ _)) rfl ?_;refine eZ _ (iL pZ s5) ?_;simp only[St.gU,List.drop]
 by_cases h1:k<0
 ·have q1:(k<0)=True:=aK h1
  have e:y=14:=hy.trans (aH (.inl h1))
  exact oz aC q1 aR e
 have q1:(k<0)=False:=aI h1
 by_cases h2:5<k
 ·have q2:(5<k)=True:=aK h2
  have e:y=14:=hy.trans (aH (.inr h2))
  exact oz aC (cZ q1 q2) aR e
 have q2:(5<k)=False:=aI h2
 rw[aD (by omega)] at hy
 refine tq (cZ q1 q2) ?_;intro Nx aB Gx aG
 refine kQ.mono ?_
 rintro d _ ⟨rfl,rfl⟩
 cases F
 ·have e:y=2:=hy
  exact oz aC q1 aR e
 rw[aD (fun h=>by cases h)] at hy
 refine tq iX ?_;intro Nx aB Gx aG
 refine bB tg.length (fun i s=>s.df=[]/\s.fr 2=.rp [bX b.nm,.seq 1 (b.rg.map sD),.seq 2 (b.ol.map pD),.seq 5 (b.ty.map cE),.seq 2 (b.lc.map lI),i64 b.ag,.seq 7 (b.bl.map rE),iM n b1 b2]/\s.fr 3=.rp [i64 k,.seq 1 (tg.map iD),.seq 4 (ar.map jL),i64 pl.lo,.seq 2 (pl.pr.map pD),bX nm]/\s.fr 25=.seq 1 (tg.map iD)/\s.fr 26=i64 tg.length/\s.fr 27=i64 i/\s.H=H/\(tg.all fun x=>decide (dG b.bl.length x))=((tg.drop i).all fun x=>decide (dG b.bl.length x))) ⟨rfl,rfl,rfl,rfl,rfl,rfl,rfl,rfl⟩ ?_
 rintro i s hi ⟨bG,f2,f3,f25,f26,f27,hH,ha⟩
 have hx:=bL i
 have cL:=bY i
 have aX:H.le s.H:=by rw[hH];exact aE _
 by_cases aZ:i<tg.length
 case pos=>
  have cN:(i:Int)<(tg.length:Int):=by omega
  have q6:((i:Int)<(tg.length:Int))=True:=aK cN
  have w3:=wS i (by omega)
  have b8:=dL aZ
  rw[dI aZ,l8] at ha
  obtain⟨v,hv⟩:∃v,v=tg[i]:=⟨_,rfl⟩
  rw[<-hv] at b8 ha
  have BK:¬dG b.bl.length v->y=3:=fun h=>by rw[bC h,fS] at ha;rw[hy,ha];rfl
  by_cases h3:v<0
  ·have q3:(v<0)=True:=aK h3
   have e:=BK (by unfold dG;omega)
   exact oz aC (CF f2 f25 f26 f27 iX q6 b8 hx cL aZ cN q3) aX e
  have q3:(v<0)=False:=aI h3
  by_cases h4:(b.bl.length:Int)<=v
  ·have q4:(v≥(b.bl.length:Int))=True:=aK h4
   have e:=BK (by unfold dG;omega)
   exact oz aC (F0 f2 f25 f26 f27 iX CT q6 b8 hx cL aZ cN q3 q4) aX e
  have q4:(v≥(b.bl.length:Int))=False:=aI h4
  rw[bF (by unfold dG;omega:dG b.bl.length v),cT] at ha
  refine tq (aGT f2 f25 f26 f27 iX CT q6 b8 hx cL aZ cN q3 q4 w3) ?_;intro Nx aB Gx aG
  exact⟨aZ,bG,f2,f3,f25,f26,rfl,hH,ha⟩
 have q6:=lF i tg.length (by omega)
 rw[dX (by omega),oS] at ha
 rw[ha,aD (fun h=>by cases h)] at hy
 clear ha
 by_cases mZ:k=1
 ·have k1:(k=1)=True:=aK mZ
  rw[aH mZ] at hy
  have hl:=nM rfl mZ
  have B3:=B3 hl
  have aGw:0<(ar.map jL).length:=by rw[sK];omega
  have a03:(0:Int)<((ar.map jL).length:Int):=by omega
  refine tq (jA f2 f3 f26 f27 q6 k1) ?_;intro Nx aB Gx aG
  refine dE (fun _ _ d A=>A=.none/\d=i64 oE) fun Nx aB=>?_;refine dst (gE f2 f3 B3 sK hl) ?_;intro Nx aB Gx aG
  refine⟨tA hl _,?_⟩
  (first|refine aG _ ?_|refine aB _ ?_|skip)
  by_cases h5:oE=0
  case neg=>
   have q5:(oE=0)=False:=aI h5
   have e:y=oE:=hy.trans (aH h5)
   exact oz aC q5 aX e
  have q5:(oE=0)=True:=aK h5
  rw[aD (fun h=>h h5)] at hy
  have QV:=QV hl h5
  by_cases h7:kE=1
  ·have q7:(kE=1)=True:=aK h7
   have e:y=0:=hy.trans (aD (fun h=>h h7))
   refine tq q5 ?_;intro Nx aB Gx aG
   refine dE (fun t0 _ d A=>A=.none/\d=(if t0=some 60 then i64 kE else i64 0)) fun Nx aB=>?_;refine dst (jA f2 f3 B3 sK hl q7) ?_;intro Nx aB Gx aG
   refine⟨QV _,SX _ _,?_⟩
   (first|refine aG _ ?_|refine aB _ ?_|skip)
   exact oz aC q7 aX e
  ·have q7:(kE=1)=False:=aI h7
   have e:y=22:=hy.trans (aH h7)
   refine tq q5 ?_;intro Nx aB Gx aG
   refine dE (fun t0 _ d A=>A=.none/\d=(if t0=some 60 then i64 kE else i64 22)) fun Nx aB=>?_;refine dst (jA f2 f3 B3 sK hl q7) ?_;intro Nx aB Gx aG
   refine⟨QV _,SX _ _,?_⟩
   (first|refine aG _ ?_|refine aB _ ?_|skip)
   exact oz aC q7 aX e
 have k1:(k=1)=False:=aI mZ
 rw[aD mZ] at hy
 by_cases s9:k=3
 ·have k3:(k=3)=True:=aK s9
  rw[aH s9] at hy
  rw[<-hH] at hid KH KI
  refine tq (lM f2 f3 f26 f27 q6 k1 k3) ?_;intro Nx aB Gx aG
  refine hid.mono ?_
  rintro d _ ⟨rfl,iW⟩
  cases I
  ·have e:y=12:=hy
   rw[iW] at aX
   exact oz aC q6 aX e
  rw[aD (fun h=>by cases h)] at hy
  by_cases h5:65535<ar.length
  ·have q5:((65535:Int)<(ar.length:Int))=True:=aK (by omega)
   have e:y=15:=hy.trans (aH h5)
   rw[iW] at aX
   exact oz aC (dZ f3 q5 sK) aX e
  have q5:((65535:Int)<(ar.length:Int))=False:=aI (by omega)
  rw[aD h5] at hy
  rw[iW] at KH
  refine tq (fJ f2 f3 q5 sK) ?_;intro Nx aB Gx aG
  refine KH.mono ?_
  rintro d _ ⟨rfl,SW⟩
  by_cases h6:S=0
  case neg=>
   have q7:(S=0)=False:=aI h6
   have e:y=S:=hy.trans (aH h6)
   rw[iW,SW] at aX
   exact oz aC q7 aX e
  have q7:(S=0)=True:=aK h6
  rw[aD (fun h=>h h6)] at hy
  rw[iW,SW] at KI
  refine tq (dZ f2 f3 q7) ?_;intro Nx aB Gx aG
  refine KI.mono ?_
  rintro d _ ⟨rfl,hH4⟩
  have e:=hy
  rw[iW,SW,hH4] at aX
  exact oz aC q7 aX e
 have k3:(k=3)=False:=aI s9
 rw[aD s9] at hy
 by_cases sJ:k=4
 ·have k4:(k=4)=True:=aK sJ
  rw[aH sJ] at hy
  rw[<-hH] at lG KE hfd NT
  refine tq (qN f2 f3 f26 f27 q6 k1 k3 k4) ?_;intro Nx aB Gx aG
  refine lG.mono ?_
  rintro d _ ⟨rfl,iW⟩
  rw[iW] at KE hfd NT
  refine tq (cZ f2 f3) ?_;intro Nx aB Gx aG
  refine KE.mono ?_
  rintro d _ ⟨rfl,SW⟩
  rw[SW] at hfd NT
  refine tq (cZ f2 f3) ?_;intro Nx aB Gx aG
  refine(hfd _).mono ?_
  rintro d _ ⟨rfl,hH4⟩
  rw[hH4] at NT
  refine tq (cZ f2 f3) ?_;intro Nx aB Gx aG
  refine(NT _ _).mono ?_
  rintro d _ ⟨rfl,hH5⟩
  have e:=hy
  rw[iW,SW,hH4,hH5] at aX
  exact oz aC q6 aX e
 have k4:(k=4)=False:=aI sJ
 rw[aD sJ] at hy
 have e:=hy
 exact oz aC (lM f3 f26 f27 q6 k1 k3 k4) aX e
theorem VP {b:iF} (h:tY b=0):qO b.nm=true/\qR b.rg=0/\iI b.ol b.rg.length=0/\wV b.ty b.rg.length=0/\EJ b=0/\b.bl.length≠0/\b.bl.length<=65535:=by
 unfold tY at h
 by_cases h1:qO b.nm=false
 ·rw[aH h1] at h;cases h
 rw[aD h1] at h
 by_cases h2:qR b.rg=0
 case neg=>rw[aH h2] at h;exact absurd h h2
 rw[aD (fun k=>k h2)] at h
 by_cases h3:iI b.ol b.rg.length=0
 case neg=>rw[aH h3] at h;exact absurd (by omega) h3
 rw[aD (fun k=>k h3)] at h
 by_cases h4:wV b.ty b.rg.length=0
 case neg=>rw[aH h4] at h;exact absurd (by omega) h4
 rw[aD (fun k=>k h4)] at h
 by_cases h5:EJ b=0
 case neg=>rw[aH h5] at h;exact absurd h h5
 rw[aD (fun k=>k h5)] at h
 by_cases h6:b.bl.length=0\/65535<b.bl.length
 ·rw[aH h6] at h;cases h
 exact⟨by cases h:qO b.nm;exact absurd h h1;rfl,h2,h3,h4,h5,by omega,by omega⟩
theorem aG0 {b:iF} (h:tY b=0):iI b.ol b.rg.length=0:=(VP h).2.2.1
theorem aA5 {l:List BkS} {i:Nat} (h:i<l.length):(l.map rE)[i]?=some (rE l[i]):=by
 rw[cR,cP h];rfl
theorem aCh {l:List StS} {i:Nat} (h:i<l.length):(l.map J4)[i]?=some (J4 l[i]):=by
 rw[cR,cP h];rfl
theorem K2 (b:iF) (H:aA) (sb:Sb b) (fF:tY b=0->Ck b):aT prog 22 [.agg (iG b)] H fun d H'=>d=i64 (DY b)/\H=H':=by
 refine bM (K:=fun d=>d=i64 (DY b)) ?_
 have aR:=aE H
 obtain⟨o1,o2,⟨o3,o4⟩,o5,o6,o7⟩:=sb.ok
 have T8:=sb.ts
 have KC:=aG1 b H sb
 have CT:=lm rE b.bl
 unfold fC at o6
 obtain⟨y,hy⟩:∃y,y=DY b:=⟨_,rfl⟩
 rw[<-hy]
 unfold DY at hy
 have hnw:tY b=0->aT prog 72 [.agg (iG b)] H fun d H'=>∃b1 b2 m1 m2,d=.agg (xL b b.rg.length b1 b2)/\H b1=none/\H b2=none/\b1≠b2/\H'=(H.bH b1 (.map m1)).bH b2 (.map m2)/\uJ b.ol b1 b2 H'/\H.le H':=fun h=>aH5 b H (fF h).rgl (aG0 h)
 obtain⟨D0,hD⟩:∃D0,D0=tY b:=⟨_,rfl⟩
 rw[<-hD] at KC fF hnw hy
 rw[lK] at KC hnw ⊢
 refine aN _ _ func22 rfl rfl ntmps22 results22 (by simp) fun w0 g0 Q aC=>?_
 refine tq trivial ?_;intro Nx aB Gx aG
 intro c1 l9
 refine aB _ ?_
 refine fW 1 l9 ?_
 refine tq trivial ?_;intro Nx aB Gx aG
 refine KC.mono ?_
 rintro d _ ⟨rfl,rfl⟩
 by_cases h0:D0=0
 case neg=>
  have q0:(D0=0)=False:=aI h0
  have e:y=D0:=hy.trans (aH h0)
  refine tq q0 ?_;intro Nx aB Gx aG
  refine rt aC trivial ?_
  exact⟨_,aE _,aR,_,aJ aR,by rw[e]⟩
 have q0:(D0=0)=True:=aK h0
 rw[aD (fun h=>h h0)] at hy
 have ck:=fF h0
 refine tq q0 ?_;intro Nx aB Gx aG
 refine(hnw h0).mono ?_
 rintro d H1 ⟨b1,b2,m1,m2,rfl,sI,mW,fP,s6,hR,j9⟩
 rw[xM]
 clear s6
 refine tq trivial ?_;intro Nx aB Gx aG
 intro c4 wQ
 refine aB _ ?_
 refine fW 4 wQ ?_
 refine tq CT ?_;intro Nx aB Gx aG
 refine bB b.bl.length (fun i s=>s.df=[]/\s.fr 3=i64 0/\s.fr 4=.rp [bX b.nm,.seq 1 (b.rg.map sD),.seq 2 (b.ol.map pD),.seq 5 (b.ty.map cE),.seq 2 (b.lc.map lI),i64 b.ag,.seq 7 (b.bl.map rE),iM (b.rg.length:Int) b1 b2]/\s.fr 17=.seq 7 (b.bl.map rE)/\s.fr 18=i64 b.bl.length/\s.fr 19=i64 i/\s.H=H1/\J8 b b.bl=J8 b (b.bl.drop i)) ⟨rfl,by rw[h0] <;> rfl,rfl,rfl,rfl,rfl,rfl,rfl⟩ ?_
 rintro i s hi ⟨bG,f3,f4,f17,f18,f19,hH,ha⟩
 have hx:=bL i
 have cL:=bY i
 have aX:H.le s.H:=by rw[hH];exact j9
 by_cases aZ:i<b.bl.length
 case neg=>
  have q6:=lF i b.bl.length (by omega)
  rw[dX (by omega)] at ha
  have e:y=0:=by rw[hy,ha];rfl
  exact oz aC (fJ f3 f18 f19 q6) aX e
 have cN:(i:Int)<(b.bl.length:Int):=by omega
 have q6:((i:Int)<(b.bl.length:Int))=True:=aK cN
 have w3:=wS i (by omega)
 have b8:=aA5 aZ
 have eX:=o7 b.bl[i] (bZ aZ)
 have FH:=T8 b.bl[i] (bZ aZ)
 rw[dI aZ,J8] at ha
 obtain⟨x,T9⟩:∃x,x=b.bl[i]:=⟨_,rfl⟩
 rw[<-T9] at b8 eX FH ha
 clear T9
 obtain⟨xs,xt⟩:=x
 obtain⟨⟨PB,hso⟩,hto⟩:=eX
 simp only at PB hso hto ha FH
 have B5:=aIA b b.rg.length b1 b2 xt H1 ck rfl hR hto FH
 have o9:=fun s hs=>aHu b b.rg.length b1 b2 s H1 ck rfl hR (hso s hs)
 rw[xM] at B5 o9
 have CU:=lm J4 xs
 unfold fC at PB
 simp only[rE] at b8
 simp only[SI] at B5
 refine tq (rF f17 f18 f19 CT q6 b8 hx cL aZ cN) ?_;intro Nx aB Gx aG
 intro c6 JX
 refine aB _ ?_
 refine fW 6 JX ?_
 by_cases h1:65535<xs.length
 ·have q1:((65535:Int)<(xs.length:Int))=True:=aK (by omega)
  have e:y=15:=by rw[hy,ha,aH h1]
  exact oz aC (cZ CU q1) aX e
 have q1:((65535:Int)<(xs.length:Int))=False:=aI (by omega)
 rw[aD h1] at ha
 refine tq (cZ CU q1) ?_;intro Nx aB Gx aG
 refine bB xs.length (fun j s2=>s2.df=[]/\s2.fr 3=i64 0/\s2.fr 4=.rp [bX b.nm,.seq 1 (b.rg.map sD),.seq 2 (b.ol.map pD),.seq 5 (b.ty.map cE),.seq 2 (b.lc.map lI),i64 b.ag,.seq 7 (b.bl.map rE),iM (b.rg.length:Int) b1 b2]/\s2.fr 6=.rp [.seq 11 (xs.map J4),i64 xt.k,.seq 1 (xt.tg.map iD),.seq 4 (xt.ar.map jL),i64 xt.pl.lo,.seq 2 (xt.pl.pr.map pD),bX xt.nm]/\s2.fr 17=.seq 7 (b.bl.map rE)/\s2.fr 18=i64 b.bl.length/\s2.fr 19=i64 i/\s2.fr 28=.seq 11 (xs.map J4)/\s2.fr 29=i64 xs.length/\s2.fr 30=i64 j/\s2.H=H1/\GG b xs=GG b (xs.drop j)) ⟨bG,f3,f4,rfl,f17,f18,f19,rfl,rfl,rfl,hH,rfl⟩ ?_
 rintro j s2 hj ⟨bG,f3,f4,f6,f17,f18,f19,f28,f29,f30,hH,hb⟩
 have hy0:=bL j
 have g00:=bY j
 have aX:H.le s2.H:=by rw[hH];exact j9
 by_cases kR:j<xs.length
 case pos=>
  have aBb:(j:Int)<(xs.length:Int):=by omega
  have p6:((j:Int)<(xs.length:Int))=True:=aK aBb
  have w4:=wS j (by omega)
  have AX:=aCh kR
  have o9:=o9 xs[j] (bZ kR)
  rw[dI kR,GG] at hb
  obtain⟨v,hv⟩:∃v,v=xs[j]:=⟨_,rfl⟩
  rw[<-hv] at AX o9 hb
  clear hv
  obtain⟨E,hE⟩:∃E,E=stE b v:=⟨_,rfl⟩
  rw[<-hE] at o9 hb
  clear hE
  simp only[J4] at AX o9
  rw[<-hH] at o9
  refine tq (rF f28 f29 f30 CU p6 AX hy0 g00 kR aBb) ?_;intro Nx aB Gx aG
  intro c8 NS
  refine aB _ ?_
  refine fW 8 NS ?_
  refine tq f4 ?_;intro Nx aB Gx aG
  refine o9.mono ?_
  rintro d _ ⟨rfl,iW⟩
  by_cases h2:E=0
  ·have q2:(E=0)=True:=aK h2
   rw[aD (fun h=>h h2)] at hb
   refine tq (dZ f30 q2 w4) ?_;intro Nx aB Gx aG
   exact⟨kR,bG,by rw[h2] <;> rfl,f4,f6,f17,f18,f19,f28,f29,rfl,by rw[<-iW];exact hH,hb⟩
  ·have q2:(E=0)=False:=aI h2
   rw[aH h2] at hb
   have e:y=E:=by rw[hy,ha,hb,aH h2]
   rw[iW] at aX
   exact oz aC q2 aX e
 have p6:=lF j xs.length (by omega)
 rw[dX (by omega),GG] at hb
 rw[hb,aD (fun h=>h rfl)] at ha
 clear hb
 obtain⟨E,hE⟩:∃E,E=tmE b xt:=⟨_,rfl⟩
 rw[<-hE] at B5 ha
 clear hE
 rw[<-hH] at B5
 refine tq (gE f4 f6 f29 f30 p6) ?_;intro Nx aB Gx aG
 refine B5.mono ?_
 rintro d _ ⟨rfl,iW⟩
 by_cases h2:E=0
 ·have q2:(E=0)=True:=aK h2
  rw[aD (fun h=>h h2)] at ha
  refine tq (dZ f19 q2 w3) ?_;intro Nx aB Gx aG
  exact⟨aZ,bG,by rw[h2] <;> rfl,f4,f17,f18,rfl,by rw[<-iW];exact hH,ha⟩
 ·have q2:(E=0)=False:=aI h2
  rw[aH h2] at ha
  have e:y=E:=by rw[hy,ha]
  rw[iW] at aX
  exact oz aC q2 aX e
structure Sm (b:iF):Prop where
 tt:tot b<=3000
 ol:b.ol.length<=200
 rg:b.rg.length<=200
 bl:b.bl.length<=200
theorem UZ {α:Type} {f:α->Nat} (hf:∀x,1<=f x):∀l:List α,l.length<=sm f l
 |[]=>fA _
 |x::l=>by
  have:=UZ hf l
  have:=hf x
  simp only[sm,fN];omega
theorem EV (b:iF):tot b=b.nm.size+b.ol.length+sm (fun s:ByteArray=>1+s.size) b.rg+sm (fun t:cQ=>1+t.ar.length) b.ty+sm (fun l:tD=>1+l.nm.size) b.lc+sm szB b.bl:=by
 unfold tot t4 t3 t2 t1
 simp only[kW]
theorem aCa {b:iF} (ok:RR b) (h:Sm b):Sb b where
 ok:=ok
 nm:=by have:=h.tt;rw[EV] at this;unfold fC;omega
 rs:=fun s hs=>by have:=h.tt;rw[EV] at this;have:=JH (f:=fun s:ByteArray=>1+s.size) hs;unfold fC;omega
 ls:=fun s hs=>by have:=h.tt;rw[EV] at this;have:=JH (f:=fun l:tD=>1+l.nm.size) hs;unfold fC;omega
 ts:=fun s hs=>by
  have h1:=h.tt
  rw[EV] at h1
  have h2:=JH (f:=szB) hs
  have h3:s.tm.nm.size<=szB s:=by unfold szB;omega
  unfold fC
  omega
theorem aAf {b:iF} (ok:RR b) (h:Sm b) (hd:tY b=0):Ck b:=by
 obtain⟨h1,h2,h3,h4,h5,h6,h7⟩:=VP hd
 obtain⟨o1,o2,⟨o3,o4⟩,o5,o6,o7⟩:=ok
 have ht:=h.tt
 rw[EV] at ht
 obtain⟨-,eX⟩:=VL.1 h4
 have h5':xZ b.ty.length [] b.lc=0:=by
  unfold EJ at h5
  by_cases p:65535<b.lc.length
  ·rw[aH p] at h5;cases h5
  rw[aD p] at h5
  exact kF fun q=>by rw[aH q] at h5;exact q h5
 exact {
  wt:=DB eX
  rf:=Z6 eX
  wl:=aCB h5'
  ar:=fun t B5=>by have:=JH (f:=fun t:cQ=>1+t.ar.length) B5;omega
  tl:=by have:=UZ (f:=fun t:cQ=>1+t.ar.length) (fun x=>by omega) b.ty;omega
  ol:=(K3 h3).2
  oll:=by have:=h.ol;omega
  rgl:=by have:=h.rg;omega
  lcl:=o5
  bll:=o6}
theorem aCe (b:iF) (H:aA) (ok:RR b):aT prog 16 [.agg (iG b)] H fun d H'=>(d=i64 1\/(d=i64 0/\Sm b))/\H=H':=by
 refine bM (K:=fun d=>d=i64 1\/(d=i64 0/\Sm b)) ?_
 have aR:=aE H
 obtain⟨o1,o2,⟨o3,o4⟩,o5,o6,o7⟩:=id ok
 have oV:=aET b H ok
 have hsk:=aFG b.ty H o3 o4
 have hkt:=aBw b.ty b.rg.length H o3 o4
 have eX:wV b.ty b.rg.length=0->vY b.ty:=fun h=>DB (VL.1 h).2
 have BN:=lm sD b.rg
 have hmo:=lm pD b.ol
 have iX:=lm cE b.ty
 have CT:=lm rE b.bl
 unfold fC at o1 o2 o3 o6
 obtain⟨L,hL⟩:∃L,L=lg b:=⟨_,rfl⟩
 rw[<-hL] at oV
 unfold lg at hL
 obtain⟨C,hC⟩:∃C,C=wV b.ty b.rg.length:=⟨_,rfl⟩
 rw[<-hC] at hkt eX
 clear hC
 rw[lK] at oV ⊢
 refine aN _ _ func16 rfl rfl ntmps16 results16 (by simp) fun w0 g0 Q aC=>?_
 refine tq trivial ?_;intro Nx aB Gx aG
 intro c1 l9
 refine aB _ ?_
 refine fW 1 l9 ?_
 refine tq trivial ?_;intro Nx aB Gx aG
 refine oV.mono ?_
 rintro d _ ⟨rfl,rfl⟩
 by_cases h1:3000<tot b
 ·rw[aH h1] at hL
  subst hL
  refine tq trivial ?_;intro Nx aB Gx aG;refine rt aC trivial ?_;exact⟨_,aE _,aR,_,aJ aR,.inl rfl⟩
 rw[aD h1] at hL
 subst hL
 refine tq trivial ?_;intro Nx aB Gx aG
 refine hsk.mono ?_
 rintro d _ ⟨hd,rfl⟩
 rcases hd with rfl|⟨rfl,h6⟩
 ·refine tq trivial ?_;intro Nx aB Gx aG;refine rt aC trivial ?_;exact⟨_,aE _,aR,_,aJ aR,.inl rfl⟩
 by_cases h2:200<b.ol.length
 ·have q2:((200:Int)<(b.ol.length:Int))=True:=aK (by omega)
  refine tq (cZ hmo q2) ?_;intro Nx aB Gx aG;refine rt aC trivial ?_;exact⟨_,aE _,aR,_,aJ aR,.inl rfl⟩
 have q2:((200:Int)<(b.ol.length:Int))=False:=aI (by omega)
 by_cases h3:200<b.rg.length
 ·have q3:((200:Int)<(b.rg.length:Int))=True:=aK (by omega)
  refine tq (fJ hmo BN q2 q3) ?_;intro Nx aB Gx aG;refine rt aC trivial ?_;exact⟨_,aE _,aR,_,aJ aR,.inl rfl⟩
 have q3:((200:Int)<(b.rg.length:Int))=False:=aI (by omega)
 by_cases h4:200<b.bl.length
 ·have q4:((200:Int)<(b.bl.length:Int))=True:=aK (by omega)
  refine tq (jA hmo BN CT q2 q3 q4) ?_;intro Nx aB Gx aG;refine rt aC trivial ?_;exact⟨_,aE _,aR,_,aJ aR,.inl rfl⟩
 have q4:((200:Int)<(b.bl.length:Int))=False:=aI (by omega)
 have hsm:Sm b:=⟨by omega,by omega,by omega,by omega⟩
 have sM:b.ty.length<=1000000:=by
  have:=h1;rw[EV] at this
  have:=UZ (f:=fun t:cQ=>1+t.ar.length) (fun x=>by omega) b.ty;omega
 refine tq (jA hmo BN CT q2 q3 q4) ?_;intro Nx aB Gx aG
 refine hkt.mono ?_
 rintro d _ ⟨rfl,rfl⟩
 by_cases h5:C=0
 case neg=>
  have q5:((C:Int)=0)=False:=aI (by omega)
  refine tq q5 ?_;intro Nx aB Gx aG
  refine rt aC trivial ?_
  exact⟨_,aE _,aR,_,aJ aR,.inr ⟨rfl,hsm⟩⟩
 have q5:((C:Int)=0)=True:=aK (by omega)
 have hw:=eX h5
 refine tq (cZ q5 iX) ?_;intro Nx aB Gx aG
 refine bB b.ty.length (fun i s=>s.df=[]/\s.fr 1=.rp [bX b.nm,.seq 1 (b.rg.map sD),.seq 2 (b.ol.map pD),.seq 5 (b.ty.map cE),.seq 2 (b.lc.map lI),i64 b.ag,.seq 7 (b.bl.map rE)]/\s.fr 40=i64 b.ty.length/\s.fr 41=i64 i/\s.H=H) ⟨rfl,rfl,rfl,rfl,rfl⟩ ?_
 rintro i s hi ⟨bG,f1,f40,f41,hH⟩
 have aX:H.le s.H:=by rw[hH];exact aR
 by_cases aZ:i<b.ty.length
 case neg=>
  have q6:=lF i b.ty.length (by omega)
  refine tq (dZ f40 f41 q6) ?_;intro Nx aB Gx aG
  refine rt aC bG ?_
  exact⟨_,aE _,aX,_,aJ aX,.inr ⟨rfl,hsm⟩⟩
 have q6:=lT i b.ty.length (by omega)
 have w3:=wS i (by omega)
 have hdp:=aHS b.ty i s.H sM o4 hw
 obtain⟨D0,hD⟩:∃D0,D0=H8 b.ty i:=⟨_,rfl⟩
 rw[<-hD] at hdp
 clear hD
 refine tq (fJ f1 f40 f41 q6) ?_;intro Nx aB Gx aG
 refine hdp.mono ?_
 rintro d _ ⟨rfl,yV⟩
 by_cases h8:8<D0
 ·have q8:((8:Int)<(D0:Int))=True:=aK (by omega)
  rw[yV] at aX
  refine tq q8 ?_;intro Nx aB Gx aG
  refine rt aC bG ?_
  exact⟨_,aE _,aX,_,aJ aX,.inl rfl⟩
 ·have q8:((8:Int)<(D0:Int))=False:=aI (by omega)
  refine tq (dZ f41 q8 w3) ?_;intro Nx aB Gx aG
  exact⟨aZ,bG,f1,f40,rfl,yV▸hH⟩
theorem aGQ:DY zS=0:=by
 have h1:tY zS=0:=by
  have e1:qO s0=true:=by decide
  unfold tY zS
  simp [e1,qR,GC,iI,xK,wV,tW,EJ,xZ]
 have h2:tmE zS tmZ=0:=by unfold tmE;simp [tmZ,xU,eV]
 unfold DY
 rw[aD (by rw[h1];simp)]
 show J8 zS [⟨[],tmZ⟩]=0
 simp [J8,GG,h2]
theorem aFj:RR zS:=by
 refine⟨by unfold fC;decide,by unfold fC;decide,⟨by unfold fC;decide,fun t ht=>by simp [zS] at ht⟩,by unfold fC;decide,by unfold fC;decide,fun x hx=>?_⟩
 simp only[zS,eS] at hx
 subst hx
 exact⟨⟨by unfold fC;decide,fun s hs=>by simp at hs⟩,by unfold fC;decide,⟨by unfold fC;decide,fun o ho=>by simp [tmZ] at ho⟩,by unfold RS fC;decide⟩
theorem aFl:Sm zS:=⟨by decide,by decide,by decide,by decide⟩
theorem aQv (H:aA):aT prog 22 [.agg (iG zS)] H fun d H'=>d=i64 0/\H=H':=by
 have:=K2 zS H (aCa aFj aFl) fun hd=>aAf aFj aFl hd
 rwa[aGQ] at this
end Go.Proofs.YtelbfbioomcmeaaGreatDoor

