/- Lemmas and contracts of functions, several texts in one. -/
import Derived.Test.YtelbfbioomcmeaaGreatDoorQ29
import Derived.Test.YtelbfbioomcmeaaGreatDoorQ30
set_option maxRecDepth 100000
set_option maxHeartbeats 4000000
set_option linter.all false
namespace Go.Proofs.YtelbfbioomcmeaaGreatDoor
open Go.RowKit
open Tryz
theorem aHR (ts:List cQ) (hw:vY ts) (sM:ts.length<=1000000) (nM:∀t∈ts,t.ar.length<=140737488351232):
  ∀(kk:Nat) (a:Int) (H:aA),a<kk->aT prog 214 [.seq 5 (ts.map cE),i64 a] H fun d H'=>d=.val (.bool (lN ts a))/\H=H':=by
 intro kk
 induction kk using Nat.strongRecOn with
 |ind kk ih=>
  intro a H hak
  refine bM (K:=fun d=>d=.val (.bool (lN ts a))) ?_
  have fB:=lm cE ts
  have aR:=aE H
  refine aN _ _ func214 rfl rfl ntmps214 results214 (by simp) fun w0 g0 Q aC=>?_
  by_cases h1:0<=a
  case neg=>
   have LC:lN ts a=false:=tX.2 fun h=>h1 h.1.1
   have q1:(a<0)=True:=aK (by omega)
   refine tq (cZ fB q1) ?_;intro Nx aB Gx aG
   refine rt aC trivial ?_
   exact⟨_,aE _,aR,_,aJ aR,by rw[LC]⟩
  have q1:(a<0)=False:=aI (by omega)
  by_cases h2:a<ts.length
  case neg=>
   have LC:lN ts a=false:=tX.2 fun h=>h2 h.1.2
   have q2:((ts.length:Int)<=a)=True:=aK (by omega)
   refine tq (dZ fB q1 q2) ?_;intro Nx aB Gx aG
   refine rt aC trivial ?_
   exact⟨_,aE _,aR,_,aJ aR,by rw[LC]⟩
  have q2:((ts.length:Int)<=a)=False:=aI (by omega)
  have ha:dG ts.length a:=⟨h1,h2⟩
  have GR:=kC ha
  have hci:=VM hw ha
  have hdn:=Dn.F hw a ha
  have IL:(cJ ts a).ar.length<=140737488351232:=nM _ (zG ha)
  obtain⟨t,ht⟩:∃t,t=cJ ts a:=⟨_,rfl⟩
  unfold aE9 at hdn
  rw[<-ht] at GR hdn IL hci
  obtain⟨tk,tm,tr,te,ta⟩:=t
  simp only[cE] at GR
  simp only at IL
  have aHF:=lm iD ta
  have sH:a.toNat<ts.length:=by omega
  have D8:a<(ts.length:Int):=ha.2
  refine tq (dZ fB q1 q2) ?_;intro Nx aB Gx aG
  refine bB ta.length (fun j s=>s.df=[]/\s.fr 0=.seq 5 (ts.map cE)/\s.fr 1=i64 a/\s.fr 5=i64 j/\s.H=H/\∀x∈ta.take j,lN ts x=true) ⟨rfl,rfl,rfl,rfl,rfl,by simp⟩ ?_
  rintro j s hj ⟨bG,f0,f1,f5,hH,eW⟩
  have aX:H.le s.H:=by rw[hH];exact aR
  have hx:=bL j
  have cL:=bY j
  by_cases kR:j<ta.length
  case neg=>
   have q6:=lF j ta.length (by omega)
   rw[dQ (by omega)] at eW
   by_cases h3:tk=3
   ·have q3:(tk=3)=True:=aK h3
    have LC:lN ts a= !tm:=by
     cases tm with
     |true=>exact tX.2 fun h=>(hci.1 h).1 ⟨h3,rfl⟩
     |false=>exact xO.2 (hci.2 ⟨(fun h=>by cases h.2),fun p hp=>xO.1 (eW p hp)⟩)
    refine tq (pE f0 f1 f5 fB GR h1 sH D8 q6 aHF q3) ?_;intro Nx aB Gx aG
    refine rt aC bG ?_
    exact⟨_,aE _,aX,_,aJ aX,by rw[LC]⟩
   ·have q3:(tk=3)=False:=aI h3
    have LC:lN ts a=true:=xO.2 (hci.2 ⟨fun h=>h3 h.1,fun p hp=>xO.1 (eW p hp)⟩)
    refine tq (pE f0 f1 f5 fB GR h1 sH D8 q6 aHF q3) ?_;intro Nx aB Gx aG
    refine rt aC bG ?_
    exact⟨_,aE _,aX,_,aJ aX,by rw[LC]⟩
  have q6:=lT j ta.length (by omega)
  have w3:=wS j (by omega)
  have AX:(ta.map iD)[j]?=some (iD ta[j]):=by rw[cR,cP kR];rfl
  have hxl:ta[j]∈ta:=bZ kR
  have a0c:=hdn _ hxl
  refine tq (F0 f0 f1 f5 fB GR h1 sH D8 aHF q6 AX hx cL kR) ?_;intro Nx aB Gx aG
  refine(ih (ta[j]+1).toNat (by omega) ta[j] _ (by omega)).mono ?_
  rintro d _ ⟨rfl,rfl⟩
  by_cases hb:lN ts ta[j]=true
  ·rw[hb]
   refine tq (cZ f5 w3) ?_;intro Nx aB Gx aG
   refine⟨kR,bG,f0,f1,rfl,hH,fun x hx=>?_⟩
   rw[dH kR] at hx
   rcases cS.1 hx with hx|hx
   ·exact eW x hx
   ·rw[eS] at hx;rw[hx];exact hb
  ·rw[Bool.not_eq_true] at hb
   have LC:lN ts a=false:=tX.2 fun h=>tX.1 hb ((hci.1 h).2 _ hxl)
   rw[hb]
   refine tq trivial ?_;intro Nx aB Gx aG
   refine rt aC bG ?_
   exact⟨_,aE _,aX,_,aJ aX,by rw[LC]⟩
theorem CY (p:pO) (H:aA) (hp:fC p.pr.length):aT prog 126 [.agg (kT p)] H fun d H'=>d=.val (.bool (eV p))/\H=H':=by
 refine bM (K:=fun d=>d=.val (.bool (eV p))) ?_
 have aR:=aE H
 have cI:=lm pD p.pr
 obtain⟨y,hy⟩:∃y,y=eV p:=⟨_,rfl⟩
 rw[<-hy]
 unfold eV at hy
 refine aN _ _ func126 rfl rfl ntmps126 results126 (by simp) fun w0 g0 Q aC=>?_
 refine tq @kT.eq_1 ?_;intro Nx aB Gx aG
 intro c1 l9
 refine aB _ ?_
 refine fW 1 l9 ?_
 by_cases h1:p.lo=0
 case neg=>
  have q1:(p.lo=0)=False:=aI h1
  have e:y=false:=by rw[hy,bC h1,fS]
  exact oz aC q1 aR e
 have q1:(p.lo=0)=True:=aK h1
 by_cases h2:p.pr.length=0
 ·have q2:((p.pr.length:Int)=0)=True:=aK (by omega)
  have e:y=true:=by rw[hy,bF h1,bF h2];rfl
  exact oz aC (dZ q1 q2 cI) aR e
 ·have q2:((p.pr.length:Int)=0)=False:=aI (by omega)
  have e:y=false:=by rw[hy,bC h2,kH]
  exact oz aC (dZ q1 q2 cI) aR e
theorem EI (b:iF) (p:pO) (H:aA) (ck:Ck b) (hp:fC p.pr.length):aT prog 123 [.agg (iG b),.agg (kT p)] H fun d H'=>d=.fV [i64 (qI b p).1,i64 (qI b p).2]/\H=H':=by
 refine bM (K:=fun d=>d=.fV [i64 (qI b p).1,i64 (qI b p).2]) ?_
 have aR:=aE H
 have hq:=y8 b.ty b.lc ck.wt ck.wl ck.ar _ p H rfl hp
 simp only[kT] at hq
 unfold qI
 rw[lK]
 refine aN _ _ func123 rfl rfl ntmps123 results123 (by simp) fun w0 g0 Q aC=>?_
 refine tq @kT.eq_1 ?_;intro Nx aB Gx aG
 intro c2 pZ c3 mH
 refine aB _ ?_
 obtain⟨mJ,s5⟩:=bT.1 mH;refine bS 2 rfl ((aP mJ.symm).trans (aQ _ _ _)) rfl ?_;refine bS 3 rfl ((bP mJ).trans (aQ _ _ _)) rfl ?_;refine eZ _ (iL pZ s5) ?_;simp only[St.gU,List.drop]
 refine tq trivial ?_;intro Nx aB Gx aG
 refine hq.mono ?_
 rintro d _ ⟨rfl,rfl⟩
 refine tq trivial ?_;intro Nx aB Gx aG
 refine rt aC trivial ?_
 exact⟨_,aE _,aR,_,aJ aR,rfl⟩
theorem N7 (b:iF) (p:pO) (H:aA) (ck:Ck b) (hp:fC p.pr.length):aT prog 124 [.agg (iG b),.agg (kT p)] H fun d H'=>d=.val (.bool (sP b.ty b.lc p))/\H=H':=by
 refine bM (K:=fun d=>d=.val (.bool (sP b.ty b.lc p))) ?_
 have aR:=aE H
 have hq:=aHU b.ty b.lc p H ck.wt ck.wl ck.ar hp
 simp only[kT] at hq
 rw[lK]
 refine aN _ _ func124 rfl rfl ntmps124 results124 (by simp) fun w0 g0 Q aC=>?_
 refine tq @kT.eq_1 ?_;intro Nx aB Gx aG
 intro c2 pZ c3 mH
 refine aB _ ?_
 obtain⟨mJ,s5⟩:=bT.1 mH;refine bS 2 rfl ((aP mJ.symm).trans (aQ _ _ _)) rfl ?_;refine bS 3 rfl ((bP mJ).trans (aQ _ _ _)) rfl ?_;refine eZ _ (iL pZ s5) ?_;simp only[St.gU,List.drop]
 refine tq trivial ?_;intro Nx aB Gx aG
 refine hq.mono ?_
 rintro d _ ⟨rfl,rfl⟩
 refine tq trivial ?_;intro Nx aB Gx aG
 refine rt aC trivial ?_
 exact⟨_,aE _,aR,_,aJ aR,rfl⟩
theorem IV (b:iF) (o:tE) (H:aA) (ck:Ck b) (hp:KM o):aT prog 128 [.agg (iG b),.agg (jL o)] H fun d H'=>d=i64 (qS b o)/\H=H':=by
 refine bM (K:=fun d=>d=i64 (qS b o)) ?_
 have aR:=aE H
 have lG:=EI b o.pl H ck hp
 have GS:=CY o.pl H hp
 have KE:=RC o.pl H hp
 have hcp:(qI b o.pl).2=0->aT prog 214 [.seq 5 (b.ty.map cE),i64 (qI b o.pl).1] H fun d H'=>d=.val (.bool (lN b.ty (qI b o.pl).1))/\H=H':=fun h=>by
  have:=EU ck h
  exact aHR b.ty ck.wt ck.tl ck.ar.fC b.ty.length _ H this.2
 obtain⟨y,hy⟩:∃y,y=qS b o:=⟨_,rfl⟩
 rw[<-hy]
 unfold qS at hy
 obtain⟨T,hT⟩:∃T,T=qI b o.pl:=⟨_,rfl⟩
 rw[<-hT] at hy lG hcp
 clear hT
 obtain⟨k,p,v⟩:=o
 simp only at hy hcp
 simp only[kT] at GS KE lG
 rw[lK] at lG ⊢
 refine aN _ _ func128 rfl rfl ntmps128 results128 (by simp) fun w0 g0 Q aC=>?_
 refine tq @jL.eq_1 ?_;intro Nx aB Gx aG
 intro c2 pZ c3 mH
 refine aB _ ?_
 obtain⟨mJ,s5⟩:=bT.1 mH;refine bS 2 rfl ((aP mJ.symm).trans (aQ _ _ _)) rfl ?_;refine bS 3 rfl ((bP mJ).trans (aQ _ _ _)) rfl ?_;refine eZ _ (iL pZ s5) ?_;simp only[St.gU,List.drop]
 by_cases hk:k<0
 ·have q1:(k<0)=True:=aK hk
  have e:y=14:=hy.trans (aH (.inl hk))
  exact oz aC q1 aR e
 have q1:(k<0)=False:=aI hk
 by_cases sJ:4<k
 ·have q2:(4<k)=True:=aK sJ
  have e:y=14:=hy.trans (aH (.inr sJ))
  exact oz aC (cZ q1 q2) aR e
 have q2:(4<k)=False:=aI sJ
 rw[aD (by omega)] at hy
 by_cases hv:v=0
 case neg=>
  have v0:(v=0)=False:=aI hv
  by_cases h2:k=2
  ·have k1:(1<k)=True:=aK (by omega)
   have k2:(k=2)=True:=aK h2
   have k3:(k=3)=False:=aI (by omega)
   refine tq (gE q1 q2 v0 k2 k1) ?_;intro Nx aB Gx aG
   refine GS.mono ?_
   rintro d _ ⟨rfl,rfl⟩
   cases hz:eV p
   ·have e:y=2:=hy.trans (aH (.inr ⟨by omega,hz⟩))
    exact oz aC q1 aR e
   ·have e:y=0:=hy.trans (by rw[aD (by rw[hz];rintro(⟨_,h,_⟩|⟨_,h⟩);exact h h2;cases h),aD (by omega),aH (by omega)])
    exact oz aC (cZ k1 k3) aR e
  have k2:(k=2)=False:=aI h2
  by_cases h3:k=3
  ·have k1:(1<k)=True:=aK (by omega)
   have k3:(k=3)=True:=aK h3
   refine tq (jA q1 q2 v0 k2 k3 k1) ?_;intro Nx aB Gx aG
   refine GS.mono ?_
   rintro d _ ⟨rfl,rfl⟩
   cases hz:eV p
   ·have e:y=2:=hy.trans (aH (.inr ⟨by omega,hz⟩))
    exact oz aC q1 aR e
   rw[aD (by rw[hz];rintro(⟨_,_,h⟩|⟨_,h⟩);exact h h3;cases h)] at hy
   by_cases h1:v=1
   ·have v1:(v=1)=True:=aK h1
    have e:y=0:=hy.trans (by rw[aD (by omega),aH (by omega)])
    exact oz aC (fJ k1 k3 v0 v1) aR e
   ·have v1:(v=1)=False:=aI h1
    have e:y=3:=hy.trans (aH ⟨h3,hv,h1⟩)
    exact oz aC (fJ k1 k3 v0 v1) aR e
  have k3:(k=3)=False:=aI h3
  have e:y=2:=hy.trans (aH (.inl ⟨hv,h2,h3⟩))
  exact oz aC (gE q1 q2 v0 k2 k3) aR e
 have v0:(v=0)=True:=aK hv
 by_cases h1:1<k
 ·have k1:(1<k)=True:=aK h1
  refine tq (fJ q1 q2 v0 k1) ?_;intro Nx aB Gx aG
  refine GS.mono ?_
  rintro d _ ⟨rfl,rfl⟩
  cases hz:eV p
  ·have e:y=2:=hy.trans (aH (.inr ⟨by omega,hz⟩))
   exact oz aC q1 aR e
  have e:y=0:=hy.trans (by rw[aD (by rw[hz];rintro(⟨h,_⟩|⟨_,h⟩);exact h hv;cases h),aD (by omega),aH (by omega)])
  by_cases h3:k=3
  ·have k3:(k=3)=True:=aK h3
   exact oz aC (dZ k1 k3 v0) aR e
  ·have k3:(k=3)=False:=aI h3
   exact oz aC (dZ k1 k3 v0) aR e
 have k1:(1<k)=False:=aI h1
 have k3:(k=3)=False:=aI (by omega)
 rw[aD (by omega),aD (by omega),aD (by omega)] at hy
 refine tq (gE q1 q2 v0 k1 k3) ?_;intro Nx aB Gx aG
 refine lG.mono ?_
 rintro d _ ⟨rfl,rfl⟩
 by_cases h2:T.2=0
 case neg=>
  have q3:(T.2=0)=False:=aI h2
  have e:y=T.2:=hy.trans (aH h2)
  exact oz aC q3 aR e
 have q3:(T.2=0)=True:=aK h2
 rw[aD (fun h=>h h2)] at hy
 by_cases yW:k=0
 ·have k0:(k=0)=True:=aK yW
  have k01:(k=1)=False:=aI (by omega)
  refine tq (cZ q3 k0) ?_;intro Nx aB Gx aG
  refine(hcp h2).mono ?_
  rintro d _ ⟨rfl,rfl⟩
  cases hc:lN b.ty T.1
  ·have e:y=22:=hy.trans (aH (.inl ⟨yW,hc⟩))
   exact oz aC (cZ k0 k01) aR e
  ·have e:y=0:=hy.trans (aD (by rw[hc];rintro(⟨_,h⟩|⟨h,_⟩);cases h;omega))
   exact oz aC (cZ k0 k01) aR e
 ·have k0:(k=0)=False:=aI yW
  have k01:(k=1)=True:=aK (by omega)
  refine tq (dZ q3 k0 k01) ?_;intro Nx aB Gx aG
  refine KE.mono ?_
  rintro d _ ⟨rfl,rfl⟩
  cases hc:tL p 0
  ·have e:y=0:=hy.trans (aD (by rw[hc];rintro(⟨h,_⟩|⟨_,h⟩);omega;cases h))
   exact oz aC (cZ k0 k01) aR e
  ·have e:y=22:=hy.trans (aH (.inr ⟨by omega,hc⟩))
   exact oz aC (cZ k0 k01) aR e
theorem IT (b:iF) (o:tE) (kd:Int) (H:aA) (ck:Ck b) (hp:KM o) (hz:qS b o=0):aT prog 129 [.agg (iG b),.agg (jL o),i64 kd] H fun d H'=>d=.val (.bool (decide (B6 b o=kd)))/\H=H':=by
 refine bM (K:=fun d=>d=.val (.bool (decide (B6 b o=kd)))) ?_
 have aR:=aE H
 have lG:=EI b o.pl H ck hp
 obtain⟨hk5,mZ⟩:=OF hz
 obtain⟨y,hy⟩:∃y,y=decide (B6 b o=kd):=⟨_,rfl⟩
 rw[<-hy]
 unfold B6 at hy
 have jX:o.k<=1->dG b.ty.length (qI b o.pl).1:=fun h=>EU ck (mZ h)
 obtain⟨T,hT⟩:∃T,T=qI b o.pl:=⟨_,rfl⟩
 rw[<-hT] at hy lG jX
 have iX:=lm cE b.ty
 obtain⟨k,p,v⟩:=o
 simp only at hy hk5 jX
 clear hT mZ hz
 simp only[kT] at lG
 rw[lK] at lG ⊢
 refine aN _ _ func129 rfl rfl ntmps129 results129 (by simp) fun w0 g0 Q aC=>?_
 refine tq @jL.eq_1 ?_;intro Nx aB Gx aG
 intro c3 mH c4 wQ
 refine aB _ ?_
 obtain⟨mJ,s5⟩:=bT.1 wQ;refine bS 3 rfl ((aP mJ.symm).trans (aQ _ _ _)) rfl ?_;refine bS 4 rfl ((bP mJ).trans (aQ _ _ _)) rfl ?_;refine eZ _ (iL mH s5) ?_;simp only[St.gU,List.drop]
 by_cases hk:1<k
 ·have k1:(1<k)=True:=aK hk
  have fin:∀z:Int,(if k=2 then (2:Int) else if k=3 then 1 else if k=4 then 0 else (cJ b.ty T.1).k)=z->y=decide (kd=z):=fun z h=>by
   rw[hy,h]
   by_cases hz:z=kd
   ·subst hz;rfl
   ·rw[bC hz,bC (fun h=>hz h.symm)]
  by_cases h2:k=2
  ·have k2:(k=2)=True:=aK h2
   have k3:(k=3)=False:=aI (by omega)
   have k4:(k=4)=False:=aI (by omega)
   have e:=fin 2 (aH h2)
   by_cases hd:kd=2
   ·have d2:(kd=2)=True:=aK hd
    rw[bF hd] at e
    exact oz aC (gE k1 k2 k3 k4 d2) aR e
   ·have d2:(kd=2)=False:=aI hd
    rw[bC hd] at e
    exact oz aC (gE k1 k2 k3 k4 d2) aR e
  have k2:(k=2)=False:=aI h2
  by_cases h3:k=3
  ·have k3:(k=3)=True:=aK h3
   have k4:(k=4)=False:=aI (by omega)
   have e:=fin 1 (by rw[aD h2,aH h3])
   by_cases hd:kd=1
   ·have d2:(kd=1)=True:=aK hd
    rw[bF hd] at e
    exact oz aC (gE k1 k2 k3 k4 d2) aR e
   ·have d2:(kd=1)=False:=aI hd
    rw[bC hd] at e
    exact oz aC (gE k1 k2 k3 k4 d2) aR e
  have k3:(k=3)=False:=aI h3
  have k4:(k=4)=True:=aK (by omega)
  have e:=fin 0 (by rw[aD h2,aD h3,aH (by omega)])
  by_cases hd:kd=0
  ·have d2:(kd=0)=True:=aK hd
   rw[bF hd] at e
   exact oz aC (gE k1 k2 k3 k4 d2) aR e
  ·have d2:(kd=0)=False:=aI hd
   rw[bC hd] at e
   exact oz aC (gE k1 k2 k3 k4 d2) aR e
 have k1:(1<k)=False:=aI hk
 rw[aD (by omega),aD (by omega),aD (by omega)] at hy
 have jX:=jX (by omega)
 have nY:=kC jX
 have yY:T.1.toNat<b.ty.length:=by unfold dG at jX;omega
 have B4:0<=T.1:=by unfold dG at jX;omega
 obtain⟨t,ht⟩:∃t,t=cJ b.ty T.1:=⟨_,rfl⟩
 rw[<-ht] at nY hy
 simp only[cE] at nY
 refine tq k1 ?_;intro Nx aB Gx aG
 refine lG.mono ?_
 rintro d _ ⟨rfl,rfl⟩
 have e:=hy
 by_cases hd:t.k=kd
 ·have d2:(t.k=kd)=True:=aK hd
  rw[bF hd] at e
  exact oz aC (gE nY yY B4 iX d2) aR e
 ·have d2:(t.k=kd)=False:=aI hd
  rw[bC hd] at e
  exact oz aC (gE nY yY B4 iX d2) aR e
theorem aEN (b:iF) (o:tE) (t:Int) (H:aA) (ck:Ck b) (hp:KM o) (hz:qS b o=0) (ht:dG b.ty.length t):aT prog 213 [.agg (iG b),.agg (jL o),i64 t] H fun d H'=>d=.val (.bool (uB b o t))/\H=H':=by
 refine bM (K:=fun d=>d=.val (.bool (uB b o t))) ?_
 have aR:=aE H
 have lG:=EI b o.pl H ck hp
 have EB:∀H1,dY prog 129 [.agg (iG b),.agg (jL o),i64 (cJ b.ty t).k] H1 fun d A=>A=aA.none/\d=.val (.bool (decide (B6 b o=(cJ b.ty t).k))):=fun H1=>bN fun eL eO=>IT b o _ eL ck hp hz
 obtain⟨hk5,mZ⟩:=OF hz
 have IQ:o.k<=1->aT prog 299 [.seq 2 (b.ol.map pD),i64 b.rg.length,.seq 5 (b.ty.map cE),i64 (qI b o.pl).1,i64 t] H fun d H'=>d=.val (.bool (GH b.ol b.rg.length b.ty (qI b o.pl).1 t))/\H=H':=fun h=>by
  have:=EU ck (mZ h)
  exact aHV b.ol b.rg.length b.ty ck.wt ck.ol (by have:=ck.rgl;omega) ck.oll ck.tl ck.ar.fC b.ty.length _ _ H this.2 ht.2
 have BN:=lm sD b.rg
 obtain⟨y,hy⟩:∃y,y=uB b o t:=⟨_,rfl⟩
 rw[<-hy]
 unfold uB at hy
 obtain⟨T,hT⟩:∃T,T=qI b o.pl:=⟨_,rfl⟩
 obtain⟨kd,QW⟩:∃kd,kd=B6 b o:=⟨_,rfl⟩
 rw[<-hT] at hy lG IQ
 rw[<-QW] at hy EB
 have nY:=kC ht
 have yY:t.toNat<b.ty.length:=by unfold dG at ht;omega
 have B4:0<=t:=by unfold dG at ht;omega
 obtain⟨u,hu⟩:∃u,u=cJ b.ty t:=⟨_,rfl⟩
 rw[<-hu] at nY hy EB
 have iX:=lm cE b.ty
 obtain⟨k,p,v⟩:=o
 simp only at hy hk5 IQ
 clear hT mZ hz QW hu
 simp only[cE] at nY
 simp only[jL] at EB
 simp only[kT] at lG
 rw[lK] at lG EB ⊢
 refine aN _ _ func213 rfl rfl ntmps213 results213 (by simp) fun w0 g0 Q aC=>?_
 refine tq @jL.eq_1 ?_;intro Nx aB Gx aG
 intro c3 mH c4 wQ
 refine aB _ ?_
 obtain⟨mJ,s5⟩:=bT.1 wQ;refine bS 3 rfl ((aP mJ.symm).trans (aQ _ _ _)) rfl ?_;refine bS 4 rfl ((bP mJ).trans (aQ _ _ _)) rfl ?_;refine eZ _ (iL mH s5) ?_;simp only[St.gU,List.drop]
 by_cases hk:1<k
 ·have k1:(1<k)=True:=aK hk
  have e:=hy.trans (aH hk)
  refine tq k1 ?_;intro Nx aB Gx aG
  refine dE (fun _ _ d A=>A=.none/\d=.val (.bool (decide (kd=u.k)))) fun Nx aB=>?_;refine dst (fJ nY yY B4 iX) ?_;intro Nx aB Gx aG
  refine⟨EB _,?_⟩
  (first|refine aG _ ?_|refine aB _ ?_|skip)
  exact oz aC k1 aR e
 have k1:(1<k)=False:=aI hk
 have e:=hy.trans (aD hk)
 refine tq k1 ?_;intro Nx aB Gx aG
 refine lG.mono ?_
 rintro d _ ⟨rfl,rfl⟩
 refine tq BN ?_;intro Nx aB Gx aG
 refine(IQ (by omega)).mono ?_
 rintro d _ ⟨rfl,rfl⟩
 exact oz aC k1 aR e
def TI (r:HN):Bool:=decide (r.k=0)&&(decide (r.op=0)&&(decide (r.rg=0)&&(!r.mu&&(eV r.pl&&decide (r.ar.length=0)))))
theorem aBu (r:HN) (H:aA) (hp:KN r):aT prog 127 [.agg (GF r)] H fun d H'=>d=.val (.bool (TI r))/\H=H':=by
 refine bM (K:=fun d=>d=.val (.bool (TI r))) ?_
 have aR:=aE H
 have GS:=CY r.pl H hp.1
 have cI:=lm jL r.ar
 obtain⟨y,hy⟩:∃y,y=TI r:=⟨_,rfl⟩
 rw[<-hy]
 unfold TI at hy
 obtain⟨Z,hZ⟩:∃Z,Z=eV r.pl:=⟨_,rfl⟩
 rw[<-hZ] at GS hy
 clear hZ
 obtain⟨k,op,rg,mu,pl,ar⟩:=r
 simp only at hy cI
 simp only[kT] at GS
 simp only[GF]
 refine aN _ _ func127 rfl rfl ntmps127 results127 (by simp) fun w0 g0 Q aC=>?_
 refine tq trivial ?_;intro Nx aB Gx aG
 intro c1 l9
 refine aB _ ?_
 refine fW 1 l9 ?_
 by_cases h0:k=0
 case neg=>
  have q0:(k=0)=False:=aI h0
  have e:y=false:=by rw[hy,bC h0,fS]
  exact oz aC q0 aR e
 have q0:(k=0)=True:=aK h0
 rw[bF h0,cT] at hy
 by_cases h1:op=0
 case neg=>
  have q1:(op=0)=False:=aI h1
  have e:y=false:=by rw[hy,bC h1,fS]
  exact oz aC (cZ q0 q1) aR e
 have q1:(op=0)=True:=aK h1
 rw[bF h1,cT] at hy
 by_cases h2:rg=0
 case neg=>
  have q2:(rg=0)=False:=aI h2
  have e:y=false:=by rw[hy,bC h2,fS]
  exact oz aC (dZ q0 q1 q2) aR e
 have q2:(rg=0)=True:=aK h2
 rw[bF h2,cT] at hy
 cases mu
 case true=>
  have e:y=false:=hy
  exact oz aC (dZ q0 q1 q2) aR e
 rw[tQ,cT] at hy
 refine tq (dZ q0 q1 q2) ?_;intro Nx aB Gx aG
 refine GS.mono ?_
 rintro d _ ⟨rfl,rfl⟩
 cases Z
 ·have e:y=false:=hy
  exact oz aC q0 aR e
 rw[cT] at hy
 by_cases h3:ar.length=0
 ·have q3:((ar.length:Int)=0)=True:=aK (by omega)
  have e:y=true:=by rw[hy,bF h3]
  exact oz aC (cZ cI q3) aR e
 ·have q3:((ar.length:Int)=0)=False:=aI (by omega)
  have e:y=false:=by rw[hy,bC h3]
  exact oz aC (cZ cI q3) aR e
def aCd (r:HN):Int:=if r.k<0\/4<r.k then 14 else if KQ r=false then 2 else 0
theorem aBy (r:HN) (H:aA) (hp:KN r):aT prog 211 [.agg (GF r)] H fun d H'=>d=i64 (aCd r)/\H=H':=by
 refine bM (K:=fun d=>d=i64 (aCd r)) ?_
 have aR:=aE H
 have GS:=CY r.pl H hp.1
 have cI:=lm jL r.ar
 obtain⟨y,hy⟩:∃y,y=aCd r:=⟨_,rfl⟩
 rw[<-hy]
 unfold aCd at hy
 rw[XC] at hy
 unfold Z0 at hy
 obtain⟨Z,hZ⟩:∃Z,Z=eV r.pl:=⟨_,rfl⟩
 rw[<-hZ] at GS hy
 clear hZ
 have nM:=hp.2.1
 unfold fC at nM
 obtain⟨k,op,rg,mu,pl,ar⟩:=r
 simp only at hy cI nM
 simp only[kT] at GS
 simp only[GF]
 refine aN _ _ func211 rfl rfl ntmps211 results211 (by simp) fun w0 g0 Q aC=>?_
 refine tq trivial ?_;intro Nx aB Gx aG
 intro c1 l9
 refine aB _ ?_
 refine fW 1 l9 ?_
 by_cases h1:k<0
 ·have q1:(k<0)=True:=aK h1
  have e:y=14:=hy.trans (aH (.inl h1))
  exact oz aC q1 aR e
 have q1:(k<0)=False:=aI h1
 by_cases h2:4<k
 ·have q2:(4<k)=True:=aK h2
  have e:y=14:=hy.trans (aH (.inr h2))
  exact oz aC (cZ q1 q2) aR e
 have q2:(4<k)=False:=aI h2
 rw[aD (by omega)] at hy
 by_cases yW:k=0
 ·have k0:(k=0)=True:=aK (by omega)
  have k1:(k=1)=False:=aI (by omega)
  have k2:(k=2)=False:=aI (by omega)
  have k3:(k=3)=False:=aI (by omega)
  rw[aD (by omega:¬k=1)] at hy
  rw[aH (by omega:k=0)] at hy
  by_cases h3:op=0
  case neg=>
   have q3:(op=0)=False:=aI h3
   have e:y=2:=by rw[hy,bC h3];simp
   exact oz aC (lM q1 q2 k0 k1 k2 k3 q3) aR e
  have q3:(op=0)=True:=aK h3
  rw[bF h3] at hy
  by_cases h5:rg=0
  case neg=>
   have q5:(rg=0)=False:=aI h5
   have e:y=2:=by rw[hy,bC h5];rfl
   exact oz aC (qN q1 q2 k0 k1 k2 k3 q3 q5) aR e
  have q5:(rg=0)=True:=aK h5
  rw[bF h5] at hy
  cases mu
  case true=>
   have e:y=2:=hy
   exact oz aC (qN q1 q2 k0 k1 k2 k3 q3 q5) aR e
  refine tq (qN q1 q2 k0 k1 k2 k3 q3 q5) ?_;intro Nx aB Gx aG
  refine GS.mono ?_
  rintro d _ ⟨rfl,rfl⟩
  cases Z
  ·have e:y=2:=hy
   exact oz aC (jA q1 q2 k0 k1 k2 k3) aR e
  by_cases h4:ar.length=1
  ·have q4:((ar.length:Int)=1)=True:=aK (by omega)
   have e:y=0:=by rw[hy,bF h4];rfl
   exact oz aC (qN q1 q2 k0 k1 k2 k3 q4 cI) aR e
  ·have q4:((ar.length:Int)=1)=False:=aI (by omega)
   have e:y=2:=by rw[hy,bC h4];simp
   exact oz aC (qN q1 q2 k0 k1 k2 k3 q4 cI) aR e
 by_cases mZ:k=1
 ·have k0:(k=0)=False:=aI (by omega)
  have k1:(k=1)=True:=aK (by omega)
  have k2:(k=2)=False:=aI (by omega)
  have k3:(k=3)=False:=aI (by omega)
  rw[aH mZ] at hy
  by_cases h3:op=0
  case neg=>
   have q3:(op=0)=False:=aI h3
   have e:y=2:=by rw[hy,bC h3];rfl
   exact oz aC (lM q1 q2 k0 k1 k2 k3 q3) aR e
  have q3:(op=0)=True:=aK h3
  rw[bF h3,cT] at hy
  by_cases h4:ar.length=0
  ·have q4:((0:Int)<(ar.length:Int))=False:=aI (by omega)
   have e:y=0:=by rw[hy,bF h4];rfl
   exact oz aC (yP q1 q2 k0 k1 k2 k3 q3 q4 cI) aR e
  ·have q4:((0:Int)<(ar.length:Int))=True:=aK (by omega)
   have e:y=2:=by rw[hy,bC h4];rfl
   exact oz aC (yP q1 q2 k0 k1 k2 k3 q3 q4 cI) aR e
 by_cases iQ:k=2
 ·have k0:(k=0)=False:=aI (by omega)
  have k1:(k=1)=False:=aI (by omega)
  have k2:(k=2)=True:=aK (by omega)
  have k3:(k=3)=False:=aI (by omega)
  rw[aD (by omega:¬k=1)] at hy
  rw[aD (by omega:¬k=0)] at hy
  rw[aH (by omega:k=2)] at hy
  by_cases h5:rg=0
  case neg=>
   have q5:(rg=0)=False:=aI h5
   have e:y=2:=by rw[hy,bC h5];rfl
   exact oz aC (lM q1 q2 k0 k1 k2 k3 q5) aR e
  have q5:(rg=0)=True:=aK h5
  rw[bF h5] at hy
  cases mu
  case true=>
   have e:y=2:=hy
   exact oz aC (lM q1 q2 k0 k1 k2 k3 q5) aR e
  refine tq (lM q1 q2 k0 k1 k2 k3 q5) ?_;intro Nx aB Gx aG
  refine GS.mono ?_
  rintro d _ ⟨rfl,rfl⟩
  cases Z
  ·have e:y=2:=hy
   exact oz aC (jA q1 q2 k0 k1 k2 k3) aR e
  by_cases h4:ar.length=1
  ·have q4:((ar.length:Int)=1)=True:=aK (by omega)
   have e:y=0:=by rw[hy,bF h4];rfl
   exact oz aC (qN q1 q2 k0 k1 k2 k3 q4 cI) aR e
  ·have q4:((ar.length:Int)=1)=False:=aI (by omega)
   have e:y=2:=by rw[hy,bC h4];simp
   exact oz aC (qN q1 q2 k0 k1 k2 k3 q4 cI) aR e
 by_cases s9:k=3
 ·have k0:(k=0)=False:=aI (by omega)
  have k1:(k=1)=False:=aI (by omega)
  have k2:(k=2)=False:=aI (by omega)
  have k3:(k=3)=True:=aK (by omega)
  rw[aD (by omega:¬k=1)] at hy
  rw[aD (by omega:¬k=0)] at hy
  rw[aD (by omega:¬k=2)] at hy
  rw[aH (by omega:k=3)] at hy
  by_cases h5:rg=0
  case neg=>
   have q5:(rg=0)=False:=aI h5
   have e:y=2:=by rw[hy,bC h5];rfl
   exact oz aC (lM q1 q2 k0 k1 k2 k3 q5) aR e
  have q5:(rg=0)=True:=aK h5
  rw[bF h5] at hy
  cases mu
  case true=>
   have e:y=2:=hy
   exact oz aC (lM q1 q2 k0 k1 k2 k3 q5) aR e
  refine tq (lM q1 q2 k0 k1 k2 k3 q5) ?_;intro Nx aB Gx aG
  refine GS.mono ?_
  rintro d _ ⟨rfl,rfl⟩
  cases Z
  ·have e:y=2:=hy
   exact oz aC (jA q1 q2 k0 k1 k2 k3) aR e
  by_cases h4:ar.length=2
  ·have q4:((ar.length:Int)=2)=True:=aK (by omega)
   have e:y=0:=by rw[hy,bF h4];rfl
   exact oz aC (qN q1 q2 k0 k1 k2 k3 q4 cI) aR e
  ·have q4:((ar.length:Int)=2)=False:=aI (by omega)
   have e:y=2:=by rw[hy,bC h4];simp
   exact oz aC (qN q1 q2 k0 k1 k2 k3 q4 cI) aR e
 have k0:(k=0)=False:=aI (by omega)
 have k1:(k=1)=False:=aI (by omega)
 have k2:(k=2)=False:=aI (by omega)
 have k3:(k=3)=False:=aI (by omega)
 rw[aD (by omega:¬k=1)] at hy
 rw[aD (by omega:¬k=0)] at hy
 rw[aD (by omega:¬k=2)] at hy
 rw[aD (by omega:¬k=3)] at hy
 by_cases h3:op=0
 case neg=>
  have q3:(op=0)=False:=aI h3
  have e:y=2:=by rw[hy,bC h3];simp
  exact oz aC (lM q1 q2 k0 k1 k2 k3 q3) aR e
 have q3:(op=0)=True:=aK h3
 rw[bF h3] at hy
 by_cases h5:rg=0
 case neg=>
  have q5:(rg=0)=False:=aI h5
  have e:y=2:=by rw[hy,bC h5];rfl
  exact oz aC (qN q1 q2 k0 k1 k2 k3 q3 q5) aR e
 have q5:(rg=0)=True:=aK h5
 rw[bF h5] at hy
 cases mu
 case true=>
  have e:y=2:=hy
  exact oz aC (qN q1 q2 k0 k1 k2 k3 q3 q5) aR e
 refine tq (qN q1 q2 k0 k1 k2 k3 q3 q5) ?_;intro Nx aB Gx aG
 refine GS.mono ?_
 rintro d _ ⟨rfl,rfl⟩
 cases Z
 ·have e:y=2:=hy
  exact oz aC (jA q1 q2 k0 k1 k2 k3) aR e
 have e:y=0:=hy
 exact oz aC (jA q1 q2 k0 k1 k2 k3) aR e
end Go.Proofs.YtelbfbioomcmeaaGreatDoor

