/- Lemmas and contracts of functions, several texts in one. -/
import Derived.Test.YtfiipaodjpiooaaGreatDoorQ31
import Derived.Test.YtfiipaodjpiooaaGreatDoorQ32
set_option maxRecDepth 100000
set_option maxHeartbeats 4000000
set_option linter.all false
namespace Go.Proofs.YtfiipaodjpiooaaGreatDoor
open Go.RowKit
open Tryz
theorem aO9 (ts:List dS) (hw:zJ ts) (wI:ts.length<=1000000) (oF:∀t∈ts,t.ar.length<=140737488351232):
  ∀(kk:Nat) (a:Int) (H:aC),a<kk->bE prog 145 [.seq 5 (ts.map cP),i64 a] H fun d H'=>d=.val (.bool (pK ts a))/\H=H':=by
 intro kk
 induction kk using Nat.strongRecOn with
 |ind kk ih=>
  intro a H hak
  refine bO (K:=fun d=>d=.val (.bool (pK ts a))) ?_
  have fN:=lm cP ts
  have aS:=aG H
  refine aQ _ _ func145 rfl rfl ntmps145 results145 (by simp) fun w0 g0 Q aD=>?_
  by_cases h1:0<=a
  case neg=>
   have OT:pK ts a=false:=zZ.2 fun h=>h1 h.1.1
   have q1:(a<0)=True:=aK (by omega)
   refine tq (dG fN q1) ?_;intro Nx aB Gx aF
   refine rt aD trivial ?_
   exact⟨_,aG _,aS,_,aH aS,by rw[OT]⟩
  have q1:(a<0)=False:=aI (by omega)
  by_cases h2:a<ts.length
  case neg=>
   have OT:pK ts a=false:=zZ.2 fun h=>h2 h.1.2
   have q2:((ts.length:Int)<=a)=True:=aK (by omega)
   refine tq (eA fN q1 q2) ?_;intro Nx aB Gx aF
   refine rt aD trivial ?_
   exact⟨_,aG _,aS,_,aH aS,by rw[OT]⟩
  have q2:((ts.length:Int)<=a)=False:=aI (by omega)
  have ha:cE ts.length a:=⟨h1,h2⟩
  have EK:=mD ha
  have hci:=aDJ hw ha
  have hdn:=Dn.F hw a ha
  have JK:(cZ ts a).ar.length<=140737488351232:=oF _ (wV ha)
  obtain⟨t,ht⟩:∃t,t=cZ ts a:=⟨_,rfl⟩
  unfold aLY at hdn
  rw[<-ht] at EK hdn JK hci
  obtain⟨tk,tm,tr,te,ta⟩:=t
  simp only[cP] at EK
  simp only at JK
  have aOS:=lm iD ta
  have rJ:a.toNat<ts.length:=by omega
  have BA:a<(ts.length:Int):=ha.2
  refine tq (eA fN q1 q2) ?_;intro Nx aB Gx aF
  refine aZ ta.length (fun j s=>s.df=[]/\s.fr 0=.seq 5 (ts.map cP)/\s.fr 1=i64 a/\s.fr 5=i64 j/\s.H=H/\∀x∈ta.take j,pK ts x=true) ⟨rfl,rfl,rfl,rfl,rfl,by simp⟩ ?_
  rintro j s hj ⟨aT,f0,f1,f5,hH,fF⟩
  have aY:H.le s.H:=by rw[hH];exact aS
  have hx:=bI j
  have cJ:=bM j
  by_cases fQ:j<ta.length
  case neg=>
   have q6:=lF j ta.length (by omega)
   rw[cW (by omega)] at fF
   by_cases h3:tk=3
   ·have q3:(tk=3)=True:=aK h3
    have OT:pK ts a= !tm:=by
     cases tm with
     |true=>exact zZ.2 fun h=>(hci.1 h).1 ⟨h3,rfl⟩
     |false=>exact EA.2 (hci.2 ⟨(fun h=>by cases h.2),fun p hp=>EA.1 (fF p hp)⟩)
    refine tq (rQ f0 f1 f5 fN EK h1 rJ BA q6 aOS q3) ?_;intro Nx aB Gx aF
    refine rt aD aT ?_
    exact⟨_,aG _,aY,_,aH aY,by rw[OT]⟩
   ·have q3:(tk=3)=False:=aI h3
    have OT:pK ts a=true:=EA.2 (hci.2 ⟨fun h=>h3 h.1,fun p hp=>EA.1 (fF p hp)⟩)
    refine tq (rQ f0 f1 f5 fN EK h1 rJ BA q6 aOS q3) ?_;intro Nx aB Gx aF
    refine rt aD aT ?_
    exact⟨_,aG _,aY,_,aH aY,by rw[OT]⟩
  have q6:=lT j ta.length (by omega)
  have w3:=wS j (by omega)
  have qR:(ta.map iD)[j]?=some (iD ta[j]):=by rw[dN,bX fQ];rfl
  have hxl:ta[j]∈ta:=bU fQ
  have a2G:=hdn _ hxl
  refine tq (DH f0 f1 f5 fN EK h1 rJ BA aOS q6 qR hx cJ fQ) ?_;intro Nx aB Gx aF
  refine(ih (ta[j]+1).toNat (by omega) ta[j] _ (by omega)).mono ?_
  rintro d _ ⟨rfl,rfl⟩
  by_cases hb:pK ts ta[j]=true
  ·rw[hb]
   refine tq (dG f5 w3) ?_;intro Nx aB Gx aF
   refine⟨fQ,aT,f0,f1,rfl,hH,fun x hx=>?_⟩
   rw[dH fQ] at hx
   rcases bV.1 hx with hx|hx
   ·exact fF x hx
   ·rw[cR] at hx;rw[hx];exact hb
  ·rw[Bool.not_eq_true] at hb
   have OT:pK ts a=false:=zZ.2 fun h=>zZ.1 hb ((hci.1 h).2 _ hxl)
   rw[hb]
   refine tq trivial ?_;intro Nx aB Gx aF
   refine rt aD aT ?_
   exact⟨_,aG _,aY,_,aH aY,by rw[OT]⟩
theorem JV (p:pA) (H:aC) (hp:dO p.pr.length):bE prog 95 [.agg (lN p)] H fun d H'=>d=.val (.bool (gL p))/\H=H':=by
 refine bO (K:=fun d=>d=.val (.bool (gL p))) ?_
 have aS:=aG H
 have dX:=lm pD p.pr
 obtain⟨y,hy⟩:∃y,y=gL p:=⟨_,rfl⟩
 rw[<-hy]
 unfold gL at hy
 refine aQ _ _ func95 rfl rfl ntmps95 results95 (by simp) fun w0 g0 Q aD=>?_
 refine tq @lN.eq_1 ?_;intro Nx aB Gx aF
 intro c1 mA
 refine aB _ ?_
 refine fZ 1 mA ?_
 by_cases h1:p.lo=0
 case neg=>
  have q1:(p.lo=0)=False:=aI h1
  have e:y=false:=by rw[hy,bB h1,gC]
  exact oz aD q1 aS e
 have q1:(p.lo=0)=True:=aK h1
 by_cases h2:p.pr.length=0
 ·have q2:((p.pr.length:Int)=0)=True:=aK (by omega)
  have e:y=true:=by rw[hy,bG h1,bG h2];rfl
  exact oz aD (eA q1 q2 dX) aS e
 ·have q2:((p.pr.length:Int)=0)=False:=aI (by omega)
  have e:y=false:=by rw[hy,bB h2,kI]
  exact oz aD (eA q1 q2 dX) aS e
theorem L3 (b:cT) (p:pA) (H:aC) (ck:Ck b) (hp:dO p.pr.length):bE prog 92 [.agg (iS b),.agg (lN p)] H fun d H'=>d=.pG [i64 (uE b p).1,i64 (uE b p).2]/\H=H':=by
 refine bO (K:=fun d=>d=.pG [i64 (uE b p).1,i64 (uE b p).2]) ?_
 have aS:=aG H
 have hq:=FB b.ty b.lc ck.wt ck.wl ck.ar _ p H rfl hp
 simp only[lN] at hq
 unfold uE
 rw[pI]
 refine aQ _ _ func92 rfl rfl ntmps92 results92 (by simp) fun w0 g0 Q aD=>?_
 refine tq @lN.eq_1 ?_;intro Nx aB Gx aF
 intro c2 lH c3 j5
 refine aB _ ?_
 obtain⟨lK,sH⟩:=bY.1 j5;refine cA 2 rfl ((aN lK.symm).trans (aO _ _ _)) rfl ?_;refine cA 3 rfl ((bS lK).trans (aO _ _ _)) rfl ?_;refine eV _ (kF lH sH) ?_;simp only[St.jH,List.drop]
 refine tq trivial ?_;intro Nx aB Gx aF
 refine hq.mono ?_
 rintro d _ ⟨rfl,rfl⟩
 refine tq trivial ?_;intro Nx aB Gx aF
 refine rt aD trivial ?_
 exact⟨_,aG _,aS,_,aH aS,rfl⟩
theorem YN (b:cT) (p:pA) (H:aC) (ck:Ck b) (hp:dO p.pr.length):bE prog 93 [.agg (iS b),.agg (lN p)] H fun d H'=>d=.val (.bool (x9 b.ty b.lc p))/\H=H':=by
 refine bO (K:=fun d=>d=.val (.bool (x9 b.ty b.lc p))) ?_
 have aS:=aG H
 have hq:=aOf b.ty b.lc p H ck.wt ck.wl ck.ar hp
 simp only[lN] at hq
 rw[pI]
 refine aQ _ _ func93 rfl rfl ntmps93 results93 (by simp) fun w0 g0 Q aD=>?_
 refine tq @lN.eq_1 ?_;intro Nx aB Gx aF
 intro c2 lH c3 j5
 refine aB _ ?_
 obtain⟨lK,sH⟩:=bY.1 j5;refine cA 2 rfl ((aN lK.symm).trans (aO _ _ _)) rfl ?_;refine cA 3 rfl ((bS lK).trans (aO _ _ _)) rfl ?_;refine eV _ (kF lH sH) ?_;simp only[St.jH,List.drop]
 refine tq trivial ?_;intro Nx aB Gx aF
 refine hq.mono ?_
 rintro d _ ⟨rfl,rfl⟩
 refine tq trivial ?_;intro Nx aB Gx aF
 refine rt aD trivial ?_
 exact⟨_,aG _,aS,_,aH aS,rfl⟩
theorem RP (b:cT) (o:qV) (H:aC) (ck:Ck b) (hp:RW o):bE prog 97 [.agg (iS b),.agg (jW o)] H fun d H'=>d=i64 (qU b o)/\H=H':=by
 refine bO (K:=fun d=>d=i64 (qU b o)) ?_
 have aS:=aG H
 have pE:=L3 b o.pl H ck hp
 have O0:=JV o.pl H hp
 have K5:=aAn o.pl H hp
 have TE:(uE b o.pl).2=0->bE prog 145 [.seq 5 (b.ty.map cP),i64 (uE b o.pl).1] H fun d H'=>d=.val (.bool (pK b.ty (uE b o.pl).1))/\H=H':=fun h=>by
  have:=MK ck h
  exact aO9 b.ty ck.wt ck.tl ck.ar.dO b.ty.length _ H this.2
 obtain⟨y,hy⟩:∃y,y=qU b o:=⟨_,rfl⟩
 rw[<-hy]
 unfold qU at hy
 obtain⟨T,hT⟩:∃T,T=uE b o.pl:=⟨_,rfl⟩
 rw[<-hT] at hy pE TE
 clear hT
 obtain⟨k,p,v⟩:=o
 simp only at hy TE
 simp only[lN] at O0 K5 pE
 rw[pI] at pE ⊢
 refine aQ _ _ func97 rfl rfl ntmps97 results97 (by simp) fun w0 g0 Q aD=>?_
 refine tq @jW.eq_1 ?_;intro Nx aB Gx aF
 intro c2 lH c3 j5
 refine aB _ ?_
 obtain⟨lK,sH⟩:=bY.1 j5;refine cA 2 rfl ((aN lK.symm).trans (aO _ _ _)) rfl ?_;refine cA 3 rfl ((bS lK).trans (aO _ _ _)) rfl ?_;refine eV _ (kF lH sH) ?_;simp only[St.jH,List.drop]
 by_cases hk:k<0
 ·have q1:(k<0)=True:=aK hk
  have e:y=14:=hy.trans (aE (.inl hk))
  exact oz aD q1 aS e
 have q1:(k<0)=False:=aI hk
 by_cases vE:4<k
 ·have q2:(4<k)=True:=aK vE
  have e:y=14:=hy.trans (aE (.inr vE))
  exact oz aD (dG q1 q2) aS e
 have q2:(4<k)=False:=aI vE
 rw[aA (by omega)] at hy
 by_cases hv:v=0
 case neg=>
  have v0:(v=0)=False:=aI hv
  by_cases h2:k=2
  ·have k1:(1<k)=True:=aK (by omega)
   have k2:(k=2)=True:=aK h2
   have k3:(k=3)=False:=aI (by omega)
   refine tq (jE q1 q2 v0 k2 k1) ?_;intro Nx aB Gx aF
   refine O0.mono ?_
   rintro d _ ⟨rfl,rfl⟩
   cases hz:gL p
   ·have e:y=2:=hy.trans (aE (.inr ⟨by omega,hz⟩))
    exact oz aD q1 aS e
   ·have e:y=0:=hy.trans (by rw[aA (by rw[hz];rintro(⟨_,h,_⟩|⟨_,h⟩);exact h h2;cases h),aA (by omega),aE (by omega)])
    exact oz aD (dG k1 k3) aS e
  have k2:(k=2)=False:=aI h2
  by_cases h3:k=3
  ·have k1:(1<k)=True:=aK (by omega)
   have k3:(k=3)=True:=aK h3
   refine tq (kB q1 q2 v0 k2 k3 k1) ?_;intro Nx aB Gx aF
   refine O0.mono ?_
   rintro d _ ⟨rfl,rfl⟩
   cases hz:gL p
   ·have e:y=2:=hy.trans (aE (.inr ⟨by omega,hz⟩))
    exact oz aD q1 aS e
   rw[aA (by rw[hz];rintro(⟨_,_,h⟩|⟨_,h⟩);exact h h3;cases h)] at hy
   by_cases h1:v=1
   ·have v1:(v=1)=True:=aK h1
    have e:y=0:=hy.trans (by rw[aA (by omega),aE (by omega)])
    exact oz aD (gQ k1 k3 v0 v1) aS e
   ·have v1:(v=1)=False:=aI h1
    have e:y=3:=hy.trans (aE ⟨h3,hv,h1⟩)
    exact oz aD (gQ k1 k3 v0 v1) aS e
  have k3:(k=3)=False:=aI h3
  have e:y=2:=hy.trans (aE (.inl ⟨hv,h2,h3⟩))
  exact oz aD (jE q1 q2 v0 k2 k3) aS e
 have v0:(v=0)=True:=aK hv
 by_cases h1:1<k
 ·have k1:(1<k)=True:=aK h1
  refine tq (gQ q1 q2 v0 k1) ?_;intro Nx aB Gx aF
  refine O0.mono ?_
  rintro d _ ⟨rfl,rfl⟩
  cases hz:gL p
  ·have e:y=2:=hy.trans (aE (.inr ⟨by omega,hz⟩))
   exact oz aD q1 aS e
  have e:y=0:=hy.trans (by rw[aA (by rw[hz];rintro(⟨h,_⟩|⟨_,h⟩);exact h hv;cases h),aA (by omega),aE (by omega)])
  by_cases h3:k=3
  ·have k3:(k=3)=True:=aK h3
   exact oz aD (eA k1 k3 v0) aS e
  ·have k3:(k=3)=False:=aI h3
   exact oz aD (eA k1 k3 v0) aS e
 have k1:(1<k)=False:=aI h1
 have k3:(k=3)=False:=aI (by omega)
 rw[aA (by omega),aA (by omega),aA (by omega)] at hy
 refine tq (jE q1 q2 v0 k1 k3) ?_;intro Nx aB Gx aF
 refine pE.mono ?_
 rintro d _ ⟨rfl,rfl⟩
 by_cases h2:T.2=0
 case neg=>
  have q3:(T.2=0)=False:=aI h2
  have e:y=T.2:=hy.trans (aE h2)
  exact oz aD q3 aS e
 have q3:(T.2=0)=True:=aK h2
 rw[aA (fun h=>h h2)] at hy
 by_cases HP:k=0
 ·have k0:(k=0)=True:=aK HP
  have k01:(k=1)=False:=aI (by omega)
  refine tq (dG q3 k0) ?_;intro Nx aB Gx aF
  refine(TE h2).mono ?_
  rintro d _ ⟨rfl,rfl⟩
  cases hc:pK b.ty T.1
  ·have e:y=22:=hy.trans (aE (.inl ⟨HP,hc⟩))
   exact oz aD (dG k0 k01) aS e
  ·have e:y=0:=hy.trans (aA (by rw[hc];rintro(⟨_,h⟩|⟨h,_⟩);cases h;omega))
   exact oz aD (dG k0 k01) aS e
 ·have k0:(k=0)=False:=aI HP
  have k01:(k=1)=True:=aK (by omega)
  refine tq (eA q3 k0 k01) ?_;intro Nx aB Gx aF
  refine K5.mono ?_
  rintro d _ ⟨rfl,rfl⟩
  cases hc:y9 p 0
  ·have e:y=0:=hy.trans (aA (by rw[hc];rintro(⟨h,_⟩|⟨_,h⟩);omega;cases h))
   exact oz aD (dG k0 k01) aS e
  ·have e:y=22:=hy.trans (aE (.inr ⟨by omega,hc⟩))
   exact oz aD (dG k0 k01) aS e
theorem RN (b:cT) (o:qV) (kd:Int) (H:aC) (ck:Ck b) (hp:RW o) (hz:qU b o=0):bE prog 98 [.agg (iS b),.agg (jW o),i64 kd] H fun d H'=>d=.val (.bool (decide (IL b o=kd)))/\H=H':=by
 refine bO (K:=fun d=>d=.val (.bool (decide (IL b o=kd)))) ?_
 have aS:=aG H
 have pE:=L3 b o.pl H ck hp
 obtain⟨hk5,pB⟩:=YZ hz
 obtain⟨y,hy⟩:∃y,y=decide (IL b o=kd):=⟨_,rfl⟩
 rw[<-hy]
 unfold IL at hy
 have iI:o.k<=1->cE b.ty.length (uE b o.pl).1:=fun h=>MK ck (pB h)
 obtain⟨T,hT⟩:∃T,T=uE b o.pl:=⟨_,rfl⟩
 rw[<-hT] at hy pE iI
 have lJ:=lm cP b.ty
 obtain⟨k,p,v⟩:=o
 simp only at hy hk5 iI
 clear hT pB hz
 simp only[lN] at pE
 rw[pI] at pE ⊢
 refine aQ _ _ func98 rfl rfl ntmps98 results98 (by simp) fun w0 g0 Q aD=>?_
 refine tq @jW.eq_1 ?_;intro Nx aB Gx aF
 intro c3 j5 c4 uL
 refine aB _ ?_
 obtain⟨lK,sH⟩:=bY.1 uL;refine cA 3 rfl ((aN lK.symm).trans (aO _ _ _)) rfl ?_;refine cA 4 rfl ((bS lK).trans (aO _ _ _)) rfl ?_;refine eV _ (kF j5 sH) ?_;simp only[St.jH,List.drop]
 by_cases hk:1<k
 ·have k1:(1<k)=True:=aK hk
  have fin:∀z:Int,(if k=2 then (2:Int) else if k=3 then 1 else if k=4 then 0 else (cZ b.ty T.1).k)=z->y=decide (kd=z):=fun z h=>by
   rw[hy,h]
   by_cases hz:z=kd
   ·subst hz;rfl
   ·rw[bB hz,bB (fun h=>hz h.symm)]
  by_cases h2:k=2
  ·have k2:(k=2)=True:=aK h2
   have k3:(k=3)=False:=aI (by omega)
   have k4:(k=4)=False:=aI (by omega)
   have e:=fin 2 (aE h2)
   by_cases hd:kd=2
   ·have d2:(kd=2)=True:=aK hd
    rw[bG hd] at e
    exact oz aD (jE k1 k2 k3 k4 d2) aS e
   ·have d2:(kd=2)=False:=aI hd
    rw[bB hd] at e
    exact oz aD (jE k1 k2 k3 k4 d2) aS e
  have k2:(k=2)=False:=aI h2
  by_cases h3:k=3
  ·have k3:(k=3)=True:=aK h3
   have k4:(k=4)=False:=aI (by omega)
   have e:=fin 1 (by rw[aA h2,aE h3])
   by_cases hd:kd=1
   ·have d2:(kd=1)=True:=aK hd
    rw[bG hd] at e
    exact oz aD (jE k1 k2 k3 k4 d2) aS e
   ·have d2:(kd=1)=False:=aI hd
    rw[bB hd] at e
    exact oz aD (jE k1 k2 k3 k4 d2) aS e
  have k3:(k=3)=False:=aI h3
  have k4:(k=4)=True:=aK (by omega)
  have e:=fin 0 (by rw[aA h2,aA h3,aE (by omega)])
  by_cases hd:kd=0
  ·have d2:(kd=0)=True:=aK hd
   rw[bG hd] at e
   exact oz aD (jE k1 k2 k3 k4 d2) aS e
  ·have d2:(kd=0)=False:=aI hd
   rw[bB hd] at e
   exact oz aD (jE k1 k2 k3 k4 d2) aS e
 have k1:(1<k)=False:=aI hk
 rw[aA (by omega),aA (by omega),aA (by omega)] at hy
 have iI:=iI (by omega)
 have rK:=mD iI
 have FA:T.1.toNat<b.ty.length:=by unfold cE at iI;omega
 have AM:0<=T.1:=by unfold cE at iI;omega
 obtain⟨t,ht⟩:∃t,t=cZ b.ty T.1:=⟨_,rfl⟩
 rw[<-ht] at rK hy
 simp only[cP] at rK
 refine tq k1 ?_;intro Nx aB Gx aF
 refine pE.mono ?_
 rintro d _ ⟨rfl,rfl⟩
 have e:=hy
 by_cases hd:t.k=kd
 ·have d2:(t.k=kd)=True:=aK hd
  rw[bG hd] at e
  exact oz aD (jE rK FA AM lJ d2) aS e
 ·have d2:(t.k=kd)=False:=aI hd
  rw[bB hd] at e
  exact oz aD (jE rK FA AM lJ d2) aS e
theorem aKp (b:cT) (o:qV) (t:Int) (H:aC) (ck:Ck b) (hp:RW o) (hz:qU b o=0) (ht:cE b.ty.length t):bE prog 144 [.agg (iS b),.agg (jW o),i64 t] H fun d H'=>d=.val (.bool (uI b o t))/\H=H':=by
 refine bO (K:=fun d=>d=.val (.bool (uI b o t))) ?_
 have aS:=aG H
 have pE:=L3 b o.pl H ck hp
 have N9:∀H1,eF prog 98 [.agg (iS b),.agg (jW o),i64 (cZ b.ty t).k] H1 fun d A=>A=aC.none/\d=.val (.bool (decide (IL b o=(cZ b.ty t).k))):=fun H1=>cF fun gI gX=>RN b o _ gI ck hp hz
 obtain⟨hk5,pB⟩:=YZ hz
 have RI:o.k<=1->bE prog 173 [.seq 2 (b.ol.map pD),i64 b.rg.length,.seq 5 (b.ty.map cP),i64 (uE b o.pl).1,i64 t] H fun d H'=>d=.val (.bool (IF b.ol b.rg.length b.ty (uE b o.pl).1 t))/\H=H':=fun h=>by
  have:=MK ck (pB h)
  exact aOg b.ol b.rg.length b.ty ck.wt ck.ol (by have:=ck.rgl;omega) ck.oll ck.tl ck.ar.dO b.ty.length _ _ H this.2 ht.2
 have CC:=lm sD b.rg
 obtain⟨y,hy⟩:∃y,y=uI b o t:=⟨_,rfl⟩
 rw[<-hy]
 unfold uI at hy
 obtain⟨T,hT⟩:∃T,T=uE b o.pl:=⟨_,rfl⟩
 obtain⟨kd,zA⟩:∃kd,kd=IL b o:=⟨_,rfl⟩
 rw[<-hT] at hy pE RI
 rw[<-zA] at hy N9
 have rK:=mD ht
 have FA:t.toNat<b.ty.length:=by unfold cE at ht;omega
 have AM:0<=t:=by unfold cE at ht;omega
 obtain⟨u,hu⟩:∃u,u=cZ b.ty t:=⟨_,rfl⟩
 rw[<-hu] at rK hy N9
 have lJ:=lm cP b.ty
 obtain⟨k,p,v⟩:=o
 simp only at hy hk5 RI
 clear hT pB hz zA hu
 simp only[cP] at rK
 simp only[jW] at N9
 simp only[lN] at pE
 rw[pI] at pE N9 ⊢
 refine aQ _ _ func144 rfl rfl ntmps144 results144 (by simp) fun w0 g0 Q aD=>?_
 refine tq @jW.eq_1 ?_;intro Nx aB Gx aF
 intro c3 j5 c4 uL
 refine aB _ ?_
 obtain⟨lK,sH⟩:=bY.1 uL;refine cA 3 rfl ((aN lK.symm).trans (aO _ _ _)) rfl ?_;refine cA 4 rfl ((bS lK).trans (aO _ _ _)) rfl ?_;refine eV _ (kF j5 sH) ?_;simp only[St.jH,List.drop]
 by_cases hk:1<k
 ·have k1:(1<k)=True:=aK hk
  have e:=hy.trans (aE hk)
  refine tq k1 ?_;intro Nx aB Gx aF
  refine dE (fun _ _ d A=>A=.none/\d=.val (.bool (decide (kd=u.k)))) fun Nx aB=>?_;refine dst (gQ rK FA AM lJ) ?_;intro Nx aB Gx aF
  refine⟨N9 _,?_⟩
  (first|refine aF _ ?_|refine aB _ ?_|skip)
  exact oz aD k1 aS e
 have k1:(1<k)=False:=aI hk
 have e:=hy.trans (aA hk)
 refine tq k1 ?_;intro Nx aB Gx aF
 refine pE.mono ?_
 rintro d _ ⟨rfl,rfl⟩
 refine tq CC ?_;intro Nx aB Gx aF
 refine(RI (by omega)).mono ?_
 rintro d _ ⟨rfl,rfl⟩
 exact oz aD k1 aS e
def aBi (r:G0):Bool:=decide (r.k=0)&&(decide (r.op=0)&&(decide (r.rg=0)&&(!r.mu&&(gL r.pl&&decide (r.ar.length=0)))))
theorem aH0 (r:G0) (H:aC) (hp:UE r):bE prog 96 [.agg (IM r)] H fun d H'=>d=.val (.bool (aBi r))/\H=H':=by
 refine bO (K:=fun d=>d=.val (.bool (aBi r))) ?_
 have aS:=aG H
 have O0:=JV r.pl H hp.1
 have dX:=lm jW r.ar
 obtain⟨y,hy⟩:∃y,y=aBi r:=⟨_,rfl⟩
 rw[<-hy]
 unfold aBi at hy
 obtain⟨Z,hZ⟩:∃Z,Z=gL r.pl:=⟨_,rfl⟩
 rw[<-hZ] at O0 hy
 clear hZ
 obtain⟨k,op,rg,mu,pl,ar⟩:=r
 simp only at hy dX
 simp only[lN] at O0
 simp only[IM]
 refine aQ _ _ func96 rfl rfl ntmps96 results96 (by simp) fun w0 g0 Q aD=>?_
 refine tq trivial ?_;intro Nx aB Gx aF
 intro c1 mA
 refine aB _ ?_
 refine fZ 1 mA ?_
 by_cases h0:k=0
 case neg=>
  have q0:(k=0)=False:=aI h0
  have e:y=false:=by rw[hy,bB h0,gC]
  exact oz aD q0 aS e
 have q0:(k=0)=True:=aK h0
 rw[bG h0,eI] at hy
 by_cases h1:op=0
 case neg=>
  have q1:(op=0)=False:=aI h1
  have e:y=false:=by rw[hy,bB h1,gC]
  exact oz aD (dG q0 q1) aS e
 have q1:(op=0)=True:=aK h1
 rw[bG h1,eI] at hy
 by_cases h2:rg=0
 case neg=>
  have q2:(rg=0)=False:=aI h2
  have e:y=false:=by rw[hy,bB h2,gC]
  exact oz aD (eA q0 q1 q2) aS e
 have q2:(rg=0)=True:=aK h2
 rw[bG h2,eI] at hy
 cases mu
 case true=>
  have e:y=false:=hy
  exact oz aD (eA q0 q1 q2) aS e
 rw[uU,eI] at hy
 refine tq (eA q0 q1 q2) ?_;intro Nx aB Gx aF
 refine O0.mono ?_
 rintro d _ ⟨rfl,rfl⟩
 cases Z
 ·have e:y=false:=hy
  exact oz aD q0 aS e
 rw[eI] at hy
 by_cases h3:ar.length=0
 ·have q3:((ar.length:Int)=0)=True:=aK (by omega)
  have e:y=true:=by rw[hy,bG h3]
  exact oz aD (dG dX q3) aS e
 ·have q3:((ar.length:Int)=0)=False:=aI (by omega)
  have e:y=false:=by rw[hy,bB h3]
  exact oz aD (dG dX q3) aS e
def aIa (r:G0):Int:=if r.k<0\/4<r.k then 14 else if GV r=false then 2 else 0
theorem aH7 (r:G0) (H:aC) (hp:UE r):bE prog 142 [.agg (IM r)] H fun d H'=>d=i64 (aIa r)/\H=H':=by
 refine bO (K:=fun d=>d=i64 (aIa r)) ?_
 have aS:=aG H
 have O0:=JV r.pl H hp.1
 have dX:=lm jW r.ar
 obtain⟨y,hy⟩:∃y,y=aIa r:=⟨_,rfl⟩
 rw[<-hy]
 unfold aIa at hy
 rw[aEG] at hy
 unfold aFY at hy
 obtain⟨Z,hZ⟩:∃Z,Z=gL r.pl:=⟨_,rfl⟩
 rw[<-hZ] at O0 hy
 clear hZ
 have oF:=hp.2.1
 unfold dO at oF
 obtain⟨k,op,rg,mu,pl,ar⟩:=r
 simp only at hy dX oF
 simp only[lN] at O0
 simp only[IM]
 refine aQ _ _ func142 rfl rfl ntmps142 results142 (by simp) fun w0 g0 Q aD=>?_
 refine tq trivial ?_;intro Nx aB Gx aF
 intro c1 mA
 refine aB _ ?_
 refine fZ 1 mA ?_
 by_cases h1:k<0
 ·have q1:(k<0)=True:=aK h1
  have e:y=14:=hy.trans (aE (.inl h1))
  exact oz aD q1 aS e
 have q1:(k<0)=False:=aI h1
 by_cases h2:4<k
 ·have q2:(4<k)=True:=aK h2
  have e:y=14:=hy.trans (aE (.inr h2))
  exact oz aD (dG q1 q2) aS e
 have q2:(4<k)=False:=aI h2
 rw[aA (by omega)] at hy
 by_cases HP:k=0
 ·have k0:(k=0)=True:=aK (by omega)
  have k1:(k=1)=False:=aI (by omega)
  have k2:(k=2)=False:=aI (by omega)
  have k3:(k=3)=False:=aI (by omega)
  rw[aA (by omega:¬k=1)] at hy
  rw[aE (by omega:k=0)] at hy
  by_cases h3:op=0
  case neg=>
   have q3:(op=0)=False:=aI h3
   have e:y=2:=by rw[hy,bB h3];simp
   exact oz aD (nF q1 q2 k0 k1 k2 k3 q3) aS e
  have q3:(op=0)=True:=aK h3
  rw[bG h3] at hy
  by_cases h5:rg=0
  case neg=>
   have q5:(rg=0)=False:=aI h5
   have e:y=2:=by rw[hy,bB h5];rfl
   exact oz aD (wG q1 q2 k0 k1 k2 k3 q3 q5) aS e
  have q5:(rg=0)=True:=aK h5
  rw[bG h5] at hy
  cases mu
  case true=>
   have e:y=2:=hy
   exact oz aD (wG q1 q2 k0 k1 k2 k3 q3 q5) aS e
  refine tq (wG q1 q2 k0 k1 k2 k3 q3 q5) ?_;intro Nx aB Gx aF
  refine O0.mono ?_
  rintro d _ ⟨rfl,rfl⟩
  cases Z
  ·have e:y=2:=hy
   exact oz aD (kB q1 q2 k0 k1 k2 k3) aS e
  by_cases h4:ar.length=1
  ·have q4:((ar.length:Int)=1)=True:=aK (by omega)
   have e:y=0:=by rw[hy,bG h4];rfl
   exact oz aD (wG q1 q2 k0 k1 k2 k3 q4 dX) aS e
  ·have q4:((ar.length:Int)=1)=False:=aI (by omega)
   have e:y=2:=by rw[hy,bB h4];simp
   exact oz aD (wG q1 q2 k0 k1 k2 k3 q4 dX) aS e
 by_cases pB:k=1
 ·have k0:(k=0)=False:=aI (by omega)
  have k1:(k=1)=True:=aK (by omega)
  have k2:(k=2)=False:=aI (by omega)
  have k3:(k=3)=False:=aI (by omega)
  rw[aE pB] at hy
  by_cases h3:op=0
  case neg=>
   have q3:(op=0)=False:=aI h3
   have e:y=2:=by rw[hy,bB h3];rfl
   exact oz aD (nF q1 q2 k0 k1 k2 k3 q3) aS e
  have q3:(op=0)=True:=aK h3
  rw[bG h3,eI] at hy
  by_cases h4:ar.length=0
  ·have q4:((0:Int)<(ar.length:Int))=False:=aI (by omega)
   have e:y=0:=by rw[hy,bG h4];rfl
   exact oz aD (BR q1 q2 k0 k1 k2 k3 q3 q4 dX) aS e
  ·have q4:((0:Int)<(ar.length:Int))=True:=aK (by omega)
   have e:y=2:=by rw[hy,bB h4];rfl
   exact oz aD (BR q1 q2 k0 k1 k2 k3 q3 q4 dX) aS e
 by_cases jG:k=2
 ·have k0:(k=0)=False:=aI (by omega)
  have k1:(k=1)=False:=aI (by omega)
  have k2:(k=2)=True:=aK (by omega)
  have k3:(k=3)=False:=aI (by omega)
  rw[aA (by omega:¬k=1)] at hy
  rw[aA (by omega:¬k=0)] at hy
  rw[aE (by omega:k=2)] at hy
  by_cases h5:rg=0
  case neg=>
   have q5:(rg=0)=False:=aI h5
   have e:y=2:=by rw[hy,bB h5];rfl
   exact oz aD (nF q1 q2 k0 k1 k2 k3 q5) aS e
  have q5:(rg=0)=True:=aK h5
  rw[bG h5] at hy
  cases mu
  case true=>
   have e:y=2:=hy
   exact oz aD (nF q1 q2 k0 k1 k2 k3 q5) aS e
  refine tq (nF q1 q2 k0 k1 k2 k3 q5) ?_;intro Nx aB Gx aF
  refine O0.mono ?_
  rintro d _ ⟨rfl,rfl⟩
  cases Z
  ·have e:y=2:=hy
   exact oz aD (kB q1 q2 k0 k1 k2 k3) aS e
  by_cases h4:ar.length=1
  ·have q4:((ar.length:Int)=1)=True:=aK (by omega)
   have e:y=0:=by rw[hy,bG h4];rfl
   exact oz aD (wG q1 q2 k0 k1 k2 k3 q4 dX) aS e
  ·have q4:((ar.length:Int)=1)=False:=aI (by omega)
   have e:y=2:=by rw[hy,bB h4];simp
   exact oz aD (wG q1 q2 k0 k1 k2 k3 q4 dX) aS e
 by_cases qS:k=3
 ·have k0:(k=0)=False:=aI (by omega)
  have k1:(k=1)=False:=aI (by omega)
  have k2:(k=2)=False:=aI (by omega)
  have k3:(k=3)=True:=aK (by omega)
  rw[aA (by omega:¬k=1)] at hy
  rw[aA (by omega:¬k=0)] at hy
  rw[aA (by omega:¬k=2)] at hy
  rw[aE (by omega:k=3)] at hy
  by_cases h5:rg=0
  case neg=>
   have q5:(rg=0)=False:=aI h5
   have e:y=2:=by rw[hy,bB h5];rfl
   exact oz aD (nF q1 q2 k0 k1 k2 k3 q5) aS e
  have q5:(rg=0)=True:=aK h5
  rw[bG h5] at hy
  cases mu
  case true=>
   have e:y=2:=hy
   exact oz aD (nF q1 q2 k0 k1 k2 k3 q5) aS e
  refine tq (nF q1 q2 k0 k1 k2 k3 q5) ?_;intro Nx aB Gx aF
  refine O0.mono ?_
  rintro d _ ⟨rfl,rfl⟩
  cases Z
  ·have e:y=2:=hy
   exact oz aD (kB q1 q2 k0 k1 k2 k3) aS e
  by_cases h4:ar.length=2
  ·have q4:((ar.length:Int)=2)=True:=aK (by omega)
   have e:y=0:=by rw[hy,bG h4];rfl
   exact oz aD (wG q1 q2 k0 k1 k2 k3 q4 dX) aS e
  ·have q4:((ar.length:Int)=2)=False:=aI (by omega)
   have e:y=2:=by rw[hy,bB h4];simp
   exact oz aD (wG q1 q2 k0 k1 k2 k3 q4 dX) aS e
 have k0:(k=0)=False:=aI (by omega)
 have k1:(k=1)=False:=aI (by omega)
 have k2:(k=2)=False:=aI (by omega)
 have k3:(k=3)=False:=aI (by omega)
 rw[aA (by omega:¬k=1)] at hy
 rw[aA (by omega:¬k=0)] at hy
 rw[aA (by omega:¬k=2)] at hy
 rw[aA (by omega:¬k=3)] at hy
 by_cases h3:op=0
 case neg=>
  have q3:(op=0)=False:=aI h3
  have e:y=2:=by rw[hy,bB h3];simp
  exact oz aD (nF q1 q2 k0 k1 k2 k3 q3) aS e
 have q3:(op=0)=True:=aK h3
 rw[bG h3] at hy
 by_cases h5:rg=0
 case neg=>
  have q5:(rg=0)=False:=aI h5
  have e:y=2:=by rw[hy,bB h5];rfl
  exact oz aD (wG q1 q2 k0 k1 k2 k3 q3 q5) aS e
 have q5:(rg=0)=True:=aK h5
 rw[bG h5] at hy
 cases mu
 case true=>
  have e:y=2:=hy
  exact oz aD (wG q1 q2 k0 k1 k2 k3 q3 q5) aS e
 refine tq (wG q1 q2 k0 k1 k2 k3 q3 q5) ?_;intro Nx aB Gx aF
 refine O0.mono ?_
 rintro d _ ⟨rfl,rfl⟩
 cases Z
 ·have e:y=2:=hy
  exact oz aD (kB q1 q2 k0 k1 k2 k3) aS e
 have e:y=0:=hy
 exact oz aD (kB q1 q2 k0 k1 k2 k3) aS e
end Go.Proofs.YtfiipaodjpiooaaGreatDoor

