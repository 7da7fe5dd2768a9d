/- Lemmas and contracts of functions, several texts in one. -/
import Derived.Test.YtfiipaodjpiooaaGreatDoorQ27
import Derived.Test.YtfiipaodjpiooaaGreatDoorQ22
set_option maxRecDepth 100000
set_option maxHeartbeats 4000000
set_option linter.all false
namespace Go.Proofs.YtfiipaodjpiooaaGreatDoor
open Go.RowKit
theorem PC {l:List (Int×Int)} {b1 b2:Nat} {H H':aC} (h:yL l b1 b2 H) (aS:H.le H'):yL l b1 b2 H':=by
 obtain⟨m1,m2,h1,h2,h3,h4⟩:=h
 exact⟨m1,m2,aS _ _ h1,h2,aS _ _ h3,h4⟩
open Tryz
theorem YZ {b:cT} {o:qV} (h:qU b o=0):(0<=o.k/\o.k<=4)/\(o.k<=1->(uE b o.pl).2=0):=by
 unfold qU at h
 split at h
 ·cases h
 ·rename_i h1
  refine⟨by omega,fun h2=>?_⟩
  split at h
  ·cases h
  ·split at h
   ·cases h
   ·split at h
    ·omega
    ·split at h
     ·rename_i h5;exact absurd h h5
     ·rename_i h5;exact jO h5
theorem MK {b:cT} (ck:Ck b) {p:pA} (h:(uE b p).2=0):cE b.ty.length (uE b p).1:=WE ck.wt ck.wl h
theorem RO (b:cT) (n:Int) (b1 b2:Nat) (o:qV) (H:aC) (ck:Ck b) (hp:RW o) (hz:qU b o=0):bE prog 114 [.agg (D7 b n b1 b2),.agg (jW o)] H fun d H'=>d=i64 (IL b o)/\H=H':=by
 refine bO (K:=fun d=>d=i64 (IL b o)) ?_
 have aS:=aG H
 have pE:=xA b n b1 b2 o.pl H ck hp
 obtain⟨hk5,pB⟩:=YZ hz
 obtain⟨y,hy⟩:∃y,y=IL b o:=⟨_,rfl⟩
 rw[<-hy]
 unfold IL at hy
 have iI:o.k<=1->cE b.ty.length (uE b o.pl).1:=fun h=>MK ck (pB h)
 obtain⟨T,hT⟩:∃T,T=uE b o.pl:=⟨_,rfl⟩
 rw[<-hT] at hy pE iI
 have lJ:=lm cP b.ty
 obtain⟨k,p,v⟩:=o
 simp only at hy hk5 iI
 clear hT pB hz
 simp only[D7,iS,gP,gZ,lN] at pE
 refine aQ _ _ func114 rfl rfl ntmps114 results114 (by simp) fun w0 g0 Q aD=>?_
 simp only[D7,iS,gP,gZ]
 refine tq @jW.eq_1 ?_;intro Nx aB Gx aF
 intro c2 lH c3 j5
 refine aB _ ?_
 obtain⟨lK,sH⟩:=bY.1 j5;refine cA 2 rfl ((aN lK.symm).trans (aO _ _ _)) rfl ?_;refine cA 3 rfl ((bS lK).trans (aO _ _ _)) rfl ?_;refine eV _ (kF lH sH) ?_;simp only[St.jH,List.drop]
 by_cases hk:k=2
 ·have k2:(k=2)=True:=aK hk
  have e:y=2:=hy.trans (aE hk)
  exact oz aD k2 aS e
 have k2:(k=2)=False:=aI hk
 rw[aA hk] at hy
 by_cases hk:k=3
 ·have k3:(k=3)=True:=aK hk
  have e:y=1:=hy.trans (aE hk)
  exact oz aD (dG k2 k3) aS e
 have k3:(k=3)=False:=aI hk
 rw[aA hk] at hy
 by_cases hk:k=4
 ·have k4:(k=4)=True:=aK hk
  have e:y=0:=hy.trans (aE hk)
  exact oz aD (eA k2 k3 k4) aS e
 have k4:(k=4)=False:=aI hk
 rw[aA hk] at hy
 have iI:=iI (by omega)
 have rK:=mD iI
 have FA:T.1.toNat<b.ty.length:=by unfold cE at iI;omega
 have AM:0<=T.1:=by unfold cE at iI;omega
 obtain⟨t,ht⟩:∃t,t=cZ b.ty T.1:=⟨_,rfl⟩
 rw[<-ht] at rK hy
 have e:=hy
 simp only[cP] at rK
 refine tq (eA k2 k3 k4) ?_;intro Nx aB Gx aF
 refine pE.mono ?_
 rintro d _ ⟨rfl,rfl⟩
 exact oz aD (gQ rK FA AM lJ) aS e
theorem aNi (b:cT) (n:Int) (b1 b2:Nat) (o:qV) (t:Int) (H:aC) (ck:Ck b) (hn:n=b.rg.length) (hR:yL b.ol b1 b2 H) (hp:RW o) (hz:qU b o=0) (ht:cE b.ty.length t):bE prog 156 [.agg (D7 b n b1 b2),.agg (jW o),i64 t] H fun d H'=>d=.val (.bool (uI b o t))/\H=H':=by
 subst hn
 refine bO (K:=fun d=>d=.val (.bool (uI b o t))) ?_
 have aS:=aG H
 have pE:=xA b b.rg.length b1 b2 o.pl H ck hp
 have VI:∀H1,eF prog 114 [.agg (D7 b b.rg.length b1 b2),.agg (jW o)] H1 fun d A=>A=aC.none/\d=i64 (IL b o):=fun H1=>cF fun gI gX=>RO b b.rg.length b1 b2 o gI ck hp hz
 have RI:=fun a c=>aR4 b.ol b.rg.length b.ty b1 b2 H ck.wt ck.ol (by have:=ck.rgl;omega) ck.oll ck.tl ck.ar.dO hR a c
 obtain⟨hk5,pB⟩:=YZ hz
 obtain⟨y,hy⟩:∃y,y=uI b o t:=⟨_,rfl⟩
 rw[<-hy]
 unfold uI at hy
 obtain⟨T,hT⟩:∃T,T=uE b o.pl:=⟨_,rfl⟩
 obtain⟨kd,zA⟩:∃kd,kd=IL b o:=⟨_,rfl⟩
 rw[<-hT] at hy pE
 rw[<-zA] at hy VI
 have rK:=mD ht
 have FA:t.toNat<b.ty.length:=by unfold cE at ht;omega
 have AM:0<=t:=by unfold cE at ht;omega
 obtain⟨u,hu⟩:∃u,u=cZ b.ty t:=⟨_,rfl⟩
 rw[<-hu] at rK hy
 have lJ:=lm cP b.ty
 obtain⟨k,p,v⟩:=o
 simp only at hy hk5
 clear hT pB hz zA hu
 simp only[cP] at rK
 simp only[D7,iS,gP,gZ,lN] at pE
 simp only[D7,iS,jW,gP,gZ] at VI
 refine aQ _ _ func156 rfl rfl ntmps156 results156 (by simp) fun w0 g0 Q aD=>?_
 simp only[D7,iS,gP,gZ]
 refine tq @jW.eq_1 ?_;intro Nx aB Gx aF
 intro c3 j5 c4 uL
 refine aB _ ?_
 obtain⟨lK,sH⟩:=bY.1 uL;refine cA 3 rfl ((aN lK.symm).trans (aO _ _ _)) rfl ?_;refine cA 4 rfl ((bS lK).trans (aO _ _ _)) rfl ?_;refine eV _ (kF j5 sH) ?_;simp only[St.jH,List.drop]
 by_cases hk:1<k
 ·have k0:(k=0)=False:=aI (by omega)
  have k1:(k=1)=False:=aI (by omega)
  have e:=hy.trans (aE hk)
  refine tq (dG k0 k1) ?_;intro Nx aB Gx aF
  refine dE (fun _ _ d A=>A=.none/\d=i64 kd) fun Nx aB=>?_;refine dst (gQ rK FA AM lJ) ?_;intro Nx aB Gx aF
  refine⟨VI _,?_⟩
  refine dst trivial ?_;intro Nx aB Gx aF
  exact oz aD k0 aS e
 have e:=hy.trans (aA hk)
 by_cases HP:k=0
 ·have k0:(k=0)=True:=aK HP
  refine tq k0 ?_;intro Nx aB Gx aF
  refine pE.mono ?_
  rintro d _ ⟨rfl,rfl⟩
  refine tq trivial ?_;intro Nx aB Gx aF
  refine(RI _ _).mono ?_
  rintro d _ ⟨rfl,rfl⟩
  exact oz aD k0 aS e
 ·have k0:(k=0)=False:=aI HP
  have k1:(k=1)=True:=aK (by omega)
  refine tq (dG k0 k1) ?_;intro Nx aB Gx aF
  refine pE.mono ?_
  rintro d _ ⟨rfl,rfl⟩
  refine tq trivial ?_;intro Nx aB Gx aF
  refine(RI _ _).mono ?_
  rintro d _ ⟨rfl,rfl⟩
  exact oz aD k0 aS e
theorem ER {l:List qV} {i:Nat} (h:i<l.length):(l.map jW)[i]?=some (jW l[i]):=by
 rw[dN,bX h];rfl
theorem CF (b:cT) (n:Int) (b1 b2:Nat) (l:List qV) (fs:List Int) (H:aC) (ck:Ck b) (hn:n=b.rg.length) (hR:yL b.ol b1 b2 H) (hl:dO l.length) (hp:∀o∈l,RW o) (mM:dO fs.length) (hfs:∀f∈fs,cE b.ty.length f):bE prog 115 [.agg (D7 b n b1 b2),.seq 4 (l.map jW),.seq 1 (fs.map iD)] H fun d H'=>d=i64 (gA b l fs)/\H=H':=by
 refine bO (K:=fun d=>d=i64 (gA b l fs)) ?_
 have dX:=lm jW l
 have hmf:=lm iD fs
 unfold dO at hl mM
 obtain⟨CK,hCK⟩:∃CK,CK=D7 b n b1 b2:=⟨_,rfl⟩
 have aNn:CK=[cX b.nm,.seq 1 (b.rg.map sD),.seq 2 (b.ol.map pD),.seq 5 (b.ty.map cP),.seq 2 (b.lc.map mN),i64 b.ag,.seq 7 (b.bl.map jP),jL n b1 b2]:=hCK
 rw[<-hCK,aNn]
 refine aQ _ _ func115 rfl rfl ntmps115 results115 (by simp) fun w0 g0 Q aD=>?_
 refine tq trivial ?_;intro Nx aB Gx aF
 intro c3 j5
 refine aB _ ?_
 refine fZ 3 j5 ?_
 refine tq dX ?_;intro Nx aB Gx aF
 refine aZ l.length (fun i s=>s.df=[]/\s.fr 2=.seq 1 (fs.map iD)/\s.fr 3=.rp [cX b.nm,.seq 1 (b.rg.map sD),.seq 2 (b.ol.map pD),.seq 5 (b.ty.map cP),.seq 2 (b.lc.map mN),i64 b.ag,.seq 7 (b.bl.map jP),jL n b1 b2]/\s.fr 10=.seq 4 (l.map jW)/\s.fr 11=i64 l.length/\s.fr 12=i64 i/\s.H=H/\gA b l fs=gA b (l.drop i) (fs.drop i)) ⟨rfl,rfl,rfl,rfl,rfl,rfl,rfl,rfl⟩ ?_
 rintro i s hi ⟨aT,f2,f3,f10,f11,f12,hH,ha⟩
 have hx:=bI i
 have cJ:=bM i
 have aY:H.le s.H:=by rw[hH];exact aG _
 by_cases aV:i<l.length
 case neg=>
  have q6:=lF i l.length (by omega)
  rw[eT (by omega)] at ha
  refine tq (eA f11 f12 q6) ?_;intro Nx aB Gx aF
  refine rt aD aT ?_
  exact⟨_,aG _,aY,_,aH aY,by rw[ha] <;> rfl⟩
 have cC:(i:Int)<(l.length:Int):=by omega
 have q6:((i:Int)<(l.length:Int))=True:=aK cC
 have w3:=wS i (by omega)
 have cD:=ER aV
 have hpi:=hp l[i] (bU aV)
 rw[eH aV] at ha
 obtain⟨o,ho⟩:∃o,o=l[i]:=⟨_,rfl⟩
 rw[<-ho] at cD ha hpi
 have AB:=VU b n b1 b2 o s.H ck hpi
 rw[<-hCK,aNn] at AB
 simp only[jW] at cD AB
 obtain⟨r,hr⟩:∃r,r=qU b o:=⟨_,rfl⟩
 have oJ:gA b (o::l.drop (i+1)) (fs.drop i)=if r≠0 then r else match fs.drop i with
  |[]=>gA b (l.drop (i+1)) []
  |f::fs=>if uI b o f=false then 22 else gA b (l.drop (i+1)) fs:=by rw[hr];rfl
 rw[oJ] at ha
 clear oJ
 rw[<-hr] at AB
 refine tq (nN f10 f11 f12 dX q6 cD hx cJ aV cC) ?_;intro Nx aB Gx aF
 intro c8 X1
 refine aB _ ?_
 refine fZ 8 X1 ?_
 refine tq f3 ?_;intro Nx aB Gx aF
 refine AB.mono ?_
 rintro d _ ⟨rfl,rfl⟩
 by_cases h0:r=0
 case neg=>
  have q7:(r=0)=False:=aI h0
  rw[aE h0] at ha
  refine tq q7 ?_;intro Nx aB Gx aF
  refine rt aD aT ?_
  exact⟨_,aG _,aY,_,aH aY,by rw[ha] <;> rfl⟩
 have q7:(r=0)=True:=aK h0
 rw[aA (fun h=>h h0)] at ha
 by_cases hif:i<fs.length
 case neg=>
  have q8:=lF i fs.length (by omega)
  rw[eT (by omega:fs.length<=i)] at ha
  simp only at ha
  refine tq q7 ?_;intro Nx aB Gx aF
  refine dE (fun _ _ _ _=>False) fun Nx aB=>?_;refine dst (eA f2 q8 hmf) ?_;intro Nx aB Gx aF
  refine tq (dG f12 w3) ?_;intro Nx aB Gx aF
  exact⟨aV,aT,f2,f3,f10,f11,rfl,hH,by rw[ha,eT (by omega:fs.length<=i+1)]⟩
 have q8:=lT i fs.length (by omega)
 have hgf:=cO hif
 have X6:=hfs fs[i] (bU hif)
 rw[eH hif] at ha
 simp only at ha
 obtain⟨f,hf⟩:∃f,f=fs[i]:=⟨_,rfl⟩
 rw[<-hf] at hgf X6 ha
 have eP:∀H1,H1=H->eF prog 156 [.agg CK,.agg (jW o),i64 f] H1 fun d A=>A=aC.none/\d=.val (.bool (uI b o f)):=fun H1 uK=>cF fun gI gX=>by
  rw[hCK]
  exact aNi b n b1 b2 o f gI ck hn (PC hR (by rw[<-uK];exact gX)) hpi (hr.symm.trans h0) X6
 rw[aNn] at eP
 simp only[jW] at eP
 obtain⟨z,hz⟩:∃z,z=uI b o f:=⟨_,rfl⟩
 rw[<-hz] at eP ha
 refine tq q7 ?_;intro Nx aB Gx aF
 refine dE (fun _ _ d A=>A=.none/\d=.val (.bool z)) fun Nx aB=>?_;refine dst (wG f2 f3 q8 hmf hgf hx cJ hif) ?_;intro Nx aB Gx aF
 refine⟨eP _ hH,?_⟩
 cases z
 ·rw[aE rfl] at ha
  refine aF _ ?_
  refine dst trivial ?_;intro Nx aB Gx aF
  refine tq trivial ?_;intro Nx aB Gx aF
  refine rt aD aT ?_
  exact⟨_,aG _,aY,_,aH aY,by rw[ha] <;> rfl⟩
 ·rw[aA (fun h=>by cases h)] at ha
  refine aF _ ?_
  refine dst trivial ?_;intro Nx aB Gx aF
  refine tq (dG f12 w3) ?_;intro Nx aB Gx aF
  exact⟨aV,aT,f2,f3,f10,f11,rfl,hH,ha⟩
theorem D8 (b:cT) (n:Int) (b1 b2:Nat):D7 b n b1 b2=[cX b.nm,.seq 1 (b.rg.map sD),.seq 2 (b.ol.map pD),.seq 5 (b.ty.map cP),.seq 2 (b.lc.map mN),i64 b.ag,.seq 7 (b.bl.map jP),jL n b1 b2]:=rfl
theorem J3 {b:cT}:∀{l:List qV},gA b l []=0->∀o∈l,qU b o=0
 |[],_,o,h=>by cases h
 |y::l,h,o,ho=>by
  have h1:gA b (y::l) []=if qU b y≠0 then qU b y else gA b l []:=rfl
  rw[h1] at h
  by_cases h2:qU b y=0
  ·rw[aA (fun k=>k h2)] at h
   rcases dJ.1 ho with rfl|ho
   ·exact h2
   ·exact J3 h o ho
  ·rw[aE h2] at h;exact absurd h h2
theorem NJ (b:cT) (n:Int) (b1 b2:Nat) (r:G0) (t:Int) (tb:List (Int×Int)) (H:aC) (ck:Ck b) (hn:n=b.rg.length) (hR:yL b.ol b1 b2 H) (hp:UE r) (ht:cE b.ty.length t) (htb:tb.length<=6):bE prog 153 [.agg (D7 b n b1 b2),.agg (IM r),i64 t,.seq 2 (tb.map pD)] H fun d H'=>d=i64 (vU b r t tb.length (tb.getD r.op.toNat (1,0)))/\H=H':=by
 refine bO (K:=fun d=>d=i64 (vU b r t tb.length (tb.getD r.op.toNat (1,0)))) ?_
 obtain⟨zB,oF,hao⟩:=hp
 have aS:=aG H
 have T3:=(CF b n b1 b2 r.ar [] H ck hn hR oF hao (by unfold dO;simp) (fun f hf=>by cases hf)).imp (ds:=[.agg (D7 b n b1 b2),.seq 4 (r.ar.map jW),.val (.slice none 0 0)]) ⟨dQ _,dQ _,fR,trivial⟩
 have VI:∀o∈r.ar,qU b o=0->∀H1,eF prog 114 [.agg (D7 b n b1 b2),.agg (jW o)] H1 fun d A=>A=aC.none/\d=i64 (IL b o):=fun o ho hz H1=>cF fun gI gX=>RO b n b1 b2 o gI ck (hao o ho) hz
 have hfa:∀x H1,eF prog 113 [.val (.bool x)] H1 fun d A=>A=aC.none/\d=i64 (if x=true then 22 else 0):=fun x H1=>cF fun gI gX=>AW x gI
 rw[D8] at T3 VI ⊢
 have dX:=lm jW r.ar
 have lJ:=lm cP b.ty
 have sQ:=lm pD tb
 obtain⟨y,hy⟩:∃y,y=vU b r t tb.length (tb.getD r.op.toNat (1,0)):=⟨_,rfl⟩
 rw[<-hy]
 unfold vU at hy
 have rK:=mD ht
 have FA:t.toNat<b.ty.length:=by unfold cE at ht;omega
 have AM:0<=t:=by unfold cE at ht;omega
 obtain⟨u,hu⟩:∃u,u=cZ b.ty t:=⟨_,rfl⟩
 rw[<-hu] at rK hy
 simp only[cP] at rK
 obtain⟨E,hE⟩:∃E,E=gA b r.ar []:=⟨_,rfl⟩
 rw[<-hE] at T3 hy
 unfold dO at oF
 refine aQ _ _ func153 rfl rfl ntmps153 results153 (by simp) fun w0 g0 Q aD=>?_
 refine tq @IM.eq_1 ?_;intro Nx aB Gx aF
 intro c4 uL c5 lY
 refine aB _ ?_
 obtain⟨lK,sH⟩:=bY.1 lY;refine cA 4 rfl ((aN lK.symm).trans (aO _ _ _)) rfl ?_;refine cA 5 rfl ((bS lK).trans (aO _ _ _)) rfl ?_;refine eV _ (kF uL sH) ?_;simp only[St.jH,List.drop]
 by_cases h1:r.op<0
 ·have q1:(r.op<0)=True:=aK h1
  have e:y=14:=hy.trans (aE (.inl h1))
  exact oz aD q1 aS e
 have q1:(r.op<0)=False:=aI h1
 by_cases h2:(tb.length:Int)<=r.op
 ·have q2:(r.op≥(tb.length:Int))=True:=aK h2
  have e:y=14:=hy.trans (aE (.inr h2))
  exact oz aD (eA q1 q2 sQ) aS e
 have q2:(r.op≥(tb.length:Int))=False:=aI h2
 rw[aA (by omega)] at hy
 refine tq (eA q1 q2 sQ) ?_;intro Nx aB Gx aF
 refine T3.mono ?_
 rintro d _ ⟨rfl,rfl⟩
 by_cases h3:E=0
 case neg=>
  have q3:(E=0)=False:=aI h3
  have e:y=E:=hy.trans (aE h3)
  exact oz aD q3 aS e
 have q3:(E=0)=True:=aK h3
 rw[aA (fun h=>h h3)] at hy
 have fF:=J3 (hE.symm.trans h3)
 have kN:r.op.toNat<tb.length:=by omega
 have LU:=aII kN
 have ho0:0<=r.op:=by omega
 have hpb:tb.getD r.op.toNat (1,0)=tb.getD r.op.toNat (1,0):=rfl
 obtain⟨x,hx0⟩:∃x,x=tb.getD r.op.toNat (1,0):=⟨_,rfl⟩
 rw[<-hx0] at LU hy
 refine tq (jE q3 LU kN ho0 sQ) ?_;intro Nx aB Gx aF
 intro c10 HM
 refine aB _ ?_
 refine fZ 10 HM ?_
 refine tq dX ?_;intro Nx aB Gx aF
 refine aZ r.ar.length (fun i s=>s.df=[]/\s.fr 2=i64 t/\s.fr 4=.rp [cX b.nm,.seq 1 (b.rg.map sD),.seq 2 (b.ol.map pD),.seq 5 (b.ty.map cP),.seq 2 (b.lc.map mN),i64 b.ag,.seq 7 (b.bl.map jP),jL n b1 b2]/\s.fr 10=.rp [i64 x.1,i64 x.2]/\s.fr 36=.seq 4 (r.ar.map jW)/\s.fr 37=i64 r.ar.length/\s.fr 38=i64 i/\s.H=H/\(r.ar.all fun o=>decide (IL b o=x.1))=((r.ar.drop i).all fun o=>decide (IL b o=x.1))) ⟨rfl,rfl,rfl,rfl,rfl,rfl,rfl,rfl,rfl⟩ ?_
 rintro i s hi ⟨aT,f2,f4,f10,f36,f37,f38,hH,ha⟩
 have hx:=bI i
 have cJ:=bM i
 have aY:H.le s.H:=by rw[hH];exact aG _
 by_cases aV:i<r.ar.length
 case neg=>
  have q6:=lF i r.ar.length (by omega)
  rw[eT (by omega),tI] at ha
  rw[ha,aA (fun h=>by cases h)] at hy
  refine tq (eA f37 f38 q6) ?_;intro Nx aB Gx aF
  by_cases h7:u.k=x.2
  ·have q7:(u.k=x.2)=True:=aK h7
   rw[aA (fun h=>h h7)] at hy
   refine dE (fun _ _ d A=>A=.none/\d=i64 0) fun Nx aB=>?_;refine dst (wG f2 f4 f10 rK FA AM lJ q7) ?_;intro Nx aB Gx aF
   refine⟨hfa _ _,?_⟩
   refine aB _ ?_
   refine tq trivial ?_;intro Nx aB Gx aF
   refine rt aD aT ?_
   exact⟨_,aG _,aY,_,aH aY,by rw[hy] <;> rfl⟩
  ·have q7:(u.k=x.2)=False:=aI h7
   rw[aE h7] at hy
   refine dE (fun _ _ d A=>A=.none/\d=i64 22) fun Nx aB=>?_;refine dst (wG f2 f4 f10 rK FA AM lJ q7) ?_;intro Nx aB Gx aF
   refine⟨hfa _ _,?_⟩
   refine aB _ ?_
   refine tq trivial ?_;intro Nx aB Gx aF
   refine rt aD aT ?_
   exact⟨_,aG _,aY,_,aH aY,by rw[hy] <;> rfl⟩
 have cC:(i:Int)<(r.ar.length:Int):=by omega
 have q6:((i:Int)<(r.ar.length:Int))=True:=aK cC
 have w3:=wS i (by omega)
 have cD:=ER aV
 have eP:=VI r.ar[i] (bU aV) (fF _ (bU aV)) s.H
 rw[eH aV,pX] at ha
 obtain⟨o,ho⟩:∃o,o=r.ar[i]:=⟨_,rfl⟩
 rw[<-ho] at cD ha eP
 obtain⟨K,hK⟩:∃K,K=IL b o:=⟨_,rfl⟩
 rw[<-hK] at ha eP
 simp only[jW] at cD eP
 refine tq (nN f36 f37 f38 dX q6 cD hx cJ aV cC) ?_;intro Nx aB Gx aF
 intro c12 aBt
 refine aB _ ?_
 refine fZ 12 aBt ?_
 refine bP ?_
 refine dE (fun _ _ d A=>A=.none/\d=i64 K) fun Nx aB=>?_;refine dst (dG f4 f10) ?_;intro Nx aB Gx aF
 refine⟨eP,?_⟩
 by_cases h7:K=x.1
 ·have q7:(K=x.1)=True:=aK h7
  rw[bG h7,eI] at ha
  refine dst q7 ?_;intro Nx aB Gx aF
  refine tq (eA f38 w3 q7) ?_;intro Nx aB Gx aF
  exact⟨aV,aT,f2,f4,f10,f36,f37,rfl,hH,ha⟩
 ·have q7:(K=x.1)=False:=aI h7
  rw[bB h7,gC] at ha
  rw[ha,aE rfl] at hy
  refine dst q7 ?_;intro Nx aB Gx aF
  refine tq q7 ?_;intro Nx aB Gx aF
  refine rt aD aT ?_
  exact⟨_,aG _,aY,_,aH aY,by rw[hy] <;> rfl⟩
def aFY (r:G0):Bool:=(decide (r.rg=0)&& !r.mu)&&gL r.pl
theorem aEG (r:G0):GV r=if r.k=1 then decide (r.op=0)&&decide (r.ar.length=0) else aFY r&&(if r.k=0 then decide (r.op=0)&&decide (r.ar.length=1) else if r.k=2 then decide (r.ar.length=1) else if r.k=3 then decide (r.ar.length=2) else decide (r.op=0)):=rfl
def UnM (r:G0) (H:aC) (s:St):Prop:=s.df=[]/\s.fr 1=.rp (IM r)/\s.fr 3=.val (.bool (aFY r))/\s.H=H
theorem aIu (r:G0) (H:aC) (hp:UE r):bE prog 151 [.agg (IM r)] H fun d H'=>d=.val (.bool (GV r))/\H=H':=by
 refine bO (K:=fun d=>d=.val (.bool (GV r))) ?_
 have O0:=S6 r.pl H hp.1
 have oF:=hp.2.1
 unfold dO at oF
 have dX:=lm jW r.ar
 have DL:=aEG r
 obtain⟨y,hy⟩:∃y,y=GV r:=⟨_,rfl⟩
 rw[<-hy] at DL ⊢
 have hM:∀s,UnM r H s↔(s.df=[]/\s.fr 1=.rp (IM r)/\s.fr 3=.val (.bool (aFY r))/\s.H=H):=fun s=>Iff.rfl
 have zB:aFY r=((decide (r.rg=0)&& !r.mu)&&gL r.pl):=rfl
 obtain⟨P,hP⟩:∃P,P=aFY r:=⟨_,rfl⟩
 rw[<-hP] at DL zB
 simp only[<-hP] at hM
 obtain⟨M,hMM⟩:∃M,M=UnM r H:=⟨_,rfl⟩
 rw[<-hMM] at hM
 clear hP hMM hy
 obtain⟨k,op,rg,mu,pl,ar⟩:=r
 simp only[IM] at hM ⊢
 simp only at DL zB O0 oF dX
 simp only[lN] at O0
 refine aQ _ _ func151 rfl rfl ntmps151 results151 (by simp) fun w0 g0 Q aD=>?_
 refine tq trivial ?_;intro Nx aB Gx aF
 intro c1 mA
 refine aB _ ?_
 refine fZ 1 mA ?_
 refine bP ?_
 refine I0 M ?_ ?_
 ·by_cases h1:rg=0
  case neg=>
   have q1:(rg=0)=False:=aI h1
   have e:P=false:=zB.trans (by rw[bB h1,gC,gC])
   refine tq q1 ?_;intro Nx aB Gx aF
   exact(hM _).2 ⟨rfl,rfl,by rw[e] <;> rfl,rfl⟩
  have q1:(rg=0)=True:=aK h1
  cases mu
  ·have e:P=gL pl:=zB.trans (by rw[bG h1] <;> rfl)
   refine tq q1 ?_;intro Nx aB Gx aF
   refine O0.mono ?_
   rintro d _ ⟨rfl,rfl⟩
   cases hz:gL pl
   ·rw[hz] at e
    refine tq trivial ?_;intro Nx aB Gx aF
    exact(hM _).2 ⟨rfl,rfl,by rw[e] <;> rfl,rfl⟩
   ·rw[hz] at e
    refine tq trivial ?_;intro Nx aB Gx aF
    exact(hM _).2 ⟨rfl,rfl,by rw[e] <;> rfl,rfl⟩
  ·have e:P=false:=zB.trans (by rw[bG h1] <;> rfl)
   refine tq q1 ?_;intro Nx aB Gx aF
   exact(hM _).2 ⟨rfl,rfl,by rw[e] <;> rfl,rfl⟩
 intro s hs
 obtain⟨aT,f1,f3,hH⟩:=(hM s).1 hs
 have aY:H.le s.H:=by rw[hH];exact aG _
 by_cases hk:k=0
 ·have k0:(k=0)=True:=aK hk
  rw[aA (by omega),aE hk] at DL
  cases P
  ·rw[gC] at DL
   have e:=DL
   exact oz aD (eA f1 f3 k0) aY e
  rw[eI] at DL
  by_cases h1:op=0
  case neg=>
   have q1:(op=0)=False:=aI h1
   have e:y=false:=DL.trans (by rw[bB h1,gC])
   exact oz aD (gQ f1 f3 k0 q1) aY e
  have q1:(op=0)=True:=aK h1
  by_cases h2:ar.length=1
  ·have q2:((ar.length:Int)=1)=True:=aK (by omega)
   have e:y=true:=DL.trans (by rw[bG h1,bG h2] <;> rfl)
   exact oz aD (kB f1 f3 k0 q1 q2 dX) aY e
  ·have q2:((ar.length:Int)=1)=False:=aI (by omega)
   have e:y=false:=DL.trans (by rw[bB h2,kI])
   exact oz aD (kB f1 f3 k0 q1 q2 dX) aY e
 have k0:(k=0)=False:=aI hk
 by_cases pB:k=1
 ·have k1:(k=1)=True:=aK pB
  rw[aE pB] at DL
  by_cases h1:op=0
  case neg=>
   have q1:(op=0)=False:=aI h1
   have e:y=false:=DL.trans (by rw[bB h1,gC])
   exact oz aD (jE f1 f3 k0 k1 q1) aY e
  have q1:(op=0)=True:=aK h1
  by_cases h2:ar.length=0
  ·have q2:((ar.length:Int)=0)=True:=aK (by omega)
   have e:y=true:=DL.trans (by rw[bG h1,bG h2] <;> rfl)
   exact oz aD (nF f1 f3 k0 k1 q1 q2 dX) aY e
  ·have q2:((ar.length:Int)=0)=False:=aI (by omega)
   have e:y=false:=DL.trans (by rw[bB h2,kI])
   exact oz aD (nF f1 f3 k0 k1 q1 q2 dX) aY e
 have k1:(k=1)=False:=aI pB
 rw[aA pB,aA hk] at DL
 by_cases jG:k=2
 ·have k2:(k=2)=True:=aK jG
  rw[aE jG] at DL
  cases P
  ·have e:y=false:=DL
   exact oz aD (jE f1 f3 k0 k1 k2) aY e
  by_cases h2:ar.length=1
  ·have q2:((ar.length:Int)=1)=True:=aK (by omega)
   have e:y=true:=DL.trans (by rw[bG h2] <;> rfl)
   exact oz aD (nF f1 f3 k0 k1 k2 q2 dX) aY e
  ·have q2:((ar.length:Int)=1)=False:=aI (by omega)
   have e:y=false:=DL.trans (by rw[bB h2] <;> rfl)
   exact oz aD (nF f1 f3 k0 k1 k2 q2 dX) aY e
 have k2:(k=2)=False:=aI jG
 rw[aA jG] at DL
 by_cases qS:k=3
 ·have k3:(k=3)=True:=aK qS
  rw[aE qS] at DL
  cases P
  ·have e:y=false:=DL
   exact oz aD (kB f1 f3 k0 k1 k2 k3) aY e
  by_cases h2:ar.length=2
  ·have q2:((ar.length:Int)=2)=True:=aK (by omega)
   have e:y=true:=DL.trans (by rw[bG h2] <;> rfl)
   exact oz aD (wG f1 f3 k0 k1 k2 k3 q2 dX) aY e
  ·have q2:((ar.length:Int)=2)=False:=aI (by omega)
   have e:y=false:=DL.trans (by rw[bB h2] <;> rfl)
   exact oz aD (wG f1 f3 k0 k1 k2 k3 q2 dX) aY e
 have k3:(k=3)=False:=aI qS
 rw[aA qS] at DL
 cases P
 ·have e:y=false:=DL
  exact oz aD (kB f1 f3 k0 k1 k2 k3) aY e
 by_cases h1:op=0
 ·have q1:(op=0)=True:=aK h1
  have e:y=true:=DL.trans (by rw[bG h1] <;> rfl)
  exact oz aD (nF f1 f3 k0 k1 k2 k3 q1) aY e
 ·have q1:(op=0)=False:=aI h1
  have e:y=false:=DL.trans (by rw[bB h1] <;> rfl)
  exact oz aD (nF f1 f3 k0 k1 k2 k3 q1) aY e
theorem Q1 (a c:Int) (H:aC):bE prog 103 [.seq 1 [[i64 a],[i64 c]]] H fun d H'=>d=i64 (if a≠0 then a else c)/\H=H':=by
 have h:=aDU [a,c] H (by unfold dO;simp)
 have e:LK [a,c]=if a≠0 then a else c:=by
  simp only[LK]
  split
  ·rfl
  ·by_cases h:c=0 <;> simp [h]
 rw[e] at h
 exact h
theorem S4 (b:cT) (n:Int) (b1 b2:Nat) (p:pA) (H:aC) (ck:Ck b) (hp:dO p.pr.length):bE prog 109 [.agg (D7 b n b1 b2),.agg (lN p)] H fun d H'=>d=.pG [i64 (uE b p).1,i64 (GX b p)]/\H=H':=by
 refine bO (K:=fun d=>d=.pG [i64 (uE b p).1,i64 (GX b p)]) ?_
 have aS:=aG H
 have pE:=xA b n b1 b2 p H ck hp
 have DC:=aMl b.ty b.lc p H ck.wt ck.wl ck.ar hp
 have hfa:=fun x=>AW x H
 have X6:=fun a c=>Q1 a c H
 rw[D8] at pE ⊢
 obtain⟨y,hy⟩:∃y,y=GX b p:=⟨_,rfl⟩
 rw[<-hy]
 unfold GX at hy
 obtain⟨T,hT⟩:∃T,T=uE b p:=⟨_,rfl⟩
 rw[<-hT] at hy pE ⊢
 clear hT
 simp only[lN] at pE DC
 refine aQ _ _ func109 rfl rfl ntmps109 results109 (by simp) fun w0 g0 Q aD=>?_
 refine tq @lN.eq_1 ?_;intro Nx aB Gx aF
 intro c2 lH c3 j5
 refine aB _ ?_
 obtain⟨lK,sH⟩:=bY.1 j5;refine cA 2 rfl ((aN lK.symm).trans (aO _ _ _)) rfl ?_;refine cA 3 rfl ((bS lK).trans (aO _ _ _)) rfl ?_;refine eV _ (kF lH sH) ?_;simp only[St.jH,List.drop]
 refine tq trivial ?_;intro Nx aB Gx aF
 refine pE.mono ?_
 rintro d _ ⟨rfl,rfl⟩
 by_cases h1:T.2=0
 ·have q1:(T.2=0)=True:=aK h1
  rw[aA (fun h=>h h1)] at hy
  refine tq q1 ?_;intro Nx aB Gx aF
  refine DC.mono ?_
  rintro d _ ⟨rfl,rfl⟩
  have e:y=if (!x9 b.ty b.lc p)=true then 22 else 0:=by rw[hy];cases x9 b.ty b.lc p <;> rfl
  obtain⟨z,hz⟩:∃z,z=x9 b.ty b.lc p:=⟨_,rfl⟩
  rw[<-hz] at e ⊢
  clear hz hy
  cases z
  ·refine tq trivial ?_;intro Nx aB Gx aF
   refine(hfa _).mono ?_
   rintro d _ ⟨rfl,rfl⟩
   refine tq trivial ?_;intro Nx aB Gx aF
   refine(X6 _ _).mono ?_
   rintro d _ ⟨rfl,rfl⟩
   refine tq q1 ?_;intro Nx aB Gx aF
   refine rt aD trivial ?_
   exact⟨_,aG _,aS,_,aH aS,by rw[e] <;> rfl⟩
  ·refine tq trivial ?_;intro Nx aB Gx aF
   refine(hfa _).mono ?_
   rintro d _ ⟨rfl,rfl⟩
   refine tq trivial ?_;intro Nx aB Gx aF
   refine(X6 _ _).mono ?_
   rintro d _ ⟨rfl,rfl⟩
   refine tq q1 ?_;intro Nx aB Gx aF
   refine rt aD trivial ?_
   exact⟨_,aG _,aS,_,aH aS,by rw[e] <;> rfl⟩
 ·have q1:(T.2=0)=False:=aI h1
  have e:y=T.2:=hy.trans (aE h1)
  refine tq q1 ?_;intro Nx aB Gx aF
  refine(hfa _).mono ?_
  rintro d _ ⟨rfl,rfl⟩
  refine tq trivial ?_;intro Nx aB Gx aF
  refine(X6 _ _).mono ?_
  rintro d _ ⟨rfl,rfl⟩
  refine tq q1 ?_;intro Nx aB Gx aF
  refine rt aD trivial ?_
  exact⟨_,aG _,aS,_,aH aS,by rw[e]⟩
theorem aGM (b:cT) (n:Int) (b1 b2:Nat) (r:G0) (t:Int) (H:aC) (ck:Ck b) (hn:n=b.rg.length) (hR:yL b.ol b1 b2 H) (hp:UE r) (ht:cE b.ty.length t):bE prog 152 [.agg (D7 b n b1 b2),.agg (IM r),i64 t] H fun d H'=>d=i64 (I3 b r t)/\H=H':=by
 subst hn
 refine bO (K:=fun d=>d=i64 (I3 b r t)) ?_
 have aS:=aG H
 have pE:=xA b b.rg.length b1 b2 r.pl H ck hp.1
 have DC:=aMl b.ty b.lc r.pl H ck.wt ck.wl ck.ar hp.1
 have hrg:=aPF b.ty b.lc r.pl H ck.wt ck.wl ck.ar hp.1
 have hou:=fun q=>aID b.ol b.rg.length q r.rg b1 b2 H hR ck.ol (by have:=ck.rgl;omega) ck.oll
 have hrl:(ME b.ty b.lc r.pl).length<=32:=by
  have:=xH b.ty b.lc r.pl
  unfold ME;rw[bC];exact this
 rw[D8] at pE ⊢
 have wO:=lm sD b.rg
 have lJ:=lm cP b.ty
 obtain⟨y,hy⟩:∃y,y=I3 b r t:=⟨_,rfl⟩
 rw[<-hy]
 unfold I3 at hy
 have rK:=mD ht
 have FA:t.toNat<b.ty.length:=by unfold cE at ht;omega
 have AM:0<=t:=by unfold cE at ht;omega
 obtain⟨u,hu⟩:∃u,u=cZ b.ty t:=⟨_,rfl⟩
 obtain⟨T,hT⟩:∃T,T=uE b r.pl:=⟨_,rfl⟩
 obtain⟨R,hRR⟩:∃R,R=ME b.ty b.lc r.pl:=⟨_,rfl⟩
 obtain⟨Z,hZ⟩:∃Z,Z=x9 b.ty b.lc r.pl:=⟨_,rfl⟩
 rw[<-hu] at rK hy
 rw[<-hT] at pE hy
 rw[<-hRR] at hrg hrl hy
 rw[<-hZ] at DC hy
 clear hu hT hRR hZ
 obtain⟨k,op,rg,mu,pl,ar⟩:=r
 obtain⟨uk,um,ur,ue,ua⟩:=u
 simp only[cP] at rK
 simp only at hy hou
 simp only[lN] at pE DC hrg
 have CC:=lm iD R
 refine aQ _ _ func152 rfl rfl ntmps152 results152 (by simp) fun w0 g0 Q aD=>?_
 refine tq @IM.eq_1 ?_;intro Nx aB Gx aF
 intro c3 j5 c4 uL
 refine aB _ ?_
 obtain⟨lK,sH⟩:=bY.1 uL;refine cA 3 rfl ((aN lK.symm).trans (aO _ _ _)) rfl ?_;refine cA 4 rfl ((bS lK).trans (aO _ _ _)) rfl ?_;refine eV _ (kF j5 sH) ?_;simp only[St.jH,List.drop]
 refine tq trivial ?_;intro Nx aB Gx aF
 refine pE.mono ?_
 rintro d _ ⟨rfl,rfl⟩
 refine tq (gQ rK FA AM lJ) ?_;intro Nx aB Gx aF
 intro c9 Z4
 refine aB _ ?_
 refine fZ 9 Z4 ?_
 by_cases h1:T.2=0
 case neg=>
  have q1:(T.2=0)=False:=aI h1
  have e:y=T.2:=hy.trans (aE h1)
  exact oz aD q1 aS e
 have q1:(T.2=0)=True:=aK h1
 rw[aA (fun h=>h h1)] at hy
 by_cases h2:rg<0
 ·have q2:(rg<0)=True:=aK h2
  have e:y=3:=hy.trans (aE (.inl h2))
  exact oz aD (dG q1 q2) aS e
 have q2:(rg<0)=False:=aI h2
 by_cases h3:(b.rg.length:Int)<=rg
 ·have q3:(rg≥(b.rg.length:Int))=True:=aK h3
  have e:y=3:=hy.trans (aE (.inr h3))
  exact oz aD (gQ q1 q2 q3 wO) aS e
 have q3:(rg≥(b.rg.length:Int))=False:=aI h3
 rw[aA (by omega)] at hy
 by_cases h4:uk=3
 case neg=>
  have q4:(uk=3)=False:=aI h4
  have e:y=22:=hy.trans (aE (.inl h4))
  exact oz aD (jE q1 q2 q3 wO q4) aS e
 have q4:(uk=3)=True:=aK h4
 by_cases h5:ur=rg
 case neg=>
  have q5:(ur=rg)=False:=aI h5
  have e:y=22:=hy.trans (aE (.inr (.inl h5)))
  exact oz aD (kB q1 q2 q3 wO q4 q5) aS e
 have q5:(ur=rg)=True:=aK h5
 by_cases h6:um=mu
 case neg=>
  have e:y=22:=hy.trans (aE (.inr (.inr (.inl h6))))
  have q6:(um=mu)=False:=aI h6
  exact oz aD (nF q1 q2 q3 wO q4 q5 q6) aS e
 have q6:(um=mu)=True:=aK h6
 by_cases h7:ue=T.1
 case neg=>
  have q7:(ue=T.1)=False:=aI h7
  have e:y=22:=hy.trans (aE (.inr (.inr (.inr (.inl h7)))))
  exact oz aD (wG q1 q2 q3 wO q4 q5 q6 q7) aS e
 have q7:(ue=T.1)=True:=aK h7
 by_cases hm:mu=true/\Z=false
 ·obtain⟨NB,CB⟩:=hm
  have e:y=22:=hy.trans (aE (.inr (.inr (.inr (.inr ⟨NB,CB⟩)))))
  rw[CB] at DC
  rw[NB] at q6
  refine tq (BR q1 q2 q3 wO q4 q5 q6 q7 NB) ?_;intro Nx aB Gx aF
  refine DC.mono ?_
  rintro d _ ⟨rfl,rfl⟩
  exact oz aD q1 aS e
 have yJ:¬(uk≠3\/ur≠rg\/um≠mu\/ue≠T.1\/(mu=true/\Z=false)):=fun h=>h.elim (· h4) fun h=>h.elim (· h5) fun h=>h.elim (· h6) fun h=>h.elim (· h7) hm
 rw[aA yJ] at hy
 have hZ:mu=true->Z=true:=fun h=>by cases Z;exact absurd ⟨h,rfl⟩ hm;rfl
 cases mu
 ·refine tq (wG q1 q2 q3 wO q4 q5 q6 q7) ?_;intro Nx aB Gx aF
  refine hrg.mono ?_
  rintro d _ ⟨rfl,rfl⟩
  refine tq CC ?_;intro Nx aB Gx aF
  refine aZ R.length (fun i s=>s.df=[]/\s.fr 3=.rp [cX b.nm,.seq 1 (b.rg.map sD),.seq 2 (b.ol.map pD),.seq 5 (b.ty.map cP),.seq 2 (b.lc.map mN),i64 b.ag,.seq 7 (b.bl.map jP),jL (b.rg.length:Int) b1 b2]/\(∃x,s.fr 4=.rp [i64 k,i64 op,i64 rg,.val (.bool x),i64 pl.lo,.seq 2 (pl.pr.map pD),.seq 4 (ar.map jW)])/\s.fr 89=.seq 1 (R.map iD)/\s.fr 90=i64 R.length/\s.fr 91=i64 i/\s.H=H/\(R.all fun q=>lL b.ol b.rg.length q rg)=((R.drop i).all fun q=>lL b.ol b.rg.length q rg)) ⟨rfl,rfl,⟨_,rfl⟩,rfl,rfl,rfl,rfl,rfl⟩ ?_
  rintro i s hi ⟨aT,f3,⟨x,f4⟩,f89,f90,f91,hH,ha⟩
  have hx:=bI i
  have cJ:=bM i
  have aY:H.le s.H:=by rw[hH];exact aG _
  by_cases aV:i<R.length
  case neg=>
   have q8:=lF i R.length (by omega)
   rw[eT (by omega),tI] at ha
   rw[ha,aA (fun h=>by cases h)] at hy
   refine tq (eA f90 f91 q8) ?_;intro Nx aB Gx aF
   refine rt aD aT ?_
   exact⟨_,aG _,aY,_,aH aY,by rw[hy] <;> rfl⟩
  have cC:(i:Int)<(R.length:Int):=by omega
  have q8:((i:Int)<(R.length:Int))=True:=aK cC
  have w3:=wS i (by omega)
  have cD:=cO aV
  rw[eH aV,pX] at ha
  have hoi:=hou R[i]
  obtain⟨v,hv⟩:∃v,v=R[i]:=⟨_,rfl⟩
  rw[<-hv] at cD ha hoi
  obtain⟨z,hz⟩:∃z,z=lL b.ol b.rg.length v rg:=⟨_,rfl⟩
  rw[<-hz] at ha hoi
  rw[<-hH] at hoi
  refine tq (zY f3 f4 f89 f90 f91 CC q8 cD hx cJ aV cC) ?_;intro Nx aB Gx aF
  refine hoi.mono ?_
  rintro d _ ⟨rfl,E9⟩
  cases z
  ·rw[gC] at ha
   rw[ha,aE rfl] at hy
   refine tq trivial ?_;intro Nx aB Gx aF
   refine rt aD aT ?_
   exact⟨_,aG _,by rw[<-E9];exact aY,_,aH (by rw[<-E9];exact aY),by rw[hy] <;> rfl⟩
  ·rw[eI] at ha
   refine tq (dG f91 w3) ?_;intro Nx aB Gx aF
   exact⟨aV,aT,f3,⟨x,f4⟩,f89,f90,rfl,by rw[<-E9];exact hH,ha⟩
 ·rw[hZ rfl] at DC
  refine tq (wG q1 q2 q3 wO q4 q5 q6 q7) ?_;intro Nx aB Gx aF
  refine DC.mono ?_
  rintro d _ ⟨rfl,rfl⟩
  refine tq trivial ?_;intro Nx aB Gx aF
  refine hrg.mono ?_
  rintro d _ ⟨rfl,rfl⟩
  refine tq CC ?_;intro Nx aB Gx aF
  refine aZ R.length (fun i s=>s.df=[]/\s.fr 3=.rp [cX b.nm,.seq 1 (b.rg.map sD),.seq 2 (b.ol.map pD),.seq 5 (b.ty.map cP),.seq 2 (b.lc.map mN),i64 b.ag,.seq 7 (b.bl.map jP),jL (b.rg.length:Int) b1 b2]/\(∃x,s.fr 4=.rp [i64 k,i64 op,i64 rg,.val (.bool x),i64 pl.lo,.seq 2 (pl.pr.map pD),.seq 4 (ar.map jW)])/\s.fr 89=.seq 1 (R.map iD)/\s.fr 90=i64 R.length/\s.fr 91=i64 i/\s.H=H/\(R.all fun q=>lL b.ol b.rg.length q rg)=((R.drop i).all fun q=>lL b.ol b.rg.length q rg)) ⟨rfl,rfl,⟨_,rfl⟩,rfl,rfl,rfl,rfl,rfl⟩ ?_
  rintro i s hi ⟨aT,f3,⟨x,f4⟩,f89,f90,f91,hH,ha⟩
  have hx:=bI i
  have cJ:=bM i
  have aY:H.le s.H:=by rw[hH];exact aG _
  by_cases aV:i<R.length
  case neg=>
   have q8:=lF i R.length (by omega)
   rw[eT (by omega),tI] at ha
   rw[ha,aA (fun h=>by cases h)] at hy
   refine tq (eA f90 f91 q8) ?_;intro Nx aB Gx aF
   refine rt aD aT ?_
   exact⟨_,aG _,aY,_,aH aY,by rw[hy] <;> rfl⟩
  have cC:(i:Int)<(R.length:Int):=by omega
  have q8:((i:Int)<(R.length:Int))=True:=aK cC
  have w3:=wS i (by omega)
  have cD:=cO aV
  rw[eH aV,pX] at ha
  have hoi:=hou R[i]
  obtain⟨v,hv⟩:∃v,v=R[i]:=⟨_,rfl⟩
  rw[<-hv] at cD ha hoi
  obtain⟨z,hz⟩:∃z,z=lL b.ol b.rg.length v rg:=⟨_,rfl⟩
  rw[<-hz] at ha hoi
  rw[<-hH] at hoi
  refine tq (zY f3 f4 f89 f90 f91 CC q8 cD hx cJ aV cC) ?_;intro Nx aB Gx aF
  refine hoi.mono ?_
  rintro d _ ⟨rfl,E9⟩
  cases z
  ·rw[gC] at ha
   rw[ha,aE rfl] at hy
   refine tq trivial ?_;intro Nx aB Gx aF
   refine rt aD aT ?_
   exact⟨_,aG _,by rw[<-E9];exact aY,_,aH (by rw[<-E9];exact aY),by rw[hy] <;> rfl⟩
  ·rw[eI] at ha
   refine tq (dG f91 w3) ?_;intro Nx aB Gx aF
   exact⟨aV,aT,f3,⟨x,f4⟩,f89,f90,rfl,by rw[<-E9];exact hH,ha⟩
theorem gD0:gD 0=.rp [i64 2,i64 2,i64 1,i64 1]:=rfl
theorem gD1:gD 1=.rp [i64 2,i64 2,i64 2,i64 2,i64 2,i64 2,i64 2,i64 1,i64 2,i64 1,i64 1,i64 1]:=rfl
def unT:List (Int×Int):=[(2,2),(1,1)]
def aE7:List (Int×Int):=[(2,2),(2,2),(2,2),(2,1),(2,1),(1,1)]
theorem aRF {x:Int} (h:0<=x) (h6:x<6):x=0\/x=1\/x=2\/x=3\/x=4\/x=5:=by omega
theorem aLX (b:cT) (r:G0) (t:Int):vU b r t unT.length (unT.getD r.op.toNat (1,0))=vU b r t 2 (unE r.op):=by
 by_cases h:r.op<0\/2<=r.op
 ·unfold vU
  rw[aE (by simpa [unT] using h),aE h]
 ·have h2:r.op=0\/r.op=1:=by omega
  have:unT.getD r.op.toNat (1,0)=unE r.op:=by rcases h2 with h|h <;> rw[h] <;> rfl
  rw[this];rfl
theorem aIC (b:cT) (r:G0) (t:Int):vU b r t aE7.length (aE7.getD r.op.toNat (1,0))=vU b r t 6 (aBg r.op):=by
 by_cases h:r.op<0\/6<=r.op
 ·unfold vU
  rw[aE (by simpa [aE7] using h),aE h]
 ·have:aE7.getD r.op.toNat (1,0)=aBg r.op:=by rcases aRF (x:=r.op) (by omega) (by omega) with h|h|h|h|h|h <;> rw[h] <;> rfl
  rw[this];rfl
theorem aI0 (b:cT) (n:Int) (b1 b2:Nat) (r:G0) (t:Int) (H:aC) (ck:Ck b) (hn:n=b.rg.length) (hR:yL b.ol b1 b2 H) (hp:UE r) (ht:cE b.ty.length t) (hfs:∀f∈(cZ b.ty t).ar,cE b.ty.length f):bE prog 110 [.agg (D7 b n b1 b2),.agg (IM r),i64 t] H fun d H'=>d=i64 (SG b r t)/\H=H':=by
 refine bO (K:=fun d=>d=i64 (SG b r t)) ?_
 have aS:=aG H
 have hun:=aIu r H hp
 have hbo:=aGM b n b1 b2 r t H ck hn hR hp ht
 have hou:∀H1,H1=H->eF prog 153 [.agg (D7 b n b1 b2),.agg (IM r),i64 t,.seq 2 (unT.map pD)] H1 fun d A=>A=aC.none/\d=i64 (vU b r t 2 (unE r.op)):=fun H1 uK=>cF fun gI gX=>by
  have:=NJ b n b1 b2 r t unT gI ck hn (PC hR (by rw[<-uK];exact gX)) hp ht (by decide)
  rwa[aLX] at this
 have kN:∀H1,H1=H->eF prog 153 [.agg (D7 b n b1 b2),.agg (IM r),i64 t,.seq 2 (aE7.map pD)] H1 fun d A=>A=aC.none/\d=i64 (vU b r t 6 (aBg r.op)):=fun H1 uK=>cF fun gI gX=>by
  have:=NJ b n b1 b2 r t aE7 gI ck hn (PC hR (by rw[<-uK];exact gX)) hp ht (by decide)
  rwa[aIC] at this
 have AB:∀(fs:List Int),dO fs.length->(∀f∈fs,cE b.ty.length f)->bE prog 115 [.agg (D7 b n b1 b2),.seq 4 (r.ar.map jW),.seq 1 (fs.map iD)] H fun d H'=>d=i64 (gA b r.ar fs)/\H=H':=fun fs h1 h2=>CF b n b1 b2 r.ar fs H ck hn hR hp.2.1 hp.2.2 h1 h2
 have hoc:∀H1,H1=H->eF prog 115 [.agg (D7 b n b1 b2),.seq 4 (r.ar.map jW),.seq 1 ((cZ b.ty t).ar.map iD)] H1 fun d A=>A=aC.none/\d=i64 (gA b r.ar (cZ b.ty t).ar):=fun H1 uK=>cF fun gI gX=>CF b n b1 b2 r.ar _ gI ck hn (PC hR (by rw[<-uK];exact gX)) hp.2.1 hp.2.2 (ck.ar.dO _ (wV ht)) hfs
 have hfa:∀x H1,eF prog 113 [.val (.bool x)] H1 fun d A=>A=aC.none/\d=i64 (if x=true then 22 else 0):=fun x H1=>cF fun gI gX=>AW x gI
 have X6:∀a c H1,eF prog 103 [.seq 1 [[i64 a],[i64 c]]] H1 fun d A=>A=aC.none/\d=i64 (if a≠0 then a else c):=fun a c H1=>cF fun gI gX=>Q1 a c gI
 rw[D8] at hbo hou kN AB hoc ⊢
 have lJ:=lm cP b.ty
 have dX:=lm jW r.ar
 obtain⟨y,hy⟩:∃y,y=SG b r t:=⟨_,rfl⟩
 rw[<-hy]
 unfold SG at hy
 have rK:=mD ht
 have FA:t.toNat<b.ty.length:=by unfold cE at ht;omega
 have AM:0<=t:=by unfold cE at ht;omega
 obtain⟨u,hu⟩:∃u,u=cZ b.ty t:=⟨_,rfl⟩
 rw[<-hu] at rK hy hoc
 clear hu hfs
 simp only[cP] at rK
 obtain⟨S,hS⟩:∃S,S=GV r:=⟨_,rfl⟩
 rw[<-hS] at hun hy
 refine aQ _ _ func110 rfl rfl ntmps110 results110 (by simp) fun w0 g0 Q aD=>?_
 refine tq @IM.eq_1 ?_;intro Nx aB Gx aF
 intro c3 j5 c4 uL
 refine aB _ ?_
 obtain⟨lK,sH⟩:=bY.1 uL;refine cA 3 rfl ((aN lK.symm).trans (aO _ _ _)) rfl ?_;refine cA 4 rfl ((bS lK).trans (aO _ _ _)) rfl ?_;refine eV _ (kF j5 sH) ?_;simp only[St.jH,List.drop]
 by_cases h1:r.k<0
 ·have q1:(r.k<0)=True:=aK h1
  have e:y=14:=hy.trans (aE (.inl h1))
  exact oz aD q1 aS e
 have q1:(r.k<0)=False:=aI h1
 by_cases h2:4<r.k
 ·have q2:(4<r.k)=True:=aK h2
  have e:y=14:=hy.trans (aE (.inr h2))
  exact oz aD (dG q1 q2) aS e
 have q2:(4<r.k)=False:=aI h2
 rw[aA (by omega)] at hy
 refine tq (dG q1 q2) ?_;intro Nx aB Gx aF
 refine hun.mono ?_
 rintro d _ ⟨rfl,rfl⟩
 cases S
 ·have e:y=2:=hy
  exact oz aD q1 aS e
 rw[aA (fun h=>by cases h)] at hy
 by_cases hk:r.k=0
 ·have k0:(r.k=0)=True:=aK hk
  rw[aE hk] at hy
  have e:=hy
  refine tq k0 ?_;intro Nx aB Gx aF
  refine(AB [t] (by unfold dO;simp) (fun f hf=>by rw[cR] at hf;subst hf;exact ht)).mono ?_
  rintro d _ ⟨rfl,rfl⟩
  exact oz aD q1 aS e
 have k0:(r.k=0)=False:=aI hk
 rw[aA hk] at hy
 by_cases hk:r.k=1
 ·have k1:(r.k=1)=True:=aK hk
  rw[aE hk] at hy
  have e:=hy
  refine tq (dG k0 k1) ?_;intro Nx aB Gx aF
  refine hbo.mono ?_
  rintro d _ ⟨rfl,rfl⟩
  exact oz aD q1 aS e
 have k1:(r.k=1)=False:=aI hk
 rw[aA hk] at hy
 by_cases hk:r.k=2
 ·have k2:(r.k=2)=True:=aK hk
  rw[aE hk] at hy
  have e:=hy
  refine tq (eA k0 k1 k2) ?_;intro Nx aB Gx aF
  refine dE (fun _ _ d A=>A=.none/\d=i64 (vU b r t 2 (unE r.op))) fun Nx aB=>?_;refine dst (dG gD0 @JA.eq_1) ?_;intro Nx aB Gx aF
  refine⟨hou _ rfl,?_⟩
  (first|refine aF _ ?_|refine aB _ ?_|skip)
  exact oz aD q1 aS e
 have k2:(r.k=2)=False:=aI hk
 rw[aA hk] at hy
 by_cases hk:r.k=3
 ·have k3:(r.k=3)=True:=aK hk
  rw[aE hk] at hy
  have e:=hy
  refine tq (gQ k0 k1 k2 k3) ?_;intro Nx aB Gx aF
  refine dE (fun _ _ d A=>A=.none/\d=i64 (vU b r t 6 (aBg r.op))) fun Nx aB=>?_;refine dst (dG gD1 @JA.eq_1) ?_;intro Nx aB Gx aF
  refine⟨kN _ rfl,?_⟩
  (first|refine aF _ ?_|refine aB _ ?_|skip)
  exact oz aD q1 aS e
 have k3:(r.k=3)=False:=aI hk
 rw[aA hk] at hy
 refine tq (wG k0 k1 k2 k3 rK FA AM lJ) ?_;intro Nx aB Gx aF
 intro c7 EG
 refine aB _ ?_
 refine fZ 7 EG ?_
 by_cases h7:u.k=4
 case neg=>
  have q7:(u.k=4)=False:=aI h7
  have e:y=22:=by rw[hy,aE (.inl h7)]
  refine bP ?_
  refine dE (fun t0 _ d A=>A=.none/\d=(if t0=some 67 then i64 22 else if t0=some 73 then i64 (gA b r.ar u.ar) else i64 22)) fun Nx aB=>?_;refine dst q7 ?_;intro Nx aB Gx aF
  refine⟨hfa _ _,hoc _ rfl,X6 22 _ _,?_⟩
  (first|refine aF _ ?_|refine aB _ ?_|skip)
  exact oz aD q7 aS e
 have q7:(u.k=4)=True:=aK h7
 have DC:=lm iD u.ar
 by_cases h8:u.ar.length=r.ar.length
 case neg=>
  have q8:((u.ar.length:Int)=(r.ar.length:Int))=False:=aI (by omega)
  have e:y=22:=by rw[hy,aE (.inr h8)]
  refine bP ?_
  refine dE (fun t0 _ d A=>A=.none/\d=(if t0=some 67 then i64 22 else if t0=some 73 then i64 (gA b r.ar u.ar) else i64 22)) fun Nx aB=>?_;refine dst (gQ q7 q8 dX DC) ?_;intro Nx aB Gx aF
  refine⟨hfa _ _,hoc _ rfl,X6 22 _ _,?_⟩
  (first|refine aF _ ?_|refine aB _ ?_|skip)
  exact oz aD q7 aS e
 have q8:((u.ar.length:Int)=(r.ar.length:Int))=True:=aK (by omega)
 have e:y=gA b r.ar u.ar:=by rw[hy,aA (by omega)]
 refine bP ?_
 refine dE (fun t0 _ d A=>A=.none/\d=(if t0=some 67 then i64 0 else if t0=some 73 then i64 (gA b r.ar u.ar) else i64 (gA b r.ar u.ar))) fun Nx aB=>?_;refine dst (gQ q7 q8 dX DC) ?_;intro Nx aB Gx aF
 refine⟨hfa _ _,hoc _ rfl,X6 0 _ _,?_⟩
 (first|refine aF _ ?_|refine aB _ ?_|skip)
 exact oz aD q7 aS e
theorem VC {b:cT} (hw:zJ b.ty) {t:Int} (h:cE b.ty.length t):∀f∈(cZ b.ty t).ar,cE b.ty.length f:=fun f hf=>by
 obtain⟨h',he⟩:=BP h
 rw[he] at hf
 have:=(hw _ h').2 f hf
 unfold cE
 omega
def StM (b:cT) (n:Int) (b1 b2:Nat) (s:EZ) (H:aC) (x:St):Prop:=x.df=[]/\x.fr 2=.rp (D7 b n b1 b2)/\x.fr 3=.rp (vV s)/\x.fr 5=.rp (IM s.rv)/\x.fr 6=.val (.bool (aAG s))/\x.H=H
theorem aPQ (b:cT) (n:Int) (b1 b2:Nat) (s:EZ) (H:aC) (ck:Ck b) (hn:n=b.rg.length) (hR:yL b.ol b1 b2 H) (hp:aHw s):bE prog 53 [.agg (D7 b n b1 b2),.agg (vV s)] H fun d H'=>d=i64 (IN b s)/\H=H':=by
 refine bO (K:=fun d=>d=i64 (IN b s)) ?_
 have aS:=aG H
 have T9:=S6 s.pl H hp.1
 have hz2:=S6 s.rv.pl H hp.2.1
 have K8:=S4 b n b1 b2 s.pl H ck hp.1
 have hrv:=fun t h=>aI0 b n b1 b2 s.rv t H ck hn hR hp.2 h (VC ck.wt h)
 have iI:GX b s.pl=0->cE b.ty.length (uE b s.pl).1:=fun h=>MK ck (by
  unfold GX at h
  exact jO fun h2=>by rw[aE h2] at h;exact h2 h)
 have dX:=lm jW s.rv.ar
 have hmc:=lm mN b.lc
 obtain⟨y,hy⟩:∃y,y=IN b s:=⟨_,rfl⟩
 rw[<-hy]
 unfold IN at hy
 have hM:∀x,StM b n b1 b2 s H x↔(x.df=[]/\x.fr 2=.rp (D7 b n b1 b2)/\x.fr 3=.rp (vV s)/\x.fr 5=.rp (IM s.rv)/\x.fr 6=.val (.bool (aAG s))/\x.H=H):=fun x=>Iff.rfl
 obtain⟨M,hMM⟩:∃M,M=StM b n b1 b2 s H:=⟨_,rfl⟩
 rw[<-hMM] at hM
 clear hMM
 have wN:aAG s=(gL s.pl&&(decide (s.rv.k=0)&&decide (s.rv.op=0)&&decide (s.rv.ar.length=0)&&decide (s.rv.rg=0)&& !s.rv.mu&&gL s.rv.pl)):=rfl
 obtain⟨B,hB⟩:∃B,B=aAG s:=⟨_,rfl⟩
 rw[<-hB] at hy hM wN
 clear hB
 rw[D8] at K8 hrv hM ⊢
 obtain⟨T,hT⟩:∃T,T=uE b s.pl:=⟨_,rfl⟩
 obtain⟨E,hE⟩:∃E,E=GX b s.pl:=⟨_,rfl⟩
 rw[<-hT,<-hE] at K8 iI
 rw[<-hT,<-hE] at hy
 clear hT hE
 have hax:=hp.2.2.1
 unfold dO at hax
 obtain⟨k,pl,⟨rk,rop,rrg,rmu,rpl,rar⟩,lo⟩:=s
 simp only[vV,IM,lN] at hM T9 hz2 K8 hrv ⊢
 simp only at hy dX wN hax
 refine aQ _ _ func53 rfl rfl ntmps53 results53 (by simp) fun w0 g0 Q aD=>?_
 refine tq trivial ?_;intro Nx aB Gx aF
 intro c2 lH c3 j5
 refine aB _ ?_
 obtain⟨lK,sH⟩:=bY.1 j5;refine cA 2 rfl ((aN lK.symm).trans (aO _ _ _)) rfl ?_;refine cA 3 rfl ((bS lK).trans (aO _ _ _)) rfl ?_;refine eV _ (kF lH sH) ?_;simp only[St.jH,List.drop]
 refine tq trivial ?_;intro Nx aB Gx aF
 intro c5 lY
 refine aB _ ?_
 refine fZ 5 lY ?_
 refine bP ?_
 refine I0 M ?_ ?_
 ·obtain⟨Z1,hZ1⟩:∃Z1,Z1=gL pl:=⟨_,rfl⟩
  rw[<-hZ1] at T9 wN
  obtain⟨Z2,hZ2⟩:∃Z2,Z2=gL rpl:=⟨_,rfl⟩
  rw[<-hZ2] at hz2 wN
  clear hZ1 hZ2 hy iI
  cases Z1
  ·have eb:B=false:=by rw[wN];rfl
   refine tq trivial ?_;intro Nx aB Gx aF
   refine T9.mono ?_
   rintro d _ ⟨rfl,rfl⟩
   refine tq trivial ?_;intro Nx aB Gx aF
   exact(hM _).2 ⟨rfl,rfl,rfl,rfl,by rw[eb] <;> rfl,rfl⟩
  rw[eI] at wN
  by_cases h1:rk=0
  case neg=>
   have q1:(rk=0)=False:=aI h1
   have eb:B=false:=by rw[wN,bB h1];rfl
   refine tq q1 ?_;intro Nx aB Gx aF
   refine T9.mono ?_
   rintro d _ ⟨rfl,rfl⟩
   refine tq q1 ?_;intro Nx aB Gx aF
   exact(hM _).2 ⟨rfl,rfl,rfl,rfl,by rw[eb] <;> rfl,rfl⟩
  have q1:(rk=0)=True:=aK h1
  rw[bG h1,eI] at wN
  by_cases h2:rop=0
  case neg=>
   have q2:(rop=0)=False:=aI h2
   have eb:B=false:=by rw[wN,bB h2];rfl
   refine tq trivial ?_;intro Nx aB Gx aF
   refine T9.mono ?_
   rintro d _ ⟨rfl,rfl⟩
   refine tq (dG q1 q2) ?_;intro Nx aB Gx aF
   exact(hM _).2 ⟨rfl,rfl,rfl,rfl,by rw[eb] <;> rfl,rfl⟩
  have q2:(rop=0)=True:=aK h2
  rw[bG h2,eI] at wN
  by_cases h3:rar.length=0
  case neg=>
   have q3:((rar.length:Int)=0)=False:=aI (by omega)
   have eb:B=false:=by rw[wN,bB h3];rfl
   refine tq trivial ?_;intro Nx aB Gx aF
   refine T9.mono ?_
   rintro d _ ⟨rfl,rfl⟩
   refine tq (gQ q1 q2 q3 dX) ?_;intro Nx aB Gx aF
   exact(hM _).2 ⟨rfl,rfl,rfl,rfl,by rw[eb] <;> rfl,rfl⟩
  have q3:((rar.length:Int)=0)=True:=aK (by omega)
  rw[bG h3,eI] at wN
  by_cases h4:rrg=0
  case neg=>
   have q4:(rrg=0)=False:=aI h4
   have eb:B=false:=by rw[wN,bB h4];rfl
   refine tq trivial ?_;intro Nx aB Gx aF
   refine T9.mono ?_
   rintro d _ ⟨rfl,rfl⟩
   refine tq (jE q1 q2 q3 dX q4) ?_;intro Nx aB Gx aF
   exact(hM _).2 ⟨rfl,rfl,rfl,rfl,by rw[eb] <;> rfl,rfl⟩
  have q4:(rrg=0)=True:=aK h4
  rw[bG h4,eI] at wN
  cases rmu
  case true=>
   have eb:B=false:=by rw[wN];rfl
   refine tq trivial ?_;intro Nx aB Gx aF
   refine T9.mono ?_
   rintro d _ ⟨rfl,rfl⟩
   refine tq (jE q1 q2 q3 dX q4) ?_;intro Nx aB Gx aF
   exact(hM _).2 ⟨rfl,rfl,rfl,rfl,by rw[eb] <;> rfl,rfl⟩
  have eb:B=Z2:=by rw[wN];rfl
  refine tq trivial ?_;intro Nx aB Gx aF
  refine T9.mono ?_
  rintro d _ ⟨rfl,rfl⟩
  refine tq (jE q1 q2 q3 dX q4) ?_;intro Nx aB Gx aF
  refine hz2.mono ?_
  rintro d _ ⟨rfl,rfl⟩
  refine tq trivial ?_;intro Nx aB Gx aF
  exact(hM _).2 ⟨rfl,rfl,rfl,rfl,by rw[eb] <;> rfl,rfl⟩
 intro s hs
 obtain⟨aT,f2,f3,f5,f6,hH⟩:=(hM s).1 hs
 have aY:H.le s.H:=by rw[hH];exact aG _
 by_cases hk:k=0
 ·have k0:(k=0)=True:=aK hk
  rw[aE hk] at hy
  by_cases h1:lo=0
  case neg=>
   have q1:(lo=0)=False:=aI h1
   have e:y=2:=hy.trans (aE h1)
   exact oz aD (eA f3 k0 q1) aY e
  have q1:(lo=0)=True:=aK h1
  rw[aA (fun h=>h h1)] at hy
  rw[<-hH] at K8
  refine tq (gQ f2 f3 k0 q1) ?_;intro Nx aB Gx aF
  refine K8.mono ?_
  rintro d _ ⟨rfl,E9⟩
  by_cases h2:E=0
  case neg=>
   have q2:(E=0)=False:=aI h2
   have e:y=E:=hy.trans (aE h2)
   rw[E9] at aY
   exact oz aD q2 aY e
  have q2:(E=0)=True:=aK h2
  rw[aA (fun h=>h h2)] at hy
  have hr:=hrv T.1 (iI h2)
  rw[<-hH,E9] at hr
  rw[E9] at aY
  refine tq (eA f2 f5 q2) ?_;intro Nx aB Gx aF
  refine hr.mono ?_
  rintro d _ ⟨rfl,y8⟩
  rw[y8] at aY
  have e:=hy
  exact oz aD trivial aY e
 have k0:(k=0)=False:=aI hk
 rw[aA hk] at hy
 by_cases pB:k=1
 ·have k1:(k=1)=True:=aK pB
  rw[aE pB] at hy
  cases B
  ·have e:y=2:=hy
   exact oz aD (gQ f3 f6 k0 k1) aY e
  rw[aA (fun h=>by cases h)] at hy
  by_cases h1:lo<0
  ·have q1:(lo<0)=True:=aK h1
   have e:y=3:=hy.trans (aE (.inl h1))
   exact oz aD (kB f2 f3 f6 k0 k1 q1) aY e
  have q1:(lo<0)=False:=aI h1
  by_cases h2:(b.lc.length:Int)<=lo
  ·have q2:(lo≥(b.lc.length:Int))=True:=aK h2
   have e:y=3:=hy.trans (aE (.inr h2))
   exact oz aD (wG f2 f3 f6 k0 k1 q1 q2 hmc) aY e
  have q2:(lo≥(b.lc.length:Int))=False:=aI h2
  have e:y=0:=hy.trans (aA (by omega))
  exact oz aD (wG f2 f3 f6 k0 k1 q1 q2 hmc) aY e
 have k1:(k=1)=False:=aI pB
 rw[aA pB] at hy
 by_cases jG:k=2
 ·have k2:(k=2)=True:=aK jG
  rw[aE jG] at hy
  cases B
  ·have e:y=2:=hy
   exact oz aD (jE f3 f6 k0 k1 k2) aY e
  by_cases h1:lo=0
  ·have q1:(lo=0)=True:=aK h1
   have e:y=0:=hy.trans (aA (by rintro(h|h);cases h;exact h h1))
   exact oz aD (kB f3 f6 k0 k1 k2 q1) aY e
  ·have q1:(lo=0)=False:=aI h1
   have e:y=2:=hy.trans (aE (.inr h1))
   exact oz aD (kB f3 f6 k0 k1 k2 q1) aY e
 have k2:(k=2)=False:=aI jG
 rw[aA jG] at hy
 have e:y=14:=hy
 exact oz aD (gQ f3 k0 k1 k2) aY e
end Go.Proofs.YtfiipaodjpiooaaGreatDoor

