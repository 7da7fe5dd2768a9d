/- Lemmas and contracts of functions, several texts in one. -/
import Derived.Test.YtfiipaodjpiooaaGreatDoorQ33
set_option maxRecDepth 100000
set_option maxHeartbeats 4000000
set_option linter.all false
namespace Go.Proofs.YtfiipaodjpiooaaGreatDoor
open Go.RowKit
open Tryz
theorem aFO (b:cT) (r:G0) (t:Int) (H:aC) (ck:Ck b) (hp:UE r) (ht:cE b.ty.length t):bE prog 143 [.agg (iS b),.agg (IM r),i64 t] H fun d H'=>d=i64 (I3 b r t)/\H=H':=by
 refine bO (K:=fun d=>d=i64 (I3 b r t)) ?_
 have aS:=aG H
 have pE:=L3 b r.pl H ck hp.1
 have DC:=YN b r.pl H ck hp.1
 have hrg:=aKu b.ty b.lc r.pl H ck.wt ck.wl ck.ar hp.1
 have hou:∀q H1,eF prog 172 [.seq 2 (b.ol.map pD),i64 b.rg.length,i64 q,i64 r.rg] H1 fun d A=>A=aC.none/\d=.val (.bool (lL b.ol b.rg.length q r.rg)):=fun q H1=>cF fun gI gX=>aDb b.ol b.rg.length q r.rg gI ck.ol (by have:=ck.rgl;omega) ck.oll
 have hrl:(ME b.ty b.lc r.pl).length<=32:=by
  have:=xH b.ty b.lc r.pl
  unfold ME;rw[bC];exact this
 have wO:=lm sD b.rg
 have lJ:=lm cP b.ty
 obtain⟨y,hy⟩:∃y,y=I3 b r t:=⟨_,rfl⟩
 rw[<-hy]
 unfold I3 at hy
 have rK:=mD ht
 have FA:t.toNat<b.ty.length:=by unfold cE at ht;omega
 have AM:0<=t:=by unfold cE at ht;omega
 obtain⟨u,hu⟩:∃u,u=cZ b.ty t:=⟨_,rfl⟩
 obtain⟨T,hT⟩:∃T,T=uE b r.pl:=⟨_,rfl⟩
 obtain⟨R,hRR⟩:∃R,R=ME b.ty b.lc r.pl:=⟨_,rfl⟩
 obtain⟨Z,hZ⟩:∃Z,Z=x9 b.ty b.lc r.pl:=⟨_,rfl⟩
 rw[<-hu] at rK hy
 rw[<-hT] at pE hy
 rw[<-hRR] at hrg hrl hy
 rw[<-hZ] at DC hy
 clear hu hT hRR hZ
 rw[pI] at pE DC ⊢
 obtain⟨k,op,rg,mu,pl,ar⟩:=r
 obtain⟨uk,um,ur,ue,ua⟩:=u
 simp only[cP] at rK
 simp only at hy hou
 simp only[lN] at pE DC hrg
 have CC:=lm iD R
 refine aQ _ _ func143 rfl rfl ntmps143 results143 (by simp) fun w0 g0 Q aD=>?_
 refine tq @IM.eq_1 ?_;intro Nx aB Gx aF
 intro c3 j5 c4 uL
 refine aB _ ?_
 obtain⟨lK,sH⟩:=bY.1 uL;refine cA 3 rfl ((aN lK.symm).trans (aO _ _ _)) rfl ?_;refine cA 4 rfl ((bS lK).trans (aO _ _ _)) rfl ?_;refine eV _ (kF j5 sH) ?_;simp only[St.jH,List.drop]
 refine tq trivial ?_;intro Nx aB Gx aF
 refine pE.mono ?_
 rintro d _ ⟨rfl,rfl⟩
 by_cases h1:T.2=0
 case neg=>
  have q1:(T.2=0)=False:=aI h1
  have e:y=T.2:=hy.trans (aE h1)
  exact oz aD q1 aS e
 have q1:(T.2=0)=True:=aK h1
 rw[aA (fun h=>h h1)] at hy
 by_cases h2:rg<0
 ·have q2:(rg<0)=True:=aK h2
  have e:y=3:=hy.trans (aE (.inl h2))
  exact oz aD (dG q1 q2) aS e
 have q2:(rg<0)=False:=aI h2
 by_cases h3:(b.rg.length:Int)<=rg
 ·have q3:(rg≥(b.rg.length:Int))=True:=aK h3
  have e:y=3:=hy.trans (aE (.inr h3))
  exact oz aD (gQ q1 q2 q3 wO) aS e
 have q3:(rg≥(b.rg.length:Int))=False:=aI h3
 rw[aA (by omega)] at hy
 refine tq (wG q1 q2 q3 wO rK FA AM lJ) ?_;intro Nx aB Gx aF
 intro c9 Z4
 refine aB _ ?_
 refine fZ 9 Z4 ?_
 by_cases h4:uk=3
 case neg=>
  have q4:(uk=3)=False:=aI h4
  have e:y=22:=hy.trans (aE (.inl h4))
  exact oz aD q4 aS e
 have q4:(uk=3)=True:=aK h4
 by_cases h5:ur=rg
 case neg=>
  have q5:(ur=rg)=False:=aI h5
  have e:y=22:=hy.trans (aE (.inr (.inl h5)))
  exact oz aD (dG q4 q5) aS e
 have q5:(ur=rg)=True:=aK h5
 by_cases h6:um=mu
 case neg=>
  have e:y=22:=hy.trans (aE (.inr (.inr (.inl h6))))
  have q6:(um=mu)=False:=aI h6
  exact oz aD (eA q4 q5 q6) aS e
 have q6:(um=mu)=True:=aK h6
 by_cases h7:ue=T.1
 case neg=>
  have q7:(ue=T.1)=False:=aI h7
  have e:y=22:=hy.trans (aE (.inr (.inr (.inr (.inl h7)))))
  exact oz aD (gQ q4 q5 q6 q7) aS e
 have q7:(ue=T.1)=True:=aK h7
 by_cases hm:mu=true/\Z=false
 ·obtain⟨NB,CB⟩:=hm
  have e:y=22:=hy.trans (aE (.inr (.inr (.inr (.inr ⟨NB,CB⟩)))))
  rw[CB] at DC
  rw[NB] at q6
  refine tq (jE q4 q5 q6 q7 NB) ?_;intro Nx aB Gx aF
  refine DC.mono ?_
  rintro d _ ⟨rfl,rfl⟩
  exact oz aD q1 aS e
 have yJ:¬(uk≠3\/ur≠rg\/um≠mu\/ue≠T.1\/(mu=true/\Z=false)):=fun h=>h.elim (· h4) fun h=>h.elim (· h5) fun h=>h.elim (· h6) fun h=>h.elim (· h7) hm
 rw[aA yJ] at hy
 have hZ:mu=true->Z=true:=fun h=>by cases Z;exact absurd ⟨h,rfl⟩ hm;rfl
 cases mu
 ·refine tq (gQ q4 q5 q6 q7) ?_;intro Nx aB Gx aF
  refine hrg.mono ?_
  rintro d _ ⟨rfl,rfl⟩
  refine tq CC ?_;intro Nx aB Gx aF
  refine aZ R.length (fun i s=>s.df=[]/\s.fr 3=.rp [cX b.nm,.seq 1 (b.rg.map sD),.seq 2 (b.ol.map pD),.seq 5 (b.ty.map cP),.seq 2 (b.lc.map mN),i64 b.ag,.seq 7 (b.bl.map jP)]/\(∃x,s.fr 4=.rp [i64 k,i64 op,i64 rg,.val (.bool x),i64 pl.lo,.seq 2 (pl.pr.map pD),.seq 4 (ar.map jW)])/\s.fr 10=.seq 1 (R.map iD)/\s.fr 11=i64 i/\s.H=H/\(R.all fun q=>lL b.ol b.rg.length q rg)=((R.drop i).all fun q=>lL b.ol b.rg.length q rg)) ⟨rfl,rfl,⟨_,rfl⟩,rfl,rfl,rfl,rfl⟩ ?_
  rintro i s hi ⟨aT,f3,⟨x,f4⟩,f10,f11,hH,ha⟩
  have hx:=bI i
  have cJ:=bM i
  have aY:H.le s.H:=by rw[hH];exact aG _
  by_cases aV:i<R.length
  case neg=>
   have q8:=lF i R.length (by omega)
   rw[eT (by omega),tI] at ha
   rw[ha,aA (fun h=>by cases h)] at hy
   have e:=hy
   exact oz aD (gQ f10 f11 CC q8) aY e
  have cC:(i:Int)<(R.length:Int):=by omega
  have q8:((i:Int)<(R.length:Int))=True:=aK cC
  have w3:=wS i (by omega)
  have cD:=cO aV
  rw[eH aV,pX] at ha
  have hoi:=hou R[i] s.H
  obtain⟨v,hv⟩:∃v,v=R[i]:=⟨_,rfl⟩
  rw[<-hv] at cD ha hoi
  obtain⟨z,hz⟩:∃z,z=lL b.ol b.rg.length v rg:=⟨_,rfl⟩
  rw[<-hz] at ha hoi
  refine tq (gQ f10 f11 CC q8) ?_;intro Nx aB Gx aF
  (try refine bP ?_)
  refine dE (fun _ _ d A=>A=.none/\d=.val (.bool z)) fun Nx aB=>?_;refine dst (rQ f3 f4 f10 f11 wO CC cD hx cJ aV cC) ?_;intro Nx aB Gx aF
  refine⟨hoi,?_⟩
  (first|refine aF _ ?_|refine aB _ ?_|skip)
  cases z
  ·rw[gC] at ha
   rw[ha,aE rfl] at hy
   have e:=hy
   exact oz aD trivial aY e
  ·rw[eI] at ha
   refine tq (dG f11 w3) ?_;intro Nx aB Gx aF
   exact⟨aV,aT,f3,⟨x,f4⟩,f10,rfl,hH,ha⟩
 ·rw[hZ rfl] at DC
  refine tq (gQ q4 q5 q6 q7) ?_;intro Nx aB Gx aF
  refine DC.mono ?_
  rintro d _ ⟨rfl,rfl⟩
  refine tq trivial ?_;intro Nx aB Gx aF
  refine hrg.mono ?_
  rintro d _ ⟨rfl,rfl⟩
  refine tq CC ?_;intro Nx aB Gx aF
  refine aZ R.length (fun i s=>s.df=[]/\s.fr 3=.rp [cX b.nm,.seq 1 (b.rg.map sD),.seq 2 (b.ol.map pD),.seq 5 (b.ty.map cP),.seq 2 (b.lc.map mN),i64 b.ag,.seq 7 (b.bl.map jP)]/\(∃x,s.fr 4=.rp [i64 k,i64 op,i64 rg,.val (.bool x),i64 pl.lo,.seq 2 (pl.pr.map pD),.seq 4 (ar.map jW)])/\s.fr 10=.seq 1 (R.map iD)/\s.fr 11=i64 i/\s.H=H/\(R.all fun q=>lL b.ol b.rg.length q rg)=((R.drop i).all fun q=>lL b.ol b.rg.length q rg)) ⟨rfl,rfl,⟨_,rfl⟩,rfl,rfl,rfl,rfl⟩ ?_
  rintro i s hi ⟨aT,f3,⟨x,f4⟩,f10,f11,hH,ha⟩
  have hx:=bI i
  have cJ:=bM i
  have aY:H.le s.H:=by rw[hH];exact aG _
  by_cases aV:i<R.length
  case neg=>
   have q8:=lF i R.length (by omega)
   rw[eT (by omega),tI] at ha
   rw[ha,aA (fun h=>by cases h)] at hy
   have e:=hy
   exact oz aD (gQ f10 f11 CC q8) aY e
  have cC:(i:Int)<(R.length:Int):=by omega
  have q8:((i:Int)<(R.length:Int))=True:=aK cC
  have w3:=wS i (by omega)
  have cD:=cO aV
  rw[eH aV,pX] at ha
  have hoi:=hou R[i] s.H
  obtain⟨v,hv⟩:∃v,v=R[i]:=⟨_,rfl⟩
  rw[<-hv] at cD ha hoi
  obtain⟨z,hz⟩:∃z,z=lL b.ol b.rg.length v rg:=⟨_,rfl⟩
  rw[<-hz] at ha hoi
  refine tq (gQ f10 f11 CC q8) ?_;intro Nx aB Gx aF
  (try refine bP ?_)
  refine dE (fun _ _ d A=>A=.none/\d=.val (.bool z)) fun Nx aB=>?_;refine dst (rQ f3 f4 f10 f11 wO CC cD hx cJ aV cC) ?_;intro Nx aB Gx aF
  refine⟨hoi,?_⟩
  (first|refine aF _ ?_|refine aB _ ?_|skip)
  cases z
  ·rw[gC] at ha
   rw[ha,aE rfl] at hy
   have e:=hy
   exact oz aD trivial aY e
  ·rw[eI] at ha
   refine tq (dG f11 w3) ?_;intro Nx aB Gx aF
   exact⟨aV,aT,f3,⟨x,f4⟩,f10,rfl,hH,ha⟩
theorem aBD {b:cT}:∀{l:List qV} {fs:List Int},gA b l fs=0->gA b l []=0
 |[],_,_=>rfl
 |o::l,[],h=>h
 |o::l,f::fs,h=>by
  have h1:gA b (o::l) (f::fs)=if qU b o≠0 then qU b o else if uI b o f=false then 22 else gA b l fs:=rfl
  have h2:gA b (o::l) []=if qU b o≠0 then qU b o else gA b l []:=rfl
  rw[h1] at h
  rw[h2]
  by_cases h3:qU b o=0
  ·rw[aA (fun k=>k h3)] at h ⊢
   by_cases h4:uI b o f=false
   ·rw[aE h4] at h;cases h
   ·rw[aA h4] at h;exact aBD h
  ·rw[aE h3] at h;exact absurd h h3
theorem aLx {r:G0} (h:GV r=true):(r.k=0->r.ar.length=1):=by
 intro hk
 unfold GV at h
 rw[aA (by omega),aE hk] at h
 simp only[eK,fV] at h
 exact h.2.2
def A1 (b:cT) (k op rg:Int) (mu:Bool) (pl:pA) (ar:List qV) (t kd:Int) (H:aC) (s:St):Prop:=s.df=[]/\s.fr 2=i64 t/\s.fr 3=.rp [cX b.nm,.seq 1 (b.rg.map sD),.seq 2 (b.ol.map pD),.seq 5 (b.ty.map cP),.seq 2 (b.lc.map mN),i64 b.ag,.seq 7 (b.bl.map jP)]/\s.fr 4=.rp [i64 k,i64 op,i64 rg,.val (.bool mu),i64 pl.lo,.seq 2 (pl.pr.map pD),.seq 4 (ar.map jW)]/\s.fr 8=i64 kd/\s.H=H
def Bop (k op:Int):Prop:=(k=2/\(op<0\/2<=op))\/(k=3/\(op<0\/6<=op))
open Classical in
noncomputable def fz (k:Int) (u:dS):List Int:=if k=4 then u.ar else []
theorem aFN (b:cT) (r:G0) (t:Int) (H:aC) (ck:Ck b) (hp:UE r) (ht:cE b.ty.length t) (hfs:∀f∈(cZ b.ty t).ar,cE b.ty.length f):bE prog 94 [.agg (iS b),.agg (IM r),i64 t] H fun d H'=>d=i64 (SG b r t)/\H=H':=by
 refine bO (K:=fun d=>d=i64 (SG b r t)) ?_
 have aS:=aG H
 have DL:=aH7 r H hp
 have hbo:=aFO b r t H ck hp ht
 have AB:∀o∈r.ar,∀H1,eF prog 97 [.agg (iS b),.agg (jW o)] H1 fun d A=>A=aC.none/\d=i64 (qU b o):=fun o ho H1=>cF fun gI gX=>RP b o gI ck (hp.2.2 o ho)
 have OA:∀o∈r.ar,∀t,qU b o=0->cE b.ty.length t->∀H1,eF prog 144 [.agg (iS b),.agg (jW o),i64 t] H1 fun d A=>A=aC.none/\d=.val (.bool (uI b o t)):=fun o ho t hz ht H1=>cF fun gI gX=>aKp b o t gI ck (hp.2.2 o ho) hz ht
 have N9:∀o∈r.ar,∀kd,qU b o=0->∀H1,eF prog 98 [.agg (iS b),.agg (jW o),i64 kd] H1 fun d A=>A=aC.none/\d=.val (.bool (decide (IL b o=kd))):=fun o ho kd hz H1=>cF fun gI gX=>RN b o kd gI ck (hp.2.2 o ho) hz
 have lJ:=lm cP b.ty
 have dX:=lm jW r.ar
 obtain⟨y,hy⟩:∃y,y=SG b r t:=⟨_,rfl⟩
 rw[<-hy]
 unfold SG at hy
 have rK:=mD ht
 have FA:t.toNat<b.ty.length:=by unfold cE at ht;omega
 have AM:0<=t:=by unfold cE at ht;omega
 have ND:=fun h=>aLx (r:=r) h
 unfold vU at hy
 obtain⟨u,hu⟩:∃u,u=cZ b.ty t:=⟨_,rfl⟩
 rw[<-hu] at rK hy hfs
 clear hu
 obtain⟨BE,hBE⟩:∃BE,BE=I3 b r t:=⟨_,rfl⟩
 rw[<-hBE] at hbo hy
 clear hBE
 unfold aIa at DL
 obtain⟨S,hS⟩:∃S,S=GV r:=⟨_,rfl⟩
 rw[<-hS] at DL hy ND
 clear hS
 have oF:=hp.2.1
 unfold dO at oF
 have DC:=lm iD u.ar
 rw[pI] at hbo AB OA N9 ⊢
 obtain⟨k,op,rg,mu,pl,ar⟩:=r
 simp only[cP] at rK
 simp only[IM] at DL hbo ⊢
 simp only at hy DL AB OA N9 dX oF ND
 clear hp
 refine aQ _ _ func94 rfl rfl ntmps94 results94 (by simp) fun w0 g0 Q aD=>?_
 refine tq trivial ?_;intro Nx aB Gx aF
 intro c3 j5 c4 uL
 refine aB _ ?_
 obtain⟨lK,sH⟩:=bY.1 uL;refine cA 3 rfl ((aN lK.symm).trans (aO _ _ _)) rfl ?_;refine cA 4 rfl ((bS lK).trans (aO _ _ _)) rfl ?_;refine eV _ (kF j5 sH) ?_;simp only[St.jH,List.drop]
 refine tq trivial ?_;intro Nx aB Gx aF
 refine DL.mono ?_
 rintro d _ ⟨rfl,rfl⟩
 by_cases h1:k<0\/4<k
 ·have e:y=14:=hy.trans (aE h1)
  rw[aE h1]
  exact oz aD trivial aS e
 rw[aA h1] at hy ⊢
 cases S
 ·have e:y=2:=hy
  rw[aE rfl]
  exact oz aD trivial aS e
 rw[aA (fun h=>by cases h)] at hy ⊢
 by_cases pB:k=1
 ·have k1:(k=1)=True:=aK pB
  have e:y=BE:=by rw[hy,aA (by omega),aE pB]
  refine tq (jE rK FA AM lJ k1) ?_;intro Nx aB Gx aF
  refine hbo.mono ?_
  rintro d _ ⟨rfl,rfl⟩
  exact oz aD k1 aS e
 have k1:(k=1)=False:=aI pB
 rw[aA pB] at hy
 (have fs:=And.intro rK (And.intro FA (And.intro AM (And.intro lJ k1)));(iterate 14 (first|refine aF _ ?_|refine aB _ ?_|refine dW ?_|refine dV ?_|refine fE ?_|refine cU ?_|refine cV ?_|refine cL ?_|refine bP ?_|((first|refine tS fun Nx aB=>?_|refine mS rfl rfl (by kernel_rfl) (by kernel_rfl) fun Gx aF=>?_|refine cH (by kernel_rfl) ?_|refine mJ fun A B wL wM=>?_);refine qK ?_;(first|refine aF _ ?_|refine aB _ ?_|refine wL ?_|refine wM ?_|skip))));(try clear fs))
 refine D2 (fun s=>A1 b k op rg mu pl ar t u.k H s/\¬Bop k op) ?_ ?_
 ·by_cases jG:k=2
  ·have k2:(k=2)=True:=aK jG
   have k3:(k=3)=False:=aI (by omega)
   by_cases h2:op<0
   ·have q2:(op<0)=True:=aK h2
    have e:y=14:=by rw[hy,aA (by omega),aE jG,aE (.inl h2)]
    refine tq (dG k2 q2) ?_;intro Nx aB Gx aF
    refine⟨by simp,?_⟩
    refine rt aD trivial ?_;exact⟨_,aG _,aS,_,aH aS,by rw[e]⟩
   have q2:(op<0)=False:=aI h2
   by_cases h3:1<op
   ·have q3:(1<op)=True:=aK h3
    have e:y=14:=by rw[hy,aA (by omega),aE jG,aE (.inr (by omega))]
    refine tq (eA k2 q2 q3) ?_;intro Nx aB Gx aF
    refine⟨by simp,?_⟩
    refine rt aD trivial ?_;exact⟨_,aG _,aS,_,aH aS,by rw[e]⟩
   have q3:(1<op)=False:=aI h3
   refine tq (gQ k2 k3 q2 q3) ?_;intro Nx aB Gx aF
   exact⟨⟨rfl,rfl,rfl,rfl,rfl,rfl⟩,by unfold Bop;omega⟩
  have k2:(k=2)=False:=aI jG
  by_cases qS:k=3
  ·have k3:(k=3)=True:=aK qS
   by_cases h2:op<0
   ·have q2:(op<0)=True:=aK h2
    have e:y=14:=by rw[hy,aA (by omega),aA jG,aE qS,aE (.inl h2)]
    refine tq (eA k2 k3 q2) ?_;intro Nx aB Gx aF
    refine⟨by simp,?_⟩
    refine rt aD trivial ?_;exact⟨_,aG _,aS,_,aH aS,by rw[e]⟩
   have q2:(op<0)=False:=aI h2
   by_cases h3:5<op
   ·have q3:(5<op)=True:=aK h3
    have e:y=14:=by rw[hy,aA (by omega),aA jG,aE qS,aE (.inr (by omega))]
    refine tq (gQ k2 k3 q2 q3) ?_;intro Nx aB Gx aF
    refine⟨by simp,?_⟩
    refine rt aD trivial ?_;exact⟨_,aG _,aS,_,aH aS,by rw[e]⟩
   have q3:(5<op)=False:=aI h3
   refine tq (gQ k2 k3 q2 q3) ?_;intro Nx aB Gx aF
   exact⟨⟨rfl,rfl,rfl,rfl,rfl,rfl⟩,by unfold Bop;omega⟩
  have k3:(k=3)=False:=aI qS
  refine tq (dG k2 k3) ?_;intro Nx aB Gx aF
  exact⟨⟨rfl,rfl,rfl,rfl,rfl,rfl⟩,by unfold Bop;omega⟩
 rintro s1 ⟨⟨pP,f2,f3,f4,f8,uK⟩,aYM⟩
 unfold Bop at aYM
 have kU:H.le s1.H:=by rw[uK];exact aG _
 refine bP ?_
 refine D2 (fun s=>A1 b k op rg mu pl ar t u.k H s/\¬(k=4/\(u.k≠4\/u.ar.length≠ar.length))) ?_ ?_
 ·by_cases vE:k=4
  ·have k4:(k=4)=True:=aK vE
   by_cases h2:u.k=4
   case neg=>
    have q2:(u.k=4)=False:=aI h2
    have e:y=22:=by rw[hy,aA (by omega),aA (by omega),aA (by omega),aE (.inl h2)]
    (try refine bP ?_)
    refine dE (fun _ _ _ _=>False) fun Nx aB=>?_;refine dst (kB f2 f3 f4 f8 k4 q2) ?_;intro Nx aB Gx aF
    refine tq trivial ?_;intro Nx aB Gx aF
    refine⟨by simp,?_⟩
    refine rt aD pP ?_;exact⟨_,aG _,kU,_,aH kU,by rw[e] <;> rfl⟩
   have q2:(u.k=4)=True:=aK h2
   by_cases h3:u.ar.length=ar.length
   ·have q3:((u.ar.length:Int)=(ar.length:Int))=True:=aK (by omega)
    (try refine bP ?_)
    refine dE (fun _ _ _ _=>False) fun Nx aB=>?_;refine dst (W7 f2 f3 f4 f8 k4 q2 q3 rK FA AM lJ DC dX) ?_;intro Nx aB Gx aF
    refine tq trivial ?_;intro Nx aB Gx aF
    exact⟨⟨pP,f2,f3,f4,f8,uK⟩,by omega⟩
   ·have q3:((u.ar.length:Int)=(ar.length:Int))=False:=aI (by omega)
    have e:y=22:=by rw[hy,aA (by omega),aA (by omega),aA (by omega),aE (.inr h3)]
    (try refine bP ?_)
    refine dE (fun _ _ _ _=>False) fun Nx aB=>?_;refine dst (W7 f2 f3 f4 f8 k4 q2 q3 rK FA AM lJ DC dX) ?_;intro Nx aB Gx aF
    refine tq trivial ?_;intro Nx aB Gx aF
    refine⟨by simp,?_⟩
    refine rt aD pP ?_;exact⟨_,aG _,kU,_,aH kU,by rw[e] <;> rfl⟩
  have k4:(k=4)=False:=aI vE
  (try refine bP ?_)
  refine dE (fun _ _ _ _=>False) fun Nx aB=>?_;refine dst (jE f2 f3 f4 f8 k4) ?_;intro Nx aB Gx aF
  refine tq trivial ?_;intro Nx aB Gx aF
  exact⟨⟨pP,f2,f3,f4,f8,uK⟩,by omega⟩
 clear f2 f3 f4 f8 uK kU pP
 rintro s1 ⟨⟨pP,f2,f3,f4,f8,uK⟩,a2C⟩
 have jQ:gA b ar (fz k u)≠0->y=gA b ar (fz k u):=fun h=>by
  unfold fz at h ⊢
  by_cases vE:k=4
  ·rw[aE vE] at h ⊢
   rw[hy,aA (by omega),aA (by omega),aA (by omega),aA (by omega)]
  ·rw[aA vE] at h ⊢
   by_cases HP:k=0
   ·have hl:=ND rfl HP
    obtain⟨o,rfl⟩:=PL.1 hl
    have h2:gA b [o] []=if qU b o≠0 then qU b o else 0:=rfl
    have h3:gA b [o] [t]=if qU b o≠0 then qU b o else if uI b o t=false then 22 else 0:=rfl
    rw[h2] at h ⊢
    by_cases ho:qU b o=0
    ·rw[aA (fun k=>k ho)] at h;exact absurd rfl h
    ·rw[aE ho,hy,aE HP,h3,aE ho]
   ·by_cases jG:k=2
    ·rw[hy,aA HP,aE jG,aA (by omega),aE h]
    ·rw[hy,aA HP,aA jG,aE (by omega),aA (by omega),aE h]
 have hfz:k=4->(fz k u).length=ar.length:=fun h=>by unfold fz;rw[aE h];omega
 have EJ:k≠4->fz k u=[]:=fun h=>by unfold fz;rw[aA h]
 have hfu:k=4->fz k u=u.ar:=fun h=>by unfold fz;rw[aE h]
 refine tq trivial ?_;intro Nx aB Gx aF
 refine aZ ar.length (fun i s=>A1 b k op rg mu pl ar t u.k H s/\s.fr 9=i64 i/\gA b ar (fz k u)=gA b (ar.drop i) ((fz k u).drop i)) ⟨⟨pP,f2,f3,f4,f8,uK⟩,rfl,rfl⟩ ?_
 clear f2 f3 f4 f8 uK pP
 rintro i s hi ⟨⟨aT,f2,f3,f4,f8,hH⟩,f9,ha⟩
 have hx:=bI i
 have cJ:=bM i
 have aY:H.le s.H:=by rw[hH];exact aG _
 by_cases aV:i<ar.length
 case pos=>
  have cC:(i:Int)<(ar.length:Int):=by omega
  have q6:((i:Int)<(ar.length:Int))=True:=aK cC
  have w3:=wS i (by omega)
  have cD:=ER aV
  have oQ:=bU aV
  rw[eH aV] at ha
  have AB:=AB _ oQ s.H
  have OA:=OA _ oQ
  obtain⟨o,ho⟩:∃o,o=ar[i]:=⟨_,rfl⟩
  rw[<-ho] at cD ha AB OA
  clear oQ ho
  obtain⟨E,hE⟩:∃E,E=qU b o:=⟨_,rfl⟩
  have oJ:gA b (o::ar.drop (i+1)) ((fz k u).drop i)=if E≠0 then E else match (fz k u).drop i with
   |[]=>gA b (ar.drop (i+1)) []
   |f::fs=>if uI b o f=false then 22 else gA b (ar.drop (i+1)) fs:=by rw[hE];rfl
  rw[oJ] at ha
  clear oJ
  rw[<-hE] at AB OA
  clear hE
  simp only[jW] at cD AB OA
  refine tq (gQ f4 f9 dX q6) ?_;intro Nx aB Gx aF
  (try refine bP ?_)
  refine dE (fun _ _ d A=>A=.none/\d=i64 E) fun Nx aB=>?_;refine dst (BR f3 f4 f9 cD hx cJ aV cC dX) ?_;intro Nx aB Gx aF
  refine⟨AB,?_⟩
  (first|refine aF _ ?_|refine aB _ ?_|skip)
  by_cases h0:E=0
  case neg=>
   have q0:(E=0)=False:=aI h0
   rw[aE h0] at ha
   have e:y=E:=by rw[jQ (by rw[ha];exact h0),ha]
   exact oz aD q0 aY e
  have q0:(E=0)=True:=aK h0
  rw[aA (fun h=>h h0)] at ha
  by_cases vE:k=4
  case neg=>
   have k4:(k=4)=False:=aI vE
   rw[EJ vE,List.drop_nil] at ha
   simp only at ha
   refine tq q0 ?_;intro Nx aB Gx aF
   (try refine bP ?_)
   refine dE (fun _ _ _ _=>False) fun Nx aB=>?_;refine dst (dG f4 k4) ?_;intro Nx aB Gx aF
   refine tq (dG f9 w3) ?_;intro Nx aB Gx aF
   exact⟨aV,⟨aT,f2,f3,f4,f8,hH⟩,rfl,by rw[EJ vE,List.drop_nil];exact ha⟩
  have k4:(k=4)=True:=aK vE
  have hiu:i<u.ar.length:=by have:=hfz vE;rw[hfu vE] at this;omega
  have aY3:(i:Int)<(u.ar.length:Int):=by omega
  rw[hfu vE,eH hiu] at ha
  simp only at ha
  have hgu:=cO hiu
  have aAb:=hfs u.ar[i] (bU hiu)
  obtain⟨f,hf⟩:∃f,f=u.ar[i]:=⟨_,rfl⟩
  rw[<-hf] at ha hgu aAb
  have OA:=OA f h0 aAb s.H
  obtain⟨z,hz⟩:∃z,z=uI b o f:=⟨_,rfl⟩
  rw[<-hz] at OA ha
  refine tq q0 ?_;intro Nx aB Gx aF
  (try refine bP ?_)
  refine dE (fun _ _ d A=>A=.none/\d=.val (.bool z)) fun Nx aB=>?_;refine dst (aPp f2 f3 f4 f9 k4 cD hx cJ aV cC dX rK FA AM lJ hgu hiu aY3 DC) ?_;intro Nx aB Gx aF
  refine⟨OA,?_⟩
  cases z
  ·rw[aE rfl] at ha
   have e:y=22:=by rw[jQ (by rw[hfu vE,ha];decide),hfu vE,ha]
   (first|refine aF _ ?_|skip)
   refine dst trivial ?_;intro Nx aB Gx aF
   exact oz aD trivial aY e
  ·rw[aA (fun h=>by cases h)] at ha
   (first|refine aF _ ?_|skip)
   refine dst trivial ?_;intro Nx aB Gx aF
   refine tq (dG f9 w3) ?_;intro Nx aB Gx aF
   exact⟨aV,⟨aT,f2,f3,f4,f8,hH⟩,rfl,by rw[hfu vE];exact ha⟩
 have q6:=lF i ar.length (by omega)
 rw[eT (by omega)] at ha
 have hs1:gA b ar (fz k u)=0:=by rw[ha];rfl
 have hs0:=aBD hs1
 have fF:=J3 hs0
 clear jQ hfz EJ ha
 by_cases HP:k=0
 ·have k0:(k=0)=True:=aK HP
  have hl:=ND rfl HP
  have hl1:0<ar.length:=by omega
  have GK:=ER hl1
  have OA:=OA ar[0] (bU hl1) t (fF _ (bU hl1)) ht s.H
  have pQ:y=if uI b ar[0] t=false then 22 else 0:=by
   obtain⟨o,rfl⟩:=PL.1 hl
   have h3:gA b [o] [t]=if qU b o≠0 then qU b o else if uI b o t=false then 22 else 0:=rfl
   rw[hy,aE HP,h3,aA (fun k=>k (fF o (by simp)))]
   rfl
  obtain⟨o,ho⟩:∃o,o=ar[0]:=⟨_,rfl⟩
  rw[<-ho] at GK OA pQ
  clear ho hy
  obtain⟨z,hz⟩:∃z,z=uI b o t:=⟨_,rfl⟩
  rw[<-hz] at OA pQ
  clear hz
  simp only[jW] at GK OA
  refine tq (jE f4 f9 dX q6 k0) ?_;intro Nx aB Gx aF
  (try refine bP ?_)
  refine dE (fun _ _ d A=>A=.none/\d=.val (.bool z)) fun Nx aB=>?_;refine dst (kB f2 f3 f4 GK dX hl) ?_;intro Nx aB Gx aF
  refine⟨OA,?_⟩
  (first|refine aF _ ?_|refine aB _ ?_|skip)
  cases z
  ·have e:y=22:=pQ
   exact oz aD trivial aY e
  ·have e:y=0:=pQ
   exact oz aD trivial aY e
 have k0:(k=0)=False:=aI HP
 rw[aA HP] at hy
 clear OA AB DL ND hbo
 obtain⟨x,hxd⟩:∃x:Int×Int,x=if k=2 then unE op else aBg op:=⟨_,rfl⟩
 have pQ:y=if k=4 then 0 else if (ar.all fun o=>decide (IL b o=x.1))=false then 22 else if u.k≠x.2 then 22 else 0:=by
  by_cases vE:k=4
  ·rw[aE vE,hy,aA (by omega),aA (by omega),aA (by omega),<-hfu vE,hs1]
  rw[aA vE,hxd]
  by_cases jG:k=2
  ·rw[aE jG,hy,aE jG,aA (by omega),aA (fun h=>h hs0)]
  ·rw[aA jG,hy,aA jG,aE (by omega),aA (by omega),aA (fun h=>h hs0)]
 clear hy hs1 hfu hs0
 (have fs:=And.intro f4 (And.intro f9 (And.intro dX (And.intro q6 k0)));(iterate 15 (first|refine aF _ ?_|refine aB _ ?_|refine dW ?_|refine dV ?_|refine fE ?_|refine cU ?_|refine cV ?_|refine cL ?_|refine bP ?_|((first|refine tS fun Nx aB=>?_|refine mS rfl rfl (by kernel_rfl) (by kernel_rfl) fun Gx aF=>?_|refine cH (by kernel_rfl) ?_|refine mJ fun A B wL wM=>?_);refine qK ?_;(first|refine aF _ ?_|refine aB _ ?_|refine wL ?_|refine wM ?_|skip))));(try clear fs))
 refine I0 (fun s=>A1 b k op rg mu pl ar t u.k H s/\s.fr 11=i64 (if k=2/\op=1 then 1 else 2)/\s.fr 12=i64 (if k=2/\op=1 then 1 else 2)) ?_ ?_
 ·by_cases jG:k=2
  ·have k2:(k=2)=True:=aK jG
   by_cases h2:op=1
   ·have q2:(op=1)=True:=aK h2
    refine tq (eA f4 k2 q2) ?_;intro Nx aB Gx aF
    exact⟨⟨aT,f2,f3,f4,f8,hH⟩,by rw[aE ⟨jG,h2⟩] <;> rfl,by rw[aE ⟨jG,h2⟩] <;> rfl⟩
   ·have q2:(op=1)=False:=aI h2
    refine tq (eA f4 k2 q2) ?_;intro Nx aB Gx aF
    exact⟨⟨aT,f2,f3,f4,f8,hH⟩,by rw[aA (fun h=>h2 h.2)] <;> rfl,by rw[aA (fun h=>h2 h.2)] <;> rfl⟩
  ·have k2:(k=2)=False:=aI jG
   refine tq (dG f4 k2) ?_;intro Nx aB Gx aF
   exact⟨⟨aT,f2,f3,f4,f8,hH⟩,by rw[aA (fun h=>jG h.1)] <;> rfl,by rw[aA (fun h=>jG h.1)] <;> rfl⟩
 clear f2 f3 f4 f8 f9 hH aT aY
 rintro s1 ⟨⟨aT,f2,f3,f4,f8,hH⟩,f11,f12⟩
 refine bP ?_
 refine I0 (fun s=>A1 b k op rg mu pl ar t u.k H s/\s.fr 11=i64 (if k=2/\op=1 then 1 else 2)/\s.fr 12=i64 (if (k=2/\op=1)\/(k=3/\3<=op) then 1 else 2)) ?_ ?_
 ·by_cases qS:k=3
  ·have k3:(k=3)=True:=aK qS
   by_cases h2:3<=op
   ·have q2:(op≥3)=True:=aK h2
    refine tq (eA f4 k3 q2) ?_;intro Nx aB Gx aF
    exact⟨⟨aT,f2,f3,f4,f8,hH⟩,f11,by rw[aE (.inr ⟨qS,h2⟩)] <;> rfl⟩
   ·have q2:(op≥3)=False:=aI h2
    refine tq (eA f4 k3 q2) ?_;intro Nx aB Gx aF
    exact⟨⟨aT,f2,f3,f4,f8,hH⟩,f11,by rw[aA (by omega)] at f12 ⊢;exact f12⟩
  ·have k3:(k=3)=False:=aI qS
   refine tq (dG f4 k3) ?_;intro Nx aB Gx aF
   refine⟨⟨aT,f2,f3,f4,f8,hH⟩,f11,?_⟩
   by_cases h5:k=2/\op=1
   ·rw[aE h5] at f12;rw[aE (.inl h5)];exact f12
   ·rw[aA h5] at f12;rw[aA (by omega)];exact f12
 clear f2 f3 f4 f8 f11 f12 hH aT
 rintro s2 ⟨⟨aT,f2,f3,f4,f8,hH⟩,f11,f12⟩
 refine bP ?_
 refine I0 (fun s=>A1 b k op rg mu pl ar t u.k H s/\s.fr 11=i64 (if (k=2/\op=1)\/(k=3/\op=5) then 1 else 2)/\s.fr 12=i64 (if (k=2/\op=1)\/(k=3/\3<=op) then 1 else 2)) ?_ ?_
 ·by_cases qS:k=3
  ·have k3:(k=3)=True:=aK qS
   by_cases h2:op=5
   ·have q2:(op=5)=True:=aK h2
    refine tq (eA f4 k3 q2) ?_;intro Nx aB Gx aF
    exact⟨⟨aT,f2,f3,f4,f8,hH⟩,by rw[aE (.inr ⟨qS,h2⟩)] <;> rfl,f12⟩
   ·have q2:(op=5)=False:=aI h2
    refine tq (eA f4 k3 q2) ?_;intro Nx aB Gx aF
    exact⟨⟨aT,f2,f3,f4,f8,hH⟩,by rw[aA (by omega)] at f11 ⊢;exact f11,f12⟩
  ·have k3:(k=3)=False:=aI qS
   refine tq (dG f4 k3) ?_;intro Nx aB Gx aF
   refine⟨⟨aT,f2,f3,f4,f8,hH⟩,?_,f12⟩
   by_cases h5:k=2/\op=1
   ·rw[aE h5] at f11;rw[aE (.inl h5)];exact f11
   ·rw[aA h5] at f11;rw[aA (by omega)];exact f11
 clear f2 f3 f4 f8 f11 f12 hH aT
 rintro s3 ⟨⟨aT,f2,f3,f4,f8,hH⟩,f11,f12⟩
 have NG:k≠4->(if (k=2/\op=1)\/(k=3/\op=5) then (1:Int) else 2)=x.1/\(if (k=2/\op=1)\/(k=3/\3<=op) then (1:Int) else 2)=x.2:=fun vE=>by
  rw[hxd]
  by_cases jG:k=2
  ·rw[aE jG]
   have ho:op=0\/op=1:=by omega
   rcases ho with rfl|rfl
   ·simp [jG,unE]
   ·simp [jG,unE]
  ·have qS:k=3:=by omega
   rw[aA jG]
   rcases aRF (x:=op) (by omega) (by omega) with rfl|rfl|rfl|rfl|rfl|rfl <;> simp [qS,aBg]
 obtain⟨x1,aQz⟩:∃x1:Int,x1=if (k=2/\op=1)\/(k=3/\op=5) then (1:Int) else 2:=⟨_,rfl⟩
 obtain⟨x2,aRA⟩:∃x2:Int,x2=if (k=2/\op=1)\/(k=3/\3<=op) then (1:Int) else 2:=⟨_,rfl⟩
 rw[<-aQz] at f11 NG
 rw[<-aRA] at f12 NG
 have hy3:y=if k=4 then 0 else if (ar.all fun o=>decide (IL b o=x1))=false then 22 else if u.k≠x2 then 22 else 0:=by
  rw[pQ]
  by_cases vE:k=4
  ·rw[aE vE,aE vE]
  ·rw[aA vE,aA vE,(NG vE).1,(NG vE).2]
 clear NG aQz aRA pQ hxd
 refine tq trivial ?_;intro Nx aB Gx aF
 refine aZ ar.length (fun i s=>A1 b k op rg mu pl ar t u.k H s/\s.fr 11=i64 x1/\s.fr 12=i64 x2/\s.fr 13=i64 i/\(ar.all fun o=>decide (IL b o=x1))=((ar.drop i).all fun o=>decide (IL b o=x1))) ⟨⟨aT,f2,f3,f4,f8,hH⟩,f11,f12,rfl,rfl⟩ ?_
 clear f2 f3 f4 f8 f11 f12 hH aT
 clear hi hx cJ q6 aV
 rintro i s hi ⟨⟨aT,f2,f3,f4,f8,hH⟩,f11,f12,f13,ha⟩
 have hx:=bI i
 have cJ:=bM i
 have aY:H.le s.H:=by rw[hH];exact aG _
 by_cases vE:k=4
 ·have k4:(k=4)=True:=aK vE
  have e:y=0:=by rw[hy3,aE vE]
  by_cases aV:i<ar.length
  ·have q6:=lT i ar.length (by omega)
   exact oz aD (nF f4 f8 f12 f13 dX q6 k4) aY e
  ·have q6:=lF i ar.length (by omega)
   exact oz aD (nF f4 f8 f12 f13 dX q6 k4) aY e
 have k4:(k=4)=False:=aI vE
 rw[aA vE] at hy3
 by_cases aV:i<ar.length
 case neg=>
  have q6:=lF i ar.length (by omega)
  rw[eT (by omega),tI] at ha
  rw[ha,aA (fun h=>by cases h)] at hy3
  by_cases h2:u.k=x2
  ·have q2:(u.k=x2)=True:=aK h2
   have e:y=0:=hy3.trans (aA (fun h=>h h2))
   exact oz aD (wG f4 f8 f12 f13 dX q6 k4 q2) aY e
  ·have q2:(u.k=x2)=False:=aI h2
   have e:y=22:=hy3.trans (aE h2)
   exact oz aD (wG f4 f8 f12 f13 dX q6 k4 q2) aY e
 have cC:(i:Int)<(ar.length:Int):=by omega
 have q6:((i:Int)<(ar.length:Int))=True:=aK cC
 have w3:=wS i (by omega)
 have cD:=ER aV
 have oQ:=bU aV
 rw[eH aV,pX] at ha
 have N9:=N9 _ oQ x1 (fF _ oQ) s.H
 obtain⟨o,ho⟩:∃o,o=ar[i]:=⟨_,rfl⟩
 rw[<-ho] at cD ha N9
 clear ho oQ
 obtain⟨z,hz⟩:∃z,z=decide (IL b o=x1):=⟨_,rfl⟩
 rw[<-hz] at ha N9
 clear hz
 simp only[jW] at cD N9
 refine tq (jE f4 f13 dX q6 k4) ?_;intro Nx aB Gx aF
 (try refine bP ?_)
 refine dE (fun _ _ d A=>A=.none/\d=.val (.bool z)) fun Nx aB=>?_;refine dst (nN f3 f4 f11 f13 cD hx cJ aV cC dX) ?_;intro Nx aB Gx aF
 refine⟨N9,?_⟩
 (first|refine aF _ ?_|refine aB _ ?_|skip)
 cases z
 ·rw[gC] at ha
  rw[ha,aE rfl] at hy3
  have e:=hy3
  exact oz aD trivial aY e
 ·rw[eI] at ha
  refine tq (dG f13 w3) ?_;intro Nx aB Gx aF
  exact⟨aV,⟨aT,f2,f3,f4,f8,hH⟩,f11,f12,rfl,ha⟩
theorem aJb (s:EZ):aAG s=(gL s.pl&&aBi s.rv):=by
 unfold aAG aBi
 have h:∀z a b c d e f:Bool,(z&&(a&&b&&c&&d&&e&&f))=(z&&(a&&(b&&(d&&(e&&(f&&c)))))):=by decide
 exact h _ _ _ _ _ _ _
theorem aKv (b:cT) (s:EZ) (H:aC) (ck:Ck b) (hp:aHw s):bE prog 46 [.agg (iS b),.agg (vV s)] H fun d H'=>d=i64 (IN b s)/\H=H':=by
 refine bO (K:=fun d=>d=i64 (IN b s)) ?_
 have aS:=aG H
 have pE:=L3 b s.pl H ck hp.1
 have DC:=YN b s.pl H ck hp.1
 have yJ:=JV s.pl H hp.1
 have l4:=aH0 s.rv H hp.2
 have has:=fun t h=>aFN b s.rv t H ck hp.2 h (VC ck.wt h)
 have iI:(uE b s.pl).2=0->cE b.ty.length (uE b s.pl).1:=fun h=>MK ck h
 have hmc:=lm mN b.lc
 obtain⟨y,hy⟩:∃y,y=IN b s:=⟨_,rfl⟩
 rw[<-hy]
 unfold IN GX at hy
 rw[aJb] at hy
 obtain⟨Z,hZ⟩:∃Z,Z=gL s.pl:=⟨_,rfl⟩
 rw[<-hZ] at yJ hy
 obtain⟨Bl,hB⟩:∃Bl,Bl=aBi s.rv:=⟨_,rfl⟩
 rw[<-hB] at l4 hy
 obtain⟨T,hT⟩:∃T,T=uE b s.pl:=⟨_,rfl⟩
 rw[<-hT] at pE iI hy
 obtain⟨Mu,hM⟩:∃Mu,Mu=x9 b.ty b.lc s.pl:=⟨_,rfl⟩
 rw[<-hM] at DC hy
 clear hZ hB hT hM
 rw[pI] at pE DC has ⊢
 obtain⟨k,pl,rv,lo⟩:=s
 simp only at hy has l4
 simp only[IM] at has l4
 simp only[lN] at pE DC yJ
 simp only[vV]
 refine aQ _ _ func46 rfl rfl ntmps46 results46 (by simp) fun w0 g0 Q aD=>?_
 refine tq trivial ?_;intro Nx aB Gx aF
 intro c2 lH c3 j5
 refine aB _ ?_
 obtain⟨lK,sH⟩:=bY.1 j5;refine cA 2 rfl ((aN lK.symm).trans (aO _ _ _)) rfl ?_;refine cA 3 rfl ((bS lK).trans (aO _ _ _)) rfl ?_;refine eV _ (kF lH sH) ?_;simp only[St.jH,List.drop]
 by_cases hk:k=0
 ·have k0:(k=0)=True:=aK hk
  rw[aE hk] at hy
  by_cases h1:lo=0
  case neg=>
   have q1:(lo=0)=False:=aI h1
   have e:y=2:=hy.trans (aE h1)
   exact oz aD (dG k0 q1) aS e
  have q1:(lo=0)=True:=aK h1
  rw[aA (fun h=>h h1)] at hy
  refine tq (dG k0 q1) ?_;intro Nx aB Gx aF
  refine pE.mono ?_
  rintro d _ ⟨rfl,rfl⟩
  by_cases h2:T.2=0
  case neg=>
   have q2:(T.2=0)=False:=aI h2
   have e:y=T.2:=by rw[hy,aE h2,aE h2]
   exact oz aD q2 aS e
  have q2:(T.2=0)=True:=aK h2
  rw[aA (fun h=>h h2:¬(T.2≠0))] at hy
  refine tq q2 ?_;intro Nx aB Gx aF
  refine DC.mono ?_
  rintro d _ ⟨rfl,rfl⟩
  cases Mu
  ·have e:y=22:=by rw[hy];rfl
   exact oz aD trivial aS e
  have e:y=SG b rv T.1:=by rw[hy];rfl
  refine tq trivial ?_;intro Nx aB Gx aF
  refine(has T.1 (iI h2)).mono ?_
  rintro d _ ⟨rfl,rfl⟩
  exact oz aD q1 aS e
 have k0:(k=0)=False:=aI hk
 rw[aA hk] at hy
 by_cases pB:k=1
 ·have k1:(k=1)=True:=aK pB
  rw[aE pB] at hy
  refine tq (dG k0 k1) ?_;intro Nx aB Gx aF
  refine yJ.mono ?_
  rintro d _ ⟨rfl,rfl⟩
  cases Z
  ·have e:y=2:=hy
   exact oz aD trivial aS e
  rw[eI] at hy
  refine tq trivial ?_;intro Nx aB Gx aF
  refine l4.mono ?_
  rintro d _ ⟨rfl,rfl⟩
  cases Bl
  ·have e:y=2:=hy
   exact oz aD trivial aS e
  rw[aA (fun h=>by cases h)] at hy
  by_cases h1:lo<0
  ·have q1:(lo<0)=True:=aK h1
   have e:y=3:=hy.trans (aE (.inl h1))
   exact oz aD q1 aS e
  have q1:(lo<0)=False:=aI h1
  by_cases h2:(b.lc.length:Int)<=lo
  ·have q2:(lo≥(b.lc.length:Int))=True:=aK h2
   have e:y=3:=hy.trans (aE (.inr h2))
   exact oz aD (eA q1 q2 hmc) aS e
  have q2:(lo≥(b.lc.length:Int))=False:=aI h2
  have e:y=0:=hy.trans (aA (by omega))
  exact oz aD (eA q1 q2 hmc) aS e
 have k1:(k=1)=False:=aI pB
 rw[aA pB] at hy
 by_cases jG:k=2
 ·have k2:(k=2)=True:=aK jG
  rw[aE jG] at hy
  refine tq (eA k0 k1 k2) ?_;intro Nx aB Gx aF
  refine yJ.mono ?_
  rintro d _ ⟨rfl,rfl⟩
  cases Z
  ·have e:y=2:=hy
   exact oz aD trivial aS e
  rw[eI] at hy
  refine tq trivial ?_;intro Nx aB Gx aF
  refine l4.mono ?_
  rintro d _ ⟨rfl,rfl⟩
  cases Bl
  ·have e:y=2:=hy
   exact oz aD trivial aS e
  by_cases h1:lo=0
  ·have q1:(lo=0)=True:=aK h1
   have e:y=0:=hy.trans (aA (by rintro(h|h);cases h;exact h h1))
   exact oz aD q1 aS e
  ·have q1:(lo=0)=False:=aI h1
   have e:y=2:=hy.trans (aE (.inr h1))
   exact oz aD q1 aS e
 have k2:(k=2)=False:=aI jG
 rw[aA jG] at hy
 have e:y=14:=hy
 exact oz aD (eA k0 k1 k2) aS e
end Go.Proofs.YtfiipaodjpiooaaGreatDoor

