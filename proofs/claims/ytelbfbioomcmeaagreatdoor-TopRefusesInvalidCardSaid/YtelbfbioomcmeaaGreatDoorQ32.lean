/- Lemmas and contracts of functions, several texts in one. -/
import Derived.Test.YtelbfbioomcmeaaGreatDoorQ31
set_option maxRecDepth 100000
set_option maxHeartbeats 4000000
set_option linter.all false
namespace Go.Proofs.YtelbfbioomcmeaaGreatDoor
open Go.RowKit
open Tryz
theorem ZR (b:iF) (r:HN) (t:Int) (H:aA) (ck:Ck b) (hp:KN r) (ht:dG b.ty.length t):aT prog 212 [.agg (iG b),.agg (GF r),i64 t] H fun d H'=>d=i64 (J9 b r t)/\H=H':=by
 refine bM (K:=fun d=>d=i64 (J9 b r t)) ?_
 have aR:=aE H
 have lG:=EI b r.pl H ck hp.1
 have wR:=N7 b r.pl H ck hp.1
 have Q6:=aEP b.ty b.lc r.pl H ck.wt ck.wl ck.ar hp.1
 have hou:∀q H1,dY prog 298 [.seq 2 (b.ol.map pD),i64 b.rg.length,i64 q,i64 r.rg] H1 fun d A=>A=aA.none/\d=.val (.bool (j5 b.ol b.rg.length q r.rg)):=fun q H1=>bN fun eL eO=>WQ b.ol b.rg.length q r.rg eL ck.ol (by have:=ck.rgl;omega) ck.oll
 have ZG:(EO b.ty b.lc r.pl).length<=32:=by
  have:=rX b.ty b.lc r.pl
  unfold EO;rw[bK];exact this
 have CU:=lm sD b.rg
 have iX:=lm cE b.ty
 obtain⟨y,hy⟩:∃y,y=J9 b r t:=⟨_,rfl⟩
 rw[<-hy]
 unfold J9 at hy
 have nY:=kC ht
 have yY:t.toNat<b.ty.length:=by unfold dG at ht;omega
 have B4:0<=t:=by unfold dG at ht;omega
 obtain⟨u,hu⟩:∃u,u=cJ b.ty t:=⟨_,rfl⟩
 obtain⟨T,hT⟩:∃T,T=qI b r.pl:=⟨_,rfl⟩
 obtain⟨R,hRR⟩:∃R,R=EO b.ty b.lc r.pl:=⟨_,rfl⟩
 obtain⟨Z,hZ⟩:∃Z,Z=sP b.ty b.lc r.pl:=⟨_,rfl⟩
 rw[<-hu] at nY hy
 rw[<-hT] at lG hy
 rw[<-hRR] at Q6 ZG hy
 rw[<-hZ] at wR hy
 clear hu hT hRR hZ
 rw[lK] at lG wR ⊢
 obtain⟨k,op,rg,mu,pl,ar⟩:=r
 obtain⟨uk,um,ur,ue,ua⟩:=u
 simp only[cE] at nY
 simp only at hy hou
 simp only[kT] at lG wR Q6
 have BN:=lm iD R
 refine aN _ _ func212 rfl rfl ntmps212 results212 (by simp) fun w0 g0 Q aC=>?_
 refine tq @GF.eq_1 ?_;intro Nx aB Gx aG
 intro c3 mH c4 wQ
 refine aB _ ?_
 obtain⟨mJ,s5⟩:=bT.1 wQ;refine bS 3 rfl ((aP mJ.symm).trans (aQ _ _ _)) rfl ?_;refine bS 4 rfl ((bP mJ).trans (aQ _ _ _)) rfl ?_;refine eZ _ (iL mH s5) ?_;simp only[St.gU,List.drop]
 refine tq trivial ?_;intro Nx aB Gx aG
 refine lG.mono ?_
 rintro d _ ⟨rfl,rfl⟩
 by_cases h1:T.2=0
 case neg=>
  have q1:(T.2=0)=False:=aI h1
  have e:y=T.2:=hy.trans (aH h1)
  exact oz aC q1 aR e
 have q1:(T.2=0)=True:=aK h1
 rw[aD (fun h=>h h1)] at hy
 by_cases h2:rg<0
 ·have q2:(rg<0)=True:=aK h2
  have e:y=3:=hy.trans (aH (.inl h2))
  exact oz aC (cZ q1 q2) aR e
 have q2:(rg<0)=False:=aI h2
 by_cases h3:(b.rg.length:Int)<=rg
 ·have q3:(rg≥(b.rg.length:Int))=True:=aK h3
  have e:y=3:=hy.trans (aH (.inr h3))
  exact oz aC (fJ q1 q2 q3 CU) aR e
 have q3:(rg≥(b.rg.length:Int))=False:=aI h3
 rw[aD (by omega)] at hy
 refine tq (qN q1 q2 q3 CU nY yY B4 iX) ?_;intro Nx aB Gx aG
 intro c9 hc9
 refine aB _ ?_
 refine fW 9 hc9 ?_
 by_cases h4:uk=3
 case neg=>
  have q4:(uk=3)=False:=aI h4
  have e:y=22:=hy.trans (aH (.inl h4))
  exact oz aC q4 aR e
 have q4:(uk=3)=True:=aK h4
 by_cases h5:ur=rg
 case neg=>
  have q5:(ur=rg)=False:=aI h5
  have e:y=22:=hy.trans (aH (.inr (.inl h5)))
  exact oz aC (cZ q4 q5) aR e
 have q5:(ur=rg)=True:=aK h5
 by_cases h6:um=mu
 case neg=>
  have e:y=22:=hy.trans (aH (.inr (.inr (.inl h6))))
  have q6:(um=mu)=False:=aI h6
  exact oz aC (dZ q4 q5 q6) aR e
 have q6:(um=mu)=True:=aK h6
 by_cases h7:ue=T.1
 case neg=>
  have q7:(ue=T.1)=False:=aI h7
  have e:y=22:=hy.trans (aH (.inr (.inr (.inr (.inl h7)))))
  exact oz aC (fJ q4 q5 q6 q7) aR e
 have q7:(ue=T.1)=True:=aK h7
 by_cases hm:mu=true/\Z=false
 ·obtain⟨FG,F9⟩:=hm
  have e:y=22:=hy.trans (aH (.inr (.inr (.inr (.inr ⟨FG,F9⟩)))))
  rw[F9] at wR
  rw[FG] at q6
  refine tq (gE q4 q5 q6 q7 FG) ?_;intro Nx aB Gx aG
  refine wR.mono ?_
  rintro d _ ⟨rfl,rfl⟩
  exact oz aC q1 aR e
 have FI:¬(uk≠3\/ur≠rg\/um≠mu\/ue≠T.1\/(mu=true/\Z=false)):=fun h=>h.elim (· h4) fun h=>h.elim (· h5) fun h=>h.elim (· h6) fun h=>h.elim (· h7) hm
 rw[aD FI] at hy
 have hZ:mu=true->Z=true:=fun h=>by cases Z;exact absurd ⟨h,rfl⟩ hm;rfl
 cases mu
 ·refine tq (fJ q4 q5 q6 q7) ?_;intro Nx aB Gx aG
  refine Q6.mono ?_
  rintro d _ ⟨rfl,rfl⟩
  refine tq BN ?_;intro Nx aB Gx aG
  refine bB R.length (fun i s=>s.df=[]/\s.fr 3=.rp [bX b.nm,.seq 1 (b.rg.map sD),.seq 2 (b.ol.map pD),.seq 5 (b.ty.map cE),.seq 2 (b.lc.map lI),i64 b.ag,.seq 7 (b.bl.map rE)]/\(∃x,s.fr 4=.rp [i64 k,i64 op,i64 rg,.val (.bool x),i64 pl.lo,.seq 2 (pl.pr.map pD),.seq 4 (ar.map jL)])/\s.fr 10=.seq 1 (R.map iD)/\s.fr 11=i64 i/\s.H=H/\(R.all fun q=>j5 b.ol b.rg.length q rg)=((R.drop i).all fun q=>j5 b.ol b.rg.length q rg)) ⟨rfl,rfl,⟨_,rfl⟩,rfl,rfl,rfl,rfl⟩ ?_
  rintro i s hi ⟨bG,f3,⟨x,f4⟩,f10,f11,hH,ha⟩
  have hx:=bL i
  have cL:=bY i
  have aX:H.le s.H:=by rw[hH];exact aE _
  by_cases aZ:i<R.length
  case neg=>
   have q8:=lF i R.length (by omega)
   rw[dX (by omega),oS] at ha
   rw[ha,aD (fun h=>by cases h)] at hy
   have e:=hy
   exact oz aC (fJ f10 f11 BN q8) aX e
  have cN:(i:Int)<(R.length:Int):=by omega
  have q8:((i:Int)<(R.length:Int))=True:=aK cN
  have w3:=wS i (by omega)
  have b8:=dL aZ
  rw[dI aZ,l8] at ha
  have QZ:=hou R[i] s.H
  obtain⟨v,hv⟩:∃v,v=R[i]:=⟨_,rfl⟩
  rw[<-hv] at b8 ha QZ
  obtain⟨z,hz⟩:∃z,z=j5 b.ol b.rg.length v rg:=⟨_,rfl⟩
  rw[<-hz] at ha QZ
  refine tq (fJ f10 f11 BN q8) ?_;intro Nx aB Gx aG
  (try refine bO ?_)
  refine dE (fun _ _ d A=>A=.none/\d=.val (.bool z)) fun Nx aB=>?_;refine dst (pE f3 f4 f10 f11 CU BN b8 hx cL aZ cN) ?_;intro Nx aB Gx aG
  refine⟨QZ,?_⟩
  (first|refine aG _ ?_|refine aB _ ?_|skip)
  cases z
  ·rw[fS] at ha
   rw[ha,aH rfl] at hy
   have e:=hy
   exact oz aC trivial aX e
  ·rw[cT] at ha
   refine tq (cZ f11 w3) ?_;intro Nx aB Gx aG
   exact⟨aZ,bG,f3,⟨x,f4⟩,f10,rfl,hH,ha⟩
 ·rw[hZ rfl] at wR
  refine tq (fJ q4 q5 q6 q7) ?_;intro Nx aB Gx aG
  refine wR.mono ?_
  rintro d _ ⟨rfl,rfl⟩
  refine tq trivial ?_;intro Nx aB Gx aG
  refine Q6.mono ?_
  rintro d _ ⟨rfl,rfl⟩
  refine tq BN ?_;intro Nx aB Gx aG
  refine bB R.length (fun i s=>s.df=[]/\s.fr 3=.rp [bX b.nm,.seq 1 (b.rg.map sD),.seq 2 (b.ol.map pD),.seq 5 (b.ty.map cE),.seq 2 (b.lc.map lI),i64 b.ag,.seq 7 (b.bl.map rE)]/\(∃x,s.fr 4=.rp [i64 k,i64 op,i64 rg,.val (.bool x),i64 pl.lo,.seq 2 (pl.pr.map pD),.seq 4 (ar.map jL)])/\s.fr 10=.seq 1 (R.map iD)/\s.fr 11=i64 i/\s.H=H/\(R.all fun q=>j5 b.ol b.rg.length q rg)=((R.drop i).all fun q=>j5 b.ol b.rg.length q rg)) ⟨rfl,rfl,⟨_,rfl⟩,rfl,rfl,rfl,rfl⟩ ?_
  rintro i s hi ⟨bG,f3,⟨x,f4⟩,f10,f11,hH,ha⟩
  have hx:=bL i
  have cL:=bY i
  have aX:H.le s.H:=by rw[hH];exact aE _
  by_cases aZ:i<R.length
  case neg=>
   have q8:=lF i R.length (by omega)
   rw[dX (by omega),oS] at ha
   rw[ha,aD (fun h=>by cases h)] at hy
   have e:=hy
   exact oz aC (fJ f10 f11 BN q8) aX e
  have cN:(i:Int)<(R.length:Int):=by omega
  have q8:((i:Int)<(R.length:Int))=True:=aK cN
  have w3:=wS i (by omega)
  have b8:=dL aZ
  rw[dI aZ,l8] at ha
  have QZ:=hou R[i] s.H
  obtain⟨v,hv⟩:∃v,v=R[i]:=⟨_,rfl⟩
  rw[<-hv] at b8 ha QZ
  obtain⟨z,hz⟩:∃z,z=j5 b.ol b.rg.length v rg:=⟨_,rfl⟩
  rw[<-hz] at ha QZ
  refine tq (fJ f10 f11 BN q8) ?_;intro Nx aB Gx aG
  (try refine bO ?_)
  refine dE (fun _ _ d A=>A=.none/\d=.val (.bool z)) fun Nx aB=>?_;refine dst (pE f3 f4 f10 f11 CU BN b8 hx cL aZ cN) ?_;intro Nx aB Gx aG
  refine⟨QZ,?_⟩
  (first|refine aG _ ?_|refine aB _ ?_|skip)
  cases z
  ·rw[fS] at ha
   rw[ha,aH rfl] at hy
   have e:=hy
   exact oz aC trivial aX e
  ·rw[cT] at ha
   refine tq (cZ f11 w3) ?_;intro Nx aB Gx aG
   exact⟨aZ,bG,f3,⟨x,f4⟩,f10,rfl,hH,ha⟩
theorem RT {b:iF}:∀{l:List tE} {fs:List Int},fX b l fs=0->fX b l []=0
 |[],_,_=>rfl
 |o::l,[],h=>h
 |o::l,f::fs,h=>by
  have h1:fX b (o::l) (f::fs)=if qS b o≠0 then qS b o else if uB b o f=false then 22 else fX b l fs:=rfl
  have h2:fX b (o::l) []=if qS b o≠0 then qS b o else fX b l []:=rfl
  rw[h1] at h
  rw[h2]
  by_cases h3:qS b o=0
  ·rw[aD (fun k=>k h3)] at h ⊢
   by_cases h4:uB b o f=false
   ·rw[aH h4] at h;cases h
   ·rw[aD h4] at h;exact RT h
  ·rw[aH h3] at h;exact absurd h h3
theorem aFD {r:HN} (h:KQ r=true):(r.k=0->r.ar.length=1):=by
 intro hk
 unfold KQ at h
 rw[aD (by omega),aH hk] at h
 simp only[eF,jU] at h
 exact h.2.2
def A1 (b:iF) (k op rg:Int) (mu:Bool) (pl:pO) (ar:List tE) (t kd:Int) (H:aA) (s:St):Prop:=s.df=[]/\s.fr 2=i64 t/\s.fr 3=.rp [bX b.nm,.seq 1 (b.rg.map sD),.seq 2 (b.ol.map pD),.seq 5 (b.ty.map cE),.seq 2 (b.lc.map lI),i64 b.ag,.seq 7 (b.bl.map rE)]/\s.fr 4=.rp [i64 k,i64 op,i64 rg,.val (.bool mu),i64 pl.lo,.seq 2 (pl.pr.map pD),.seq 4 (ar.map jL)]/\s.fr 8=i64 kd/\s.H=H
def Bop (k op:Int):Prop:=(k=2/\(op<0\/2<=op))\/(k=3/\(op<0\/6<=op))
open Classical in
noncomputable def fz (k:Int) (u:cQ):List Int:=if k=4 then u.ar else []
theorem ZQ (b:iF) (r:HN) (t:Int) (H:aA) (ck:Ck b) (hp:KN r) (ht:dG b.ty.length t) (hfs:∀f∈(cJ b.ty t).ar,dG b.ty.length f):aT prog 125 [.agg (iG b),.agg (GF r),i64 t] H fun d H'=>d=i64 (rvE b r t)/\H=H':=by
 refine bM (K:=fun d=>d=i64 (rvE b r t)) ?_
 have aR:=aE H
 have xA:=aBy r H hp
 have hbo:=ZR b r t H ck hp ht
 have tA:∀o∈r.ar,∀H1,dY prog 128 [.agg (iG b),.agg (jL o)] H1 fun d A=>A=aA.none/\d=i64 (qS b o):=fun o ho H1=>bN fun eL eO=>IV b o eL ck (hp.2.2 o ho)
 have FF:∀o∈r.ar,∀t,qS b o=0->dG b.ty.length t->∀H1,dY prog 213 [.agg (iG b),.agg (jL o),i64 t] H1 fun d A=>A=aA.none/\d=.val (.bool (uB b o t)):=fun o ho t hz ht H1=>bN fun eL eO=>aEN b o t eL ck (hp.2.2 o ho) hz ht
 have EB:∀o∈r.ar,∀kd,qS b o=0->∀H1,dY prog 129 [.agg (iG b),.agg (jL o),i64 kd] H1 fun d A=>A=aA.none/\d=.val (.bool (decide (B6 b o=kd))):=fun o ho kd hz H1=>bN fun eL eO=>IT b o kd eL ck (hp.2.2 o ho) hz
 have iX:=lm cE b.ty
 have cI:=lm jL r.ar
 obtain⟨y,hy⟩:∃y,y=rvE b r t:=⟨_,rfl⟩
 rw[<-hy]
 unfold rvE at hy
 have nY:=kC ht
 have yY:t.toNat<b.ty.length:=by unfold dG at ht;omega
 have B4:0<=t:=by unfold dG at ht;omega
 have PB:=fun h=>aFD (r:=r) h
 unfold yC at hy
 obtain⟨u,hu⟩:∃u,u=cJ b.ty t:=⟨_,rfl⟩
 rw[<-hu] at nY hy hfs
 clear hu
 obtain⟨BE,hBE⟩:∃BE,BE=J9 b r t:=⟨_,rfl⟩
 rw[<-hBE] at hbo hy
 clear hBE
 unfold aCd at xA
 obtain⟨S,hS⟩:∃S,S=KQ r:=⟨_,rfl⟩
 rw[<-hS] at xA hy PB
 clear hS
 have nM:=hp.2.1
 unfold fC at nM
 have wR:=lm iD u.ar
 rw[lK] at hbo tA FF EB ⊢
 obtain⟨k,op,rg,mu,pl,ar⟩:=r
 simp only[cE] at nY
 simp only[GF] at xA hbo ⊢
 simp only at hy xA tA FF EB cI nM PB
 clear hp
 refine aN _ _ func125 rfl rfl ntmps125 results125 (by simp) fun w0 g0 Q aC=>?_
 refine tq trivial ?_;intro Nx aB Gx aG
 intro c3 mH c4 wQ
 refine aB _ ?_
 obtain⟨mJ,s5⟩:=bT.1 wQ;refine bS 3 rfl ((aP mJ.symm).trans (aQ _ _ _)) rfl ?_;refine bS 4 rfl ((bP mJ).trans (aQ _ _ _)) rfl ?_;refine eZ _ (iL mH s5) ?_;simp only[St.gU,List.drop]
 refine tq trivial ?_;intro Nx aB Gx aG
 refine xA.mono ?_
 rintro d _ ⟨rfl,rfl⟩
 by_cases h1:k<0\/4<k
 ·have e:y=14:=hy.trans (aH h1)
  rw[aH h1]
  exact oz aC trivial aR e
 rw[aD h1] at hy ⊢
 cases S
 ·have e:y=2:=hy
  rw[aH rfl]
  exact oz aC trivial aR e
 rw[aD (fun h=>by cases h)] at hy ⊢
 by_cases mZ:k=1
 ·have k1:(k=1)=True:=aK mZ
  have e:y=BE:=by rw[hy,aD (by omega),aH mZ]
  refine tq (gE nY yY B4 iX k1) ?_;intro Nx aB Gx aG
  refine hbo.mono ?_
  rintro d _ ⟨rfl,rfl⟩
  exact oz aC k1 aR e
 have k1:(k=1)=False:=aI mZ
 rw[aD mZ] at hy
 (have fs:=And.intro nY (And.intro yY (And.intro B4 (And.intro iX k1)));(iterate 14 (first|refine aG _ ?_|refine aB _ ?_|refine cX ?_|refine cW ?_|refine eH ?_|refine cF ?_|refine cG ?_|refine cC ?_|refine bO ?_|((first|refine tS fun Nx aB=>?_|refine mE rfl rfl (by kernel_rfl) (by kernel_rfl) fun Gx aG=>?_|refine cD (by kernel_rfl) ?_|refine lJ fun A B vJ vK=>?_);refine yR ?_;(first|refine aG _ ?_|refine aB _ ?_|refine vJ ?_|refine vK ?_|skip))));(try clear fs))
 refine AS (fun s=>A1 b k op rg mu pl ar t u.k H s/\¬Bop k op) ?_ ?_
 ·by_cases iQ:k=2
  ·have k2:(k=2)=True:=aK iQ
   have k3:(k=3)=False:=aI (by omega)
   by_cases h2:op<0
   ·have q2:(op<0)=True:=aK h2
    have e:y=14:=by rw[hy,aD (by omega),aH iQ,aH (.inl h2)]
    refine tq (cZ k2 q2) ?_;intro Nx aB Gx aG
    refine⟨by simp,?_⟩
    refine rt aC trivial ?_;exact⟨_,aE _,aR,_,aJ aR,by rw[e]⟩
   have q2:(op<0)=False:=aI h2
   by_cases h3:1<op
   ·have q3:(1<op)=True:=aK h3
    have e:y=14:=by rw[hy,aD (by omega),aH iQ,aH (.inr (by omega))]
    refine tq (dZ k2 q2 q3) ?_;intro Nx aB Gx aG
    refine⟨by simp,?_⟩
    refine rt aC trivial ?_;exact⟨_,aE _,aR,_,aJ aR,by rw[e]⟩
   have q3:(1<op)=False:=aI h3
   refine tq (fJ k2 k3 q2 q3) ?_;intro Nx aB Gx aG
   exact⟨⟨rfl,rfl,rfl,rfl,rfl,rfl⟩,by unfold Bop;omega⟩
  have k2:(k=2)=False:=aI iQ
  by_cases s9:k=3
  ·have k3:(k=3)=True:=aK s9
   by_cases h2:op<0
   ·have q2:(op<0)=True:=aK h2
    have e:y=14:=by rw[hy,aD (by omega),aD iQ,aH s9,aH (.inl h2)]
    refine tq (dZ k2 k3 q2) ?_;intro Nx aB Gx aG
    refine⟨by simp,?_⟩
    refine rt aC trivial ?_;exact⟨_,aE _,aR,_,aJ aR,by rw[e]⟩
   have q2:(op<0)=False:=aI h2
   by_cases h3:5<op
   ·have q3:(5<op)=True:=aK h3
    have e:y=14:=by rw[hy,aD (by omega),aD iQ,aH s9,aH (.inr (by omega))]
    refine tq (fJ k2 k3 q2 q3) ?_;intro Nx aB Gx aG
    refine⟨by simp,?_⟩
    refine rt aC trivial ?_;exact⟨_,aE _,aR,_,aJ aR,by rw[e]⟩
   have q3:(5<op)=False:=aI h3
   refine tq (fJ k2 k3 q2 q3) ?_;intro Nx aB Gx aG
   exact⟨⟨rfl,rfl,rfl,rfl,rfl,rfl⟩,by unfold Bop;omega⟩
  have k3:(k=3)=False:=aI s9
  refine tq (cZ k2 k3) ?_;intro Nx aB Gx aG
  exact⟨⟨rfl,rfl,rfl,rfl,rfl,rfl⟩,by unfold Bop;omega⟩
 rintro s1 ⟨⟨lS,f2,f3,f4,f8,s6⟩,aXJ⟩
 unfold Bop at aXJ
 have j9:H.le s1.H:=by rw[s6];exact aE _
 refine bO ?_
 refine AS (fun s=>A1 b k op rg mu pl ar t u.k H s/\¬(k=4/\(u.k≠4\/u.ar.length≠ar.length))) ?_ ?_
 ·by_cases sJ:k=4
  ·have k4:(k=4)=True:=aK sJ
   by_cases h2:u.k=4
   case neg=>
    have q2:(u.k=4)=False:=aI h2
    have e:y=22:=by rw[hy,aD (by omega),aD (by omega),aD (by omega),aH (.inl h2)]
    (try refine bO ?_)
    refine dE (fun _ _ _ _=>False) fun Nx aB=>?_;refine dst (jA f2 f3 f4 f8 k4 q2) ?_;intro Nx aB Gx aG
    refine tq trivial ?_;intro Nx aB Gx aG
    refine⟨by simp,?_⟩
    refine rt aC lS ?_;exact⟨_,aE _,j9,_,aJ j9,by rw[e] <;> rfl⟩
   have q2:(u.k=4)=True:=aK h2
   by_cases h3:u.ar.length=ar.length
   ·have q3:((u.ar.length:Int)=(ar.length:Int))=True:=aK (by omega)
    (try refine bO ?_)
    refine dE (fun _ _ _ _=>False) fun Nx aB=>?_;refine dst (P0 f2 f3 f4 f8 k4 q2 q3 nY yY B4 iX wR cI) ?_;intro Nx aB Gx aG
    refine tq trivial ?_;intro Nx aB Gx aG
    exact⟨⟨lS,f2,f3,f4,f8,s6⟩,by omega⟩
   ·have q3:((u.ar.length:Int)=(ar.length:Int))=False:=aI (by omega)
    have e:y=22:=by rw[hy,aD (by omega),aD (by omega),aD (by omega),aH (.inr h3)]
    (try refine bO ?_)
    refine dE (fun _ _ _ _=>False) fun Nx aB=>?_;refine dst (P0 f2 f3 f4 f8 k4 q2 q3 nY yY B4 iX wR cI) ?_;intro Nx aB Gx aG
    refine tq trivial ?_;intro Nx aB Gx aG
    refine⟨by simp,?_⟩
    refine rt aC lS ?_;exact⟨_,aE _,j9,_,aJ j9,by rw[e] <;> rfl⟩
  have k4:(k=4)=False:=aI sJ
  (try refine bO ?_)
  refine dE (fun _ _ _ _=>False) fun Nx aB=>?_;refine dst (gE f2 f3 f4 f8 k4) ?_;intro Nx aB Gx aG
  refine tq trivial ?_;intro Nx aB Gx aG
  exact⟨⟨lS,f2,f3,f4,f8,s6⟩,by omega⟩
 clear f2 f3 f4 f8 s6 j9 lS
 rintro s1 ⟨⟨lS,f2,f3,f4,f8,s6⟩,a0b⟩
 have uT:fX b ar (fz k u)≠0->y=fX b ar (fz k u):=fun h=>by
  unfold fz at h ⊢
  by_cases sJ:k=4
  ·rw[aH sJ] at h ⊢
   rw[hy,aD (by omega),aD (by omega),aD (by omega),aD (by omega)]
  ·rw[aD sJ] at h ⊢
   by_cases yW:k=0
   ·have hl:=PB rfl yW
    obtain⟨o,rfl⟩:=O4.1 hl
    have h2:fX b [o] []=if qS b o≠0 then qS b o else 0:=rfl
    have h3:fX b [o] [t]=if qS b o≠0 then qS b o else if uB b o t=false then 22 else 0:=rfl
    rw[h2] at h ⊢
    by_cases ho:qS b o=0
    ·rw[aD (fun k=>k ho)] at h;exact absurd rfl h
    ·rw[aH ho,hy,aH yW,h3,aH ho]
   ·by_cases iQ:k=2
    ·rw[hy,aD yW,aH iQ,aD (by omega),aH h]
    ·rw[hy,aD yW,aD iQ,aH (by omega),aD (by omega),aH h]
 have hfz:k=4->(fz k u).length=ar.length:=fun h=>by unfold fz;rw[aH h];omega
 have hfn:k≠4->fz k u=[]:=fun h=>by unfold fz;rw[aD h]
 have hfu:k=4->fz k u=u.ar:=fun h=>by unfold fz;rw[aH h]
 refine tq trivial ?_;intro Nx aB Gx aG
 refine bB ar.length (fun i s=>A1 b k op rg mu pl ar t u.k H s/\s.fr 9=i64 i/\fX b ar (fz k u)=fX b (ar.drop i) ((fz k u).drop i)) ⟨⟨lS,f2,f3,f4,f8,s6⟩,rfl,rfl⟩ ?_
 clear f2 f3 f4 f8 s6 lS
 rintro i s hi ⟨⟨bG,f2,f3,f4,f8,hH⟩,f9,ha⟩
 have hx:=bL i
 have cL:=bY i
 have aX:H.le s.H:=by rw[hH];exact aE _
 by_cases aZ:i<ar.length
 case pos=>
  have cN:(i:Int)<(ar.length:Int):=by omega
  have q6:((i:Int)<(ar.length:Int))=True:=aK cN
  have w3:=wS i (by omega)
  have b8:=yB aZ
  have kM:=bZ aZ
  rw[dI aZ] at ha
  have tA:=tA _ kM s.H
  have FF:=FF _ kM
  obtain⟨o,ho⟩:∃o,o=ar[i]:=⟨_,rfl⟩
  rw[<-ho] at b8 ha tA FF
  clear kM ho
  obtain⟨E,hE⟩:∃E,E=qS b o:=⟨_,rfl⟩
  have oF:fX b (o::ar.drop (i+1)) ((fz k u).drop i)=if E≠0 then E else match (fz k u).drop i with
   |[]=>fX b (ar.drop (i+1)) []
   |f::fs=>if uB b o f=false then 22 else fX b (ar.drop (i+1)) fs:=by rw[hE];rfl
  rw[oF] at ha
  clear oF
  rw[<-hE] at tA FF
  clear hE
  simp only[jL] at b8 tA FF
  refine tq (fJ f4 f9 cI q6) ?_;intro Nx aB Gx aG
  (try refine bO ?_)
  refine dE (fun _ _ d A=>A=.none/\d=i64 E) fun Nx aB=>?_;refine dst (yP f3 f4 f9 b8 hx cL aZ cN cI) ?_;intro Nx aB Gx aG
  refine⟨tA,?_⟩
  (first|refine aG _ ?_|refine aB _ ?_|skip)
  by_cases h0:E=0
  case neg=>
   have q0:(E=0)=False:=aI h0
   rw[aH h0] at ha
   have e:y=E:=by rw[uT (by rw[ha];exact h0),ha]
   exact oz aC q0 aX e
  have q0:(E=0)=True:=aK h0
  rw[aD (fun h=>h h0)] at ha
  by_cases sJ:k=4
  case neg=>
   have k4:(k=4)=False:=aI sJ
   rw[hfn sJ,List.drop_nil] at ha
   simp only at ha
   refine tq q0 ?_;intro Nx aB Gx aG
   (try refine bO ?_)
   refine dE (fun _ _ _ _=>False) fun Nx aB=>?_;refine dst (cZ f4 k4) ?_;intro Nx aB Gx aG
   refine tq (cZ f9 w3) ?_;intro Nx aB Gx aG
   exact⟨aZ,⟨bG,f2,f3,f4,f8,hH⟩,rfl,by rw[hfn sJ,List.drop_nil];exact ha⟩
  have k4:(k=4)=True:=aK sJ
  have QU:i<u.ar.length:=by have:=hfz sJ;rw[hfu sJ] at this;omega
  have aXX:(i:Int)<(u.ar.length:Int):=by omega
  rw[hfu sJ,dI QU] at ha
  simp only at ha
  have ZD:=dL QU
  have aF7:=hfs u.ar[i] (bZ QU)
  obtain⟨f,hf⟩:∃f,f=u.ar[i]:=⟨_,rfl⟩
  rw[<-hf] at ha ZD aF7
  have FF:=FF f h0 aF7 s.H
  obtain⟨z,hz⟩:∃z,z=uB b o f:=⟨_,rfl⟩
  rw[<-hz] at FF ha
  refine tq q0 ?_;intro Nx aB Gx aG
  (try refine bO ?_)
  refine dE (fun _ _ d A=>A=.none/\d=.val (.bool z)) fun Nx aB=>?_;refine dst (aI3 f2 f3 f4 f9 k4 b8 hx cL aZ cN cI nY yY B4 iX ZD QU aXX wR) ?_;intro Nx aB Gx aG
  refine⟨FF,?_⟩
  cases z
  ·rw[aH rfl] at ha
   have e:y=22:=by rw[uT (by rw[hfu sJ,ha];decide),hfu sJ,ha]
   (first|refine aG _ ?_|skip)
   refine dst trivial ?_;intro Nx aB Gx aG
   exact oz aC trivial aX e
  ·rw[aD (fun h=>by cases h)] at ha
   (first|refine aG _ ?_|skip)
   refine dst trivial ?_;intro Nx aB Gx aG
   refine tq (cZ f9 w3) ?_;intro Nx aB Gx aG
   exact⟨aZ,⟨bG,f2,f3,f4,f8,hH⟩,rfl,by rw[hfu sJ];exact ha⟩
 have q6:=lF i ar.length (by omega)
 rw[dX (by omega)] at ha
 have N0:fX b ar (fz k u)=0:=by rw[ha];rfl
 have hs0:=RT N0
 have eW:=C2 hs0
 clear uT hfz hfn ha
 by_cases yW:k=0
 ·have k0:(k=0)=True:=aK yW
  have hl:=PB rfl yW
  have EE:0<ar.length:=by omega
  have B3:=yB EE
  have FF:=FF ar[0] (bZ EE) t (eW _ (bZ EE)) ht s.H
  have lU:y=if uB b ar[0] t=false then 22 else 0:=by
   obtain⟨o,rfl⟩:=O4.1 hl
   have h3:fX b [o] [t]=if qS b o≠0 then qS b o else if uB b o t=false then 22 else 0:=rfl
   rw[hy,aH yW,h3,aD (fun k=>k (eW o (by simp)))]
   rfl
  obtain⟨o,ho⟩:∃o,o=ar[0]:=⟨_,rfl⟩
  rw[<-ho] at B3 FF lU
  clear ho hy
  obtain⟨z,hz⟩:∃z,z=uB b o t:=⟨_,rfl⟩
  rw[<-hz] at FF lU
  clear hz
  simp only[jL] at B3 FF
  refine tq (gE f4 f9 cI q6 k0) ?_;intro Nx aB Gx aG
  (try refine bO ?_)
  refine dE (fun _ _ d A=>A=.none/\d=.val (.bool z)) fun Nx aB=>?_;refine dst (jA f2 f3 f4 B3 cI hl) ?_;intro Nx aB Gx aG
  refine⟨FF,?_⟩
  (first|refine aG _ ?_|refine aB _ ?_|skip)
  cases z
  ·have e:y=22:=lU
   exact oz aC trivial aX e
  ·have e:y=0:=lU
   exact oz aC trivial aX e
 have k0:(k=0)=False:=aI yW
 rw[aD yW] at hy
 clear FF tA xA PB hbo
 obtain⟨x,hxd⟩:∃x:Int×Int,x=if k=2 then unE op else TH op:=⟨_,rfl⟩
 have lU:y=if k=4 then 0 else if (ar.all fun o=>decide (B6 b o=x.1))=false then 22 else if u.k≠x.2 then 22 else 0:=by
  by_cases sJ:k=4
  ·rw[aH sJ,hy,aD (by omega),aD (by omega),aD (by omega),<-hfu sJ,N0]
  rw[aD sJ,hxd]
  by_cases iQ:k=2
  ·rw[aH iQ,hy,aH iQ,aD (by omega),aD (fun h=>h hs0)]
  ·rw[aD iQ,hy,aD iQ,aH (by omega),aD (by omega),aD (fun h=>h hs0)]
 clear hy N0 hfu hs0
 (have fs:=And.intro f4 (And.intro f9 (And.intro cI (And.intro q6 k0)));(iterate 15 (first|refine aG _ ?_|refine aB _ ?_|refine cX ?_|refine cW ?_|refine eH ?_|refine cF ?_|refine cG ?_|refine cC ?_|refine bO ?_|((first|refine tS fun Nx aB=>?_|refine mE rfl rfl (by kernel_rfl) (by kernel_rfl) fun Gx aG=>?_|refine cD (by kernel_rfl) ?_|refine lJ fun A B vJ vK=>?_);refine yR ?_;(first|refine aG _ ?_|refine aB _ ?_|refine vJ ?_|refine vK ?_|skip))));(try clear fs))
 refine MK (fun s=>A1 b k op rg mu pl ar t u.k H s/\s.fr 11=i64 (if k=2/\op=1 then 1 else 2)/\s.fr 12=i64 (if k=2/\op=1 then 1 else 2)) ?_ ?_
 ·by_cases iQ:k=2
  ·have k2:(k=2)=True:=aK iQ
   by_cases h2:op=1
   ·have q2:(op=1)=True:=aK h2
    refine tq (dZ f4 k2 q2) ?_;intro Nx aB Gx aG
    exact⟨⟨bG,f2,f3,f4,f8,hH⟩,by rw[aH ⟨iQ,h2⟩] <;> rfl,by rw[aH ⟨iQ,h2⟩] <;> rfl⟩
   ·have q2:(op=1)=False:=aI h2
    refine tq (dZ f4 k2 q2) ?_;intro Nx aB Gx aG
    exact⟨⟨bG,f2,f3,f4,f8,hH⟩,by rw[aD (fun h=>h2 h.2)] <;> rfl,by rw[aD (fun h=>h2 h.2)] <;> rfl⟩
  ·have k2:(k=2)=False:=aI iQ
   refine tq (cZ f4 k2) ?_;intro Nx aB Gx aG
   exact⟨⟨bG,f2,f3,f4,f8,hH⟩,by rw[aD (fun h=>iQ h.1)] <;> rfl,by rw[aD (fun h=>iQ h.1)] <;> rfl⟩
 clear f2 f3 f4 f8 f9 hH bG aX
 rintro s1 ⟨⟨bG,f2,f3,f4,f8,hH⟩,f11,f12⟩
 refine bO ?_
 refine MK (fun s=>A1 b k op rg mu pl ar t u.k H s/\s.fr 11=i64 (if k=2/\op=1 then 1 else 2)/\s.fr 12=i64 (if (k=2/\op=1)\/(k=3/\3<=op) then 1 else 2)) ?_ ?_
 ·by_cases s9:k=3
  ·have k3:(k=3)=True:=aK s9
   by_cases h2:3<=op
   ·have q2:(op≥3)=True:=aK h2
    refine tq (dZ f4 k3 q2) ?_;intro Nx aB Gx aG
    exact⟨⟨bG,f2,f3,f4,f8,hH⟩,f11,by rw[aH (.inr ⟨s9,h2⟩)] <;> rfl⟩
   ·have q2:(op≥3)=False:=aI h2
    refine tq (dZ f4 k3 q2) ?_;intro Nx aB Gx aG
    exact⟨⟨bG,f2,f3,f4,f8,hH⟩,f11,by rw[aD (by omega)] at f12 ⊢;exact f12⟩
  ·have k3:(k=3)=False:=aI s9
   refine tq (cZ f4 k3) ?_;intro Nx aB Gx aG
   refine⟨⟨bG,f2,f3,f4,f8,hH⟩,f11,?_⟩
   by_cases h5:k=2/\op=1
   ·rw[aH h5] at f12;rw[aH (.inl h5)];exact f12
   ·rw[aD h5] at f12;rw[aD (by omega)];exact f12
 clear f2 f3 f4 f8 f11 f12 hH bG
 rintro s2 ⟨⟨bG,f2,f3,f4,f8,hH⟩,f11,f12⟩
 refine bO ?_
 refine MK (fun s=>A1 b k op rg mu pl ar t u.k H s/\s.fr 11=i64 (if (k=2/\op=1)\/(k=3/\op=5) then 1 else 2)/\s.fr 12=i64 (if (k=2/\op=1)\/(k=3/\3<=op) then 1 else 2)) ?_ ?_
 ·by_cases s9:k=3
  ·have k3:(k=3)=True:=aK s9
   by_cases h2:op=5
   ·have q2:(op=5)=True:=aK h2
    refine tq (dZ f4 k3 q2) ?_;intro Nx aB Gx aG
    exact⟨⟨bG,f2,f3,f4,f8,hH⟩,by rw[aH (.inr ⟨s9,h2⟩)] <;> rfl,f12⟩
   ·have q2:(op=5)=False:=aI h2
    refine tq (dZ f4 k3 q2) ?_;intro Nx aB Gx aG
    exact⟨⟨bG,f2,f3,f4,f8,hH⟩,by rw[aD (by omega)] at f11 ⊢;exact f11,f12⟩
  ·have k3:(k=3)=False:=aI s9
   refine tq (cZ f4 k3) ?_;intro Nx aB Gx aG
   refine⟨⟨bG,f2,f3,f4,f8,hH⟩,?_,f12⟩
   by_cases h5:k=2/\op=1
   ·rw[aH h5] at f11;rw[aH (.inl h5)];exact f11
   ·rw[aD h5] at f11;rw[aD (by omega)];exact f11
 clear f2 f3 f4 f8 f11 f12 hH bG
 rintro s3 ⟨⟨bG,f2,f3,f4,f8,hH⟩,f11,f12⟩
 have hx1:k≠4->(if (k=2/\op=1)\/(k=3/\op=5) then (1:Int) else 2)=x.1/\(if (k=2/\op=1)\/(k=3/\3<=op) then (1:Int) else 2)=x.2:=fun sJ=>by
  rw[hxd]
  by_cases iQ:k=2
  ·rw[aH iQ]
   have ho:op=0\/op=1:=by omega
   rcases ho with rfl|rfl
   ·simp [iQ,unE]
   ·simp [iQ,unE]
  ·have s9:k=3:=by omega
   rw[aD iQ]
   rcases aJW (x:=op) (by omega) (by omega) with rfl|rfl|rfl|rfl|rfl|rfl <;> simp [s9,TH]
 obtain⟨x1,aJM⟩:∃x1:Int,x1=if (k=2/\op=1)\/(k=3/\op=5) then (1:Int) else 2:=⟨_,rfl⟩
 obtain⟨x2,aJN⟩:∃x2:Int,x2=if (k=2/\op=1)\/(k=3/\3<=op) then (1:Int) else 2:=⟨_,rfl⟩
 rw[<-aJM] at f11 hx1
 rw[<-aJN] at f12 hx1
 have hy3:y=if k=4 then 0 else if (ar.all fun o=>decide (B6 b o=x1))=false then 22 else if u.k≠x2 then 22 else 0:=by
  rw[lU]
  by_cases sJ:k=4
  ·rw[aH sJ,aH sJ]
  ·rw[aD sJ,aD sJ,(hx1 sJ).1,(hx1 sJ).2]
 clear hx1 aJM aJN lU hxd
 refine tq trivial ?_;intro Nx aB Gx aG
 refine bB ar.length (fun i s=>A1 b k op rg mu pl ar t u.k H s/\s.fr 11=i64 x1/\s.fr 12=i64 x2/\s.fr 13=i64 i/\(ar.all fun o=>decide (B6 b o=x1))=((ar.drop i).all fun o=>decide (B6 b o=x1))) ⟨⟨bG,f2,f3,f4,f8,hH⟩,f11,f12,rfl,rfl⟩ ?_
 clear f2 f3 f4 f8 f11 f12 hH bG
 clear hi hx cL q6 aZ
 rintro i s hi ⟨⟨bG,f2,f3,f4,f8,hH⟩,f11,f12,f13,ha⟩
 have hx:=bL i
 have cL:=bY i
 have aX:H.le s.H:=by rw[hH];exact aE _
 by_cases sJ:k=4
 ·have k4:(k=4)=True:=aK sJ
  have e:y=0:=by rw[hy3,aH sJ]
  by_cases aZ:i<ar.length
  ·have q6:=lT i ar.length (by omega)
   exact oz aC (lM f4 f8 f12 f13 cI q6 k4) aX e
  ·have q6:=lF i ar.length (by omega)
   exact oz aC (lM f4 f8 f12 f13 cI q6 k4) aX e
 have k4:(k=4)=False:=aI sJ
 rw[aD sJ] at hy3
 by_cases aZ:i<ar.length
 case neg=>
  have q6:=lF i ar.length (by omega)
  rw[dX (by omega),oS] at ha
  rw[ha,aD (fun h=>by cases h)] at hy3
  by_cases h2:u.k=x2
  ·have q2:(u.k=x2)=True:=aK h2
   have e:y=0:=hy3.trans (aD (fun h=>h h2))
   exact oz aC (qN f4 f8 f12 f13 cI q6 k4 q2) aX e
  ·have q2:(u.k=x2)=False:=aI h2
   have e:y=22:=hy3.trans (aH h2)
   exact oz aC (qN f4 f8 f12 f13 cI q6 k4 q2) aX e
 have cN:(i:Int)<(ar.length:Int):=by omega
 have q6:((i:Int)<(ar.length:Int))=True:=aK cN
 have w3:=wS i (by omega)
 have b8:=yB aZ
 have kM:=bZ aZ
 rw[dI aZ,l8] at ha
 have EB:=EB _ kM x1 (eW _ kM) s.H
 obtain⟨o,ho⟩:∃o,o=ar[i]:=⟨_,rfl⟩
 rw[<-ho] at b8 ha EB
 clear ho kM
 obtain⟨z,hz⟩:∃z,z=decide (B6 b o=x1):=⟨_,rfl⟩
 rw[<-hz] at ha EB
 clear hz
 simp only[jL] at b8 EB
 refine tq (gE f4 f13 cI q6 k4) ?_;intro Nx aB Gx aG
 (try refine bO ?_)
 refine dE (fun _ _ d A=>A=.none/\d=.val (.bool z)) fun Nx aB=>?_;refine dst (rF f3 f4 f11 f13 b8 hx cL aZ cN cI) ?_;intro Nx aB Gx aG
 refine⟨EB,?_⟩
 (first|refine aG _ ?_|refine aB _ ?_|skip)
 cases z
 ·rw[fS] at ha
  rw[ha,aH rfl] at hy3
  have e:=hy3
  exact oz aC trivial aX e
 ·rw[cT] at ha
  refine tq (cZ f13 w3) ?_;intro Nx aB Gx aG
  exact⟨aZ,⟨bG,f2,f3,f4,f8,hH⟩,f11,f12,rfl,ha⟩
theorem aDN (s:StS):PS s=(eV s.pl&&TI s.rv):=by
 unfold PS TI
 have h:∀z a b c d e f:Bool,(z&&(a&&b&&c&&d&&e&&f))=(z&&(a&&(b&&(d&&(e&&(f&&c)))))):=by decide
 exact h _ _ _ _ _ _ _
theorem aEQ (b:iF) (s:StS) (H:aA) (ck:Ck b) (hp:aE4 s):aT prog 56 [.agg (iG b),.agg (J4 s)] H fun d H'=>d=i64 (stE b s)/\H=H':=by
 refine bM (K:=fun d=>d=i64 (stE b s)) ?_
 have aR:=aE H
 have lG:=EI b s.pl H ck hp.1
 have wR:=N7 b s.pl H ck hp.1
 have FI:=CY s.pl H hp.1
 have nX:=aBu s.rv H hp.2
 have has:=fun t h=>ZQ b s.rv t H ck hp.2 h (K9 ck.wt h)
 have jX:(qI b s.pl).2=0->dG b.ty.length (qI b s.pl).1:=fun h=>EU ck h
 have hmc:=lm lI b.lc
 obtain⟨y,hy⟩:∃y,y=stE b s:=⟨_,rfl⟩
 rw[<-hy]
 unfold stE DC at hy
 rw[aDN] at hy
 obtain⟨Z,hZ⟩:∃Z,Z=eV s.pl:=⟨_,rfl⟩
 rw[<-hZ] at FI hy
 obtain⟨Bl,hB⟩:∃Bl,Bl=TI s.rv:=⟨_,rfl⟩
 rw[<-hB] at nX hy
 obtain⟨T,hT⟩:∃T,T=qI b s.pl:=⟨_,rfl⟩
 rw[<-hT] at lG jX hy
 obtain⟨Mu,hM⟩:∃Mu,Mu=sP b.ty b.lc s.pl:=⟨_,rfl⟩
 rw[<-hM] at wR hy
 clear hZ hB hT hM
 rw[lK] at lG wR has ⊢
 obtain⟨k,pl,rv,lo⟩:=s
 simp only at hy has nX
 simp only[GF] at has nX
 simp only[kT] at lG wR FI
 simp only[J4]
 refine aN _ _ func56 rfl rfl ntmps56 results56 (by simp) fun w0 g0 Q aC=>?_
 refine tq trivial ?_;intro Nx aB Gx aG
 intro c2 pZ c3 mH
 refine aB _ ?_
 obtain⟨mJ,s5⟩:=bT.1 mH;refine bS 2 rfl ((aP mJ.symm).trans (aQ _ _ _)) rfl ?_;refine bS 3 rfl ((bP mJ).trans (aQ _ _ _)) rfl ?_;refine eZ _ (iL pZ s5) ?_;simp only[St.gU,List.drop]
 by_cases hk:k=0
 ·have k0:(k=0)=True:=aK hk
  rw[aH hk] at hy
  by_cases h1:lo=0
  case neg=>
   have q1:(lo=0)=False:=aI h1
   have e:y=2:=hy.trans (aH h1)
   exact oz aC (cZ k0 q1) aR e
  have q1:(lo=0)=True:=aK h1
  rw[aD (fun h=>h h1)] at hy
  refine tq (cZ k0 q1) ?_;intro Nx aB Gx aG
  refine lG.mono ?_
  rintro d _ ⟨rfl,rfl⟩
  by_cases h2:T.2=0
  case neg=>
   have q2:(T.2=0)=False:=aI h2
   have e:y=T.2:=by rw[hy,aH h2,aH h2]
   exact oz aC q2 aR e
  have q2:(T.2=0)=True:=aK h2
  rw[aD (fun h=>h h2:¬(T.2≠0))] at hy
  refine tq q2 ?_;intro Nx aB Gx aG
  refine wR.mono ?_
  rintro d _ ⟨rfl,rfl⟩
  cases Mu
  ·have e:y=22:=by rw[hy];rfl
   exact oz aC trivial aR e
  have e:y=rvE b rv T.1:=by rw[hy];rfl
  refine tq trivial ?_;intro Nx aB Gx aG
  refine(has T.1 (jX h2)).mono ?_
  rintro d _ ⟨rfl,rfl⟩
  exact oz aC q1 aR e
 have k0:(k=0)=False:=aI hk
 rw[aD hk] at hy
 by_cases mZ:k=1
 ·have k1:(k=1)=True:=aK mZ
  rw[aH mZ] at hy
  refine tq (cZ k0 k1) ?_;intro Nx aB Gx aG
  refine FI.mono ?_
  rintro d _ ⟨rfl,rfl⟩
  cases Z
  ·have e:y=2:=hy
   exact oz aC trivial aR e
  rw[cT] at hy
  refine tq trivial ?_;intro Nx aB Gx aG
  refine nX.mono ?_
  rintro d _ ⟨rfl,rfl⟩
  cases Bl
  ·have e:y=2:=hy
   exact oz aC trivial aR e
  rw[aD (fun h=>by cases h)] at hy
  by_cases h1:lo<0
  ·have q1:(lo<0)=True:=aK h1
   have e:y=3:=hy.trans (aH (.inl h1))
   exact oz aC q1 aR e
  have q1:(lo<0)=False:=aI h1
  by_cases h2:(b.lc.length:Int)<=lo
  ·have q2:(lo≥(b.lc.length:Int))=True:=aK h2
   have e:y=3:=hy.trans (aH (.inr h2))
   exact oz aC (dZ q1 q2 hmc) aR e
  have q2:(lo≥(b.lc.length:Int))=False:=aI h2
  have e:y=0:=hy.trans (aD (by omega))
  exact oz aC (dZ q1 q2 hmc) aR e
 have k1:(k=1)=False:=aI mZ
 rw[aD mZ] at hy
 by_cases iQ:k=2
 ·have k2:(k=2)=True:=aK iQ
  rw[aH iQ] at hy
  refine tq (dZ k0 k1 k2) ?_;intro Nx aB Gx aG
  refine FI.mono ?_
  rintro d _ ⟨rfl,rfl⟩
  cases Z
  ·have e:y=2:=hy
   exact oz aC trivial aR e
  rw[cT] at hy
  refine tq trivial ?_;intro Nx aB Gx aG
  refine nX.mono ?_
  rintro d _ ⟨rfl,rfl⟩
  cases Bl
  ·have e:y=2:=hy
   exact oz aC trivial aR e
  by_cases h1:lo=0
  ·have q1:(lo=0)=True:=aK h1
   have e:y=0:=hy.trans (aD (by rintro(h|h);cases h;exact h h1))
   exact oz aC q1 aR e
  ·have q1:(lo=0)=False:=aI h1
   have e:y=2:=hy.trans (aH (.inr h1))
   exact oz aC q1 aR e
 have k2:(k=2)=False:=aI iQ
 rw[aD iQ] at hy
 have e:y=14:=hy
 exact oz aC (dZ k0 k1 k2) aR e
end Go.Proofs.YtelbfbioomcmeaaGreatDoor

