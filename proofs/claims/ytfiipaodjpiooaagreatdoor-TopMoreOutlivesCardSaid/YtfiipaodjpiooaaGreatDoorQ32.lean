/- Lemmas and contracts of functions, several texts in one. -/
import Derived.Test.YtfiipaodjpiooaaGreatDoorQ26
set_option maxRecDepth 100000
set_option maxHeartbeats 4000000
set_option linter.all false
namespace Go.Proofs.YtfiipaodjpiooaaGreatDoor
open Go.RowKit
open Tryz
theorem VO (p:pA) (H:aC) (hp:dO p.pr.length):bE prog 169 [.agg (lN p)] H fun d H'=>d=i64 (lG p)/\H=H':=by
 unfold dO at hp
 have dX:=lm pD p.pr
 refine bO (K:=fun d=>d=i64 (lG p)) ?_
 refine aQ _ _ func169 rfl rfl ntmps169 results169 (by simp) fun w0 g0 Q aD=>?_
 refine tq @lN.eq_1 ?_;intro Nx aB Gx aF
 intro c1 mA
 refine aB _ ?_
 refine fZ 1 mA ?_
 by_cases h0:p.lo<0
 ·have p1:(p.lo<0)=True:=aK h0
  have hd:lG p=3:=aE h0
  refine tq p1 ?_;intro Nx aB Gx aF
  refine rt aD trivial ?_
  exact⟨_,aG _,aG _,_,aH (aG _),by rw[hd]⟩
 have p1:(p.lo<0)=False:=aI h0
 by_cases h1:32<p.pr.length
 ·have p2:((p.pr.length:Int)>32)=True:=aK (by omega)
  have hd:lG p=19:=by unfold lG;rw[aA h0,aE h1]
  refine tq (eA p1 dX p2) ?_;intro Nx aB Gx aF
  refine rt aD trivial ?_
  exact⟨_,aG _,aG _,_,aH (aG _),by rw[hd]⟩
 have p2:((p.pr.length:Int)>32)=False:=aI (by omega)
 have hd:lG p=vC p.pr:=by unfold lG;rw[aA h0,aA h1]
 rw[hd] at aD
 refine tq (eA p1 dX p2) ?_;intro Nx aB Gx aF
 refine aZ p.pr.length (fun i s=>s.df=[]/\s.fr 1=.rp [i64 p.lo,.seq 2 (p.pr.map pD)]/\s.fr 3=i64 i/\H.le s.H/\vC p.pr=vC (p.pr.drop i)) ⟨rfl,rfl,rfl,aG _,rfl⟩ ?_
 rintro i s hi ⟨aT,f1,f3,aS,gV⟩
 have hx:=bI i
 have cJ:=bM i
 by_cases aV:i<p.pr.length
 case neg=>
  have q1:=lF i p.pr.length (by omega)
  rw[eT (by omega)] at gV
  refine tq (gQ f1 f3 q1 dX) ?_;intro Nx aB Gx aF
  refine rt aD aT ?_
  exact⟨_,aG _,aS,_,aH aS,by rw[gV] <;> rfl⟩
 have cC:(i:Int)<(p.pr.length:Int):=by omega
 have q1:((i:Int)<(p.pr.length:Int))=True:=aK cC
 have w3:=wS i (by omega)
 have cD:=wK aV
 rw[QI aV] at gV
 rcases he:p.pr[i] with⟨k,f⟩
 rw[he] at gV cD
 simp only at cD
 refine tq (wG f1 f3 q1 dX cD hx cJ aV) ?_;intro Nx aB Gx aF
 intro c4 uL
 refine aB _ ?_
 have aBw:H c4=none:=by
  cases e:H c4 with
  |none=>rfl
  |some y=>rw[aS c4 y e] at uL;cases uL
 have nT:=bK (x:=.row 119 0 2 [[i64 k,i64 f]]) aS aBw
 have z4:(s.H.bH c4 (.row 119 0 2 [[i64 k,i64 f]])) c4=some (.row 119 0 2 [[i64 k,i64 f]]):=aO _ _ _
 have jG:TT (k,f)=if k≠0/\k≠1 then 14 else if k=0/\f≠0 then 2 else if f<0 then 3 else 0:=rfl
 rcases tfB (k=0) with⟨_,k0,⟨rfl,h0⟩|⟨rfl,h0⟩⟩
 ·rcases tfB (f=0) with⟨_,f0,⟨rfl,h1⟩|⟨rfl,h1⟩⟩
  ·have f7:(f<0)=False:=aI (by omega)
   rw[aA (fun h=>h.1 h0),aA (fun h=>h.2 h1),aA (by omega)] at jG
   rw[aA (fun h=>h jG)] at gV
   refine tq (nF f1 f3 w3 k0 z4 f0 f7) ?_;intro Nx aB Gx aF;exact⟨aV,aT,f1,rfl,nT,gV⟩
  ·rw[aA (fun h=>h.1 h0),aE ⟨h0,h1⟩] at jG
   rw[aE (by rw[jG];decide),jG] at gV
   refine tq (kB f1 f3 w3 k0 z4 f0) ?_;intro Nx aB Gx aF;refine rt aD aT ?_;exact⟨_,aG _,nT,_,aH nT,by rw[gV] <;> rfl⟩
 rcases tfB (k=1) with⟨_,k1,⟨rfl,h2⟩|⟨rfl,h2⟩⟩
 case inr=>
  rw[aE ⟨h0,h2⟩] at jG
  rw[aE (by rw[jG];decide),jG] at gV
  refine tq (kB f1 f3 w3 k0 z4 k1) ?_;intro Nx aB Gx aF;refine rt aD aT ?_;exact⟨_,aG _,nT,_,aH nT,by rw[gV] <;> rfl⟩
 rcases tfB (f<0) with⟨_,f7,⟨rfl,h1⟩|⟨rfl,h1⟩⟩
 ·rw[aA (fun h=>h.2 h2),aA (fun h=>h0 h.1),aE h1] at jG
  rw[aE (by rw[jG];decide),jG] at gV
  refine tq (nF f1 f3 w3 k0 z4 k1 f7) ?_;intro Nx aB Gx aF;refine rt aD aT ?_;exact⟨_,aG _,nT,_,aH nT,by rw[gV] <;> rfl⟩
 ·rw[aA (fun h=>h.2 h2),aA (fun h=>h0 h.1),aA h1] at jG
  rw[aA (fun h=>h jG)] at gV
  refine tq (nF f1 f3 w3 k0 z4 k1 f7) ?_;intro Nx aB Gx aF;exact⟨aV,aT,f1,rfl,nT,gV⟩
theorem U4:∀(l m:List (Int×Int)),vC (l++m)=0->vC l=0/\vC m=0
 |[],m,h=>⟨rfl,h⟩
 |x::l,m,h=>by
  simp only[gP,vC] at h ⊢
  by_cases h1:TT x≠0
  ·rw[aE h1] at h;exact absurd h h1
  ·rw[aA h1] at h ⊢
   exact U4 l m h
theorem aAL {a:Int} {l m:List (Int×Int)} (h:lG ⟨a,l++m⟩=0):lG ⟨a,l⟩=0:=by
 obtain⟨h1,h2,h3⟩:=uX h
 simp only[bN] at h1 h2
 have h4:=(U4 l m h3).1
 unfold lG
 rw[aA (by simp only;omega),aA (by simp only;omega)]
 exact h4
theorem aBZ {ts:List dS} {lc:List AO} {a:Int} {l:List (Int×Int)} {x:Int×Int} (h:lG ⟨a,l++[x]⟩=0) (h2:a<lc.length):
  cG ts lc ⟨a,l++[x]⟩=if (cG ts lc ⟨a,l⟩).2≠0 then (0,(cG ts lc ⟨a,l⟩).2) else lI ts (cG ts lc ⟨a,l⟩).1 x:=by
 have h3:=aAL h
 have e1:cG ts lc ⟨a,l++[x]⟩=FQ ts (x8 lc a).ty (l++[x]):=by
  unfold cG;rw[aA (fun k=>k h),aA (by simp only;omega)]
 have e2:cG ts lc ⟨a,l⟩=FQ ts (x8 lc a).ty l:=by
  unfold cG;rw[aA (fun k=>k h3),aA (by simp only;omega)]
 rw[e1,e2]
 by_cases h4:(FQ ts (x8 lc a).ty l).2=0
 ·rw[aA (fun k=>k h4),SQ h4]
 ·rw[aE h4,SP h4]
  have:=aER _ _ h4
  rw[<-this]
theorem FB (ts:List dS) (lc:List AO) (hw:zJ ts) (hl:wfL ts lc) (ha:arN ts):∀(n:Nat) (p:pA) (H:aC),p.pr.length=n->dO p.pr.length->bE prog 140 [.seq 5 (ts.map cP),.seq 2 (lc.map mN),.agg (lN p)] H fun d H'=>d=.pG [i64 (cG ts lc p).1,i64 (cG ts lc p).2]/\H=H':=by
 have hmc:=lm mN lc
 have lJ:=lm cP ts
 intro n
 induction n with
 |zero=>
  rintro⟨a,l⟩ H hn hp
  have YA:l=[]:=iX hn
  subst YA
  refine bO (K:=fun d=>d=.pG [i64 (cG ts lc ⟨a,[]⟩).1,i64 (cG ts lc ⟨a,[]⟩).2]) ?_
  have iC:=aG H
  have gV:=VO ⟨a,[]⟩ H hp
  obtain⟨y,hy⟩:∃y,y=cG ts lc ⟨a,[]⟩:=⟨_,rfl⟩
  rw[<-hy]
  simp only[lN,nE] at gV
  refine aQ _ _ func140 rfl rfl ntmps140 results140 (by simp) fun w0 g0 Q aD=>?_
  refine tq @lN.eq_1 ?_;intro Nx aB Gx aF
  intro c5 lY
  refine aB _ ?_
  refine fZ 5 lY ?_
  refine tq trivial ?_;intro Nx aB Gx aF
  refine gV.mono ?_
  rintro d _ ⟨rfl,rfl⟩
  by_cases h1:lG ⟨a,[]⟩=0
  case neg=>
   have q1:(lG ⟨a,[]⟩=0)=False:=aI h1
   have e:y=(0,lG ⟨a,[]⟩):=hy.trans (aE h1)
   refine tq q1 ?_;intro Nx aB Gx aF;refine rt aD trivial ?_;exact⟨_,aG _,iC,_,aH iC,by rw[e]⟩
  have q1:(lG ⟨a,[]⟩=0)=True:=aK h1
  by_cases h2:(lc.length:Int)<=a
  ·have q2:(a≥(lc.length:Int))=True:=aK h2
   have e:y=(0,3):=hy.trans (by unfold cG;rw[aA (fun k=>k h1)];exact aE h2)
   refine tq (eA q1 q2 hmc) ?_;intro Nx aB Gx aF;refine rt aD trivial ?_;exact⟨_,aG _,iC,_,aH iC,by rw[e]⟩
  have q2:(a≥(lc.length:Int))=False:=aI h2
  have iI:0<=a/\a<lc.length:=⟨(uX h1).1,by omega⟩
  have cJ:=iI.1
  have aV:a.toNat<lc.length:=by omega
  have GN:=aD1 iI
  simp only[mN] at GN
  have e:y=((x8 lc a).ty,0):=hy.trans (by unfold cG;rw[aA (fun k=>k h1),aA h2];rfl)
  refine tq (kB q1 q2 hmc GN aV cJ) ?_;intro Nx aB Gx aF;refine rt aD trivial ?_;exact⟨_,aG _,iC,_,aH iC,by rw[e]⟩
 |succ n ih=>
  rintro⟨a,l0⟩ H hn hp
  obtain⟨l,x,rfl⟩:∃l x,l0=l++[x]:=by
   rcases List.eq_nil_or_concat l0 with h|⟨l,x,h⟩
   ·subst h;cases hn
   ·exact⟨l,x,by rw[h,List.concat_eq_append]⟩
  have jY:l.length=n:=by simpa using hn
  refine bO (K:=fun d=>d=.pG [i64 (cG ts lc ⟨a,l++[x]⟩).1,i64 (cG ts lc ⟨a,l++[x]⟩).2]) ?_
  have iC:=aG H
  have gV:=VO ⟨a,l++[x]⟩ H hp
  obtain⟨y,hy⟩:∃y,y=cG ts lc ⟨a,l++[x]⟩:=⟨_,rfl⟩
  rw[<-hy]
  obtain⟨L,hL⟩:∃L,L=(l++[x]).map pD:=⟨_,rfl⟩
  have hLl:L.length=l.length+1:=by rw[hL];simp
  have hLt:L.take l.length=l.map pD:=by rw[hL,cQ,<-bC pD,List.take_left]
  have hLg:L[l.length]?=some (pD x):=by rw[hL,cQ];simp
  simp only[lN] at gV
  rw[<-hL] at gV
  refine aQ _ _ func140 rfl rfl ntmps140 results140 (by simp) fun w0 g0 Q aD=>?_
  simp only[lN]
  rw[<-hL]
  have hsm:l.length<=140737488351232:=by unfold dO at hp;simp only[bN,wB] at hp;omega
  obtain⟨m,hm⟩:∃m,m=lG ⟨a,l++[x]⟩:=⟨_,rfl⟩
  rw[<-hm] at gV
  refine tq trivial ?_;intro Nx aB Gx aF
  intro c5 lY
  refine aB _ ?_
  refine fZ 5 lY ?_
  refine tq trivial ?_;intro Nx aB Gx aF
  refine gV.mono ?_
  rintro d _ ⟨rfl,rfl⟩
  by_cases h1:m=0
  case neg=>
   have q1:(m=0)=False:=aI h1
   have e:y=(0,m):=hy.trans (by rw[hm] at h1 ⊢;exact aE h1)
   refine tq q1 ?_;intro Nx aB Gx aF;refine rt aD trivial ?_;exact⟨_,aG _,iC,_,aH iC,by rw[e]⟩
  have q1:(m=0)=True:=aK h1
  by_cases h2:(lc.length:Int)<=a
  ·have q2:(a≥(lc.length:Int))=True:=aK h2
   have e:y=(0,3):=hy.trans (by unfold cG;rw[aA (fun k=>k (hm.symm.trans h1))];exact aE h2)
   refine tq (eA q1 q2 hmc) ?_;intro Nx aB Gx aF;refine rt aD trivial ?_;exact⟨_,aG _,iC,_,aH iC,by rw[e]⟩
  have q2:(a≥(lc.length:Int))=False:=aI h2
  have AL:lG ⟨a,l++[x]⟩=0:=hm.symm.trans h1
  have hys:=hy.trans (aBZ (ts:=ts) AL (by omega))
  have iI:0<=a/\a<lc.length:=⟨(uX AL).1,by omega⟩
  have hxf:0<=x.2:=(QJ (uX AL).2.2 x (by simp)).2
  have q3:(((l.length+1:Nat):Int)=0)=False:=aI (by omega)
  have w3:IntKind.i64.wrap (((l.length+1:Nat):Int) - 1)=(l.length:Int):=by rw[bF (by omega)];omega
  have hx:(l.length:Int).toNat=l.length:=bI _
  have cJ:(0:Int)<=(l.length:Int):=bM _
  have hlL:l.length<=L.length:=by omega
  have l4:dO (⟨a,l⟩:pA).pr.length:=by unfold dO;show l.length<=_;omega
  have eP:∀H1,eF prog 140 [.seq 5 (ts.map cP),.seq 2 (lc.map mN),.agg [i64 a,.seq 2 (l.map pD)]] H1 fun d A=>A=aC.none/\d=.pG [i64 (cG ts lc ⟨a,l⟩).1,i64 (cG ts lc ⟨a,l⟩).2]:=fun H1=>cF fun gI gX=>ih ⟨a,l⟩ gI jY l4
  obtain⟨z,hz⟩:∃z,z=cG ts lc ⟨a,l⟩:=⟨_,rfl⟩
  have hzi:z.2=0->cE ts.length z.1:=fun h=>by rw[hz] at h ⊢;exact WE hw hl h
  rw[<-hz] at eP hys
  refine tq (jE q1 q2 hmc hLl q3) ?_;intro Nx aB Gx aF
  refine dE (fun _ _ d A=>A=.none/\d=.pG [i64 z.1,i64 z.2]) fun Nx aB=>?_;refine dst (kB w3 hx cJ hLt hLl hlL) ?_;intro Nx aB Gx aF
  refine⟨by omega,eP _,?_⟩
  refine dst trivial ?_;intro Nx aB Gx aF
  by_cases h5:z.2=0
  case neg=>
   have q5:(z.2=0)=False:=aI h5
   have e:y=(0,z.2):=hys.trans (aE h5)
   refine tq q5 ?_;intro Nx aB Gx aF;refine rt aD trivial ?_;exact⟨_,aG _,iC,_,aH iC,by rw[e]⟩
  have q5:(z.2=0)=True:=aK h5
  rw[aA (fun k=>k h5)] at hys
  have hzn:=hzi h5
  have rK:=mD hzn
  have FA:z.1.toNat<ts.length:=by unfold cE at hzn;omega
  have AM:0<=z.1:=by unfold cE at hzn;omega
  have HQ:lI ts z.1 x=if x.1=0/\(cZ ts z.1).k=3 then ((cZ ts z.1).e,0) else if x.1=1/\(cZ ts z.1).k=4 then (if x.2<(cZ ts z.1).ar.length then ((cZ ts z.1).ar.getD x.2.toNat 0,0) else (0,3)) else (0,22):=rfl
  rw[HQ] at hys
  obtain⟨t,ht⟩:∃t,t=cZ ts z.1:=⟨_,rfl⟩
  rw[<-ht] at rK hys
  have NF:t.ar.length<=1000000:=by rw[ht];exact ha _ (wV hzn)
  clear HQ ht eP hzi
  obtain⟨tk,tm,tr,te,ta⟩:=t
  obtain⟨k,f⟩:=x
  simp only[cP] at rK
  simp only[pD] at hLg
  simp only at NF hys hxf
  have tN:=lm iD ta
  have aY8:l.length<L.length:=by omega
  refine tq (jE q5 rK FA AM lJ) ?_;intro Nx aB Gx aF
  intro c11 aBs
  refine aB _ ?_
  refine fZ 11 aBs ?_
  refine tq (kB w3 hLg hx cJ hLl aY8) ?_;intro Nx aB Gx aF
  intro c12 aBt
  refine aB _ ?_
  refine fZ 12 aBt ?_
  rcases tfB (k=0) with⟨_,k0,⟨rfl,h0⟩|⟨rfl,h0⟩⟩
  ·have k1:(k=1)=False:=aI (by omega)
   rcases tfB (tk=3) with⟨_,q7,⟨rfl,h3⟩|⟨rfl,h3⟩⟩
   ·have e:y=(te,0):=hys.trans (aE ⟨h0,h3⟩)
    refine tq (dG k0 q7) ?_;intro Nx aB Gx aF;refine rt aD trivial ?_;exact⟨_,aG _,iC,_,aH iC,by rw[e]⟩
   ·have e:y=(0,22):=hys.trans (by rw[aA (fun h=>h3 h.2),aA (fun h=>by omega)])
    refine tq (eA k0 q7 k1) ?_;intro Nx aB Gx aF;refine rt aD trivial ?_;exact⟨_,aG _,iC,_,aH iC,by rw[e]⟩
  rcases tfB (k=1) with⟨_,k1,⟨rfl,h1⟩|⟨rfl,h1⟩⟩
  case inr=>
   have e:y=(0,22):=hys.trans (by rw[aA (fun h=>h0 h.1),aA (fun h=>h1 h.1)])
   refine tq (dG k0 k1) ?_;intro Nx aB Gx aF;refine rt aD trivial ?_;exact⟨_,aG _,iC,_,aH iC,by rw[e]⟩
  rcases tfB (tk=4) with⟨_,q8,⟨rfl,h4⟩|⟨rfl,h4⟩⟩
  case inr=>
   have e:y=(0,22):=hys.trans (by rw[aA (fun h=>h0 h.1),aA (fun h=>h4 h.2)])
   refine tq (eA k0 k1 q8) ?_;intro Nx aB Gx aF;refine rt aD trivial ?_;exact⟨_,aG _,iC,_,aH iC,by rw[e]⟩
  rw[aA (fun h=>h0 h.1),aE ⟨h1,h4⟩] at hys
  by_cases h6:f<(ta.length:Int)
  ·have q9:(f≥(ta.length:Int))=False:=aI (by omega)
   have mM:f.toNat<ta.length:=by omega
   have hgf:(ta.map iD)[f.toNat]?=some [i64 ta[f.toNat]]:=cO mM
   have e:y=(ta[f.toNat],0):=hys.trans (by rw[aE h6,oT,bX mM] <;> rfl)
   refine tq (wG k0 k1 q8 q9 hgf hxf mM tN) ?_;intro Nx aB Gx aF;refine rt aD trivial ?_;exact⟨_,aG _,iC,_,aH iC,by rw[e]⟩
  ·have q9:(f≥(ta.length:Int))=True:=aK (by omega)
   have e:y=(0,3):=hys.trans (aA h6)
   refine tq (jE k0 k1 q8 q9 tN) ?_;intro Nx aB Gx aF;refine rt aD trivial ?_;exact⟨_,aG _,iC,_,aH iC,by rw[e]⟩
theorem aES {ts:List dS} {m:List (Int×Int)}:∀{l:List (Int×Int)} {i:Int},(FQ ts i (l++m)).2=0->(FQ ts i l).2=0
 |[],i,_=>rfl
 |y::l,i,h=>by
  rw[gP] at h
  by_cases h1:(lI ts i y).2=0
  ·rw[KF h1] at h ⊢;exact aES h
  ·rw[WD h1] at h;exact absurd h h1
theorem V3 {ts:List dS} {x:Int×Int}:∀{l:List (Int×Int)} {i:Int},(FQ ts i l).2=0->CH ts i (l++[x])=CH ts i l++(if x.1=0 then [cZ ts (FQ ts i l).1] else [])
 |[],i,_=>by simp [CH,FQ]
 |y::l,i,h=>by
  have h1:(lI ts i y).2=0:=jO fun h1=>by rw[WD h1] at h;exact h1 h
  rw[KF h1] at h ⊢
  simp only[gP,CH]
  rw[V3 h,iR]
theorem aCn {ts:List dS} {lc:List AO} {p:pA} (h:(cG ts lc p).2=0) (i:Nat):cG ts lc ⟨p.lo,p.pr.take i⟩=FQ ts (x8 lc p.lo).ty (p.pr.take i)/\(FQ ts (x8 lc p.lo).ty (p.pr.take i)).2=0:=by
 obtain⟨h1,h2,h3⟩:=xJ h
 obtain⟨a,l⟩:=p
 have h4:lG ⟨a,l.take i++l.drop i⟩=0:=by rw[uQ];exact h1
 have h5:=aAL h4
 refine⟨?_,aES (m:=l.drop i) ?_⟩
 ·unfold cG
  simp only at h2 ⊢
  rw[aA (fun k=>k h5),aA (by omega)]
 ·rw[uQ,<-h3];exact h
theorem aDc (ts:List dS) (lc:List AO) (p:pA) (H:aC) (hw:zJ ts) (hl:wfL ts lc) (ha:arN ts) (hp:dO p.pr.length) (fI:(cG ts lc p).2=0):bE prog 170 [.seq 5 (ts.map cP),.seq 2 (lc.map mN),.agg (lN p)] H fun d H'=>d=.seq 5 ((sK ts lc p).map cP)/\H=H':=by
 refine bO (K:=fun d=>d=.seq 5 ((sK ts lc p).map cP)) ?_
 have hrp:sK ts lc p=CH ts (x8 lc p.lo).ty p.pr:=aA fun h=>h fI
 obtain⟨ty,pE⟩:∃ty,ty=(x8 lc p.lo).ty:=⟨_,rfl⟩
 rw[hrp,<-pE]
 have lP:=fun i=>aCn fI i
 rw[<-pE] at lP
 have aZH:cE ts.length ty:=by rw[pE];exact O5 hl (xJ fI).2.1
 have zB:=(uX (xJ fI).1).2.1
 have dX:=lm pD p.pr
 have lJ:=lm cP ts
 refine aQ _ _ func170 rfl rfl ntmps170 results170 (by simp) fun w0 g0 Q aD=>?_
 refine tq @lN.eq_1 ?_;intro Nx aB Gx aF
 intro c5 lY
 refine aB _ ?_
 refine fZ 5 lY ?_
 refine tq trivial ?_;intro Nx aB Gx aF
 refine aZ p.pr.length (fun i s=>s.df=[]/\s.fr 0=.seq 5 (ts.map cP)/\s.fr 1=.seq 2 (lc.map mN)/\s.fr 5=.rp [i64 p.lo,.seq 2 (p.pr.map pD)]/\s.fr 8=i64 i/\H.le s.H/\∃ob,Gl H 154 5 ((CH ts ty (p.pr.take i)).map cP) (s.fr 7) s.H ob) ⟨rfl,rfl,rfl,rfl,rfl,aG _,none,iW _ _ _ _⟩ ?_
 rintro i s hi ⟨aT,f0,f1,f5,f8,aS,ob,hg⟩
 have hx:=bI i
 have cJ:=bM i
 by_cases aV:i<p.pr.length
 case neg=>
  have q6:=lF i p.pr.length (by omega)
  rw[cW (by omega)] at hg
  refine tq (gQ f5 f8 q6 dX) ?_;intro Nx aB Gx aF
  refine rt aD aT ?_
  exact⟨_,aG _,aS,_,qL aS hg,rfl⟩
 have q6:=lT i p.pr.length (by omega)
 have w3:=wS i (by omega)
 have cD:=wK aV
 obtain⟨e1,e2⟩:=lP i
 have qT:CH ts ty (p.pr.take (i+1))=CH ts ty (p.pr.take i)++(if p.pr[i].1=0 then [cZ ts (FQ ts ty (p.pr.take i)).1] else []):=by
  rw[dH aV]
  exact V3 e2
 by_cases h0:p.pr[i].1=0
 case neg=>
  have q7:(p.pr[i].1=0)=False:=aI h0
  rw[aA h0,iJ] at qT
  rw[<-qT] at hg
  refine tq (nN f5 f8 q6 dX cD hx cJ aV q7 w3) ?_;intro Nx aB Gx aF
  exact⟨aV,aT,f0,f1,f5,rfl,aS,ob,hg⟩
 have q7:(p.pr[i].1=0)=True:=aK h0
 rw[aE h0] at qT
 have iI:cE ts.length (FQ ts ty (p.pr.take i)).1:=aCm hw _ _ aZH e2
 have hbt:dO (⟨p.lo,p.pr.take i⟩:pA).pr.length:=by unfold dO;show(p.pr.take i).length<=_;rw[dU];omega
 have eP:∀H1,eF prog 140 [.seq 5 (ts.map cP),.seq 2 (lc.map mN),.agg [i64 p.lo,.seq 2 ((p.pr.take i).map pD)]] H1 fun d A=>A=aC.none/\d=.pG [i64 (cG ts lc ⟨p.lo,p.pr.take i⟩).1,i64 (cG ts lc ⟨p.lo,p.pr.take i⟩).2]:=fun H1=>cF fun gI gX=>FB ts lc hw hl ha _ ⟨p.lo,p.pr.take i⟩ gI rfl hbt
 rw[e1,e2] at eP
 obtain⟨z,hz⟩:∃z,z=(FQ ts ty (p.pr.take i)).1:=⟨_,rfl⟩
 rw[<-hz] at eP iI qT
 have rK:=mD iI
 have FA:z.toNat<ts.length:=by unfold cE at iI;omega
 have AM:0<=z:=by unfold cE at iI;omega
 obtain⟨t,ht⟩:∃t,t=cZ ts z:=⟨_,rfl⟩
 rw[<-ht] at rK qT
 have hrl:=R9 ts (p.pr.take i) ty
 rw[dU] at hrl
 obtain⟨els,GI⟩:∃els,els=(CH ts ty (p.pr.take i)).map cP:=⟨_,rfl⟩
 have aOE:els.length<=33:=by rw[GI,bC];omega
 have aK9:(CH ts ty (p.pr.take (i+1))).map cP=els++[cP t]:=by rw[qT,cQ,GI];rfl
 rw[<-GI] at hg
 clear GI qT
 have kL:i<=p.pr.length:=by omega
 have hmk:List.take i (List.map pD p.pr)=(p.pr.take i).map pD:=by rw[qB]
 simp only[cP] at rK
 refine tq (BR f5 f8 q6 dX cD hx cJ aV q7) ?_;intro Nx aB Gx aF
 refine dE (fun _ _ d A=>A=.none/\d=.pG [i64 z,i64 0]) fun Nx aB=>?_;refine dst (BR f0 f1 f5 f8 hx cJ dX hmk kL) ?_;intro Nx aB Gx aF
 refine⟨by omega,eP _,?_⟩
 refine dst (gQ f0 f1 f5 f8) ?_;intro Nx aB Gx aF
 refine tq (jE f0 rK FA AM lJ) ?_;intro Nx aB Gx aF
 refine dD (e:=154) aIq rfl aIq rfl aIp rfl (by decide) aS hg (new:=[cP t]) (by exact⟨rfl,rfl⟩) (by show(_+1) * 56<=_;omega) fun d H6 oG j6 eM nJ=>?_
 rw[<-aK9] at j6
 refine tq (dG f8 w3) ?_;intro Nx aB Gx aF
 exact⟨aV,aT,f0,f1,f5,rfl,eM,oG,j6⟩
theorem aOf (ts:List dS) (lc:List AO) (p:pA) (H:aC) (hw:zJ ts) (hl:wfL ts lc) (ha:arN ts) (hp:dO p.pr.length):bE prog 141 [.seq 5 (ts.map cP),.seq 2 (lc.map mN),.agg (lN p)] H fun d H'=>d=.val (.bool (x9 ts lc p))/\H=H':=by
 refine bO (K:=fun d=>d=.val (.bool (x9 ts lc p))) ?_
 have aS:=aG H
 have pE:=FB ts lc hw hl ha _ p H rfl hp
 have hrl:=xH ts lc p
 have T0:=aDc ts lc p H hw hl ha hp
 simp only[lN] at pE T0
 refine aQ _ _ func141 rfl rfl ntmps141 results141 (by simp) fun w0 g0 Q aD=>?_
 refine tq @lN.eq_1 ?_;intro Nx aB Gx aF
 intro c5 lY
 refine aB _ ?_
 refine fZ 5 lY ?_
 refine tq trivial ?_;intro Nx aB Gx aF
 refine pE.mono ?_
 rintro d _ ⟨rfl,rfl⟩
 by_cases h0:(cG ts lc p).2=0
 case neg=>
  have q1:((cG ts lc p).2=0)=False:=aI h0
  have fG:x9 ts lc p=false:=by unfold x9;rw[bB h0,gC]
  refine tq q1 ?_;intro Nx aB Gx aF
  refine rt aD trivial ?_
  exact⟨_,aG _,aS,_,aH aS,by rw[fG]⟩
 have q1:((cG ts lc p).2=0)=True:=aK h0
 have T0:=T0 h0
 have fG:x9 ts lc p=(sK ts lc p).all (·.m):=by unfold x9;rw[bG h0,eI]
 obtain⟨l,hL⟩:∃l,l=sK ts lc p:=⟨_,rfl⟩
 rw[<-hL] at hrl T0 fG
 have dX:=lm cP l
 refine tq q1 ?_;intro Nx aB Gx aF
 refine T0.mono ?_
 rintro d _ ⟨rfl,rfl⟩
 refine tq trivial ?_;intro Nx aB Gx aF
 refine aZ l.length (fun i s=>s.df=[]/\s.fr 9=.seq 5 (l.map cP)/\s.fr 10=i64 i/\s.H=H/\l.all (·.m)=(l.drop i).all (·.m)) ⟨rfl,rfl,rfl,rfl,rfl⟩ ?_
 rintro i s hi ⟨aT,f9,f10,hH,rJ⟩
 have hx:=bI i
 have cJ:=bM i
 have aY:H.le s.H:=by rw[hH];exact aG _
 by_cases aV:i<l.length
 case neg=>
  have q6:=lF i l.length (by omega)
  rw[eT (by omega)] at rJ
  refine tq (gQ f9 f10 q6 dX) ?_;intro Nx aB Gx aF
  refine rt aD aT ?_
  exact⟨_,aG _,aY,_,aH aY,by rw[fG,rJ] <;> rfl⟩
 have q6:=lT i l.length (by omega)
 have w3:=wS i (by omega)
 have cD:(l.map cP)[i]?=some (cP l[i]):=by rw[dN,bX aV];rfl
 rw[eH aV,pX] at rJ
 obtain⟨u,hu⟩:∃u,u=l[i]:=⟨_,rfl⟩
 rw[<-hu] at cD rJ
 clear hu
 obtain⟨uk,um,ur,ue,ua⟩:=u
 simp only[cP] at cD
 simp only at rJ
 cases um
 ·rw[gC] at rJ
  refine tq (wG f9 f10 q6 dX cD hx cJ aV) ?_;intro Nx aB Gx aF
  refine rt aD aT ?_
  exact⟨_,aG _,aY,_,aH aY,by rw[fG,rJ]⟩
 ·rw[eI] at rJ
  refine tq (BR f9 f10 q6 dX cD hx cJ aV w3) ?_;intro Nx aB Gx aF
  exact⟨aV,aT,f9,rfl,hH,rJ⟩
theorem aKu (ts:List dS) (lc:List AO) (p:pA) (H:aC) (hw:zJ ts) (hl:wfL ts lc) (ha:arN ts) (hp:dO p.pr.length):bE prog 171 [.seq 5 (ts.map cP),.seq 2 (lc.map mN),.agg (lN p)] H fun d H'=>d=.seq 1 ((ME ts lc p).map iD)/\H=H':=by
 refine bO (K:=fun d=>d=.seq 1 ((ME ts lc p).map iD)) ?_
 have aS:=aG H
 have pE:=FB ts lc hw hl ha _ p H rfl hp
 have hrl:=xH ts lc p
 have T0:=aDc ts lc p H hw hl ha hp
 have hrg:ME ts lc p=(sK ts lc p).map (·.r):=rfl
 rw[hrg]
 simp only[lN] at pE T0
 refine aQ _ _ func171 rfl rfl ntmps171 results171 (by simp) fun w0 g0 Q aD=>?_
 refine tq @lN.eq_1 ?_;intro Nx aB Gx aF
 intro c5 lY
 refine aB _ ?_
 refine fZ 5 lY ?_
 refine tq trivial ?_;intro Nx aB Gx aF
 refine pE.mono ?_
 rintro d _ ⟨rfl,rfl⟩
 by_cases h0:(cG ts lc p).2=0
 case neg=>
  have q1:((cG ts lc p).2=0)=False:=aI h0
  have fG:sK ts lc p=[]:=aE h0
  refine tq q1 ?_;intro Nx aB Gx aF
  refine rt aD trivial ?_
  exact⟨_,aG _,aS,_,qA,by rw[fG] <;> rfl⟩
 have q1:((cG ts lc p).2=0)=True:=aK h0
 have T0:=T0 h0
 obtain⟨l,hL⟩:∃l,l=sK ts lc p:=⟨_,rfl⟩
 rw[<-hL] at hrl T0 aD
 have dX:=lm cP l
 refine tq q1 ?_;intro Nx aB Gx aF
 refine T0.mono ?_
 rintro d _ ⟨rfl,rfl⟩
 refine tq trivial ?_;intro Nx aB Gx aF
 refine aZ l.length (fun i s=>s.df=[]/\s.fr 10=.seq 5 (l.map cP)/\s.fr 11=i64 i/\H.le s.H/\∃ob,Gl H 3 1 (((l.take i).map (·.r)).map iD) (s.fr 7) s.H ob) ⟨rfl,rfl,rfl,aG _,none,iW _ _ _ _⟩ ?_
 rintro i s hi ⟨aT,f10,f11,aS,ob,hg⟩
 have hx:=bI i
 have cJ:=bM i
 by_cases aV:i<l.length
 case neg=>
  have q6:=lF i l.length (by omega)
  rw[cW (by omega)] at hg
  refine tq (gQ f10 f11 q6 dX) ?_;intro Nx aB Gx aF
  refine rt aD aT ?_
  exact⟨_,aG _,aS,_,qL aS hg,rfl⟩
 have q6:=lT i l.length (by omega)
 have w3:=wS i (by omega)
 have cD:(l.map cP)[i]?=some (cP l[i]):=by rw[dN,bX aV];rfl
 have qT:((l.take (i+1)).map (·.r)).map iD=((l.take i).map (·.r)).map iD++[iD l[i].r]:=by rw[dH aV];simp only[cQ,eU,nE]
 obtain⟨u,hu⟩:∃u,u=l[i]:=⟨_,rfl⟩
 rw[<-hu] at cD qT
 simp only[cP] at cD
 refine tq (wG f10 f11 dX q6 cD hx cJ aV) ?_;intro Nx aB Gx aF
 refine dD (e:=3) kZ rfl kZ rfl PF rfl (by decide) aS hg (new:=[iD u.r]) (by exact⟨rfl,rfl⟩) (by rw[bC,bC,dU];show(_+1) * 8<=_;omega) fun d H6 oG j6 eM nJ=>?_
 rw[<-qT] at j6
 refine tq (dG f11 w3) ?_;intro Nx aB Gx aF
 exact⟨aV,aT,f10,rfl,eM,oG,j6⟩
theorem aAn (p:pA) (H:aC) (hp:dO p.pr.length):bE prog 99 [.agg (lN p),i64 0] H fun d H'=>d=.val (.bool (y9 p 0))/\H=H':=by
 refine bO (K:=fun d=>d=.val (.bool (y9 p 0))) ?_
 have fG:y9 p 0=p.pr.any fun x=>decide (x.1=0):=rfl
 have dX:=lm pD p.pr
 have aS:=aG H
 unfold dO at hp
 refine aQ _ _ func99 rfl rfl ntmps99 results99 (by simp) fun w0 g0 Q aD=>?_
 refine tq @lN.eq_1 ?_;intro Nx aB Gx aF
 intro c2 lH
 refine aB _ ?_
 refine fZ 2 lH ?_
 refine tq trivial ?_;intro Nx aB Gx aF
 refine aZ p.pr.length (fun i s=>s.df=[]/\s.fr 1=i64 0/\s.fr 2=.rp [i64 p.lo,.seq 2 (p.pr.map pD)]/\s.fr 5=i64 i/\s.H=H/\(p.pr.any fun x=>decide (x.1=0))=((p.pr.drop i).any fun x=>decide (x.1=0))) ⟨rfl,rfl,rfl,rfl,rfl,rfl⟩ ?_
 rintro i s hi ⟨aT,f1,f2,f5,hH,rJ⟩
 have hx:=bI i
 have cJ:=bM i
 have aY:H.le s.H:=by rw[hH];exact aG _
 by_cases aV:i<p.pr.length
 case neg=>
  have q6:=lF i p.pr.length (by omega)
  rw[eT (by omega)] at rJ
  refine tq (gQ f2 f5 q6 dX) ?_;intro Nx aB Gx aF
  refine rt aD aT ?_
  exact⟨_,aG _,aY,_,aH aY,by rw[fG,rJ] <;> rfl⟩
 have q6:=lT i p.pr.length (by omega)
 have q7:((i:Int)≥0)=True:=aK (by omega)
 have w3:=wS i (by omega)
 have cD:=wK aV
 rw[eH aV,List.any_cons] at rJ
 by_cases h0:p.pr[i].1=0
 ·have q8:(p.pr[i].1=0)=True:=aK h0
  rw[bG h0,Bool.true_or] at rJ
  refine tq (rQ f1 f2 f5 q6 q7 q8 dX cD hx cJ aV) ?_;intro Nx aB Gx aF
  refine rt aD aT ?_
  exact⟨_,aG _,aY,_,aH aY,by rw[fG,rJ]⟩
 ·have q8:(p.pr[i].1=0)=False:=aI h0
  rw[bB h0,C3] at rJ
  refine tq (zY f1 f2 f5 q6 q7 q8 dX cD hx cJ aV w3) ?_;intro Nx aB Gx aF
  exact⟨aV,aT,f1,f2,rfl,hH,rJ⟩
end Go.Proofs.YtfiipaodjpiooaaGreatDoor

