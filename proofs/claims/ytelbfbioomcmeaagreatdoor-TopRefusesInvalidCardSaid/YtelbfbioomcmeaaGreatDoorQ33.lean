/- Lemmas and contracts of functions, several texts in one. -/
import Derived.Test.YtelbfbioomcmeaaGreatDoorQ32
set_option maxRecDepth 100000
set_option maxHeartbeats 4000000
set_option linter.all false
namespace Go.Proofs.YtelbfbioomcmeaaGreatDoor
open Go.RowKit
open Tryz
def T1 (b:iF) (k:Int) (tg:List Int) (ar:List tE) (pl:pO) (nm:ByteArray) (H:aA) (s:St):Prop:=s.df=[]/\s.fr 2=.rp [bX b.nm,.seq 1 (b.rg.map sD),.seq 2 (b.ol.map pD),.seq 5 (b.ty.map cE),.seq 2 (b.lc.map lI),i64 b.ag,.seq 7 (b.bl.map rE)]/\s.fr 3=.rp [i64 k,.seq 1 (tg.map iD),.seq 4 (ar.map jL),i64 pl.lo,.seq 2 (pl.pr.map pD),bX nm]/\s.fr 6=.val (.bool (decide (k=3)))/\s.H=H
noncomputable def tmR (b:iF) (k:Int) (tg:List Int) (ar:List tE) (pl:pO) (nm:ByteArray) (o:tE):Int:=
 if (tg.all fun x=>decide (dG b.bl.length x))=false then 3
 else if k=1 then (if qS b o≠0 then qS b o else if B6 b o≠1 then 22 else 0)
 else if k=3 then (if qO nm=false then 12 else if 65535<ar.length then 15 else if fX b ar []≠0 then fX b ar [] else DC b pl)
 else if k=4 then (if (qI b pl).2≠0 then (qI b pl).2 else if tL pl 0=true then 22 else 0)
 else 0
theorem aDg {t:PM} (h:xU t=true) (h1:t.k≠1) (h3:t.k≠3):t.ar.length=0:=by
 unfold xU at h
 by_cases h0:t.k=0
 ·rw[aH h0] at h
  simp only[eF,jU] at h
  exact h.1.1.2
 rw[aD h0,aD h1,aD h3] at h
 by_cases h4:t.k=4
 ·rw[aH h4] at h
  simp only[eF,jU] at h
  exact h.1.2
 ·rw[aD h4] at h
  simp only[eF,jU] at h
  exact h.1.1.2
theorem aER (b:iF) (t:PM) (H:aA) (ck:Ck b) (hp:ZX t) (FH:fC t.nm.size):aT prog 57 [.agg (iG b),.agg (SI t)] H fun d H'=>d=i64 (tmE b t)/\H=H':=by
 refine bM (K:=fun d=>d=i64 (tmE b t)) ?_
 have aR:=aE H
 have tA:∀o∈t.ar,∀H1,dY prog 128 [.agg (iG b),.agg (jL o)] H1 fun d A=>A=aA.none/\d=i64 (qS b o):=fun o ho H1=>bN fun eL eO=>IV b o eL ck (hp.2.1.2 o ho)
 have EB:∀o∈t.ar,qS b o=0->∀H1,dY prog 129 [.agg (iG b),.agg (jL o),i64 1] H1 fun d A=>A=aA.none/\d=.val (.bool (decide (B6 b o=1))):=fun o ho hz H1=>bN fun eL eO=>IT b o 1 eL ck (hp.2.1.2 o ho) hz
 have FI:∀H1,dY prog 126 [.agg (kT t.pl)] H1 fun d A=>A=aA.none/\d=.val (.bool (eV t.pl)):=fun H1=>bN fun eL eO=>CY t.pl eL hp.2.2
 have hid:=GZ t.nm H FH
 have lG:=EI b t.pl H ck hp.2.2
 have wR:=N7 b t.pl H ck hp.2.2
 have KE:=RC t.pl H hp.2.2
 have iX:=lm iD t.tg
 have sK:=lm jL t.ar
 have CT:=lm rE b.bl
 have sM:=hp.1
 have sH:=hp.2.1.1
 have nX:=ck.bll
 unfold fC at sM sH nX
 have hf1:xU t=true->t.k=1->t.ar.length=1:=aBO
 have hf0:xU t=true->t.k≠1->t.k≠3->t.ar.length=0:=aDg
 obtain⟨y,hy⟩:∃y,y=tmE b t:=⟨_,rfl⟩
 rw[<-hy]
 have lU:y=if t.k<0\/5<t.k then 14 else if xU t=false then 2 else tmR b t.k t.tg t.ar t.pl t.nm (LU t):=hy
 clear hy
 have ho0:t.ar.length=1->[LU t]=t.ar:=fun h=>by
  obtain⟨o,ho⟩:=O4.1 h
  unfold LU;rw[ho];rfl
 obtain⟨O,hO⟩:∃O,O=LU t:=⟨_,rfl⟩
 rw[<-hO] at lU ho0
 clear hO
 rw[lK] at tA EB lG wR ⊢
 have kQ:=VZ t
 unfold F1 at kQ
 obtain⟨F,hF⟩:∃F,F=xU t:=⟨_,rfl⟩
 rw[<-hF] at kQ lU hf1 hf0
 clear hF hp
 obtain⟨Z,hZ⟩:∃Z,Z=eV t.pl:=⟨_,rfl⟩
 rw[<-hZ] at FI kQ
 clear hZ
 obtain⟨k,tg,ar,pl,nm⟩:=t
 simp only at lU iX sK sM sH hf1 hf0 tA EB ho0 kQ hid
 simp only[kT] at lG wR KE FI
 simp only[jL] at tA EB
 simp only[SI]
 obtain⟨R,hR⟩:∃R,R=tmR b k tg ar pl nm O:=⟨_,rfl⟩
 rw[<-hR] at lU
 refine aN _ _ func57 rfl rfl ntmps57 results57 (by simp) fun w0 g0 Q aC=>?_
 refine tq trivial ?_;intro Nx aB Gx aG
 intro c2 pZ c3 mH
 refine aB _ ?_
 obtain⟨mJ,s5⟩:=bT.1 mH;refine bS 2 rfl ((aP mJ.symm).trans (aQ _ _ _)) rfl ?_;refine bS 3 rfl ((bP mJ).trans (aQ _ _ _)) rfl ?_;refine eZ _ (iL pZ s5) ?_;simp only[St.gU,List.drop]
 by_cases h1:k<0
 ·have q1:(k<0)=True:=aK h1
  have e:y=14:=lU.trans (aH (.inl h1))
  exact oz aC q1 aR e
 have q1:(k<0)=False:=aI h1
 by_cases h2:5<k
 ·have q2:(5<k)=True:=aK h2
  have e:y=14:=lU.trans (aH (.inr h2))
  exact oz aC (cZ q1 q2) aR e
 have q2:(5<k)=False:=aI h2
 rw[aD (by omega)] at lU
 refine tq (cZ q1 q2) ?_;intro Nx aB Gx aG
 intro c5 pT
 refine aB _ ?_
 refine fW 5 pT ?_
 (have fs:=trivial;(iterate 3 (first|refine aG _ ?_|refine aB _ ?_|refine cX ?_|refine cW ?_|refine eH ?_|refine cF ?_|refine cG ?_|refine cC ?_|refine bO ?_|((first|refine tS fun Nx aB=>?_|refine mE rfl rfl (by kernel_rfl) (by kernel_rfl) fun Gx aG=>?_|refine cD (by kernel_rfl) ?_|refine lJ fun A B vJ vK=>?_);refine yR ?_;(first|refine aG _ ?_|refine aB _ ?_|refine vJ ?_|refine vK ?_|skip))));(try clear fs))
 refine AS (fun s=>T1 b k tg ar pl nm H s/\F=true) ?_ ?_
 ·have hk:k=0\/k=1\/k=2\/k=3\/k=4\/k=5:=by omega
  rcases hk with hk|hk|hk|hk|hk|hk
  ·
   by_cases ht:(tg.length:Int)=1
   case neg=>
    have q3:((tg.length:Int)=1)=False:=aI ht
    have vL:F=false:=by rw[kQ,aH hk,bC ht];try rfl
    have e:y=2:=by rw[lU,vL,aH rfl]
    refine bO ?_
    refine dE (fun _ _ _ _=>False) fun Nx aB=>?_;refine dst (dZ hk iX q3) ?_;intro Nx aB Gx aG
    refine tq trivial ?_;intro Nx aB Gx aG
    refine⟨by simp,?_⟩
    refine rt aC trivial ?_;exact⟨_,aE _,aR,_,aJ aR,by rw[e]⟩
   have q3:((tg.length:Int)=1)=True:=aK ht
   rw[aH hk,bF ht] at kQ
   by_cases hn:nm=ByteArray.empty
   case neg=>
    have qn:(nm.toList=(ByteArray.mk #[]).toList)=False:=aI (fun h=>hn (fG.1 h))
    have vL:F=false:=by rw[kQ,bC hn,kH]
    have e:y=2:=by rw[lU,vL,aH rfl]
    refine bO ?_
    refine dE (fun _ _ _ _=>False) fun Nx aB=>?_;refine dst (gE hk iX q3 @bX.eq_1 qn) ?_;intro Nx aB Gx aG
    refine tq trivial ?_;intro Nx aB Gx aG
    refine⟨by simp,?_⟩
    refine rt aC trivial ?_;exact⟨_,aE _,aR,_,aJ aR,by rw[e]⟩
   have qn:(nm.toList=(ByteArray.mk #[]).toList)=True:=aK (fG.2 hn)
   rw[bF hn,nW] at kQ
   cases Z
   case false=>
    have vL:F=false:=by rw[kQ,kH]
    have e:y=2:=by rw[lU,vL,aH rfl]
    refine bO ?_
    refine dE (fun _ _ d A=>A=.none/\d=.val (.bool false)) fun Nx aB=>?_;refine dst (jA hk iX q3 @bX.eq_1 qn sK) ?_;intro Nx aB Gx aG
    refine⟨FI _,?_⟩
    (first|refine aG _ ?_|skip)
    (first|refine dst (jA hk iX q3 @bX.eq_1 qn sK) ?_;intro Nx aB Gx aG|skip)
    refine tq trivial ?_;intro Nx aB Gx aG
    refine⟨by simp,?_⟩
    refine rt aC trivial ?_;exact⟨_,aE _,aR,_,aJ aR,by rw[e]⟩
   rw[nW] at kQ
   by_cases ha:(ar.length:Int)=0
   case neg=>
    have qa:((0:Int)<(ar.length:Int))=True:=aK (by omega)
    have vL:F=false:=by rw[kQ,bC ha];rfl
    have e:y=2:=by rw[lU,vL,aH rfl]
    refine bO ?_
    refine dE (fun _ _ d A=>A=.none/\d=.val (.bool true)) fun Nx aB=>?_;refine dst (lM hk iX q3 @bX.eq_1 qn sK qa) ?_;intro Nx aB Gx aG
    refine⟨FI _,?_⟩
    (first|refine aG _ ?_|skip)
    (first|refine dst (lM hk iX q3 @bX.eq_1 qn sK qa) ?_;intro Nx aB Gx aG|skip)
    refine tq trivial ?_;intro Nx aB Gx aG
    refine⟨by simp,?_⟩
    refine rt aC trivial ?_;exact⟨_,aE _,aR,_,aJ aR,by rw[e]⟩
   have qa:((0:Int)<(ar.length:Int))=False:=aI (by omega)
   refine bO ?_
   refine dE (fun _ _ d A=>A=.none/\d=.val (.bool true)) fun Nx aB=>?_;refine dst (lM hk iX q3 @bX.eq_1 qn sK qa) ?_;intro Nx aB Gx aG
   refine⟨FI _,?_⟩
   (first|refine aG _ ?_|skip)
   (first|refine dst (lM hk iX q3 @bX.eq_1 qn sK qa) ?_;intro Nx aB Gx aG|skip)
   refine tq trivial ?_;intro Nx aB Gx aG
   exact⟨⟨rfl,rfl,by subst hk;rfl,by subst hk;rfl,rfl⟩,by rw[kQ,bF ha];try rfl⟩
  ·
   by_cases ht:(tg.length:Int)=2
   case neg=>
    have q3:((tg.length:Int)=2)=False:=aI ht
    have vL:F=false:=by rw[kQ,aD (by omega),aH hk,bC ht];try rfl
    have e:y=2:=by rw[lU,vL,aH rfl]
    refine bO ?_
    refine dE (fun _ _ _ _=>False) fun Nx aB=>?_;refine dst (dZ hk iX q3) ?_;intro Nx aB Gx aG
    refine tq trivial ?_;intro Nx aB Gx aG
    refine⟨by simp,?_⟩
    refine rt aC trivial ?_;exact⟨_,aE _,aR,_,aJ aR,by rw[e]⟩
   have q3:((tg.length:Int)=2)=True:=aK ht
   rw[aD (by omega),aH hk,bF ht] at kQ
   by_cases hn:nm=ByteArray.empty
   case neg=>
    have qn:(nm.toList=(ByteArray.mk #[]).toList)=False:=aI (fun h=>hn (fG.1 h))
    have vL:F=false:=by rw[kQ,bC hn,kH]
    have e:y=2:=by rw[lU,vL,aH rfl]
    refine bO ?_
    refine dE (fun _ _ _ _=>False) fun Nx aB=>?_;refine dst (gE hk iX q3 @bX.eq_1 qn) ?_;intro Nx aB Gx aG
    refine tq trivial ?_;intro Nx aB Gx aG
    refine⟨by simp,?_⟩
    refine rt aC trivial ?_;exact⟨_,aE _,aR,_,aJ aR,by rw[e]⟩
   have qn:(nm.toList=(ByteArray.mk #[]).toList)=True:=aK (fG.2 hn)
   rw[bF hn,nW] at kQ
   cases Z
   case false=>
    have vL:F=false:=by rw[kQ,kH]
    have e:y=2:=by rw[lU,vL,aH rfl]
    refine bO ?_
    refine dE (fun _ _ d A=>A=.none/\d=.val (.bool false)) fun Nx aB=>?_;refine dst (jA hk iX q3 @bX.eq_1 qn sK) ?_;intro Nx aB Gx aG
    refine⟨FI _,?_⟩
    (first|refine aG _ ?_|skip)
    (first|refine dst (jA hk iX q3 @bX.eq_1 qn sK) ?_;intro Nx aB Gx aG|skip)
    refine tq trivial ?_;intro Nx aB Gx aG
    refine⟨by simp,?_⟩
    refine rt aC trivial ?_;exact⟨_,aE _,aR,_,aJ aR,by rw[e]⟩
   rw[nW] at kQ
   by_cases ha:(ar.length:Int)=1
   case neg=>
    have qa:((ar.length:Int)=1)=False:=aI (by omega)
    have vL:F=false:=by rw[kQ,bC ha];rfl
    have e:y=2:=by rw[lU,vL,aH rfl]
    refine bO ?_
    refine dE (fun _ _ d A=>A=.none/\d=.val (.bool true)) fun Nx aB=>?_;refine dst (lM hk iX q3 @bX.eq_1 qn sK qa) ?_;intro Nx aB Gx aG
    refine⟨FI _,?_⟩
    (first|refine aG _ ?_|skip)
    (first|refine dst (lM hk iX q3 @bX.eq_1 qn sK qa) ?_;intro Nx aB Gx aG|skip)
    refine tq trivial ?_;intro Nx aB Gx aG
    refine⟨by simp,?_⟩
    refine rt aC trivial ?_;exact⟨_,aE _,aR,_,aJ aR,by rw[e]⟩
   have qa:((ar.length:Int)=1)=True:=aK (by omega)
   refine bO ?_
   refine dE (fun _ _ d A=>A=.none/\d=.val (.bool true)) fun Nx aB=>?_;refine dst (lM hk iX q3 @bX.eq_1 qn sK qa) ?_;intro Nx aB Gx aG
   refine⟨FI _,?_⟩
   (first|refine aG _ ?_|skip)
   (first|refine dst (lM hk iX q3 @bX.eq_1 qn sK qa) ?_;intro Nx aB Gx aG|skip)
   refine tq trivial ?_;intro Nx aB Gx aG
   exact⟨⟨rfl,rfl,by subst hk;rfl,by subst hk;rfl,rfl⟩,by rw[kQ,bF ha];try rfl⟩
  ·
   by_cases ht:(tg.length:Int)=0
   case neg=>
    have q3:((tg.length:Int)=0)=False:=aI ht
    have vL:F=false:=by rw[kQ,aD (by omega),aD (by omega),aD (by omega),aD (by omega),bC ht];try rfl
    have e:y=2:=by rw[lU,vL,aH rfl]
    refine bO ?_
    refine dE (fun _ _ _ _=>False) fun Nx aB=>?_;refine dst (dZ hk iX q3) ?_;intro Nx aB Gx aG
    refine tq trivial ?_;intro Nx aB Gx aG
    refine⟨by simp,?_⟩
    refine rt aC trivial ?_;exact⟨_,aE _,aR,_,aJ aR,by rw[e]⟩
   have q3:((tg.length:Int)=0)=True:=aK ht
   rw[aD (by omega),aD (by omega),aD (by omega),aD (by omega),bF ht] at kQ
   by_cases hn:nm=ByteArray.empty
   case neg=>
    have qn:(nm.toList=(ByteArray.mk #[]).toList)=False:=aI (fun h=>hn (fG.1 h))
    have vL:F=false:=by rw[kQ,bC hn,kH]
    have e:y=2:=by rw[lU,vL,aH rfl]
    refine bO ?_
    refine dE (fun _ _ _ _=>False) fun Nx aB=>?_;refine dst (gE hk iX q3 @bX.eq_1 qn) ?_;intro Nx aB Gx aG
    refine tq trivial ?_;intro Nx aB Gx aG
    refine⟨by simp,?_⟩
    refine rt aC trivial ?_;exact⟨_,aE _,aR,_,aJ aR,by rw[e]⟩
   have qn:(nm.toList=(ByteArray.mk #[]).toList)=True:=aK (fG.2 hn)
   rw[bF hn,nW] at kQ
   cases Z
   case false=>
    have vL:F=false:=by rw[kQ,kH]
    have e:y=2:=by rw[lU,vL,aH rfl]
    refine bO ?_
    refine dE (fun _ _ d A=>A=.none/\d=.val (.bool false)) fun Nx aB=>?_;refine dst (jA hk iX q3 @bX.eq_1 qn sK) ?_;intro Nx aB Gx aG
    refine⟨FI _,?_⟩
    (first|refine aG _ ?_|skip)
    (first|refine dst (jA hk iX q3 @bX.eq_1 qn sK) ?_;intro Nx aB Gx aG|skip)
    refine tq trivial ?_;intro Nx aB Gx aG
    refine⟨by simp,?_⟩
    refine rt aC trivial ?_;exact⟨_,aE _,aR,_,aJ aR,by rw[e]⟩
   rw[nW] at kQ
   by_cases ha:(ar.length:Int)=0
   case neg=>
    have qa:((0:Int)<(ar.length:Int))=True:=aK (by omega)
    have vL:F=false:=by rw[kQ,bC ha];rfl
    have e:y=2:=by rw[lU,vL,aH rfl]
    refine bO ?_
    refine dE (fun _ _ d A=>A=.none/\d=.val (.bool true)) fun Nx aB=>?_;refine dst (lM hk iX q3 @bX.eq_1 qn sK qa) ?_;intro Nx aB Gx aG
    refine⟨FI _,?_⟩
    (first|refine aG _ ?_|skip)
    (first|refine dst (lM hk iX q3 @bX.eq_1 qn sK qa) ?_;intro Nx aB Gx aG|skip)
    refine tq trivial ?_;intro Nx aB Gx aG
    refine⟨by simp,?_⟩
    refine rt aC trivial ?_;exact⟨_,aE _,aR,_,aJ aR,by rw[e]⟩
   have qa:((0:Int)<(ar.length:Int))=False:=aI (by omega)
   refine bO ?_
   refine dE (fun _ _ d A=>A=.none/\d=.val (.bool true)) fun Nx aB=>?_;refine dst (lM hk iX q3 @bX.eq_1 qn sK qa) ?_;intro Nx aB Gx aG
   refine⟨FI _,?_⟩
   (first|refine aG _ ?_|skip)
   (first|refine dst (lM hk iX q3 @bX.eq_1 qn sK qa) ?_;intro Nx aB Gx aG|skip)
   refine tq trivial ?_;intro Nx aB Gx aG
   exact⟨⟨rfl,rfl,by subst hk;rfl,by subst hk;rfl,rfl⟩,by rw[kQ,bF ha];try rfl⟩
  ·
   by_cases ht:(tg.length:Int)=1
   case neg=>
    have q3:((tg.length:Int)=1)=False:=aI ht
    have vL:F=false:=by rw[kQ,aD (by omega),aD (by omega),aH hk,bC ht];try rfl
    have e:y=2:=by rw[lU,vL,aH rfl]
    refine bO ?_
    refine dE (fun _ _ _ _=>False) fun Nx aB=>?_;refine dst (dZ hk iX q3) ?_;intro Nx aB Gx aG
    refine tq trivial ?_;intro Nx aB Gx aG
    refine⟨by simp,?_⟩
    refine rt aC trivial ?_;exact⟨_,aE _,aR,_,aJ aR,by rw[e]⟩
   have q3:((tg.length:Int)=1)=True:=aK ht
   rw[aD (by omega),aD (by omega),aH hk,bF ht] at kQ
   refine bO ?_
   refine dE (fun _ _ _ _=>False) fun Nx aB=>?_;refine dst (dZ hk iX q3) ?_;intro Nx aB Gx aG
   refine tq trivial ?_;intro Nx aB Gx aG
   exact⟨⟨rfl,rfl,by subst hk;rfl,by subst hk;rfl,rfl⟩,kQ⟩
  ·
   by_cases ht:(tg.length:Int)=1
   case neg=>
    have q3:((tg.length:Int)=1)=False:=aI ht
    have vL:F=false:=by rw[kQ,aD (by omega),aD (by omega),aD (by omega),aH hk,bC ht];try rfl
    have e:y=2:=by rw[lU,vL,aH rfl]
    refine bO ?_
    refine dE (fun _ _ _ _=>False) fun Nx aB=>?_;refine dst (dZ hk iX q3) ?_;intro Nx aB Gx aG
    refine tq trivial ?_;intro Nx aB Gx aG
    refine⟨by simp,?_⟩
    refine rt aC trivial ?_;exact⟨_,aE _,aR,_,aJ aR,by rw[e]⟩
   have q3:((tg.length:Int)=1)=True:=aK ht
   rw[aD (by omega),aD (by omega),aD (by omega),aH hk,bF ht] at kQ
   by_cases hn:nm=ByteArray.empty
   case neg=>
    have qn:(nm.toList=(ByteArray.mk #[]).toList)=False:=aI (fun h=>hn (fG.1 h))
    have vL:F=false:=by rw[kQ,bC hn,kH]
    have e:y=2:=by rw[lU,vL,aH rfl]
    refine bO ?_
    refine dE (fun _ _ _ _=>False) fun Nx aB=>?_;refine dst (gE hk iX q3 @bX.eq_1 qn) ?_;intro Nx aB Gx aG
    refine tq trivial ?_;intro Nx aB Gx aG
    refine⟨by simp,?_⟩
    refine rt aC trivial ?_;exact⟨_,aE _,aR,_,aJ aR,by rw[e]⟩
   have qn:(nm.toList=(ByteArray.mk #[]).toList)=True:=aK (fG.2 hn)
   rw[bF hn,nW] at kQ
   by_cases ha:(ar.length:Int)=0
   case neg=>
    have qa:((0:Int)<(ar.length:Int))=True:=aK (by omega)
    have vL:F=false:=by rw[kQ,bC ha];rfl
    have e:y=2:=by rw[lU,vL,aH rfl]
    refine bO ?_
    refine dE (fun _ _ _ _=>False) fun Nx aB=>?_;refine dst (lM hk iX q3 @bX.eq_1 qn sK qa) ?_;intro Nx aB Gx aG
    refine tq trivial ?_;intro Nx aB Gx aG
    refine⟨by simp,?_⟩
    refine rt aC trivial ?_;exact⟨_,aE _,aR,_,aJ aR,by rw[e]⟩
   have qa:((0:Int)<(ar.length:Int))=False:=aI (by omega)
   refine bO ?_
   refine dE (fun _ _ _ _=>False) fun Nx aB=>?_;refine dst (lM hk iX q3 @bX.eq_1 qn sK qa) ?_;intro Nx aB Gx aG
   refine tq trivial ?_;intro Nx aB Gx aG
   exact⟨⟨rfl,rfl,by subst hk;rfl,by subst hk;rfl,rfl⟩,by rw[kQ,bF ha];try rfl⟩
  ·
   by_cases ht:(tg.length:Int)=0
   case neg=>
    have q3:((tg.length:Int)=0)=False:=aI ht
    have vL:F=false:=by rw[kQ,aD (by omega),aD (by omega),aD (by omega),aD (by omega),bC ht];try rfl
    have e:y=2:=by rw[lU,vL,aH rfl]
    refine bO ?_
    refine dE (fun _ _ _ _=>False) fun Nx aB=>?_;refine dst (dZ hk iX q3) ?_;intro Nx aB Gx aG
    refine tq trivial ?_;intro Nx aB Gx aG
    refine⟨by simp,?_⟩
    refine rt aC trivial ?_;exact⟨_,aE _,aR,_,aJ aR,by rw[e]⟩
   have q3:((tg.length:Int)=0)=True:=aK ht
   rw[aD (by omega),aD (by omega),aD (by omega),aD (by omega),bF ht] at kQ
   by_cases hn:nm=ByteArray.empty
   case neg=>
    have qn:(nm.toList=(ByteArray.mk #[]).toList)=False:=aI (fun h=>hn (fG.1 h))
    have vL:F=false:=by rw[kQ,bC hn,kH]
    have e:y=2:=by rw[lU,vL,aH rfl]
    refine bO ?_
    refine dE (fun _ _ _ _=>False) fun Nx aB=>?_;refine dst (gE hk iX q3 @bX.eq_1 qn) ?_;intro Nx aB Gx aG
    refine tq trivial ?_;intro Nx aB Gx aG
    refine⟨by simp,?_⟩
    refine rt aC trivial ?_;exact⟨_,aE _,aR,_,aJ aR,by rw[e]⟩
   have qn:(nm.toList=(ByteArray.mk #[]).toList)=True:=aK (fG.2 hn)
   rw[bF hn,nW] at kQ
   cases Z
   case false=>
    have vL:F=false:=by rw[kQ,kH]
    have e:y=2:=by rw[lU,vL,aH rfl]
    refine bO ?_
    refine dE (fun _ _ d A=>A=.none/\d=.val (.bool false)) fun Nx aB=>?_;refine dst (jA hk iX q3 @bX.eq_1 qn sK) ?_;intro Nx aB Gx aG
    refine⟨FI _,?_⟩
    (first|refine aG _ ?_|skip)
    (first|refine dst (jA hk iX q3 @bX.eq_1 qn sK) ?_;intro Nx aB Gx aG|skip)
    refine tq trivial ?_;intro Nx aB Gx aG
    refine⟨by simp,?_⟩
    refine rt aC trivial ?_;exact⟨_,aE _,aR,_,aJ aR,by rw[e]⟩
   rw[nW] at kQ
   by_cases ha:(ar.length:Int)=0
   case neg=>
    have qa:((0:Int)<(ar.length:Int))=True:=aK (by omega)
    have vL:F=false:=by rw[kQ,bC ha];rfl
    have e:y=2:=by rw[lU,vL,aH rfl]
    refine bO ?_
    refine dE (fun _ _ d A=>A=.none/\d=.val (.bool true)) fun Nx aB=>?_;refine dst (lM hk iX q3 @bX.eq_1 qn sK qa) ?_;intro Nx aB Gx aG
    refine⟨FI _,?_⟩
    (first|refine aG _ ?_|skip)
    (first|refine dst (lM hk iX q3 @bX.eq_1 qn sK qa) ?_;intro Nx aB Gx aG|skip)
    refine tq trivial ?_;intro Nx aB Gx aG
    refine⟨by simp,?_⟩
    refine rt aC trivial ?_;exact⟨_,aE _,aR,_,aJ aR,by rw[e]⟩
   have qa:((0:Int)<(ar.length:Int))=False:=aI (by omega)
   refine bO ?_
   refine dE (fun _ _ d A=>A=.none/\d=.val (.bool true)) fun Nx aB=>?_;refine dst (lM hk iX q3 @bX.eq_1 qn sK qa) ?_;intro Nx aB Gx aG
   refine⟨FI _,?_⟩
   (first|refine aG _ ?_|skip)
   (first|refine dst (lM hk iX q3 @bX.eq_1 qn sK qa) ?_;intro Nx aB Gx aG|skip)
   refine tq trivial ?_;intro Nx aB Gx aG
   exact⟨⟨rfl,rfl,by subst hk;rfl,by subst hk;rfl,rfl⟩,by rw[kQ,bF ha];try rfl⟩
 rintro s1 ⟨⟨lS,f2,f3,f6,s6⟩,hF⟩
 rw[hF,aD (fun h=>by cases h)] at lU
 have hf1:=hf1 hF
 have hf0:=hf0 hF
 clear kQ FI
 rw[hR] at lU
 unfold tmR at lU
 refine tq trivial ?_;intro Nx aB Gx aG
 refine bB tg.length (fun i s=>T1 b k tg ar pl nm H s/\s.fr 7=i64 i/\(tg.all fun x=>decide (dG b.bl.length x))=((tg.drop i).all fun x=>decide (dG b.bl.length x))) ⟨⟨lS,f2,f3,f6,s6⟩,rfl,rfl⟩ ?_
 clear f2 f3 f6 s6 lS
 rintro i s hi ⟨⟨bG,f2,f3,f6,hH⟩,f7,ha⟩
 have hx:=bL i
 have cL:=bY i
 have aX:H.le s.H:=by rw[hH];exact aE _
 by_cases aZ:i<tg.length
 case pos=>
  have cN:(i:Int)<(tg.length:Int):=by omega
  have q6:((i:Int)<(tg.length:Int))=True:=aK cN
  have w3:=wS i (by omega)
  have b8:=dL aZ
  rw[dI aZ,l8] at ha
  obtain⟨v,hv⟩:∃v,v=tg[i]:=⟨_,rfl⟩
  rw[<-hv] at b8 ha
  have BK:¬dG b.bl.length v->y=3:=fun h=>by rw[bC h,fS] at ha;rw[lU,ha];rfl
  refine tq (fJ f3 f7 iX q6) ?_;intro Nx aB Gx aG
  (try refine bO ?_)
  by_cases h3:v<0
  ·have q3:(v<0)=True:=aK h3
   have e:=BK (by unfold dG;omega)
   refine dE (fun _ _ _ _=>False) fun Nx aB=>?_;refine dst (rF f2 f3 f7 iX b8 hx cL aZ cN q3) ?_;intro Nx aB Gx aG
   exact oz aC trivial aX e
  have q3:(v<0)=False:=aI h3
  by_cases h4:(b.bl.length:Int)<=v
  ·have q4:(v≥(b.bl.length:Int))=True:=aK h4
   have e:=BK (by unfold dG;omega)
   refine dE (fun _ _ _ _=>False) fun Nx aB=>?_;refine dst (CF f2 f3 f7 iX CT b8 hx cL aZ cN q3 q4) ?_;intro Nx aB Gx aG
   exact oz aC trivial aX e
  have q4:(v≥(b.bl.length:Int))=False:=aI h4
  rw[bF (by unfold dG;omega:dG b.bl.length v),cT] at ha
  refine dE (fun _ _ _ _=>False) fun Nx aB=>?_;refine dst (CF f2 f3 f7 iX CT b8 hx cL aZ cN q3 q4) ?_;intro Nx aB Gx aG
  refine tq (cZ f7 w3) ?_;intro Nx aB Gx aG
  exact⟨aZ,⟨bG,f2,f3,f6,hH⟩,rfl,ha⟩
 have q6:=lF i tg.length (by omega)
 rw[dX (by omega),oS] at ha
 rw[ha,aD (fun h=>by cases h)] at lU
 clear ha
 have EE:k≠3->ar.length<=1:=fun h=>by
  by_cases h1:k=1
  ·have:=hf1 h1;omega
  ·have:=hf0 h1 h;omega
 obtain⟨I,hI⟩:∃I,I=qO nm:=⟨_,rfl⟩
 rw[<-hI] at hid lU
 clear hI
 rw[<-hH] at hid
 (have fs:=And.intro f3 (And.intro f7 (And.intro iX q6));(iterate 6 (first|refine aG _ ?_|refine aB _ ?_|refine cX ?_|refine cW ?_|refine eH ?_|refine cF ?_|refine cG ?_|refine cC ?_|refine bO ?_|((first|refine tS fun Nx aB=>?_|refine mE rfl rfl (by kernel_rfl) (by kernel_rfl) fun Gx aG=>?_|refine cD (by kernel_rfl) ?_|refine lJ fun A B vJ vK=>?_);refine yR ?_;(first|refine aG _ ?_|refine aB _ ?_|refine vJ ?_|refine vK ?_|skip))));(try clear fs))
 refine AS (fun s=>T1 b k tg ar pl nm H s/\¬(k=3/\I=false)) ?_ ?_
 ·by_cases s9:k=3
  ·have k3:(k=3)=True:=aK s9
   refine tq (dZ f3 f6 k3) ?_;intro Nx aB Gx aG
   refine hid.mono ?_
   rintro d _ ⟨rfl,yV⟩
   cases I
   ·have e:y=12:=by rw[lU,aD (by omega),aH s9];rfl
    rw[yV] at aX
    refine tq trivial ?_;intro Nx aB Gx aG
    refine⟨by simp,?_⟩
    refine rt aC bG ?_;exact⟨_,aE _,aX,_,aJ aX,by rw[e] <;> rfl⟩
   ·refine tq trivial ?_;intro Nx aB Gx aG
    exact⟨⟨bG,f2,f3,f6,yV▸hH⟩,fun h=>by cases h.2⟩
  ·have k3:(k=3)=False:=aI s9
   refine tq (dZ f3 f6 k3) ?_;intro Nx aB Gx aG
   exact⟨⟨bG,f2,f3,f6,hH⟩,fun h=>s9 h.1⟩
 clear f2 f3 f6 f7 hH bG aX hid
 rintro s1 ⟨⟨bG,f2,f3,f6,hH⟩,hI⟩
 have aX:H.le s1.H:=by rw[hH];exact aE _
 refine bO ?_
 refine AS (fun s=>T1 b k tg ar pl nm H s/\¬(k=3/\65535<ar.length)) ?_ ?_
 ·by_cases h5:65535<ar.length
  ·have s9:k=3:=kF fun h=>by have:=EE h;omega
   have q5:((65535:Int)<(ar.length:Int))=True:=aK (by omega)
   have e:y=15:=by rw[lU,aD (by omega),aH s9,aD (fun h=>hI ⟨s9,h⟩),aH h5]
   refine tq (dZ f3 sK q5) ?_;intro Nx aB Gx aG
   refine⟨by simp,?_⟩
   refine rt aC bG ?_;exact⟨_,aE _,aX,_,aJ aX,by rw[e] <;> rfl⟩
  ·have q5:((65535:Int)<(ar.length:Int))=False:=aI (by omega)
   refine tq (dZ f3 sK q5) ?_;intro Nx aB Gx aG
   exact⟨⟨bG,f2,f3,f6,hH⟩,fun h=>h5 h.2⟩
 clear f2 f3 f6 hH bG aX
 rintro s2 ⟨⟨bG,f2,f3,f6,hH⟩,hL⟩
 have hE:fX b ar []≠0->y=fX b ar []:=fun h=>by
  by_cases mZ:k=1
  ·have hl:=hf1 mZ
   have ho:=ho0 hl
   have h2:fX b [O] []=if qS b O≠0 then qS b O else 0:=rfl
   rw[<-ho,h2] at h ⊢
   rw[lU,aH mZ]
   by_cases hz:qS b O=0
   ·rw[aD (fun k=>k hz)] at h;exact absurd rfl h
   ·rw[aH hz,aH hz]
  ·by_cases s9:k=3
   ·rw[lU,aD mZ,aH s9,aD (fun h=>hI ⟨s9,h⟩),aD (fun h=>hL ⟨s9,h⟩),aH h]
   ·have h0:=hf0 mZ s9
    rw[List.length_eq_zero_iff.1 h0] at h;exact absurd rfl h
 refine tq trivial ?_;intro Nx aB Gx aG
 refine bB ar.length (fun i s=>T1 b k tg ar pl nm H s/\s.fr 8=i64 i/\fX b ar []=fX b (ar.drop i) []) ⟨⟨bG,f2,f3,f6,hH⟩,rfl,rfl⟩ ?_
 clear f2 f3 f6 hH bG
 clear hi hx cL q6 aZ
 rintro i s hi ⟨⟨bG,f2,f3,f6,hH⟩,f8,ha⟩
 have hx:=bL i
 have cL:=bY i
 have aX:H.le s.H:=by rw[hH];exact aE _
 by_cases aZ:i<ar.length
 case pos=>
  have cN:(i:Int)<(ar.length:Int):=by omega
  have q6:((i:Int)<(ar.length:Int))=True:=aK cN
  have w3:=wS i (by omega)
  have b8:=yB aZ
  have tA:=tA _ (bZ aZ) s.H
  rw[dI aZ] at ha
  obtain⟨o,ho⟩:∃o,o=ar[i]:=⟨_,rfl⟩
  rw[<-ho] at b8 ha tA
  clear ho
  obtain⟨oE,hoE⟩:∃oE,oE=qS b o:=⟨_,rfl⟩
  have oF:fX b (o::ar.drop (i+1)) []=if oE≠0 then oE else fX b (ar.drop (i+1)) []:=by rw[hoE];rfl
  rw[oF] at ha
  rw[<-hoE] at tA
  clear oF hoE
  simp only[jL] at b8
  refine tq (fJ f3 f8 sK q6) ?_;intro Nx aB Gx aG
  (try refine bO ?_)
  refine dE (fun _ _ d A=>A=.none/\d=i64 oE) fun Nx aB=>?_;refine dst (yP f2 f3 f8 sK b8 hx cL aZ cN) ?_;intro Nx aB Gx aG
  refine⟨tA,?_⟩
  (first|refine aG _ ?_|refine aB _ ?_|skip)
  by_cases h0:oE=0
  ·have q0:(oE=0)=True:=aK h0
   rw[aD (fun h=>h h0)] at ha
   refine tq (dZ f8 q0 w3) ?_;intro Nx aB Gx aG
   exact⟨aZ,⟨bG,f2,f3,f6,hH⟩,rfl,ha⟩
  ·have q0:(oE=0)=False:=aI h0
   rw[aH h0] at ha
   have e:y=oE:=by rw[hE (by rw[ha];exact h0),ha]
   exact oz aC q0 aX e
 have q6:=lF i ar.length (by omega)
 rw[dX (by omega)] at ha
 have hs0:fX b ar []=0:=by rw[ha];rfl
 have eW:=C2 hs0
 clear hE ha tA
 obtain⟨T,hT⟩:∃T,T=qI b pl:=⟨_,rfl⟩
 obtain⟨Mu,hM⟩:∃Mu,Mu=sP b.ty b.lc pl:=⟨_,rfl⟩
 obtain⟨Hd,hHd⟩:∃Hd,Hd=tL pl 0:=⟨_,rfl⟩
 unfold DC at lU
 rw[<-hT,<-hM,<-hHd] at lU
 rw[<-hT] at lG
 rw[<-hM] at wR
 rw[<-hHd] at KE
 clear hT hM hHd
 rw[<-hH] at lG wR KE
 by_cases mZ:k=1
 ·have k1:(k=1)=True:=aK mZ
  have k3:(k=3)=False:=aI (by omega)
  have k4:(k=4)=False:=aI (by omega)
  have hl:=hf1 mZ
  have CS:0<ar.length:=by omega
  have B3:=yB CS
  have hO:ar[0]=O:=by
   have:=ho0 hl
   simp only[<-this,O5]
  have EB:=EB _ (bZ CS) (eW _ (bZ CS)) s.H
  have hz0:=eW _ (bZ CS)
  rw[hO] at B3 EB hz0
  rw[aH mZ,aD (fun h=>h hz0)] at lU
  simp only[jL] at B3
  by_cases hd:B6 b O=1
  ·have e:y=0:=by rw[lU,aD (fun h=>h hd)]
   rw[bF hd] at EB
   refine tq (fJ f3 f8 sK q6) ?_;intro Nx aB Gx aG
   (try refine bO ?_)
   refine dE (fun _ _ d A=>A=.none/\d=.val (.bool true)) fun Nx aB=>?_;refine dst (jA f2 f3 k1 B3 sK hl) ?_;intro Nx aB Gx aG
   refine⟨EB,?_⟩
   (first|refine aG _ ?_|skip)
   (first|refine dst trivial ?_;intro Nx aB Gx aG|skip)
   exact oz aC (fJ f3 f6 k3 k4) aX e
  ·have e:y=22:=by rw[lU,aH hd]
   rw[bC hd] at EB
   refine tq (fJ f3 f8 sK q6) ?_;intro Nx aB Gx aG
   (try refine bO ?_)
   refine dE (fun _ _ d A=>A=.none/\d=.val (.bool false)) fun Nx aB=>?_;refine dst (jA f2 f3 k1 B3 sK hl) ?_;intro Nx aB Gx aG
   refine⟨EB,?_⟩
   (first|refine aG _ ?_|skip)
   (first|refine dst trivial ?_;intro Nx aB Gx aG|skip)
   exact oz aC (fJ f3 f6 k3 k4) aX e
 have k1:(k=1)=False:=aI mZ
 rw[aD mZ] at lU
 refine tq (fJ f3 f8 sK q6) ?_;intro Nx aB Gx aG
 (try refine bO ?_)
 refine dE (fun _ _ _ _=>False) fun Nx aB=>?_;refine dst (dZ f2 f3 k1) ?_;intro Nx aB Gx aG
 by_cases s9:k=3
 ·have k3:(k=3)=True:=aK s9
  have k4:(k=4)=False:=aI (by omega)
  rw[aH s9,aD (fun h=>hI ⟨s9,h⟩),aD (fun h=>hL ⟨s9,h⟩),aD (fun h=>h hs0)] at lU
  refine tq (fJ f2 f3 f6 k3) ?_;intro Nx aB Gx aG
  refine lG.mono ?_
  rintro d _ ⟨rfl,yV⟩
  rw[yV] at wR aX
  by_cases h2:T.2=0
  case neg=>
   have q2:(T.2=0)=False:=aI h2
   have e:y=T.2:=lU.trans (aH h2)
   exact oz aC q2 aX e
  have q2:(T.2=0)=True:=aK h2
  rw[aD (fun h=>h h2)] at lU
  refine tq (gE f2 f3 f6 k3 q2) ?_;intro Nx aB Gx aG
  refine wR.mono ?_
  rintro d _ ⟨rfl,NM⟩
  rw[NM] at aX
  cases Mu
  ·have e:y=22:=lU
   exact oz aC (cZ f3 k4) aX e
  ·have e:y=0:=lU
   exact oz aC (cZ f3 k4) aX e
 have k3:(k=3)=False:=aI s9
 rw[aD s9] at lU
 by_cases sJ:k=4
 ·have k4:(k=4)=True:=aK sJ
  rw[aH sJ] at lU
  refine tq (gE f2 f3 f6 k3 k4) ?_;intro Nx aB Gx aG
  refine lG.mono ?_
  rintro d _ ⟨rfl,yV⟩
  rw[yV] at KE aX
  by_cases h2:T.2=0
  case neg=>
   have q2:(T.2=0)=False:=aI h2
   have e:y=T.2:=lU.trans (aH h2)
   exact oz aC q2 aX e
  have q2:(T.2=0)=True:=aK h2
  rw[aD (fun h=>h h2)] at lU
  refine tq (jA f2 f3 f6 k3 k4 q2) ?_;intro Nx aB Gx aG
  refine KE.mono ?_
  rintro d _ ⟨rfl,NM⟩
  rw[NM] at aX
  have e:=lU
  cases Hd
  ·exact oz aC trivial aX e
  ·exact oz aC trivial aX e
 have k4:(k=4)=False:=aI sJ
 rw[aD sJ] at lU
 have e:=lU
 exact oz aC (gE f2 f3 f6 k3 k4) aX e
end Go.Proofs.YtelbfbioomcmeaaGreatDoor

