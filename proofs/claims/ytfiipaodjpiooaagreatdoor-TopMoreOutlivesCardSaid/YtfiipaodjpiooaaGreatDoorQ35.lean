/- Lemmas and contracts of functions, several texts in one. -/
import Derived.Test.YtfiipaodjpiooaaGreatDoorQ34
set_option maxRecDepth 100000
set_option maxHeartbeats 4000000
set_option linter.all false
namespace Go.Proofs.YtfiipaodjpiooaaGreatDoor
open Go.RowKit
open Tryz
def T1 (b:cT) (k:Int) (tg:List Int) (ar:List qV) (pl:pA) (nm:ByteArray) (H:aC) (s:St):Prop:=s.df=[]/\s.fr 2=.rp [cX b.nm,.seq 1 (b.rg.map sD),.seq 2 (b.ol.map pD),.seq 5 (b.ty.map cP),.seq 2 (b.lc.map mN),i64 b.ag,.seq 7 (b.bl.map jP)]/\s.fr 3=.rp [i64 k,.seq 1 (tg.map iD),.seq 4 (ar.map jW),i64 pl.lo,.seq 2 (pl.pr.map pD),cX nm]/\s.fr 6=.val (.bool (decide (k=3)))/\s.H=H
noncomputable def tmR (b:cT) (k:Int) (tg:List Int) (ar:List qV) (pl:pA) (nm:ByteArray) (o:qV):Int:=
 if (tg.all fun x=>decide (cE b.bl.length x))=false then 3
 else if k=1 then (if qU b o≠0 then qU b o else if IL b o≠1 then 22 else 0)
 else if k=3 then (if x7 nm=false then 12 else if 65535<ar.length then 15 else if gA b ar []≠0 then gA b ar [] else GX b pl)
 else if k=4 then (if (uE b pl).2≠0 then (uE b pl).2 else if y9 pl 0=true then 22 else 0)
 else 0
theorem aKI {t:HF} (h:yO t=true) (h1:t.k≠1) (h3:t.k≠3):t.ar.length=0:=by
 unfold yO at h
 by_cases h0:t.k=0
 ·rw[aE h0] at h
  simp only[eK,fV] at h
  exact h.1.1.2
 rw[aA h0,aA h1,aA h3] at h
 by_cases h4:t.k=4
 ·rw[aE h4] at h
  simp only[eK,fV] at h
  exact h.1.2
 ·rw[aA h4] at h
  simp only[eK,fV] at h
  exact h.1.1.2
theorem aKw (b:cT) (t:HF) (H:aC) (ck:Ck b) (hp:aFW t) (hnm:dO t.nm.size):bE prog 47 [.agg (iS b),.agg (tmD t)] H fun d H'=>d=i64 (BU b t)/\H=H':=by
 refine bO (K:=fun d=>d=i64 (BU b t)) ?_
 have aS:=aG H
 have AB:∀o∈t.ar,∀H1,eF prog 97 [.agg (iS b),.agg (jW o)] H1 fun d A=>A=aC.none/\d=i64 (qU b o):=fun o ho H1=>cF fun gI gX=>RP b o gI ck (hp.2.1.2 o ho)
 have N9:∀o∈t.ar,qU b o=0->∀H1,eF prog 98 [.agg (iS b),.agg (jW o),i64 1] H1 fun d A=>A=aC.none/\d=.val (.bool (decide (IL b o=1))):=fun o ho hz H1=>cF fun gI gX=>RN b o 1 gI ck (hp.2.1.2 o ho) hz
 have yJ:∀H1,eF prog 95 [.agg (lN t.pl)] H1 fun d A=>A=aC.none/\d=.val (.bool (gL t.pl)):=fun H1=>cF fun gI gX=>JV t.pl gI hp.2.2
 have hid:=O4 t.nm H hnm
 have pE:=L3 b t.pl H ck hp.2.2
 have DC:=YN b t.pl H ck hp.2.2
 have K5:=aAn t.pl H hp.2.2
 have lJ:=lm iD t.tg
 have vQ:=lm jW t.ar
 have sQ:=lm jP b.bl
 have wI:=hp.1
 have rJ:=hp.2.1.1
 have l4:=ck.bll
 unfold dO at wI rJ l4
 have hf1:yO t=true->t.k=1->t.ar.length=1:=aGh
 have hf0:yO t=true->t.k≠1->t.k≠3->t.ar.length=0:=aKI
 obtain⟨y,hy⟩:∃y,y=BU b t:=⟨_,rfl⟩
 rw[<-hy]
 have pQ:y=if t.k<0\/5<t.k then 14 else if yO t=false then 2 else tmR b t.k t.tg t.ar t.pl t.nm (TJ t):=hy
 clear hy
 have ho0:t.ar.length=1->[TJ t]=t.ar:=fun h=>by
  obtain⟨o,ho⟩:=PL.1 h
  unfold TJ;rw[ho];rfl
 obtain⟨O,hO⟩:∃O,O=TJ t:=⟨_,rfl⟩
 rw[<-hO] at pQ ho0
 clear hO
 rw[pI] at AB N9 pE DC ⊢
 have mM:=aDV t
 unfold NW at mM
 obtain⟨F,hF⟩:∃F,F=yO t:=⟨_,rfl⟩
 rw[<-hF] at mM pQ hf1 hf0
 clear hF hp
 obtain⟨Z,hZ⟩:∃Z,Z=gL t.pl:=⟨_,rfl⟩
 rw[<-hZ] at yJ mM
 clear hZ
 obtain⟨k,tg,ar,pl,nm⟩:=t
 simp only at pQ lJ vQ wI rJ hf1 hf0 AB N9 ho0 mM hid
 simp only[lN] at pE DC K5 yJ
 simp only[jW] at AB N9
 simp only[tmD]
 obtain⟨R,hR⟩:∃R,R=tmR b k tg ar pl nm O:=⟨_,rfl⟩
 rw[<-hR] at pQ
 refine aQ _ _ func47 rfl rfl ntmps47 results47 (by simp) fun w0 g0 Q aD=>?_
 refine tq trivial ?_;intro Nx aB Gx aF
 intro c2 lH c3 j5
 refine aB _ ?_
 obtain⟨lK,sH⟩:=bY.1 j5;refine cA 2 rfl ((aN lK.symm).trans (aO _ _ _)) rfl ?_;refine cA 3 rfl ((bS lK).trans (aO _ _ _)) rfl ?_;refine eV _ (kF lH sH) ?_;simp only[St.jH,List.drop]
 by_cases h1:k<0
 ·have q1:(k<0)=True:=aK h1
  have e:y=14:=pQ.trans (aE (.inl h1))
  exact oz aD q1 aS e
 have q1:(k<0)=False:=aI h1
 by_cases h2:5<k
 ·have q2:(5<k)=True:=aK h2
  have e:y=14:=pQ.trans (aE (.inr h2))
  exact oz aD (dG q1 q2) aS e
 have q2:(5<k)=False:=aI h2
 rw[aA (by omega)] at pQ
 refine tq (dG q1 q2) ?_;intro Nx aB Gx aF
 intro c5 lY
 refine aB _ ?_
 refine fZ 5 lY ?_
 (have fs:=trivial;(iterate 3 (first|refine aF _ ?_|refine aB _ ?_|refine dW ?_|refine dV ?_|refine fE ?_|refine cU ?_|refine cV ?_|refine cL ?_|refine bP ?_|((first|refine tS fun Nx aB=>?_|refine mS rfl rfl (by kernel_rfl) (by kernel_rfl) fun Gx aF=>?_|refine cH (by kernel_rfl) ?_|refine mJ fun A B wL wM=>?_);refine qK ?_;(first|refine aF _ ?_|refine aB _ ?_|refine wL ?_|refine wM ?_|skip))));(try clear fs))
 refine D2 (fun s=>T1 b k tg ar pl nm H s/\F=true) ?_ ?_
 ·have hk:k=0\/k=1\/k=2\/k=3\/k=4\/k=5:=by omega
  rcases hk with hk|hk|hk|hk|hk|hk
  ·
   by_cases ht:(tg.length:Int)=1
   case neg=>
    have q3:((tg.length:Int)=1)=False:=aI ht
    have B8:F=false:=by rw[mM,aE hk,bB ht];try rfl
    have e:y=2:=by rw[pQ,B8,aE rfl]
    refine bP ?_
    refine dE (fun _ _ _ _=>False) fun Nx aB=>?_;refine dst (eA hk lJ q3) ?_;intro Nx aB Gx aF
    refine tq trivial ?_;intro Nx aB Gx aF
    refine⟨by simp,?_⟩
    refine rt aD trivial ?_;exact⟨_,aG _,aS,_,aH aS,by rw[e]⟩
   have q3:((tg.length:Int)=1)=True:=aK ht
   rw[aE hk,bG ht] at mM
   by_cases hn:nm=ByteArray.empty
   case neg=>
    have qn:(nm.toList=(ByteArray.mk #[]).toList)=False:=aI (fun h=>hn (kH.1 h))
    have B8:F=false:=by rw[mM,bB hn,kI]
    have e:y=2:=by rw[pQ,B8,aE rfl]
    refine bP ?_
    refine dE (fun _ _ _ _=>False) fun Nx aB=>?_;refine dst (jE hk lJ q3 @cX.eq_1 qn) ?_;intro Nx aB Gx aF
    refine tq trivial ?_;intro Nx aB Gx aF
    refine⟨by simp,?_⟩
    refine rt aD trivial ?_;exact⟨_,aG _,aS,_,aH aS,by rw[e]⟩
   have qn:(nm.toList=(ByteArray.mk #[]).toList)=True:=aK (kH.2 hn)
   rw[bG hn,lR] at mM
   cases Z
   case false=>
    have B8:F=false:=by rw[mM,kI]
    have e:y=2:=by rw[pQ,B8,aE rfl]
    refine bP ?_
    refine dE (fun _ _ d A=>A=.none/\d=.val (.bool false)) fun Nx aB=>?_;refine dst (kB hk lJ q3 @cX.eq_1 qn vQ) ?_;intro Nx aB Gx aF
    refine⟨yJ _,?_⟩
    (first|refine aF _ ?_|skip)
    (first|refine dst (kB hk lJ q3 @cX.eq_1 qn vQ) ?_;intro Nx aB Gx aF|skip)
    refine tq trivial ?_;intro Nx aB Gx aF
    refine⟨by simp,?_⟩
    refine rt aD trivial ?_;exact⟨_,aG _,aS,_,aH aS,by rw[e]⟩
   rw[lR] at mM
   by_cases ha:(ar.length:Int)=0
   case neg=>
    have qa:((0:Int)<(ar.length:Int))=True:=aK (by omega)
    have B8:F=false:=by rw[mM,bB ha];rfl
    have e:y=2:=by rw[pQ,B8,aE rfl]
    refine bP ?_
    refine dE (fun _ _ d A=>A=.none/\d=.val (.bool true)) fun Nx aB=>?_;refine dst (nF hk lJ q3 @cX.eq_1 qn vQ qa) ?_;intro Nx aB Gx aF
    refine⟨yJ _,?_⟩
    (first|refine aF _ ?_|skip)
    (first|refine dst (nF hk lJ q3 @cX.eq_1 qn vQ qa) ?_;intro Nx aB Gx aF|skip)
    refine tq trivial ?_;intro Nx aB Gx aF
    refine⟨by simp,?_⟩
    refine rt aD trivial ?_;exact⟨_,aG _,aS,_,aH aS,by rw[e]⟩
   have qa:((0:Int)<(ar.length:Int))=False:=aI (by omega)
   refine bP ?_
   refine dE (fun _ _ d A=>A=.none/\d=.val (.bool true)) fun Nx aB=>?_;refine dst (nF hk lJ q3 @cX.eq_1 qn vQ qa) ?_;intro Nx aB Gx aF
   refine⟨yJ _,?_⟩
   (first|refine aF _ ?_|skip)
   (first|refine dst (nF hk lJ q3 @cX.eq_1 qn vQ qa) ?_;intro Nx aB Gx aF|skip)
   refine tq trivial ?_;intro Nx aB Gx aF
   exact⟨⟨rfl,rfl,by subst hk;rfl,by subst hk;rfl,rfl⟩,by rw[mM,bG ha];try rfl⟩
  ·
   by_cases ht:(tg.length:Int)=2
   case neg=>
    have q3:((tg.length:Int)=2)=False:=aI ht
    have B8:F=false:=by rw[mM,aA (by omega),aE hk,bB ht];try rfl
    have e:y=2:=by rw[pQ,B8,aE rfl]
    refine bP ?_
    refine dE (fun _ _ _ _=>False) fun Nx aB=>?_;refine dst (eA hk lJ q3) ?_;intro Nx aB Gx aF
    refine tq trivial ?_;intro Nx aB Gx aF
    refine⟨by simp,?_⟩
    refine rt aD trivial ?_;exact⟨_,aG _,aS,_,aH aS,by rw[e]⟩
   have q3:((tg.length:Int)=2)=True:=aK ht
   rw[aA (by omega),aE hk,bG ht] at mM
   by_cases hn:nm=ByteArray.empty
   case neg=>
    have qn:(nm.toList=(ByteArray.mk #[]).toList)=False:=aI (fun h=>hn (kH.1 h))
    have B8:F=false:=by rw[mM,bB hn,kI]
    have e:y=2:=by rw[pQ,B8,aE rfl]
    refine bP ?_
    refine dE (fun _ _ _ _=>False) fun Nx aB=>?_;refine dst (jE hk lJ q3 @cX.eq_1 qn) ?_;intro Nx aB Gx aF
    refine tq trivial ?_;intro Nx aB Gx aF
    refine⟨by simp,?_⟩
    refine rt aD trivial ?_;exact⟨_,aG _,aS,_,aH aS,by rw[e]⟩
   have qn:(nm.toList=(ByteArray.mk #[]).toList)=True:=aK (kH.2 hn)
   rw[bG hn,lR] at mM
   cases Z
   case false=>
    have B8:F=false:=by rw[mM,kI]
    have e:y=2:=by rw[pQ,B8,aE rfl]
    refine bP ?_
    refine dE (fun _ _ d A=>A=.none/\d=.val (.bool false)) fun Nx aB=>?_;refine dst (kB hk lJ q3 @cX.eq_1 qn vQ) ?_;intro Nx aB Gx aF
    refine⟨yJ _,?_⟩
    (first|refine aF _ ?_|skip)
    (first|refine dst (kB hk lJ q3 @cX.eq_1 qn vQ) ?_;intro Nx aB Gx aF|skip)
    refine tq trivial ?_;intro Nx aB Gx aF
    refine⟨by simp,?_⟩
    refine rt aD trivial ?_;exact⟨_,aG _,aS,_,aH aS,by rw[e]⟩
   rw[lR] at mM
   by_cases ha:(ar.length:Int)=1
   case neg=>
    have qa:((ar.length:Int)=1)=False:=aI (by omega)
    have B8:F=false:=by rw[mM,bB ha];rfl
    have e:y=2:=by rw[pQ,B8,aE rfl]
    refine bP ?_
    refine dE (fun _ _ d A=>A=.none/\d=.val (.bool true)) fun Nx aB=>?_;refine dst (nF hk lJ q3 @cX.eq_1 qn vQ qa) ?_;intro Nx aB Gx aF
    refine⟨yJ _,?_⟩
    (first|refine aF _ ?_|skip)
    (first|refine dst (nF hk lJ q3 @cX.eq_1 qn vQ qa) ?_;intro Nx aB Gx aF|skip)
    refine tq trivial ?_;intro Nx aB Gx aF
    refine⟨by simp,?_⟩
    refine rt aD trivial ?_;exact⟨_,aG _,aS,_,aH aS,by rw[e]⟩
   have qa:((ar.length:Int)=1)=True:=aK (by omega)
   refine bP ?_
   refine dE (fun _ _ d A=>A=.none/\d=.val (.bool true)) fun Nx aB=>?_;refine dst (nF hk lJ q3 @cX.eq_1 qn vQ qa) ?_;intro Nx aB Gx aF
   refine⟨yJ _,?_⟩
   (first|refine aF _ ?_|skip)
   (first|refine dst (nF hk lJ q3 @cX.eq_1 qn vQ qa) ?_;intro Nx aB Gx aF|skip)
   refine tq trivial ?_;intro Nx aB Gx aF
   exact⟨⟨rfl,rfl,by subst hk;rfl,by subst hk;rfl,rfl⟩,by rw[mM,bG ha];try rfl⟩
  ·
   by_cases ht:(tg.length:Int)=0
   case neg=>
    have q3:((tg.length:Int)=0)=False:=aI ht
    have B8:F=false:=by rw[mM,aA (by omega),aA (by omega),aA (by omega),aA (by omega),bB ht];try rfl
    have e:y=2:=by rw[pQ,B8,aE rfl]
    refine bP ?_
    refine dE (fun _ _ _ _=>False) fun Nx aB=>?_;refine dst (eA hk lJ q3) ?_;intro Nx aB Gx aF
    refine tq trivial ?_;intro Nx aB Gx aF
    refine⟨by simp,?_⟩
    refine rt aD trivial ?_;exact⟨_,aG _,aS,_,aH aS,by rw[e]⟩
   have q3:((tg.length:Int)=0)=True:=aK ht
   rw[aA (by omega),aA (by omega),aA (by omega),aA (by omega),bG ht] at mM
   by_cases hn:nm=ByteArray.empty
   case neg=>
    have qn:(nm.toList=(ByteArray.mk #[]).toList)=False:=aI (fun h=>hn (kH.1 h))
    have B8:F=false:=by rw[mM,bB hn,kI]
    have e:y=2:=by rw[pQ,B8,aE rfl]
    refine bP ?_
    refine dE (fun _ _ _ _=>False) fun Nx aB=>?_;refine dst (jE hk lJ q3 @cX.eq_1 qn) ?_;intro Nx aB Gx aF
    refine tq trivial ?_;intro Nx aB Gx aF
    refine⟨by simp,?_⟩
    refine rt aD trivial ?_;exact⟨_,aG _,aS,_,aH aS,by rw[e]⟩
   have qn:(nm.toList=(ByteArray.mk #[]).toList)=True:=aK (kH.2 hn)
   rw[bG hn,lR] at mM
   cases Z
   case false=>
    have B8:F=false:=by rw[mM,kI]
    have e:y=2:=by rw[pQ,B8,aE rfl]
    refine bP ?_
    refine dE (fun _ _ d A=>A=.none/\d=.val (.bool false)) fun Nx aB=>?_;refine dst (kB hk lJ q3 @cX.eq_1 qn vQ) ?_;intro Nx aB Gx aF
    refine⟨yJ _,?_⟩
    (first|refine aF _ ?_|skip)
    (first|refine dst (kB hk lJ q3 @cX.eq_1 qn vQ) ?_;intro Nx aB Gx aF|skip)
    refine tq trivial ?_;intro Nx aB Gx aF
    refine⟨by simp,?_⟩
    refine rt aD trivial ?_;exact⟨_,aG _,aS,_,aH aS,by rw[e]⟩
   rw[lR] at mM
   by_cases ha:(ar.length:Int)=0
   case neg=>
    have qa:((0:Int)<(ar.length:Int))=True:=aK (by omega)
    have B8:F=false:=by rw[mM,bB ha];rfl
    have e:y=2:=by rw[pQ,B8,aE rfl]
    refine bP ?_
    refine dE (fun _ _ d A=>A=.none/\d=.val (.bool true)) fun Nx aB=>?_;refine dst (nF hk lJ q3 @cX.eq_1 qn vQ qa) ?_;intro Nx aB Gx aF
    refine⟨yJ _,?_⟩
    (first|refine aF _ ?_|skip)
    (first|refine dst (nF hk lJ q3 @cX.eq_1 qn vQ qa) ?_;intro Nx aB Gx aF|skip)
    refine tq trivial ?_;intro Nx aB Gx aF
    refine⟨by simp,?_⟩
    refine rt aD trivial ?_;exact⟨_,aG _,aS,_,aH aS,by rw[e]⟩
   have qa:((0:Int)<(ar.length:Int))=False:=aI (by omega)
   refine bP ?_
   refine dE (fun _ _ d A=>A=.none/\d=.val (.bool true)) fun Nx aB=>?_;refine dst (nF hk lJ q3 @cX.eq_1 qn vQ qa) ?_;intro Nx aB Gx aF
   refine⟨yJ _,?_⟩
   (first|refine aF _ ?_|skip)
   (first|refine dst (nF hk lJ q3 @cX.eq_1 qn vQ qa) ?_;intro Nx aB Gx aF|skip)
   refine tq trivial ?_;intro Nx aB Gx aF
   exact⟨⟨rfl,rfl,by subst hk;rfl,by subst hk;rfl,rfl⟩,by rw[mM,bG ha];try rfl⟩
  ·
   by_cases ht:(tg.length:Int)=1
   case neg=>
    have q3:((tg.length:Int)=1)=False:=aI ht
    have B8:F=false:=by rw[mM,aA (by omega),aA (by omega),aE hk,bB ht];try rfl
    have e:y=2:=by rw[pQ,B8,aE rfl]
    refine bP ?_
    refine dE (fun _ _ _ _=>False) fun Nx aB=>?_;refine dst (eA hk lJ q3) ?_;intro Nx aB Gx aF
    refine tq trivial ?_;intro Nx aB Gx aF
    refine⟨by simp,?_⟩
    refine rt aD trivial ?_;exact⟨_,aG _,aS,_,aH aS,by rw[e]⟩
   have q3:((tg.length:Int)=1)=True:=aK ht
   rw[aA (by omega),aA (by omega),aE hk,bG ht] at mM
   refine bP ?_
   refine dE (fun _ _ _ _=>False) fun Nx aB=>?_;refine dst (eA hk lJ q3) ?_;intro Nx aB Gx aF
   refine tq trivial ?_;intro Nx aB Gx aF
   exact⟨⟨rfl,rfl,by subst hk;rfl,by subst hk;rfl,rfl⟩,mM⟩
  ·
   by_cases ht:(tg.length:Int)=1
   case neg=>
    have q3:((tg.length:Int)=1)=False:=aI ht
    have B8:F=false:=by rw[mM,aA (by omega),aA (by omega),aA (by omega),aE hk,bB ht];try rfl
    have e:y=2:=by rw[pQ,B8,aE rfl]
    refine bP ?_
    refine dE (fun _ _ _ _=>False) fun Nx aB=>?_;refine dst (eA hk lJ q3) ?_;intro Nx aB Gx aF
    refine tq trivial ?_;intro Nx aB Gx aF
    refine⟨by simp,?_⟩
    refine rt aD trivial ?_;exact⟨_,aG _,aS,_,aH aS,by rw[e]⟩
   have q3:((tg.length:Int)=1)=True:=aK ht
   rw[aA (by omega),aA (by omega),aA (by omega),aE hk,bG ht] at mM
   by_cases hn:nm=ByteArray.empty
   case neg=>
    have qn:(nm.toList=(ByteArray.mk #[]).toList)=False:=aI (fun h=>hn (kH.1 h))
    have B8:F=false:=by rw[mM,bB hn,kI]
    have e:y=2:=by rw[pQ,B8,aE rfl]
    refine bP ?_
    refine dE (fun _ _ _ _=>False) fun Nx aB=>?_;refine dst (jE hk lJ q3 @cX.eq_1 qn) ?_;intro Nx aB Gx aF
    refine tq trivial ?_;intro Nx aB Gx aF
    refine⟨by simp,?_⟩
    refine rt aD trivial ?_;exact⟨_,aG _,aS,_,aH aS,by rw[e]⟩
   have qn:(nm.toList=(ByteArray.mk #[]).toList)=True:=aK (kH.2 hn)
   rw[bG hn,lR] at mM
   by_cases ha:(ar.length:Int)=0
   case neg=>
    have qa:((0:Int)<(ar.length:Int))=True:=aK (by omega)
    have B8:F=false:=by rw[mM,bB ha];rfl
    have e:y=2:=by rw[pQ,B8,aE rfl]
    refine bP ?_
    refine dE (fun _ _ _ _=>False) fun Nx aB=>?_;refine dst (nF hk lJ q3 @cX.eq_1 qn vQ qa) ?_;intro Nx aB Gx aF
    refine tq trivial ?_;intro Nx aB Gx aF
    refine⟨by simp,?_⟩
    refine rt aD trivial ?_;exact⟨_,aG _,aS,_,aH aS,by rw[e]⟩
   have qa:((0:Int)<(ar.length:Int))=False:=aI (by omega)
   refine bP ?_
   refine dE (fun _ _ _ _=>False) fun Nx aB=>?_;refine dst (nF hk lJ q3 @cX.eq_1 qn vQ qa) ?_;intro Nx aB Gx aF
   refine tq trivial ?_;intro Nx aB Gx aF
   exact⟨⟨rfl,rfl,by subst hk;rfl,by subst hk;rfl,rfl⟩,by rw[mM,bG ha];try rfl⟩
  ·
   by_cases ht:(tg.length:Int)=0
   case neg=>
    have q3:((tg.length:Int)=0)=False:=aI ht
    have B8:F=false:=by rw[mM,aA (by omega),aA (by omega),aA (by omega),aA (by omega),bB ht];try rfl
    have e:y=2:=by rw[pQ,B8,aE rfl]
    refine bP ?_
    refine dE (fun _ _ _ _=>False) fun Nx aB=>?_;refine dst (eA hk lJ q3) ?_;intro Nx aB Gx aF
    refine tq trivial ?_;intro Nx aB Gx aF
    refine⟨by simp,?_⟩
    refine rt aD trivial ?_;exact⟨_,aG _,aS,_,aH aS,by rw[e]⟩
   have q3:((tg.length:Int)=0)=True:=aK ht
   rw[aA (by omega),aA (by omega),aA (by omega),aA (by omega),bG ht] at mM
   by_cases hn:nm=ByteArray.empty
   case neg=>
    have qn:(nm.toList=(ByteArray.mk #[]).toList)=False:=aI (fun h=>hn (kH.1 h))
    have B8:F=false:=by rw[mM,bB hn,kI]
    have e:y=2:=by rw[pQ,B8,aE rfl]
    refine bP ?_
    refine dE (fun _ _ _ _=>False) fun Nx aB=>?_;refine dst (jE hk lJ q3 @cX.eq_1 qn) ?_;intro Nx aB Gx aF
    refine tq trivial ?_;intro Nx aB Gx aF
    refine⟨by simp,?_⟩
    refine rt aD trivial ?_;exact⟨_,aG _,aS,_,aH aS,by rw[e]⟩
   have qn:(nm.toList=(ByteArray.mk #[]).toList)=True:=aK (kH.2 hn)
   rw[bG hn,lR] at mM
   cases Z
   case false=>
    have B8:F=false:=by rw[mM,kI]
    have e:y=2:=by rw[pQ,B8,aE rfl]
    refine bP ?_
    refine dE (fun _ _ d A=>A=.none/\d=.val (.bool false)) fun Nx aB=>?_;refine dst (kB hk lJ q3 @cX.eq_1 qn vQ) ?_;intro Nx aB Gx aF
    refine⟨yJ _,?_⟩
    (first|refine aF _ ?_|skip)
    (first|refine dst (kB hk lJ q3 @cX.eq_1 qn vQ) ?_;intro Nx aB Gx aF|skip)
    refine tq trivial ?_;intro Nx aB Gx aF
    refine⟨by simp,?_⟩
    refine rt aD trivial ?_;exact⟨_,aG _,aS,_,aH aS,by rw[e]⟩
   rw[lR] at mM
   by_cases ha:(ar.length:Int)=0
   case neg=>
    have qa:((0:Int)<(ar.length:Int))=True:=aK (by omega)
    have B8:F=false:=by rw[mM,bB ha];rfl
    have e:y=2:=by rw[pQ,B8,aE rfl]
    refine bP ?_
    refine dE (fun _ _ d A=>A=.none/\d=.val (.bool true)) fun Nx aB=>?_;refine dst (nF hk lJ q3 @cX.eq_1 qn vQ qa) ?_;intro Nx aB Gx aF
    refine⟨yJ _,?_⟩
    (first|refine aF _ ?_|skip)
    (first|refine dst (nF hk lJ q3 @cX.eq_1 qn vQ qa) ?_;intro Nx aB Gx aF|skip)
    refine tq trivial ?_;intro Nx aB Gx aF
    refine⟨by simp,?_⟩
    refine rt aD trivial ?_;exact⟨_,aG _,aS,_,aH aS,by rw[e]⟩
   have qa:((0:Int)<(ar.length:Int))=False:=aI (by omega)
   refine bP ?_
   refine dE (fun _ _ d A=>A=.none/\d=.val (.bool true)) fun Nx aB=>?_;refine dst (nF hk lJ q3 @cX.eq_1 qn vQ qa) ?_;intro Nx aB Gx aF
   refine⟨yJ _,?_⟩
   (first|refine aF _ ?_|skip)
   (first|refine dst (nF hk lJ q3 @cX.eq_1 qn vQ qa) ?_;intro Nx aB Gx aF|skip)
   refine tq trivial ?_;intro Nx aB Gx aF
   exact⟨⟨rfl,rfl,by subst hk;rfl,by subst hk;rfl,rfl⟩,by rw[mM,bG ha];try rfl⟩
 rintro s1 ⟨⟨pP,f2,f3,f6,uK⟩,hF⟩
 rw[hF,aA (fun h=>by cases h)] at pQ
 have hf1:=hf1 hF
 have hf0:=hf0 hF
 clear mM yJ
 rw[hR] at pQ
 unfold tmR at pQ
 refine tq trivial ?_;intro Nx aB Gx aF
 refine aZ tg.length (fun i s=>T1 b k tg ar pl nm H s/\s.fr 7=i64 i/\(tg.all fun x=>decide (cE b.bl.length x))=((tg.drop i).all fun x=>decide (cE b.bl.length x))) ⟨⟨pP,f2,f3,f6,uK⟩,rfl,rfl⟩ ?_
 clear f2 f3 f6 uK pP
 rintro i s hi ⟨⟨aT,f2,f3,f6,hH⟩,f7,ha⟩
 have hx:=bI i
 have cJ:=bM i
 have aY:H.le s.H:=by rw[hH];exact aG _
 by_cases aV:i<tg.length
 case pos=>
  have cC:(i:Int)<(tg.length:Int):=by omega
  have q6:((i:Int)<(tg.length:Int))=True:=aK cC
  have w3:=wS i (by omega)
  have cD:=cO aV
  rw[eH aV,pX] at ha
  obtain⟨v,hv⟩:∃v,v=tg[i]:=⟨_,rfl⟩
  rw[<-hv] at cD ha
  have HL:¬cE b.bl.length v->y=3:=fun h=>by rw[bB h,gC] at ha;rw[pQ,ha];rfl
  refine tq (gQ f3 f7 lJ q6) ?_;intro Nx aB Gx aF
  (try refine bP ?_)
  by_cases h3:v<0
  ·have q3:(v<0)=True:=aK h3
   have e:=HL (by unfold cE;omega)
   refine dE (fun _ _ _ _=>False) fun Nx aB=>?_;refine dst (nN f2 f3 f7 lJ cD hx cJ aV cC q3) ?_;intro Nx aB Gx aF
   exact oz aD trivial aY e
  have q3:(v<0)=False:=aI h3
  by_cases h4:(b.bl.length:Int)<=v
  ·have q4:(v≥(b.bl.length:Int))=True:=aK h4
   have e:=HL (by unfold cE;omega)
   refine dE (fun _ _ _ _=>False) fun Nx aB=>?_;refine dst (zY f2 f3 f7 lJ sQ cD hx cJ aV cC q3 q4) ?_;intro Nx aB Gx aF
   exact oz aD trivial aY e
  have q4:(v≥(b.bl.length:Int))=False:=aI h4
  rw[bG (by unfold cE;omega:cE b.bl.length v),eI] at ha
  refine dE (fun _ _ _ _=>False) fun Nx aB=>?_;refine dst (zY f2 f3 f7 lJ sQ cD hx cJ aV cC q3 q4) ?_;intro Nx aB Gx aF
  refine tq (dG f7 w3) ?_;intro Nx aB Gx aF
  exact⟨aV,⟨aT,f2,f3,f6,hH⟩,rfl,ha⟩
 have q6:=lF i tg.length (by omega)
 rw[eT (by omega),tI] at ha
 rw[ha,aA (fun h=>by cases h)] at pQ
 clear ha
 have hl1:k≠3->ar.length<=1:=fun h=>by
  by_cases h1:k=1
  ·have:=hf1 h1;omega
  ·have:=hf0 h1 h;omega
 obtain⟨I,hI⟩:∃I,I=x7 nm:=⟨_,rfl⟩
 rw[<-hI] at hid pQ
 clear hI
 rw[<-hH] at hid
 (have fs:=And.intro f3 (And.intro f7 (And.intro lJ q6));(iterate 6 (first|refine aF _ ?_|refine aB _ ?_|refine dW ?_|refine dV ?_|refine fE ?_|refine cU ?_|refine cV ?_|refine cL ?_|refine bP ?_|((first|refine tS fun Nx aB=>?_|refine mS rfl rfl (by kernel_rfl) (by kernel_rfl) fun Gx aF=>?_|refine cH (by kernel_rfl) ?_|refine mJ fun A B wL wM=>?_);refine qK ?_;(first|refine aF _ ?_|refine aB _ ?_|refine wL ?_|refine wM ?_|skip))));(try clear fs))
 refine D2 (fun s=>T1 b k tg ar pl nm H s/\¬(k=3/\I=false)) ?_ ?_
 ·by_cases qS:k=3
  ·have k3:(k=3)=True:=aK qS
   refine tq (eA f3 f6 k3) ?_;intro Nx aB Gx aF
   refine hid.mono ?_
   rintro d _ ⟨rfl,E9⟩
   cases I
   ·have e:y=12:=by rw[pQ,aA (by omega),aE qS];rfl
    rw[E9] at aY
    refine tq trivial ?_;intro Nx aB Gx aF
    refine⟨by simp,?_⟩
    refine rt aD aT ?_;exact⟨_,aG _,aY,_,aH aY,by rw[e] <;> rfl⟩
   ·refine tq trivial ?_;intro Nx aB Gx aF
    exact⟨⟨aT,f2,f3,f6,E9▸hH⟩,fun h=>by cases h.2⟩
  ·have k3:(k=3)=False:=aI qS
   refine tq (eA f3 f6 k3) ?_;intro Nx aB Gx aF
   exact⟨⟨aT,f2,f3,f6,hH⟩,fun h=>qS h.1⟩
 clear f2 f3 f6 f7 hH aT aY hid
 rintro s1 ⟨⟨aT,f2,f3,f6,hH⟩,hI⟩
 have aY:H.le s1.H:=by rw[hH];exact aG _
 refine bP ?_
 refine D2 (fun s=>T1 b k tg ar pl nm H s/\¬(k=3/\65535<ar.length)) ?_ ?_
 ·by_cases h5:65535<ar.length
  ·have qS:k=3:=jO fun h=>by have:=hl1 h;omega
   have q5:((65535:Int)<(ar.length:Int))=True:=aK (by omega)
   have e:y=15:=by rw[pQ,aA (by omega),aE qS,aA (fun h=>hI ⟨qS,h⟩),aE h5]
   refine tq (eA f3 vQ q5) ?_;intro Nx aB Gx aF
   refine⟨by simp,?_⟩
   refine rt aD aT ?_;exact⟨_,aG _,aY,_,aH aY,by rw[e] <;> rfl⟩
  ·have q5:((65535:Int)<(ar.length:Int))=False:=aI (by omega)
   refine tq (eA f3 vQ q5) ?_;intro Nx aB Gx aF
   exact⟨⟨aT,f2,f3,f6,hH⟩,fun h=>h5 h.2⟩
 clear f2 f3 f6 hH aT aY
 rintro s2 ⟨⟨aT,f2,f3,f6,hH⟩,hL⟩
 have hE:gA b ar []≠0->y=gA b ar []:=fun h=>by
  by_cases pB:k=1
  ·have hl:=hf1 pB
   have ho:=ho0 hl
   have h2:gA b [O] []=if qU b O≠0 then qU b O else 0:=rfl
   rw[<-ho,h2] at h ⊢
   rw[pQ,aE pB]
   by_cases hz:qU b O=0
   ·rw[aA (fun k=>k hz)] at h;exact absurd rfl h
   ·rw[aE hz,aE hz]
  ·by_cases qS:k=3
   ·rw[pQ,aA pB,aE qS,aA (fun h=>hI ⟨qS,h⟩),aA (fun h=>hL ⟨qS,h⟩),aE h]
   ·have h0:=hf0 pB qS
    rw[List.length_eq_zero_iff.1 h0] at h;exact absurd rfl h
 refine tq trivial ?_;intro Nx aB Gx aF
 refine aZ ar.length (fun i s=>T1 b k tg ar pl nm H s/\s.fr 8=i64 i/\gA b ar []=gA b (ar.drop i) []) ⟨⟨aT,f2,f3,f6,hH⟩,rfl,rfl⟩ ?_
 clear f2 f3 f6 hH aT
 clear hi hx cJ q6 aV
 rintro i s hi ⟨⟨aT,f2,f3,f6,hH⟩,f8,ha⟩
 have hx:=bI i
 have cJ:=bM i
 have aY:H.le s.H:=by rw[hH];exact aG _
 by_cases aV:i<ar.length
 case pos=>
  have cC:(i:Int)<(ar.length:Int):=by omega
  have q6:((i:Int)<(ar.length:Int))=True:=aK cC
  have w3:=wS i (by omega)
  have cD:=ER aV
  have AB:=AB _ (bU aV) s.H
  rw[eH aV] at ha
  obtain⟨o,ho⟩:∃o,o=ar[i]:=⟨_,rfl⟩
  rw[<-ho] at cD ha AB
  clear ho
  obtain⟨oE,hoE⟩:∃oE,oE=qU b o:=⟨_,rfl⟩
  have oJ:gA b (o::ar.drop (i+1)) []=if oE≠0 then oE else gA b (ar.drop (i+1)) []:=by rw[hoE];rfl
  rw[oJ] at ha
  rw[<-hoE] at AB
  clear oJ hoE
  simp only[jW] at cD
  refine tq (gQ f3 f8 vQ q6) ?_;intro Nx aB Gx aF
  (try refine bP ?_)
  refine dE (fun _ _ d A=>A=.none/\d=i64 oE) fun Nx aB=>?_;refine dst (BR f2 f3 f8 vQ cD hx cJ aV cC) ?_;intro Nx aB Gx aF
  refine⟨AB,?_⟩
  (first|refine aF _ ?_|refine aB _ ?_|skip)
  by_cases h0:oE=0
  ·have q0:(oE=0)=True:=aK h0
   rw[aA (fun h=>h h0)] at ha
   refine tq (eA f8 q0 w3) ?_;intro Nx aB Gx aF
   exact⟨aV,⟨aT,f2,f3,f6,hH⟩,rfl,ha⟩
  ·have q0:(oE=0)=False:=aI h0
   rw[aE h0] at ha
   have e:y=oE:=by rw[hE (by rw[ha];exact h0),ha]
   exact oz aD q0 aY e
 have q6:=lF i ar.length (by omega)
 rw[eT (by omega)] at ha
 have hs0:gA b ar []=0:=by rw[ha];rfl
 have fF:=J3 hs0
 clear hE ha AB
 obtain⟨T,hT⟩:∃T,T=uE b pl:=⟨_,rfl⟩
 obtain⟨Mu,hM⟩:∃Mu,Mu=x9 b.ty b.lc pl:=⟨_,rfl⟩
 obtain⟨Hd,hHd⟩:∃Hd,Hd=y9 pl 0:=⟨_,rfl⟩
 unfold GX at pQ
 rw[<-hT,<-hM,<-hHd] at pQ
 rw[<-hT] at pE
 rw[<-hM] at DC
 rw[<-hHd] at K5
 clear hT hM hHd
 rw[<-hH] at pE DC K5
 by_cases pB:k=1
 ·have k1:(k=1)=True:=aK pB
  have k3:(k=3)=False:=aI (by omega)
  have k4:(k=4)=False:=aI (by omega)
  have hl:=hf1 pB
  have YA:0<ar.length:=by omega
  have GK:=ER YA
  have hO:ar[0]=O:=by
   have:=ho0 hl
   simp only[<-this,List.getElem_cons_zero]
  have N9:=N9 _ (bU YA) (fF _ (bU YA)) s.H
  have hz0:=fF _ (bU YA)
  rw[hO] at GK N9 hz0
  rw[aE pB,aA (fun h=>h hz0)] at pQ
  simp only[jW] at GK
  by_cases hd:IL b O=1
  ·have e:y=0:=by rw[pQ,aA (fun h=>h hd)]
   rw[bG hd] at N9
   refine tq (gQ f3 f8 vQ q6) ?_;intro Nx aB Gx aF
   (try refine bP ?_)
   refine dE (fun _ _ d A=>A=.none/\d=.val (.bool true)) fun Nx aB=>?_;refine dst (kB f2 f3 k1 GK vQ hl) ?_;intro Nx aB Gx aF
   refine⟨N9,?_⟩
   (first|refine aF _ ?_|skip)
   (first|refine dst trivial ?_;intro Nx aB Gx aF|skip)
   exact oz aD (gQ f3 f6 k3 k4) aY e
  ·have e:y=22:=by rw[pQ,aE hd]
   rw[bB hd] at N9
   refine tq (gQ f3 f8 vQ q6) ?_;intro Nx aB Gx aF
   (try refine bP ?_)
   refine dE (fun _ _ d A=>A=.none/\d=.val (.bool false)) fun Nx aB=>?_;refine dst (kB f2 f3 k1 GK vQ hl) ?_;intro Nx aB Gx aF
   refine⟨N9,?_⟩
   (first|refine aF _ ?_|skip)
   (first|refine dst trivial ?_;intro Nx aB Gx aF|skip)
   exact oz aD (gQ f3 f6 k3 k4) aY e
 have k1:(k=1)=False:=aI pB
 rw[aA pB] at pQ
 refine tq (gQ f3 f8 vQ q6) ?_;intro Nx aB Gx aF
 (try refine bP ?_)
 refine dE (fun _ _ _ _=>False) fun Nx aB=>?_;refine dst (eA f2 f3 k1) ?_;intro Nx aB Gx aF
 by_cases qS:k=3
 ·have k3:(k=3)=True:=aK qS
  have k4:(k=4)=False:=aI (by omega)
  rw[aE qS,aA (fun h=>hI ⟨qS,h⟩),aA (fun h=>hL ⟨qS,h⟩),aA (fun h=>h hs0)] at pQ
  refine tq (gQ f2 f3 f6 k3) ?_;intro Nx aB Gx aF
  refine pE.mono ?_
  rintro d _ ⟨rfl,E9⟩
  rw[E9] at DC aY
  by_cases h2:T.2=0
  case neg=>
   have q2:(T.2=0)=False:=aI h2
   have e:y=T.2:=pQ.trans (aE h2)
   exact oz aD q2 aY e
  have q2:(T.2=0)=True:=aK h2
  rw[aA (fun h=>h h2)] at pQ
  refine tq (jE f2 f3 f6 k3 q2) ?_;intro Nx aB Gx aF
  refine DC.mono ?_
  rintro d _ ⟨rfl,XZ⟩
  rw[XZ] at aY
  cases Mu
  ·have e:y=22:=pQ
   exact oz aD (dG f3 k4) aY e
  ·have e:y=0:=pQ
   exact oz aD (dG f3 k4) aY e
 have k3:(k=3)=False:=aI qS
 rw[aA qS] at pQ
 by_cases vE:k=4
 ·have k4:(k=4)=True:=aK vE
  rw[aE vE] at pQ
  refine tq (jE f2 f3 f6 k3 k4) ?_;intro Nx aB Gx aF
  refine pE.mono ?_
  rintro d _ ⟨rfl,E9⟩
  rw[E9] at K5 aY
  by_cases h2:T.2=0
  case neg=>
   have q2:(T.2=0)=False:=aI h2
   have e:y=T.2:=pQ.trans (aE h2)
   exact oz aD q2 aY e
  have q2:(T.2=0)=True:=aK h2
  rw[aA (fun h=>h h2)] at pQ
  refine tq (kB f2 f3 f6 k3 k4 q2) ?_;intro Nx aB Gx aF
  refine K5.mono ?_
  rintro d _ ⟨rfl,XZ⟩
  rw[XZ] at aY
  have e:=pQ
  cases Hd
  ·exact oz aD trivial aY e
  ·exact oz aD trivial aY e
 have k4:(k=4)=False:=aI vE
 rw[aA vE] at pQ
 have e:=pQ
 exact oz aD (jE f2 f3 f6 k3 k4) aY e
end Go.Proofs.YtfiipaodjpiooaaGreatDoor

