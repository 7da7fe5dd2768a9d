/- Lemmas and contracts of functions, several texts in one. -/
import Derived.Test.YtelbfbioomcmeaaGreatDoorQ26
import Derived.Test.YtelbfbioomcmeaaGreatDoorQ25
set_option maxRecDepth 100000
set_option maxHeartbeats 4000000
set_option linter.all false
namespace Go.Proofs.YtelbfbioomcmeaaGreatDoor
open Go.RowKit
open Tryz
def rL (ts:List cQ):Nat:=(ts.map fun t=>1+min t.ar.length 500).sum
theorem SK (ts:List cQ) (i:Nat):rL (ts.take i)<=rL ts:=by
 have h:rL (ts.take i++ts.drop i)=rL (ts.take i)+rL (ts.drop i):=by unfold rL;rw[fI,List.sum_append]
 rw[kV] at h;omega
theorem aFO (ts:List cQ):ts.length<=rL ts:=by
 induction ts with
 |nil=>simp
 |cons t ts ih=>unfold rL at ih ⊢;rw[fT,List.sum_cons,fN];omega
theorem aCl {ts:List cQ} {i:Nat} (h:i<ts.length):rL (ts.take (i+1))=rL (ts.take i)+(1+min ts[i].ar.length 500):=by
 unfold rL;rw[dH h,fI,List.sum_append];simp
theorem aEW (a b:Nat):min (a:Int) (b:Int)=((min a b:Nat):Int):=by omega
theorem aBz (ts:List cQ) (H:aA) (sM:ts.length<=140737488351232) (nM:∀u∈ts,u.ar.length<=140737488351232):aT prog 117 [.seq 5 (ts.map cE)] H fun d H'=>d=i64 (if 200<rL ts then 1 else 0)/\H=H':=by
 refine bM (K:=fun d=>d=i64 (if 200<rL ts then 1 else 0)) ?_
 have fB:=lm cE ts
 refine aN _ _ func117 rfl rfl ntmps117 results117 (by simp) fun w0 g0 Q aC=>?_
 refine tq fB ?_;intro Nx aB Gx aG
 refine bB ts.length (fun i s=>s.df=[]/\s.fr 6=.seq 5 (ts.map cE)/\s.fr 7=i64 ts.length/\s.fr 8=i64 i/\s.fr 3=i64 (rL (ts.take i):Nat)/\rL (ts.take i)<=200/\s.H=H) ⟨rfl,rfl,rfl,rfl,rfl,by simp [rL],rfl⟩ ?_
 rintro i s hi ⟨bG,f6,f7,f8,f3,hb,hH⟩
 have aX:H.le s.H:=by rw[hH];exact aE _
 have hx:=bL i
 have cL:=bY i
 by_cases aZ:i<ts.length
 case neg=>
  have q1:=lF i ts.length (by omega)
  rw[dQ (by omega)] at hb
  refine tq (dZ f7 f8 q1) ?_;intro Nx aB Gx aG
  refine rt aC bG ?_
  exact⟨_,aE _,aX,_,aJ aX,by rw[aD (by omega)] <;> rfl⟩
 have q1:=lT i ts.length (by omega)
 have b8:(ts.map cE)[i]?=some (cE ts[i]):=by rw[cR,cP aZ];rfl
 have o9:=aCl aZ
 have LF:=nM ts[i] (bZ aZ)
 have w3:=wS i (by omega)
 obtain⟨u,hu⟩:∃u,u=ts[i]:=⟨_,rfl⟩
 rw[<-hu] at b8 o9 LF
 obtain⟨uk,um,ur,ue,ua⟩:=u
 simp only[cE] at b8
 simp only at o9 LF
 have oV:=lm iD ua
 have hmn:min (ua.length:Int) 500=((min ua.length 500:Nat):Int):=aEW _ 500
 have w4:IntKind.i64.wrap (1+((min ua.length 500:Nat):Int))=((1+min ua.length 500:Nat):Int):=by rw[aY (by omega)];omega
 have w5:IntKind.i64.wrap ((rL (ts.take i):Int)+((1+min ua.length 500:Nat):Int))=(rL (ts.take (i+1)):Int):=by rw[aY (by omega)];omega
 refine tq (yP f6 f7 f8 q1 b8 hx cL aZ fB) ?_;intro Nx aB Gx aG
 intro c5 pT
 refine aB _ ?_
 refine fW 5 pT ?_
 by_cases F6:200<rL (ts.take (i+1))
 ·have q2:((200:Int)<(rL (ts.take (i+1)):Int))=True:=aK (by omega)
  have mO:=SK ts (i+1)
  refine tq (jA f3 oV hmn w4 w5 q2) ?_;intro Nx aB Gx aG
  refine rt aC bG ?_
  exact⟨_,aE _,aX,_,aJ aX,by rw[aH (by omega)] <;> rfl⟩
 ·have q2:((200:Int)<(rL (ts.take (i+1)):Int))=False:=aI (by omega)
  refine tq (qN f3 f8 oV hmn w4 w5 q2 w3) ?_;intro Nx aB Gx aG
  exact⟨aZ,bG,f6,f7,rfl,rfl,by omega,hH⟩
theorem aFW (ts:List cQ) (H:aA) (sM:ts.length<=1000000) (nM:∀u∈ts,u.ar.length<=140737488351232):aT prog 118 [.seq 5 (ts.map cE)] H fun d H'=>(∃b:Bool,d=.val (.bool b))/\H=H':=by
 refine bM (K:=fun d=>∃b:Bool,d=.val (.bool b)) ?_
 have fB:=lm cE ts
 refine aN _ _ func118 rfl rfl ntmps118 results118 (by simp) fun w0 g0 Q aC=>?_
 refine tq fB ?_;intro Nx aB Gx aG
 refine bB ts.length (fun i s=>s.df=[]/\s.fr 9=.seq 5 (ts.map cE)/\s.fr 10=i64 ts.length/\s.fr 11=i64 i/\H.le s.H/\∃p ob,p.length=i/\Gl H 3 1 (p.map iD) (s.fr 3) s.H ob) ⟨rfl,rfl,rfl,rfl,aE _,[],none,rfl,nJ _ _ _ _⟩ ?_
 rintro i s hi ⟨bG,f9,f10,f11,aR,p,ob,IP,hg⟩
 have hx:=bL i
 have cL:=bY i
 by_cases aZ:i<ts.length
 case neg=>
  have q1:=lF i ts.length (by omega)
  refine tq (dZ f10 f11 q1) ?_;intro Nx aB Gx aG
  refine rt aC bG ?_
  exact⟨_,aE _,aR,_,aJ aR,_,rfl⟩
 have q1:=lT i ts.length (by omega)
 have b8:(ts.map cE)[i]?=some (cE ts[i]):=by rw[cR,cP aZ];rfl
 have LF:=nM ts[i] (bZ aZ)
 have w3:=wS i (by omega)
 obtain⟨u,hu⟩:∃u,u=ts[i]:=⟨_,rfl⟩
 rw[<-hu] at b8 LF
 obtain⟨uk,um,ur,ue,ua⟩:=u
 simp only[cE] at b8
 simp only at LF
 have oV:=lm iD ua
 have hp3:(p=[]/\s.fr 3=.val (.slice none 0 0))\/∃c o,s.fr 3=.os c o 1 0 p.length/\s.H c=some (.row 3 o 1 (p.map iD)):=by
  rcases hg with⟨_,h1,h2⟩|⟨c,o,_,h1,h2,h3⟩
  ·exact .inl ⟨by simpa using h2,h1⟩
  ·exact .inr ⟨c,o,by rw[h1,bK],h3⟩
 obtain⟨d3,ZC⟩:∃d3,d3=s.fr 3:=⟨_,rfl⟩
 rw[<-ZC] at hg hp3
 refine tq (yP f9 f10 f11 q1 b8 hx cL aZ fB) ?_;intro Nx aB Gx aG
 intro c5 pT
 refine aB _ ?_
 refine fW 5 pT ?_
 (have fs:=trivial;(iterate 3 (first|refine aG _ ?_|refine aB _ ?_|refine cX ?_|refine cW ?_|refine eH ?_|refine cF ?_|refine cG ?_|refine cC ?_|refine bO ?_|((first|refine tS fun Nx aB=>?_|refine mE rfl rfl (by kernel_rfl) (by kernel_rfl) fun Gx aG=>?_|refine cD (by kernel_rfl) ?_|refine lJ fun A B vJ vK=>?_);refine yR ?_;(first|refine aG _ ?_|refine aB _ ?_|refine vJ ?_|refine vK ?_|skip))));(try clear fs))
 have aJG:∀(e:Int) (q:0<=e/\e<p.length),∃c o v,d3=.os c o 1 0 p.length/\s.H c=some (.row 3 o 1 (p.map iD))/\(p.map iD)[e.toNat]?=some [.val (.int .i64 v)]:=fun e q=>by
  rcases hp3 with⟨h,_⟩|⟨c,o,h1,h2⟩
  ·rw[h] at q;simp at q;omega
  ·exact⟨c,o,_,h1,h2,pG (by omega)⟩
 refine MK (fun s1=>s1.df=[]/\s1.fr 9=.seq 5 (ts.map cE)/\s1.fr 10=i64 ts.length/\s1.fr 11=i64 i/\s1.fr 5=.rp [i64 uk,.val (.bool um),i64 ur,i64 ue,.seq 1 (ua.map iD)]/\s1.H=s.H/\s1.fr 3=d3/\∃v,s1.fr 6=i64 v) ?_ ?_
 ·by_cases h3:uk=3
  case neg=>
   have q3:(uk=3)=False:=aI h3
   refine tq q3 ?_;intro Nx aB Gx aG
   exact⟨bG,f9,f10,f11,rfl,rfl,ZC.symm,_,rfl⟩
  have q3:(uk=3)=True:=aK h3
  by_cases h4:0<=ue
  case neg=>
   have q4:(0<=ue)=False:=aI h4
   refine tq (cZ q3 q4) ?_;intro Nx aB Gx aG
   exact⟨bG,f9,f10,f11,rfl,rfl,ZC.symm,_,rfl⟩
  have q4:(0<=ue)=True:=aK h4
  by_cases h5:ue<p.length
  ·obtain⟨c,o,v,h6,h7,h8⟩:=aJG ue ⟨h4,h5⟩
   have q5:(ue<(p.length:Int))=True:=aK h5
   have g3:s.fr 3=.os c o 1 0 p.length:=ZC.symm.trans h6
   refine tq (jA g3 q3 q4 q5 h7 h8) ?_;intro Nx aB Gx aG
   exact⟨bG,f9,f10,f11,rfl,rfl,ZC.symm,_,rfl⟩
  ·have q5:(ue<(p.length:Int))=False:=aI h5
   rcases hp3 with⟨h6,h7⟩|⟨c,o,h6,h7⟩
   ·have g3:s.fr 3=.val (.slice none 0 0):=ZC.symm.trans h7
    rw[h6] at q5
    simp only[mS,Int.natCast_zero] at q5
    refine tq (fJ g3 q3 q4 q5) ?_;intro Nx aB Gx aG
    exact⟨bG,f9,f10,f11,rfl,rfl,ZC.symm,_,rfl⟩
   ·have g3:s.fr 3=.os c o 1 0 p.length:=ZC.symm.trans h6
    refine tq (fJ g3 q3 q4 q5) ?_;intro Nx aB Gx aG
    exact⟨bG,f9,f10,f11,rfl,rfl,ZC.symm,_,rfl⟩
 rintro s1 ⟨lS,g9,g10,g11,g5,s6,g3,v,g6⟩
 refine tq (cZ g5 oV) ?_;intro Nx aB Gx aG
 refine bB ua.length (fun j s'=>s'.df=[]/\s'.fr 9=.seq 5 (ts.map cE)/\s'.fr 10=i64 ts.length/\s'.fr 11=i64 i/\s'.fr 38=.seq 1 (ua.map iD)/\s'.fr 39=i64 ua.length/\s'.fr 40=i64 j/\s'.H=s.H/\s'.fr 3=d3/\∃v,s'.fr 6=i64 v) ⟨lS,g9,g10,g11,rfl,rfl,rfl,s6,g3,v,g6⟩ ?_
 rintro j s2 hj ⟨mY,k9,k10,k11,k38,k39,k40,iW,k3,v2,k6⟩
 have hjx:=bL j
 have GP:=bY j
 have mO:H.le s2.H:=by rw[iW];exact aR
 by_cases kR:j<ua.length
 case neg=>
  have q2:=lF j ua.length (by omega)
  have NU:Gl H 3 1 (p.map iD) (s2.fr 3) s2.H ob:=by rw[k3,iW];exact hg
  refine tq (fJ k39 k40 k6 q2) ?_;intro Nx aB Gx aG
  refine cY (e:=3) sS rfl sS rfl ty3 rfl (by decide) mO NU (new:=[iD v2]) (by exact⟨rfl,rfl⟩) (by rw[bK];show(_+1) * 8<=_;omega) fun d H6 qL kK eJ _=>?_
  rw[show[iD v2]=[v2].map iD from rfl,<-fI] at kK
  refine tq (cZ k11 w3) ?_;intro Nx aB Gx aG
  exact⟨aZ,mY,k9,k10,rfl,eJ,_,qL,by rw[bJ];simp [IP],kK⟩
 have q2:=lT j ua.length (by omega)
 have AX:=dL kR
 have w4:=wS j (by omega)
 obtain⟨f,hfe⟩:∃f,f=ua[j]:=⟨_,rfl⟩
 rw[<-hfe] at AX
 (have fs:=And.intro k38 (And.intro k39 (And.intro k40 (And.intro q2 (And.intro AX (And.intro hjx (And.intro GP (And.intro kR oV)))))));(iterate 10 (first|refine aG _ ?_|refine aB _ ?_|refine cX ?_|refine cW ?_|refine eH ?_|refine cF ?_|refine cG ?_|refine cC ?_|refine bO ?_|((first|refine tS fun Nx aB=>?_|refine mE rfl rfl (by kernel_rfl) (by kernel_rfl) fun Gx aG=>?_|refine cD (by kernel_rfl) ?_|refine lJ fun A B vJ vK=>?_);refine yR ?_;(first|refine aG _ ?_|refine aB _ ?_|refine vJ ?_|refine vK ?_|skip))));(try clear fs))
 refine MK (fun s3=>s3.df=[]/\s3.fr 9=.seq 5 (ts.map cE)/\s3.fr 10=i64 ts.length/\s3.fr 11=i64 i/\s3.fr 38=.seq 1 (ua.map iD)/\s3.fr 39=i64 ua.length/\s3.fr 40=i64 j/\s3.H=s.H/\s3.fr 3=d3/\∃v,s3.fr 6=i64 v) ?_ ?_
 ·by_cases h4:0<=f
  case neg=>
   have q4:(0<=f)=False:=aI h4
   refine tq q4 ?_;intro Nx aB Gx aG
   exact⟨mY,k9,k10,k11,k38,k39,k40,iW,k3,v2,k6⟩
  have q4:(0<=f)=True:=aK h4
  by_cases h5:f<p.length
  ·obtain⟨c,o,v,h6,h7,h8⟩:=aJG f ⟨h4,h5⟩
   have q5:(f<(p.length:Int))=True:=aK h5
   have m3:s2.fr 3=.os c o 1 0 p.length:=k3.trans h6
   rw[<-iW] at h7
   refine tq (jA m3 k6 q4 q5 h7 h8) ?_;intro Nx aB Gx aG
   exact⟨mY,k9,k10,k11,k38,k39,k40,iW,k3,_,rfl⟩
  ·have q5:(f<(p.length:Int))=False:=aI h5
   rcases hp3 with⟨h6,h7⟩|⟨c,o,h6,h7⟩
   ·have m3:s2.fr 3=.val (.slice none 0 0):=k3.trans h7
    rw[h6] at q5
    simp only[mS,Int.natCast_zero] at q5
    refine tq (dZ m3 q4 q5) ?_;intro Nx aB Gx aG
    exact⟨mY,k9,k10,k11,k38,k39,k40,iW,k3,v2,k6⟩
   ·have m3:s2.fr 3=.os c o 1 0 p.length:=k3.trans h6
    refine tq (dZ m3 q4 q5) ?_;intro Nx aB Gx aG
    exact⟨mY,k9,k10,k11,k38,k39,k40,iW,k3,v2,k6⟩
 rintro s3 ⟨KD,m9,m10,m11,m38,m39,m40,SW,m3,v3,m6⟩
 have uU:H.le s3.H:=by rw[SW];exact aR
 by_cases F6:2000<v3
 ·have q5:(2000<v3)=True:=aK F6
  refine tq (cZ m6 q5) ?_;intro Nx aB Gx aG
  refine rt aC KD ?_
  exact⟨_,aE _,uU,_,aJ uU,_,rfl⟩
 ·have q5:(2000<v3)=False:=aI F6
  refine tq (fJ m6 m40 q5 w4) ?_;intro Nx aB Gx aG
  exact⟨kR,KD,m9,m10,m11,m38,m39,rfl,SW,m3,v3,m6⟩
theorem aFG (ts:List cQ) (H:aA) (sM:ts.length<=140737488351232) (nM:∀u∈ts,u.ar.length<=140737488351232):aT prog 52 [.seq 5 (ts.map cE)] H fun d H'=>(d=i64 1\/(d=i64 0/\rL ts<=200))/\H=H':=by
 refine bM (K:=fun d=>d=i64 1\/(d=i64 0/\rL ts<=200)) ?_
 have aR:=aE H
 refine aN _ _ func52 rfl rfl ntmps52 results52 (by simp) fun w0 g0 Q aC=>?_
 refine tq trivial ?_;intro Nx aB Gx aG
 refine(aBz ts _ sM nM).mono ?_
 rintro d _ ⟨rfl,rfl⟩
 by_cases hb:200<rL ts
 ·rw[aH hb]
  refine tq trivial ?_;intro Nx aB Gx aG
  refine rt aC trivial ?_
  exact⟨_,aE _,aR,_,aJ aR,.inl rfl⟩
 rw[aD hb]
 refine tq trivial ?_;intro Nx aB Gx aG
 have:=aFO ts
 refine(aFW ts _ (by omega) nM).mono ?_
 rintro d _ ⟨⟨b,rfl⟩,rfl⟩
 cases b with
 |true=>
  refine tq trivial ?_;intro Nx aB Gx aG
  refine rt aC trivial ?_
  exact⟨_,aE _,aR,_,aJ aR,.inl rfl⟩
 |false=>
  refine tq trivial ?_;intro Nx aB Gx aG
  refine rt aC trivial ?_
  exact⟨_,aE _,aR,_,aJ aR,.inr ⟨rfl,by omega⟩⟩
theorem G3 {l:List (Int×Int)} {b1 b2:Nat} {H H':aA} (h:uJ l b1 b2 H) (aR:H.le H'):uJ l b1 b2 H':=by
 obtain⟨m1,m2,h1,h2,h3,h4⟩:=h
 exact⟨m1,m2,aR _ _ h1,h2,aR _ _ h3,h4⟩
theorem OF {b:iF} {o:tE} (h:qS b o=0):(0<=o.k/\o.k<=4)/\(o.k<=1->(qI b o.pl).2=0):=by
 unfold qS at h
 split at h
 ·cases h
 ·rename_i h1
  refine⟨by omega,fun h2=>?_⟩
  split at h
  ·cases h
  ·split at h
   ·cases h
   ·split at h
    ·omega
    ·split at h
     ·rename_i h5;exact absurd h h5
     ·rename_i h5;exact kF h5
theorem EU {b:iF} (ck:Ck b) {p:pO} (h:(qI b p).2=0):dG b.ty.length (qI b p).1:=L9 ck.wt ck.wl h
theorem IU (b:iF) (n:Int) (b1 b2:Nat) (o:tE) (H:aA) (ck:Ck b) (hp:KM o) (hz:qS b o=0):aT prog 167 [.agg (xL b n b1 b2),.agg (jL o)] H fun d H'=>d=i64 (B6 b o)/\H=H':=by
 refine bM (K:=fun d=>d=i64 (B6 b o)) ?_
 have aR:=aE H
 have lG:=rS b n b1 b2 o.pl H ck hp
 obtain⟨hk5,mZ⟩:=OF hz
 obtain⟨y,hy⟩:∃y,y=B6 b o:=⟨_,rfl⟩
 rw[<-hy]
 unfold B6 at hy
 have jX:o.k<=1->dG b.ty.length (qI b o.pl).1:=fun h=>EU ck (mZ h)
 obtain⟨T,hT⟩:∃T,T=qI b o.pl:=⟨_,rfl⟩
 rw[<-hT] at hy lG jX
 have iX:=lm cE b.ty
 obtain⟨k,p,v⟩:=o
 simp only at hy hk5 jX
 clear hT mZ hz
 simp only[xL,iG,eT,fR,kT] at lG
 refine aN _ _ func167 rfl rfl ntmps167 results167 (by simp) fun w0 g0 Q aC=>?_
 simp only[xL,iG,eT,fR]
 refine tq @jL.eq_1 ?_;intro Nx aB Gx aG
 intro c2 pZ c3 mH
 refine aB _ ?_
 obtain⟨mJ,s5⟩:=bT.1 mH;refine bS 2 rfl ((aP mJ.symm).trans (aQ _ _ _)) rfl ?_;refine bS 3 rfl ((bP mJ).trans (aQ _ _ _)) rfl ?_;refine eZ _ (iL pZ s5) ?_;simp only[St.gU,List.drop]
 by_cases hk:k=2
 ·have k2:(k=2)=True:=aK hk
  have e:y=2:=hy.trans (aH hk)
  exact oz aC k2 aR e
 have k2:(k=2)=False:=aI hk
 rw[aD hk] at hy
 by_cases hk:k=3
 ·have k3:(k=3)=True:=aK hk
  have e:y=1:=hy.trans (aH hk)
  exact oz aC (cZ k2 k3) aR e
 have k3:(k=3)=False:=aI hk
 rw[aD hk] at hy
 by_cases hk:k=4
 ·have k4:(k=4)=True:=aK hk
  have e:y=0:=hy.trans (aH hk)
  exact oz aC (dZ k2 k3 k4) aR e
 have k4:(k=4)=False:=aI hk
 rw[aD hk] at hy
 have jX:=jX (by omega)
 have nY:=kC jX
 have yY:T.1.toNat<b.ty.length:=by unfold dG at jX;omega
 have B4:0<=T.1:=by unfold dG at jX;omega
 obtain⟨t,ht⟩:∃t,t=cJ b.ty T.1:=⟨_,rfl⟩
 rw[<-ht] at nY hy
 have e:=hy
 simp only[cE] at nY
 refine tq (dZ k2 k3 k4) ?_;intro Nx aB Gx aG
 refine lG.mono ?_
 rintro d _ ⟨rfl,rfl⟩
 exact oz aC (fJ nY yY B4 iX) aR e
theorem aG9 (b:iF) (n:Int) (b1 b2:Nat) (o:tE) (t:Int) (H:aA) (ck:Ck b) (hn:n=b.rg.length) (hR:uJ b.ol b1 b2 H) (hp:KM o) (hz:qS b o=0) (ht:dG b.ty.length t):aT prog 256 [.agg (xL b n b1 b2),.agg (jL o),i64 t] H fun d H'=>d=.val (.bool (uB b o t))/\H=H':=by
 subst hn
 refine bM (K:=fun d=>d=.val (.bool (uB b o t))) ?_
 have aR:=aE H
 have lG:=rS b b.rg.length b1 b2 o.pl H ck hp
 have QV:∀H1,dY prog 167 [.agg (xL b b.rg.length b1 b2),.agg (jL o)] H1 fun d A=>A=aA.none/\d=i64 (B6 b o):=fun H1=>bN fun eL eO=>IU b b.rg.length b1 b2 o eL ck hp hz
 have IQ:=fun a c=>aJf b.ol b.rg.length b.ty b1 b2 H ck.wt ck.ol (by have:=ck.rgl;omega) ck.oll ck.tl ck.ar.fC hR a c
 obtain⟨hk5,mZ⟩:=OF hz
 obtain⟨y,hy⟩:∃y,y=uB b o t:=⟨_,rfl⟩
 rw[<-hy]
 unfold uB at hy
 obtain⟨T,hT⟩:∃T,T=qI b o.pl:=⟨_,rfl⟩
 obtain⟨kd,QW⟩:∃kd,kd=B6 b o:=⟨_,rfl⟩
 rw[<-hT] at hy lG
 rw[<-QW] at hy QV
 have nY:=kC ht
 have yY:t.toNat<b.ty.length:=by unfold dG at ht;omega
 have B4:0<=t:=by unfold dG at ht;omega
 obtain⟨u,hu⟩:∃u,u=cJ b.ty t:=⟨_,rfl⟩
 rw[<-hu] at nY hy
 have iX:=lm cE b.ty
 obtain⟨k,p,v⟩:=o
 simp only at hy hk5
 clear hT mZ hz QW hu
 simp only[cE] at nY
 simp only[xL,iG,eT,fR,kT] at lG
 simp only[xL,iG,jL,eT,fR] at QV
 refine aN _ _ func256 rfl rfl ntmps256 results256 (by simp) fun w0 g0 Q aC=>?_
 simp only[xL,iG,eT,fR]
 refine tq @jL.eq_1 ?_;intro Nx aB Gx aG
 intro c3 mH c4 wQ
 refine aB _ ?_
 obtain⟨mJ,s5⟩:=bT.1 wQ;refine bS 3 rfl ((aP mJ.symm).trans (aQ _ _ _)) rfl ?_;refine bS 4 rfl ((bP mJ).trans (aQ _ _ _)) rfl ?_;refine eZ _ (iL mH s5) ?_;simp only[St.gU,List.drop]
 by_cases hk:1<k
 ·have k0:(k=0)=False:=aI (by omega)
  have k1:(k=1)=False:=aI (by omega)
  have e:=hy.trans (aH hk)
  refine tq (cZ k0 k1) ?_;intro Nx aB Gx aG
  refine dE (fun _ _ d A=>A=.none/\d=i64 kd) fun Nx aB=>?_;refine dst (fJ nY yY B4 iX) ?_;intro Nx aB Gx aG
  refine⟨QV _,?_⟩
  refine dst trivial ?_;intro Nx aB Gx aG
  exact oz aC k0 aR e
 have e:=hy.trans (aD hk)
 by_cases yW:k=0
 ·have k0:(k=0)=True:=aK yW
  refine tq k0 ?_;intro Nx aB Gx aG
  refine lG.mono ?_
  rintro d _ ⟨rfl,rfl⟩
  refine tq trivial ?_;intro Nx aB Gx aG
  refine(IQ _ _).mono ?_
  rintro d _ ⟨rfl,rfl⟩
  exact oz aC k0 aR e
 ·have k0:(k=0)=False:=aI yW
  have k1:(k=1)=True:=aK (by omega)
  refine tq (cZ k0 k1) ?_;intro Nx aB Gx aG
  refine lG.mono ?_
  rintro d _ ⟨rfl,rfl⟩
  refine tq trivial ?_;intro Nx aB Gx aG
  refine(IQ _ _).mono ?_
  rintro d _ ⟨rfl,rfl⟩
  exact oz aC k0 aR e
theorem yB {l:List tE} {i:Nat} (h:i<l.length):(l.map jL)[i]?=some (jL l[i]):=by
 rw[cR,cP h];rfl
theorem vP (b:iF) (n:Int) (b1 b2:Nat) (l:List tE) (fs:List Int) (H:aA) (ck:Ck b) (hn:n=b.rg.length) (hR:uJ b.ol b1 b2 H) (hl:fC l.length) (hp:∀o∈l,KM o) (kQ:fC fs.length) (hfs:∀f∈fs,dG b.ty.length f):aT prog 168 [.agg (xL b n b1 b2),.seq 4 (l.map jL),.seq 1 (fs.map iD)] H fun d H'=>d=i64 (fX b l fs)/\H=H':=by
 refine bM (K:=fun d=>d=i64 (fX b l fs)) ?_
 have cI:=lm jL l
 have hmf:=lm iD fs
 unfold fC at hl kQ
 obtain⟨CK,hCK⟩:∃CK,CK=xL b n b1 b2:=⟨_,rfl⟩
 have aGc:CK=[bX b.nm,.seq 1 (b.rg.map sD),.seq 2 (b.ol.map pD),.seq 5 (b.ty.map cE),.seq 2 (b.lc.map lI),i64 b.ag,.seq 7 (b.bl.map rE),iM n b1 b2]:=hCK
 rw[<-hCK,aGc]
 refine aN _ _ func168 rfl rfl ntmps168 results168 (by simp) fun w0 g0 Q aC=>?_
 refine tq trivial ?_;intro Nx aB Gx aG
 intro c3 mH
 refine aB _ ?_
 refine fW 3 mH ?_
 refine tq cI ?_;intro Nx aB Gx aG
 refine bB l.length (fun i s=>s.df=[]/\s.fr 2=.seq 1 (fs.map iD)/\s.fr 3=.rp [bX b.nm,.seq 1 (b.rg.map sD),.seq 2 (b.ol.map pD),.seq 5 (b.ty.map cE),.seq 2 (b.lc.map lI),i64 b.ag,.seq 7 (b.bl.map rE),iM n b1 b2]/\s.fr 10=.seq 4 (l.map jL)/\s.fr 11=i64 l.length/\s.fr 12=i64 i/\s.H=H/\fX b l fs=fX b (l.drop i) (fs.drop i)) ⟨rfl,rfl,rfl,rfl,rfl,rfl,rfl,rfl⟩ ?_
 rintro i s hi ⟨bG,f2,f3,f10,f11,f12,hH,ha⟩
 have hx:=bL i
 have cL:=bY i
 have aX:H.le s.H:=by rw[hH];exact aE _
 by_cases aZ:i<l.length
 case neg=>
  have q6:=lF i l.length (by omega)
  rw[dX (by omega)] at ha
  refine tq (dZ f11 f12 q6) ?_;intro Nx aB Gx aG
  refine rt aC bG ?_
  exact⟨_,aE _,aX,_,aJ aX,by rw[ha] <;> rfl⟩
 have cN:(i:Int)<(l.length:Int):=by omega
 have q6:((i:Int)<(l.length:Int))=True:=aK cN
 have w3:=wS i (by omega)
 have b8:=yB aZ
 have hpi:=hp l[i] (bZ aZ)
 rw[dI aZ] at ha
 obtain⟨o,ho⟩:∃o,o=l[i]:=⟨_,rfl⟩
 rw[<-ho] at b8 ha hpi
 have tA:=LV b n b1 b2 o s.H ck hpi
 rw[<-hCK,aGc] at tA
 simp only[jL] at b8 tA
 obtain⟨r,hr⟩:∃r,r=qS b o:=⟨_,rfl⟩
 have oF:fX b (o::l.drop (i+1)) (fs.drop i)=if r≠0 then r else match fs.drop i with
  |[]=>fX b (l.drop (i+1)) []
  |f::fs=>if uB b o f=false then 22 else fX b (l.drop (i+1)) fs:=by rw[hr];rfl
 rw[oF] at ha
 clear oF
 rw[<-hr] at tA
 refine tq (rF f10 f11 f12 cI q6 b8 hx cL aZ cN) ?_;intro Nx aB Gx aG
 intro c8 NS
 refine aB _ ?_
 refine fW 8 NS ?_
 refine tq f3 ?_;intro Nx aB Gx aG
 refine tA.mono ?_
 rintro d _ ⟨rfl,rfl⟩
 by_cases h0:r=0
 case neg=>
  have q7:(r=0)=False:=aI h0
  rw[aH h0] at ha
  refine tq q7 ?_;intro Nx aB Gx aG
  refine rt aC bG ?_
  exact⟨_,aE _,aX,_,aJ aX,by rw[ha] <;> rfl⟩
 have q7:(r=0)=True:=aK h0
 rw[aD (fun h=>h h0)] at ha
 by_cases hif:i<fs.length
 case neg=>
  have q8:=lF i fs.length (by omega)
  rw[dX (by omega:fs.length<=i)] at ha
  simp only at ha
  refine tq q7 ?_;intro Nx aB Gx aG
  refine dE (fun _ _ _ _=>False) fun Nx aB=>?_;refine dst (dZ f2 q8 hmf) ?_;intro Nx aB Gx aG
  refine tq (cZ f12 w3) ?_;intro Nx aB Gx aG
  exact⟨aZ,bG,f2,f3,f10,f11,rfl,hH,by rw[ha,dX (by omega:fs.length<=i+1)]⟩
 have q8:=lT i fs.length (by omega)
 have hgf:=dL hif
 have NT:=hfs fs[i] (bZ hif)
 rw[dI hif] at ha
 simp only at ha
 obtain⟨f,hf⟩:∃f,f=fs[i]:=⟨_,rfl⟩
 rw[<-hf] at hgf NT ha
 have dK:∀H1,H1=H->dY prog 256 [.agg CK,.agg (jL o),i64 f] H1 fun d A=>A=aA.none/\d=.val (.bool (uB b o f)):=fun H1 s6=>bN fun eL eO=>by
  rw[hCK]
  exact aG9 b n b1 b2 o f eL ck hn (G3 hR (by rw[<-s6];exact eO)) hpi (hr.symm.trans h0) NT
 rw[aGc] at dK
 simp only[jL] at dK
 obtain⟨z,hz⟩:∃z,z=uB b o f:=⟨_,rfl⟩
 rw[<-hz] at dK ha
 refine tq q7 ?_;intro Nx aB Gx aG
 refine dE (fun _ _ d A=>A=.none/\d=.val (.bool z)) fun Nx aB=>?_;refine dst (qN f2 f3 q8 hmf hgf hx cL hif) ?_;intro Nx aB Gx aG
 refine⟨dK _ hH,?_⟩
 cases z
 ·rw[aH rfl] at ha
  refine aG _ ?_
  refine dst trivial ?_;intro Nx aB Gx aG
  refine tq trivial ?_;intro Nx aB Gx aG
  refine rt aC bG ?_
  exact⟨_,aE _,aX,_,aJ aX,by rw[ha] <;> rfl⟩
 ·rw[aD (fun h=>by cases h)] at ha
  refine aG _ ?_
  refine dst trivial ?_;intro Nx aB Gx aG
  refine tq (cZ f12 w3) ?_;intro Nx aB Gx aG
  exact⟨aZ,bG,f2,f3,f10,f11,rfl,hH,ha⟩
theorem xM (b:iF) (n:Int) (b1 b2:Nat):xL b n b1 b2=[bX b.nm,.seq 1 (b.rg.map sD),.seq 2 (b.ol.map pD),.seq 5 (b.ty.map cE),.seq 2 (b.lc.map lI),i64 b.ag,.seq 7 (b.bl.map rE),iM n b1 b2]:=rfl
theorem C2 {b:iF}:∀{l:List tE},fX b l []=0->∀o∈l,qS b o=0
 |[],_,o,h=>by cases h
 |y::l,h,o,ho=>by
  have h1:fX b (y::l) []=if qS b y≠0 then qS b y else fX b l []:=rfl
  rw[h1] at h
  by_cases h2:qS b y=0
  ·rw[aD (fun k=>k h2)] at h
   rcases eG.1 ho with rfl|ho
   ·exact h2
   ·exact C2 h o ho
  ·rw[aH h2] at h;exact absurd h h2
theorem FO (b:iF) (n:Int) (b1 b2:Nat) (r:HN) (t:Int) (tb:List (Int×Int)) (H:aA) (ck:Ck b) (hn:n=b.rg.length) (hR:uJ b.ol b1 b2 H) (hp:KN r) (ht:dG b.ty.length t) (htb:tb.length<=6):aT prog 253 [.agg (xL b n b1 b2),.agg (GF r),i64 t,.seq 2 (tb.map pD)] H fun d H'=>d=i64 (yC b r t tb.length (tb.getD r.op.toNat (1,0)))/\H=H':=by
 refine bM (K:=fun d=>d=i64 (yC b r t tb.length (tb.getD r.op.toNat (1,0)))) ?_
 obtain⟨IP,nM,hao⟩:=hp
 have aR:=aE H
 have KH:=(vP b n b1 b2 r.ar [] H ck hn hR nM hao (by unfold fC;simp) (fun f hf=>by cases hf)).imp (ds:=[.agg (xL b n b1 b2),.seq 4 (r.ar.map jL),.val (.slice none 0 0)]) ⟨oG _,oG _,kZ,trivial⟩
 have QV:∀o∈r.ar,qS b o=0->∀H1,dY prog 167 [.agg (xL b n b1 b2),.agg (jL o)] H1 fun d A=>A=aA.none/\d=i64 (B6 b o):=fun o ho hz H1=>bN fun eL eO=>IU b n b1 b2 o eL ck (hao o ho) hz
 have SX:∀x H1,dY prog 166 [.val (.bool x)] H1 fun d A=>A=aA.none/\d=i64 (if x=true then 22 else 0):=fun x H1=>bN fun eL eO=>uP x eL
 rw[xM] at KH QV ⊢
 have cI:=lm jL r.ar
 have iX:=lm cE b.ty
 have CT:=lm pD tb
 obtain⟨y,hy⟩:∃y,y=yC b r t tb.length (tb.getD r.op.toNat (1,0)):=⟨_,rfl⟩
 rw[<-hy]
 unfold yC at hy
 have nY:=kC ht
 have yY:t.toNat<b.ty.length:=by unfold dG at ht;omega
 have B4:0<=t:=by unfold dG at ht;omega
 obtain⟨u,hu⟩:∃u,u=cJ b.ty t:=⟨_,rfl⟩
 rw[<-hu] at nY hy
 simp only[cE] at nY
 obtain⟨E,hE⟩:∃E,E=fX b r.ar []:=⟨_,rfl⟩
 rw[<-hE] at KH hy
 unfold fC at nM
 refine aN _ _ func253 rfl rfl ntmps253 results253 (by simp) fun w0 g0 Q aC=>?_
 refine tq @GF.eq_1 ?_;intro Nx aB Gx aG
 intro c4 wQ c5 pT
 refine aB _ ?_
 obtain⟨mJ,s5⟩:=bT.1 pT;refine bS 4 rfl ((aP mJ.symm).trans (aQ _ _ _)) rfl ?_;refine bS 5 rfl ((bP mJ).trans (aQ _ _ _)) rfl ?_;refine eZ _ (iL wQ s5) ?_;simp only[St.gU,List.drop]
 by_cases h1:r.op<0
 ·have q1:(r.op<0)=True:=aK h1
  have e:y=14:=hy.trans (aH (.inl h1))
  exact oz aC q1 aR e
 have q1:(r.op<0)=False:=aI h1
 by_cases h2:(tb.length:Int)<=r.op
 ·have q2:(r.op≥(tb.length:Int))=True:=aK h2
  have e:y=14:=hy.trans (aH (.inr h2))
  exact oz aC (dZ q1 q2 CT) aR e
 have q2:(r.op≥(tb.length:Int))=False:=aI h2
 rw[aD (by omega)] at hy
 refine tq (dZ q1 q2 CT) ?_;intro Nx aB Gx aG
 refine KH.mono ?_
 rintro d _ ⟨rfl,rfl⟩
 by_cases h3:E=0
 case neg=>
  have q3:(E=0)=False:=aI h3
  have e:y=E:=hy.trans (aH h3)
  exact oz aC q3 aR e
 have q3:(E=0)=True:=aK h3
 rw[aD (fun h=>h h3)] at hy
 have eW:=C2 (hE.symm.trans h3)
 have rU:r.op.toNat<tb.length:=by omega
 have WC:=aCU rU
 have ho0:0<=r.op:=by omega
 have hpb:tb.getD r.op.toNat (1,0)=tb.getD r.op.toNat (1,0):=rfl
 obtain⟨x,hx0⟩:∃x,x=tb.getD r.op.toNat (1,0):=⟨_,rfl⟩
 rw[<-hx0] at WC hy
 refine tq (gE q3 WC rU ho0 CT) ?_;intro Nx aB Gx aG
 intro c10 NP
 refine aB _ ?_
 refine fW 10 NP ?_
 refine tq cI ?_;intro Nx aB Gx aG
 refine bB r.ar.length (fun i s=>s.df=[]/\s.fr 2=i64 t/\s.fr 4=.rp [bX b.nm,.seq 1 (b.rg.map sD),.seq 2 (b.ol.map pD),.seq 5 (b.ty.map cE),.seq 2 (b.lc.map lI),i64 b.ag,.seq 7 (b.bl.map rE),iM n b1 b2]/\s.fr 10=.rp [i64 x.1,i64 x.2]/\s.fr 36=.seq 4 (r.ar.map jL)/\s.fr 37=i64 r.ar.length/\s.fr 38=i64 i/\s.H=H/\(r.ar.all fun o=>decide (B6 b o=x.1))=((r.ar.drop i).all fun o=>decide (B6 b o=x.1))) ⟨rfl,rfl,rfl,rfl,rfl,rfl,rfl,rfl,rfl⟩ ?_
 rintro i s hi ⟨bG,f2,f4,f10,f36,f37,f38,hH,ha⟩
 have hx:=bL i
 have cL:=bY i
 have aX:H.le s.H:=by rw[hH];exact aE _
 by_cases aZ:i<r.ar.length
 case neg=>
  have q6:=lF i r.ar.length (by omega)
  rw[dX (by omega),oS] at ha
  rw[ha,aD (fun h=>by cases h)] at hy
  refine tq (dZ f37 f38 q6) ?_;intro Nx aB Gx aG
  by_cases h7:u.k=x.2
  ·have q7:(u.k=x.2)=True:=aK h7
   rw[aD (fun h=>h h7)] at hy
   refine dE (fun _ _ d A=>A=.none/\d=i64 0) fun Nx aB=>?_;refine dst (qN f2 f4 f10 nY yY B4 iX q7) ?_;intro Nx aB Gx aG
   refine⟨SX _ _,?_⟩
   refine aB _ ?_
   refine tq trivial ?_;intro Nx aB Gx aG
   refine rt aC bG ?_
   exact⟨_,aE _,aX,_,aJ aX,by rw[hy] <;> rfl⟩
  ·have q7:(u.k=x.2)=False:=aI h7
   rw[aH h7] at hy
   refine dE (fun _ _ d A=>A=.none/\d=i64 22) fun Nx aB=>?_;refine dst (qN f2 f4 f10 nY yY B4 iX q7) ?_;intro Nx aB Gx aG
   refine⟨SX _ _,?_⟩
   refine aB _ ?_
   refine tq trivial ?_;intro Nx aB Gx aG
   refine rt aC bG ?_
   exact⟨_,aE _,aX,_,aJ aX,by rw[hy] <;> rfl⟩
 have cN:(i:Int)<(r.ar.length:Int):=by omega
 have q6:((i:Int)<(r.ar.length:Int))=True:=aK cN
 have w3:=wS i (by omega)
 have b8:=yB aZ
 have dK:=QV r.ar[i] (bZ aZ) (eW _ (bZ aZ)) s.H
 rw[dI aZ,l8] at ha
 obtain⟨o,ho⟩:∃o,o=r.ar[i]:=⟨_,rfl⟩
 rw[<-ho] at b8 ha dK
 obtain⟨K,hK⟩:∃K,K=B6 b o:=⟨_,rfl⟩
 rw[<-hK] at ha dK
 simp only[jL] at b8 dK
 refine tq (rF f36 f37 f38 cI q6 b8 hx cL aZ cN) ?_;intro Nx aB Gx aG
 intro c12 aGj
 refine aB _ ?_
 refine fW 12 aGj ?_
 refine bO ?_
 refine dE (fun _ _ d A=>A=.none/\d=i64 K) fun Nx aB=>?_;refine dst (cZ f4 f10) ?_;intro Nx aB Gx aG
 refine⟨dK,?_⟩
 by_cases h7:K=x.1
 ·have q7:(K=x.1)=True:=aK h7
  rw[bF h7,cT] at ha
  refine dst q7 ?_;intro Nx aB Gx aG
  refine tq (dZ f38 w3 q7) ?_;intro Nx aB Gx aG
  exact⟨aZ,bG,f2,f4,f10,f36,f37,rfl,hH,ha⟩
 ·have q7:(K=x.1)=False:=aI h7
  rw[bC h7,fS] at ha
  rw[ha,aH rfl] at hy
  refine dst q7 ?_;intro Nx aB Gx aG
  refine tq q7 ?_;intro Nx aB Gx aG
  refine rt aC bG ?_
  exact⟨_,aE _,aX,_,aJ aX,by rw[hy] <;> rfl⟩
def Z0 (r:HN):Bool:=(decide (r.rg=0)&& !r.mu)&&eV r.pl
theorem XC (r:HN):KQ r=if r.k=1 then decide (r.op=0)&&decide (r.ar.length=0) else Z0 r&&(if r.k=0 then decide (r.op=0)&&decide (r.ar.length=1) else if r.k=2 then decide (r.ar.length=1) else if r.k=3 then decide (r.ar.length=2) else decide (r.op=0)):=rfl
def UnM (r:HN) (H:aA) (s:St):Prop:=s.df=[]/\s.fr 1=.rp (GF r)/\s.fr 3=.val (.bool (Z0 r))/\s.H=H
theorem aCt (r:HN) (H:aA) (hp:KN r):aT prog 251 [.agg (GF r)] H fun d H'=>d=.val (.bool (KQ r))/\H=H':=by
 refine bM (K:=fun d=>d=.val (.bool (KQ r))) ?_
 have GS:=JV r.pl H hp.1
 have nM:=hp.2.1
 unfold fC at nM
 have cI:=lm jL r.ar
 have xA:=XC r
 obtain⟨y,hy⟩:∃y,y=KQ r:=⟨_,rfl⟩
 rw[<-hy] at xA ⊢
 have hM:∀s,UnM r H s↔(s.df=[]/\s.fr 1=.rp (GF r)/\s.fr 3=.val (.bool (Z0 r))/\s.H=H):=fun s=>Iff.rfl
 have IP:Z0 r=((decide (r.rg=0)&& !r.mu)&&eV r.pl):=rfl
 obtain⟨P,hP⟩:∃P,P=Z0 r:=⟨_,rfl⟩
 rw[<-hP] at xA IP
 simp only[<-hP] at hM
 obtain⟨M,hMM⟩:∃M,M=UnM r H:=⟨_,rfl⟩
 rw[<-hMM] at hM
 clear hP hMM hy
 obtain⟨k,op,rg,mu,pl,ar⟩:=r
 simp only[GF] at hM ⊢
 simp only at xA IP GS nM cI
 simp only[kT] at GS
 refine aN _ _ func251 rfl rfl ntmps251 results251 (by simp) fun w0 g0 Q aC=>?_
 refine tq trivial ?_;intro Nx aB Gx aG
 intro c1 l9
 refine aB _ ?_
 refine fW 1 l9 ?_
 refine bO ?_
 refine MK M ?_ ?_
 ·by_cases h1:rg=0
  case neg=>
   have q1:(rg=0)=False:=aI h1
   have e:P=false:=IP.trans (by rw[bC h1,fS,fS])
   refine tq q1 ?_;intro Nx aB Gx aG
   exact(hM _).2 ⟨rfl,rfl,by rw[e] <;> rfl,rfl⟩
  have q1:(rg=0)=True:=aK h1
  cases mu
  ·have e:P=eV pl:=IP.trans (by rw[bF h1] <;> rfl)
   refine tq q1 ?_;intro Nx aB Gx aG
   refine GS.mono ?_
   rintro d _ ⟨rfl,rfl⟩
   cases hz:eV pl
   ·rw[hz] at e
    refine tq trivial ?_;intro Nx aB Gx aG
    exact(hM _).2 ⟨rfl,rfl,by rw[e] <;> rfl,rfl⟩
   ·rw[hz] at e
    refine tq trivial ?_;intro Nx aB Gx aG
    exact(hM _).2 ⟨rfl,rfl,by rw[e] <;> rfl,rfl⟩
  ·have e:P=false:=IP.trans (by rw[bF h1] <;> rfl)
   refine tq q1 ?_;intro Nx aB Gx aG
   exact(hM _).2 ⟨rfl,rfl,by rw[e] <;> rfl,rfl⟩
 intro s hs
 obtain⟨bG,f1,f3,hH⟩:=(hM s).1 hs
 have aX:H.le s.H:=by rw[hH];exact aE _
 by_cases hk:k=0
 ·have k0:(k=0)=True:=aK hk
  rw[aD (by omega),aH hk] at xA
  cases P
  ·rw[fS] at xA
   have e:=xA
   exact oz aC (dZ f1 f3 k0) aX e
  rw[cT] at xA
  by_cases h1:op=0
  case neg=>
   have q1:(op=0)=False:=aI h1
   have e:y=false:=xA.trans (by rw[bC h1,fS])
   exact oz aC (fJ f1 f3 k0 q1) aX e
  have q1:(op=0)=True:=aK h1
  by_cases h2:ar.length=1
  ·have q2:((ar.length:Int)=1)=True:=aK (by omega)
   have e:y=true:=xA.trans (by rw[bF h1,bF h2] <;> rfl)
   exact oz aC (jA f1 f3 k0 q1 q2 cI) aX e
  ·have q2:((ar.length:Int)=1)=False:=aI (by omega)
   have e:y=false:=xA.trans (by rw[bC h2,kH])
   exact oz aC (jA f1 f3 k0 q1 q2 cI) aX e
 have k0:(k=0)=False:=aI hk
 by_cases mZ:k=1
 ·have k1:(k=1)=True:=aK mZ
  rw[aH mZ] at xA
  by_cases h1:op=0
  case neg=>
   have q1:(op=0)=False:=aI h1
   have e:y=false:=xA.trans (by rw[bC h1,fS])
   exact oz aC (gE f1 f3 k0 k1 q1) aX e
  have q1:(op=0)=True:=aK h1
  by_cases h2:ar.length=0
  ·have q2:((ar.length:Int)=0)=True:=aK (by omega)
   have e:y=true:=xA.trans (by rw[bF h1,bF h2] <;> rfl)
   exact oz aC (lM f1 f3 k0 k1 q1 q2 cI) aX e
  ·have q2:((ar.length:Int)=0)=False:=aI (by omega)
   have e:y=false:=xA.trans (by rw[bC h2,kH])
   exact oz aC (lM f1 f3 k0 k1 q1 q2 cI) aX e
 have k1:(k=1)=False:=aI mZ
 rw[aD mZ,aD hk] at xA
 by_cases iQ:k=2
 ·have k2:(k=2)=True:=aK iQ
  rw[aH iQ] at xA
  cases P
  ·have e:y=false:=xA
   exact oz aC (gE f1 f3 k0 k1 k2) aX e
  by_cases h2:ar.length=1
  ·have q2:((ar.length:Int)=1)=True:=aK (by omega)
   have e:y=true:=xA.trans (by rw[bF h2] <;> rfl)
   exact oz aC (lM f1 f3 k0 k1 k2 q2 cI) aX e
  ·have q2:((ar.length:Int)=1)=False:=aI (by omega)
   have e:y=false:=xA.trans (by rw[bC h2] <;> rfl)
   exact oz aC (lM f1 f3 k0 k1 k2 q2 cI) aX e
 have k2:(k=2)=False:=aI iQ
 rw[aD iQ] at xA
 by_cases s9:k=3
 ·have k3:(k=3)=True:=aK s9
  rw[aH s9] at xA
  cases P
  ·have e:y=false:=xA
   exact oz aC (jA f1 f3 k0 k1 k2 k3) aX e
  by_cases h2:ar.length=2
  ·have q2:((ar.length:Int)=2)=True:=aK (by omega)
   have e:y=true:=xA.trans (by rw[bF h2] <;> rfl)
   exact oz aC (qN f1 f3 k0 k1 k2 k3 q2 cI) aX e
  ·have q2:((ar.length:Int)=2)=False:=aI (by omega)
   have e:y=false:=xA.trans (by rw[bC h2] <;> rfl)
   exact oz aC (qN f1 f3 k0 k1 k2 k3 q2 cI) aX e
 have k3:(k=3)=False:=aI s9
 rw[aD s9] at xA
 cases P
 ·have e:y=false:=xA
  exact oz aC (jA f1 f3 k0 k1 k2 k3) aX e
 by_cases h1:op=0
 ·have q1:(op=0)=True:=aK h1
  have e:y=true:=xA.trans (by rw[bF h1] <;> rfl)
  exact oz aC (lM f1 f3 k0 k1 k2 k3 q1) aX e
 ·have q1:(op=0)=False:=aI h1
  have e:y=false:=xA.trans (by rw[bC h1] <;> rfl)
  exact oz aC (lM f1 f3 k0 k1 k2 k3 q1) aX e
theorem IH (a c:Int) (H:aA):aT prog 156 [.seq 1 [[i64 a],[i64 c]]] H fun d H'=>d=i64 (if a≠0 then a else c)/\H=H':=by
 have h:=VY [a,c] H (by unfold fC;simp)
 have e:D5 [a,c]=if a≠0 then a else c:=by
  simp only[D5]
  split
  ·rfl
  ·by_cases h:c=0 <;> simp [h]
 rw[e] at h
 exact h
theorem JT (b:iF) (n:Int) (b1 b2:Nat) (p:pO) (H:aA) (ck:Ck b) (hp:fC p.pr.length):aT prog 162 [.agg (xL b n b1 b2),.agg (kT p)] H fun d H'=>d=.fV [i64 (qI b p).1,i64 (DC b p)]/\H=H':=by
 refine bM (K:=fun d=>d=.fV [i64 (qI b p).1,i64 (DC b p)]) ?_
 have aR:=aE H
 have lG:=rS b n b1 b2 p H ck hp
 have wR:=aFg b.ty b.lc p H ck.wt ck.wl ck.ar hp
 have SX:=fun x=>uP x H
 have NT:=fun a c=>IH a c H
 rw[xM] at lG ⊢
 obtain⟨y,hy⟩:∃y,y=DC b p:=⟨_,rfl⟩
 rw[<-hy]
 unfold DC at hy
 obtain⟨T,hT⟩:∃T,T=qI b p:=⟨_,rfl⟩
 rw[<-hT] at hy lG ⊢
 clear hT
 simp only[kT] at lG wR
 refine aN _ _ func162 rfl rfl ntmps162 results162 (by simp) fun w0 g0 Q aC=>?_
 refine tq @kT.eq_1 ?_;intro Nx aB Gx aG
 intro c2 pZ c3 mH
 refine aB _ ?_
 obtain⟨mJ,s5⟩:=bT.1 mH;refine bS 2 rfl ((aP mJ.symm).trans (aQ _ _ _)) rfl ?_;refine bS 3 rfl ((bP mJ).trans (aQ _ _ _)) rfl ?_;refine eZ _ (iL pZ s5) ?_;simp only[St.gU,List.drop]
 refine tq trivial ?_;intro Nx aB Gx aG
 refine lG.mono ?_
 rintro d _ ⟨rfl,rfl⟩
 by_cases h1:T.2=0
 ·have q1:(T.2=0)=True:=aK h1
  rw[aD (fun h=>h h1)] at hy
  refine tq q1 ?_;intro Nx aB Gx aG
  refine wR.mono ?_
  rintro d _ ⟨rfl,rfl⟩
  have e:y=if (!sP b.ty b.lc p)=true then 22 else 0:=by rw[hy];cases sP b.ty b.lc p <;> rfl
  obtain⟨z,hz⟩:∃z,z=sP b.ty b.lc p:=⟨_,rfl⟩
  rw[<-hz] at e ⊢
  clear hz hy
  cases z
  ·refine tq trivial ?_;intro Nx aB Gx aG
   refine(SX _).mono ?_
   rintro d _ ⟨rfl,rfl⟩
   refine tq trivial ?_;intro Nx aB Gx aG
   refine(NT _ _).mono ?_
   rintro d _ ⟨rfl,rfl⟩
   refine tq q1 ?_;intro Nx aB Gx aG
   refine rt aC trivial ?_
   exact⟨_,aE _,aR,_,aJ aR,by rw[e] <;> rfl⟩
  ·refine tq trivial ?_;intro Nx aB Gx aG
   refine(SX _).mono ?_
   rintro d _ ⟨rfl,rfl⟩
   refine tq trivial ?_;intro Nx aB Gx aG
   refine(NT _ _).mono ?_
   rintro d _ ⟨rfl,rfl⟩
   refine tq q1 ?_;intro Nx aB Gx aG
   refine rt aC trivial ?_
   exact⟨_,aE _,aR,_,aJ aR,by rw[e] <;> rfl⟩
 ·have q1:(T.2=0)=False:=aI h1
  have e:y=T.2:=hy.trans (aH h1)
  refine tq q1 ?_;intro Nx aB Gx aG
  refine(SX _).mono ?_
  rintro d _ ⟨rfl,rfl⟩
  refine tq trivial ?_;intro Nx aB Gx aG
  refine(NT _ _).mono ?_
  rintro d _ ⟨rfl,rfl⟩
  refine tq q1 ?_;intro Nx aB Gx aG
  refine rt aC trivial ?_
  exact⟨_,aE _,aR,_,aJ aR,by rw[e]⟩
theorem aA7 (b:iF) (n:Int) (b1 b2:Nat) (r:HN) (t:Int) (H:aA) (ck:Ck b) (hn:n=b.rg.length) (hR:uJ b.ol b1 b2 H) (hp:KN r) (ht:dG b.ty.length t):aT prog 252 [.agg (xL b n b1 b2),.agg (GF r),i64 t] H fun d H'=>d=i64 (J9 b r t)/\H=H':=by
 subst hn
 refine bM (K:=fun d=>d=i64 (J9 b r t)) ?_
 have aR:=aE H
 have lG:=rS b b.rg.length b1 b2 r.pl H ck hp.1
 have wR:=aFg b.ty b.lc r.pl H ck.wt ck.wl ck.ar hp.1
 have Q6:=aHl b.ty b.lc r.pl H ck.wt ck.wl ck.ar hp.1
 have hou:=fun q=>aCP b.ol b.rg.length q r.rg b1 b2 H hR ck.ol (by have:=ck.rgl;omega) ck.oll
 have ZG:(EO b.ty b.lc r.pl).length<=32:=by
  have:=rX b.ty b.lc r.pl
  unfold EO;rw[bK];exact this
 rw[xM] at lG ⊢
 have CU:=lm sD b.rg
 have iX:=lm cE b.ty
 obtain⟨y,hy⟩:∃y,y=J9 b r t:=⟨_,rfl⟩
 rw[<-hy]
 unfold J9 at hy
 have nY:=kC ht
 have yY:t.toNat<b.ty.length:=by unfold dG at ht;omega
 have B4:0<=t:=by unfold dG at ht;omega
 obtain⟨u,hu⟩:∃u,u=cJ b.ty t:=⟨_,rfl⟩
 obtain⟨T,hT⟩:∃T,T=qI b r.pl:=⟨_,rfl⟩
 obtain⟨R,hRR⟩:∃R,R=EO b.ty b.lc r.pl:=⟨_,rfl⟩
 obtain⟨Z,hZ⟩:∃Z,Z=sP b.ty b.lc r.pl:=⟨_,rfl⟩
 rw[<-hu] at nY hy
 rw[<-hT] at lG hy
 rw[<-hRR] at Q6 ZG hy
 rw[<-hZ] at wR hy
 clear hu hT hRR hZ
 obtain⟨k,op,rg,mu,pl,ar⟩:=r
 obtain⟨uk,um,ur,ue,ua⟩:=u
 simp only[cE] at nY
 simp only at hy hou
 simp only[kT] at lG wR Q6
 have BN:=lm iD R
 refine aN _ _ func252 rfl rfl ntmps252 results252 (by simp) fun w0 g0 Q aC=>?_
 refine tq @GF.eq_1 ?_;intro Nx aB Gx aG
 intro c3 mH c4 wQ
 refine aB _ ?_
 obtain⟨mJ,s5⟩:=bT.1 wQ;refine bS 3 rfl ((aP mJ.symm).trans (aQ _ _ _)) rfl ?_;refine bS 4 rfl ((bP mJ).trans (aQ _ _ _)) rfl ?_;refine eZ _ (iL mH s5) ?_;simp only[St.gU,List.drop]
 refine tq trivial ?_;intro Nx aB Gx aG
 refine lG.mono ?_
 rintro d _ ⟨rfl,rfl⟩
 refine tq (fJ nY yY B4 iX) ?_;intro Nx aB Gx aG
 intro c9 hc9
 refine aB _ ?_
 refine fW 9 hc9 ?_
 by_cases h1:T.2=0
 case neg=>
  have q1:(T.2=0)=False:=aI h1
  have e:y=T.2:=hy.trans (aH h1)
  exact oz aC q1 aR e
 have q1:(T.2=0)=True:=aK h1
 rw[aD (fun h=>h h1)] at hy
 by_cases h2:rg<0
 ·have q2:(rg<0)=True:=aK h2
  have e:y=3:=hy.trans (aH (.inl h2))
  exact oz aC (cZ q1 q2) aR e
 have q2:(rg<0)=False:=aI h2
 by_cases h3:(b.rg.length:Int)<=rg
 ·have q3:(rg≥(b.rg.length:Int))=True:=aK h3
  have e:y=3:=hy.trans (aH (.inr h3))
  exact oz aC (fJ q1 q2 q3 CU) aR e
 have q3:(rg≥(b.rg.length:Int))=False:=aI h3
 rw[aD (by omega)] at hy
 by_cases h4:uk=3
 case neg=>
  have q4:(uk=3)=False:=aI h4
  have e:y=22:=hy.trans (aH (.inl h4))
  exact oz aC (gE q1 q2 q3 CU q4) aR e
 have q4:(uk=3)=True:=aK h4
 by_cases h5:ur=rg
 case neg=>
  have q5:(ur=rg)=False:=aI h5
  have e:y=22:=hy.trans (aH (.inr (.inl h5)))
  exact oz aC (jA q1 q2 q3 CU q4 q5) aR e
 have q5:(ur=rg)=True:=aK h5
 by_cases h6:um=mu
 case neg=>
  have e:y=22:=hy.trans (aH (.inr (.inr (.inl h6))))
  have q6:(um=mu)=False:=aI h6
  exact oz aC (lM q1 q2 q3 CU q4 q5 q6) aR e
 have q6:(um=mu)=True:=aK h6
 by_cases h7:ue=T.1
 case neg=>
  have q7:(ue=T.1)=False:=aI h7
  have e:y=22:=hy.trans (aH (.inr (.inr (.inr (.inl h7)))))
  exact oz aC (qN q1 q2 q3 CU q4 q5 q6 q7) aR e
 have q7:(ue=T.1)=True:=aK h7
 by_cases hm:mu=true/\Z=false
 ·obtain⟨FG,F9⟩:=hm
  have e:y=22:=hy.trans (aH (.inr (.inr (.inr (.inr ⟨FG,F9⟩)))))
  rw[F9] at wR
  rw[FG] at q6
  refine tq (yP q1 q2 q3 CU q4 q5 q6 q7 FG) ?_;intro Nx aB Gx aG
  refine wR.mono ?_
  rintro d _ ⟨rfl,rfl⟩
  exact oz aC q1 aR e
 have FI:¬(uk≠3\/ur≠rg\/um≠mu\/ue≠T.1\/(mu=true/\Z=false)):=fun h=>h.elim (· h4) fun h=>h.elim (· h5) fun h=>h.elim (· h6) fun h=>h.elim (· h7) hm
 rw[aD FI] at hy
 have hZ:mu=true->Z=true:=fun h=>by cases Z;exact absurd ⟨h,rfl⟩ hm;rfl
 cases mu
 ·refine tq (qN q1 q2 q3 CU q4 q5 q6 q7) ?_;intro Nx aB Gx aG
  refine Q6.mono ?_
  rintro d _ ⟨rfl,rfl⟩
  refine tq BN ?_;intro Nx aB Gx aG
  refine bB R.length (fun i s=>s.df=[]/\s.fr 3=.rp [bX b.nm,.seq 1 (b.rg.map sD),.seq 2 (b.ol.map pD),.seq 5 (b.ty.map cE),.seq 2 (b.lc.map lI),i64 b.ag,.seq 7 (b.bl.map rE),iM (b.rg.length:Int) b1 b2]/\(∃x,s.fr 4=.rp [i64 k,i64 op,i64 rg,.val (.bool x),i64 pl.lo,.seq 2 (pl.pr.map pD),.seq 4 (ar.map jL)])/\s.fr 89=.seq 1 (R.map iD)/\s.fr 90=i64 R.length/\s.fr 91=i64 i/\s.H=H/\(R.all fun q=>j5 b.ol b.rg.length q rg)=((R.drop i).all fun q=>j5 b.ol b.rg.length q rg)) ⟨rfl,rfl,⟨_,rfl⟩,rfl,rfl,rfl,rfl,rfl⟩ ?_
  rintro i s hi ⟨bG,f3,⟨x,f4⟩,f89,f90,f91,hH,ha⟩
  have hx:=bL i
  have cL:=bY i
  have aX:H.le s.H:=by rw[hH];exact aE _
  by_cases aZ:i<R.length
  case neg=>
   have q8:=lF i R.length (by omega)
   rw[dX (by omega),oS] at ha
   rw[ha,aD (fun h=>by cases h)] at hy
   refine tq (dZ f90 f91 q8) ?_;intro Nx aB Gx aG
   refine rt aC bG ?_
   exact⟨_,aE _,aX,_,aJ aX,by rw[hy] <;> rfl⟩
  have cN:(i:Int)<(R.length:Int):=by omega
  have q8:((i:Int)<(R.length:Int))=True:=aK cN
  have w3:=wS i (by omega)
  have b8:=dL aZ
  rw[dI aZ,l8] at ha
  have QZ:=hou R[i]
  obtain⟨v,hv⟩:∃v,v=R[i]:=⟨_,rfl⟩
  rw[<-hv] at b8 ha QZ
  obtain⟨z,hz⟩:∃z,z=j5 b.ol b.rg.length v rg:=⟨_,rfl⟩
  rw[<-hz] at ha QZ
  rw[<-hH] at QZ
  refine tq (CF f3 f4 f89 f90 f91 BN q8 b8 hx cL aZ cN) ?_;intro Nx aB Gx aG
  refine QZ.mono ?_
  rintro d _ ⟨rfl,yV⟩
  cases z
  ·rw[fS] at ha
   rw[ha,aH rfl] at hy
   refine tq trivial ?_;intro Nx aB Gx aG
   refine rt aC bG ?_
   exact⟨_,aE _,by rw[<-yV];exact aX,_,aJ (by rw[<-yV];exact aX),by rw[hy] <;> rfl⟩
  ·rw[cT] at ha
   refine tq (cZ f91 w3) ?_;intro Nx aB Gx aG
   exact⟨aZ,bG,f3,⟨x,f4⟩,f89,f90,rfl,by rw[<-yV];exact hH,ha⟩
 ·rw[hZ rfl] at wR
  refine tq (qN q1 q2 q3 CU q4 q5 q6 q7) ?_;intro Nx aB Gx aG
  refine wR.mono ?_
  rintro d _ ⟨rfl,rfl⟩
  refine tq trivial ?_;intro Nx aB Gx aG
  refine Q6.mono ?_
  rintro d _ ⟨rfl,rfl⟩
  refine tq BN ?_;intro Nx aB Gx aG
  refine bB R.length (fun i s=>s.df=[]/\s.fr 3=.rp [bX b.nm,.seq 1 (b.rg.map sD),.seq 2 (b.ol.map pD),.seq 5 (b.ty.map cE),.seq 2 (b.lc.map lI),i64 b.ag,.seq 7 (b.bl.map rE),iM (b.rg.length:Int) b1 b2]/\(∃x,s.fr 4=.rp [i64 k,i64 op,i64 rg,.val (.bool x),i64 pl.lo,.seq 2 (pl.pr.map pD),.seq 4 (ar.map jL)])/\s.fr 89=.seq 1 (R.map iD)/\s.fr 90=i64 R.length/\s.fr 91=i64 i/\s.H=H/\(R.all fun q=>j5 b.ol b.rg.length q rg)=((R.drop i).all fun q=>j5 b.ol b.rg.length q rg)) ⟨rfl,rfl,⟨_,rfl⟩,rfl,rfl,rfl,rfl,rfl⟩ ?_
  rintro i s hi ⟨bG,f3,⟨x,f4⟩,f89,f90,f91,hH,ha⟩
  have hx:=bL i
  have cL:=bY i
  have aX:H.le s.H:=by rw[hH];exact aE _
  by_cases aZ:i<R.length
  case neg=>
   have q8:=lF i R.length (by omega)
   rw[dX (by omega),oS] at ha
   rw[ha,aD (fun h=>by cases h)] at hy
   refine tq (dZ f90 f91 q8) ?_;intro Nx aB Gx aG
   refine rt aC bG ?_
   exact⟨_,aE _,aX,_,aJ aX,by rw[hy] <;> rfl⟩
  have cN:(i:Int)<(R.length:Int):=by omega
  have q8:((i:Int)<(R.length:Int))=True:=aK cN
  have w3:=wS i (by omega)
  have b8:=dL aZ
  rw[dI aZ,l8] at ha
  have QZ:=hou R[i]
  obtain⟨v,hv⟩:∃v,v=R[i]:=⟨_,rfl⟩
  rw[<-hv] at b8 ha QZ
  obtain⟨z,hz⟩:∃z,z=j5 b.ol b.rg.length v rg:=⟨_,rfl⟩
  rw[<-hz] at ha QZ
  rw[<-hH] at QZ
  refine tq (CF f3 f4 f89 f90 f91 BN q8 b8 hx cL aZ cN) ?_;intro Nx aB Gx aG
  refine QZ.mono ?_
  rintro d _ ⟨rfl,yV⟩
  cases z
  ·rw[fS] at ha
   rw[ha,aH rfl] at hy
   refine tq trivial ?_;intro Nx aB Gx aG
   refine rt aC bG ?_
   exact⟨_,aE _,by rw[<-yV];exact aX,_,aJ (by rw[<-yV];exact aX),by rw[hy] <;> rfl⟩
  ·rw[cT] at ha
   refine tq (cZ f91 w3) ?_;intro Nx aB Gx aG
   exact⟨aZ,bG,f3,⟨x,f4⟩,f89,f90,rfl,by rw[<-yV];exact hH,ha⟩
theorem gD0:gD 0=.rp [i64 2,i64 2,i64 1,i64 1]:=rfl
theorem gD1:gD 1=.rp [i64 2,i64 2,i64 2,i64 2,i64 2,i64 2,i64 2,i64 1,i64 2,i64 1,i64 1,i64 1]:=rfl
def unT:List (Int×Int):=[(2,2),(1,1)]
def X2:List (Int×Int):=[(2,2),(2,2),(2,2),(2,1),(2,1),(1,1)]
theorem aJW {x:Int} (h:0<=x) (h6:x<6):x=0\/x=1\/x=2\/x=3\/x=4\/x=5:=by omega
theorem aE8 (b:iF) (r:HN) (t:Int):yC b r t unT.length (unT.getD r.op.toNat (1,0))=yC b r t 2 (unE r.op):=by
 by_cases h:r.op<0\/2<=r.op
 ·unfold yC
  rw[aH (by simpa [unT] using h),aH h]
 ·have h2:r.op=0\/r.op=1:=by omega
  have:unT.getD r.op.toNat (1,0)=unE r.op:=by rcases h2 with h|h <;> rw[h] <;> rfl
  rw[this];rfl
theorem aCN (b:iF) (r:HN) (t:Int):yC b r t X2.length (X2.getD r.op.toNat (1,0))=yC b r t 6 (TH r.op):=by
 by_cases h:r.op<0\/6<=r.op
 ·unfold yC
  rw[aH (by simpa [X2] using h),aH h]
 ·have:X2.getD r.op.toNat (1,0)=TH r.op:=by rcases aJW (x:=r.op) (by omega) (by omega) with h|h|h|h|h|h <;> rw[h] <;> rfl
  rw[this];rfl
theorem aC9 (b:iF) (n:Int) (b1 b2:Nat) (r:HN) (t:Int) (H:aA) (ck:Ck b) (hn:n=b.rg.length) (hR:uJ b.ol b1 b2 H) (hp:KN r) (ht:dG b.ty.length t) (hfs:∀f∈(cJ b.ty t).ar,dG b.ty.length f):aT prog 163 [.agg (xL b n b1 b2),.agg (GF r),i64 t] H fun d H'=>d=i64 (rvE b r t)/\H=H':=by
 refine bM (K:=fun d=>d=i64 (rvE b r t)) ?_
 have aR:=aE H
 have hun:=aCt r H hp
 have hbo:=aA7 b n b1 b2 r t H ck hn hR hp ht
 have hou:∀H1,H1=H->dY prog 253 [.agg (xL b n b1 b2),.agg (GF r),i64 t,.seq 2 (unT.map pD)] H1 fun d A=>A=aA.none/\d=i64 (yC b r t 2 (unE r.op)):=fun H1 s6=>bN fun eL eO=>by
  have:=FO b n b1 b2 r t unT eL ck hn (G3 hR (by rw[<-s6];exact eO)) hp ht (by decide)
  rwa[aE8] at this
 have rU:∀H1,H1=H->dY prog 253 [.agg (xL b n b1 b2),.agg (GF r),i64 t,.seq 2 (X2.map pD)] H1 fun d A=>A=aA.none/\d=i64 (yC b r t 6 (TH r.op)):=fun H1 s6=>bN fun eL eO=>by
  have:=FO b n b1 b2 r t X2 eL ck hn (G3 hR (by rw[<-s6];exact eO)) hp ht (by decide)
  rwa[aCN] at this
 have tA:∀(fs:List Int),fC fs.length->(∀f∈fs,dG b.ty.length f)->aT prog 168 [.agg (xL b n b1 b2),.seq 4 (r.ar.map jL),.seq 1 (fs.map iD)] H fun d H'=>d=i64 (fX b r.ar fs)/\H=H':=fun fs h1 h2=>vP b n b1 b2 r.ar fs H ck hn hR hp.2.1 hp.2.2 h1 h2
 have hoc:∀H1,H1=H->dY prog 168 [.agg (xL b n b1 b2),.seq 4 (r.ar.map jL),.seq 1 ((cJ b.ty t).ar.map iD)] H1 fun d A=>A=aA.none/\d=i64 (fX b r.ar (cJ b.ty t).ar):=fun H1 s6=>bN fun eL eO=>vP b n b1 b2 r.ar _ eL ck hn (G3 hR (by rw[<-s6];exact eO)) hp.2.1 hp.2.2 (ck.ar.fC _ (zG ht)) hfs
 have SX:∀x H1,dY prog 166 [.val (.bool x)] H1 fun d A=>A=aA.none/\d=i64 (if x=true then 22 else 0):=fun x H1=>bN fun eL eO=>uP x eL
 have NT:∀a c H1,dY prog 156 [.seq 1 [[i64 a],[i64 c]]] H1 fun d A=>A=aA.none/\d=i64 (if a≠0 then a else c):=fun a c H1=>bN fun eL eO=>IH a c eL
 rw[xM] at hbo hou rU tA hoc ⊢
 have iX:=lm cE b.ty
 have cI:=lm jL r.ar
 obtain⟨y,hy⟩:∃y,y=rvE b r t:=⟨_,rfl⟩
 rw[<-hy]
 unfold rvE at hy
 have nY:=kC ht
 have yY:t.toNat<b.ty.length:=by unfold dG at ht;omega
 have B4:0<=t:=by unfold dG at ht;omega
 obtain⟨u,hu⟩:∃u,u=cJ b.ty t:=⟨_,rfl⟩
 rw[<-hu] at nY hy hoc
 clear hu hfs
 simp only[cE] at nY
 obtain⟨S,hS⟩:∃S,S=KQ r:=⟨_,rfl⟩
 rw[<-hS] at hun hy
 refine aN _ _ func163 rfl rfl ntmps163 results163 (by simp) fun w0 g0 Q aC=>?_
 refine tq @GF.eq_1 ?_;intro Nx aB Gx aG
 intro c3 mH c4 wQ
 refine aB _ ?_
 obtain⟨mJ,s5⟩:=bT.1 wQ;refine bS 3 rfl ((aP mJ.symm).trans (aQ _ _ _)) rfl ?_;refine bS 4 rfl ((bP mJ).trans (aQ _ _ _)) rfl ?_;refine eZ _ (iL mH s5) ?_;simp only[St.gU,List.drop]
 by_cases h1:r.k<0
 ·have q1:(r.k<0)=True:=aK h1
  have e:y=14:=hy.trans (aH (.inl h1))
  exact oz aC q1 aR e
 have q1:(r.k<0)=False:=aI h1
 by_cases h2:4<r.k
 ·have q2:(4<r.k)=True:=aK h2
  have e:y=14:=hy.trans (aH (.inr h2))
  exact oz aC (cZ q1 q2) aR e
 have q2:(4<r.k)=False:=aI h2
 rw[aD (by omega)] at hy
 refine tq (cZ q1 q2) ?_;intro Nx aB Gx aG
 refine hun.mono ?_
 rintro d _ ⟨rfl,rfl⟩
 cases S
 ·have e:y=2:=hy
  exact oz aC q1 aR e
 rw[aD (fun h=>by cases h)] at hy
 by_cases hk:r.k=0
 ·have k0:(r.k=0)=True:=aK hk
  rw[aH hk] at hy
  have e:=hy
  refine tq k0 ?_;intro Nx aB Gx aG
  refine(tA [t] (by unfold fC;simp) (fun f hf=>by rw[eS] at hf;subst hf;exact ht)).mono ?_
  rintro d _ ⟨rfl,rfl⟩
  exact oz aC q1 aR e
 have k0:(r.k=0)=False:=aI hk
 rw[aD hk] at hy
 by_cases hk:r.k=1
 ·have k1:(r.k=1)=True:=aK hk
  rw[aH hk] at hy
  have e:=hy
  refine tq (cZ k0 k1) ?_;intro Nx aB Gx aG
  refine hbo.mono ?_
  rintro d _ ⟨rfl,rfl⟩
  exact oz aC q1 aR e
 have k1:(r.k=1)=False:=aI hk
 rw[aD hk] at hy
 by_cases hk:r.k=2
 ·have k2:(r.k=2)=True:=aK hk
  rw[aH hk] at hy
  have e:=hy
  refine tq (dZ k0 k1 k2) ?_;intro Nx aB Gx aG
  refine dE (fun _ _ d A=>A=.none/\d=i64 (yC b r t 2 (unE r.op))) fun Nx aB=>?_;refine dst (cZ gD0 @CE.eq_1) ?_;intro Nx aB Gx aG
  refine⟨hou _ rfl,?_⟩
  (first|refine aG _ ?_|refine aB _ ?_|skip)
  exact oz aC q1 aR e
 have k2:(r.k=2)=False:=aI hk
 rw[aD hk] at hy
 by_cases hk:r.k=3
 ·have k3:(r.k=3)=True:=aK hk
  rw[aH hk] at hy
  have e:=hy
  refine tq (fJ k0 k1 k2 k3) ?_;intro Nx aB Gx aG
  refine dE (fun _ _ d A=>A=.none/\d=i64 (yC b r t 6 (TH r.op))) fun Nx aB=>?_;refine dst (cZ gD1 @CE.eq_1) ?_;intro Nx aB Gx aG
  refine⟨rU _ rfl,?_⟩
  (first|refine aG _ ?_|refine aB _ ?_|skip)
  exact oz aC q1 aR e
 have k3:(r.k=3)=False:=aI hk
 rw[aD hk] at hy
 refine tq (qN k0 k1 k2 k3 nY yY B4 iX) ?_;intro Nx aB Gx aG
 intro c7 NR
 refine aB _ ?_
 refine fW 7 NR ?_
 by_cases h7:u.k=4
 case neg=>
  have q7:(u.k=4)=False:=aI h7
  have e:y=22:=by rw[hy,aH (.inl h7)]
  refine bO ?_
  refine dE (fun t0 _ d A=>A=.none/\d=(if t0=some 67 then i64 22 else if t0=some 73 then i64 (fX b r.ar u.ar) else i64 22)) fun Nx aB=>?_;refine dst q7 ?_;intro Nx aB Gx aG
  refine⟨SX _ _,hoc _ rfl,NT 22 _ _,?_⟩
  (first|refine aG _ ?_|refine aB _ ?_|skip)
  exact oz aC q7 aR e
 have q7:(u.k=4)=True:=aK h7
 have wR:=lm iD u.ar
 by_cases h8:u.ar.length=r.ar.length
 case neg=>
  have q8:((u.ar.length:Int)=(r.ar.length:Int))=False:=aI (by omega)
  have e:y=22:=by rw[hy,aH (.inr h8)]
  refine bO ?_
  refine dE (fun t0 _ d A=>A=.none/\d=(if t0=some 67 then i64 22 else if t0=some 73 then i64 (fX b r.ar u.ar) else i64 22)) fun Nx aB=>?_;refine dst (fJ q7 q8 cI wR) ?_;intro Nx aB Gx aG
  refine⟨SX _ _,hoc _ rfl,NT 22 _ _,?_⟩
  (first|refine aG _ ?_|refine aB _ ?_|skip)
  exact oz aC q7 aR e
 have q8:((u.ar.length:Int)=(r.ar.length:Int))=True:=aK (by omega)
 have e:y=fX b r.ar u.ar:=by rw[hy,aD (by omega)]
 refine bO ?_
 refine dE (fun t0 _ d A=>A=.none/\d=(if t0=some 67 then i64 0 else if t0=some 73 then i64 (fX b r.ar u.ar) else i64 (fX b r.ar u.ar))) fun Nx aB=>?_;refine dst (fJ q7 q8 cI wR) ?_;intro Nx aB Gx aG
 refine⟨SX _ _,hoc _ rfl,NT 0 _ _,?_⟩
 (first|refine aG _ ?_|refine aB _ ?_|skip)
 exact oz aC q7 aR e
theorem K9 {b:iF} (hw:vY b.ty) {t:Int} (h:dG b.ty.length t):∀f∈(cJ b.ty t).ar,dG b.ty.length f:=fun f hf=>by
 obtain⟨h',he⟩:=vA h
 rw[he] at hf
 have:=(hw _ h').2 f hf
 unfold dG
 omega
def StM (b:iF) (n:Int) (b1 b2:Nat) (s:StS) (H:aA) (x:St):Prop:=x.df=[]/\x.fr 2=.rp (xL b n b1 b2)/\x.fr 3=.rp (J4 s)/\x.fr 5=.rp (GF s.rv)/\x.fr 6=.val (.bool (PS s))/\x.H=H
theorem aHu (b:iF) (n:Int) (b1 b2:Nat) (s:StS) (H:aA) (ck:Ck b) (hn:n=b.rg.length) (hR:uJ b.ol b1 b2 H) (hp:aE4 s):aT prog 73 [.agg (xL b n b1 b2),.agg (J4 s)] H fun d H'=>d=i64 (stE b s)/\H=H':=by
 refine bM (K:=fun d=>d=i64 (stE b s)) ?_
 have aR:=aE H
 have KJ:=JV s.pl H hp.1
 have UA:=JV s.rv.pl H hp.2.1
 have KI:=JT b n b1 b2 s.pl H ck hp.1
 have hrv:=fun t h=>aC9 b n b1 b2 s.rv t H ck hn hR hp.2 h (K9 ck.wt h)
 have jX:DC b s.pl=0->dG b.ty.length (qI b s.pl).1:=fun h=>EU ck (by
  unfold DC at h
  exact kF fun h2=>by rw[aH h2] at h;exact h2 h)
 have cI:=lm jL s.rv.ar
 have hmc:=lm lI b.lc
 obtain⟨y,hy⟩:∃y,y=stE b s:=⟨_,rfl⟩
 rw[<-hy]
 unfold stE at hy
 have hM:∀x,StM b n b1 b2 s H x↔(x.df=[]/\x.fr 2=.rp (xL b n b1 b2)/\x.fr 3=.rp (J4 s)/\x.fr 5=.rp (GF s.rv)/\x.fr 6=.val (.bool (PS s))/\x.H=H):=fun x=>Iff.rfl
 obtain⟨M,hMM⟩:∃M,M=StM b n b1 b2 s H:=⟨_,rfl⟩
 rw[<-hMM] at hM
 clear hMM
 have uR:PS s=(eV s.pl&&(decide (s.rv.k=0)&&decide (s.rv.op=0)&&decide (s.rv.ar.length=0)&&decide (s.rv.rg=0)&& !s.rv.mu&&eV s.rv.pl)):=rfl
 obtain⟨B,hB⟩:∃B,B=PS s:=⟨_,rfl⟩
 rw[<-hB] at hy hM uR
 clear hB
 rw[xM] at KI hrv hM ⊢
 obtain⟨T,hT⟩:∃T,T=qI b s.pl:=⟨_,rfl⟩
 obtain⟨E,hE⟩:∃E,E=DC b s.pl:=⟨_,rfl⟩
 rw[<-hT,<-hE] at KI jX
 rw[<-hT,<-hE] at hy
 clear hT hE
 have hax:=hp.2.2.1
 unfold fC at hax
 obtain⟨k,pl,⟨rk,rop,rrg,rmu,rpl,rar⟩,lo⟩:=s
 simp only[J4,GF,kT] at hM KJ UA KI hrv ⊢
 simp only at hy cI uR hax
 refine aN _ _ func73 rfl rfl ntmps73 results73 (by simp) fun w0 g0 Q aC=>?_
 refine tq trivial ?_;intro Nx aB Gx aG
 intro c2 pZ c3 mH
 refine aB _ ?_
 obtain⟨mJ,s5⟩:=bT.1 mH;refine bS 2 rfl ((aP mJ.symm).trans (aQ _ _ _)) rfl ?_;refine bS 3 rfl ((bP mJ).trans (aQ _ _ _)) rfl ?_;refine eZ _ (iL pZ s5) ?_;simp only[St.gU,List.drop]
 refine tq trivial ?_;intro Nx aB Gx aG
 intro c5 pT
 refine aB _ ?_
 refine fW 5 pT ?_
 refine bO ?_
 refine MK M ?_ ?_
 ·obtain⟨Z1,hZ1⟩:∃Z1,Z1=eV pl:=⟨_,rfl⟩
  rw[<-hZ1] at KJ uR
  obtain⟨Z2,hZ2⟩:∃Z2,Z2=eV rpl:=⟨_,rfl⟩
  rw[<-hZ2] at UA uR
  clear hZ1 hZ2 hy jX
  cases Z1
  ·have eb:B=false:=by rw[uR];rfl
   refine tq trivial ?_;intro Nx aB Gx aG
   refine KJ.mono ?_
   rintro d _ ⟨rfl,rfl⟩
   refine tq trivial ?_;intro Nx aB Gx aG
   exact(hM _).2 ⟨rfl,rfl,rfl,rfl,by rw[eb] <;> rfl,rfl⟩
  rw[cT] at uR
  by_cases h1:rk=0
  case neg=>
   have q1:(rk=0)=False:=aI h1
   have eb:B=false:=by rw[uR,bC h1];rfl
   refine tq q1 ?_;intro Nx aB Gx aG
   refine KJ.mono ?_
   rintro d _ ⟨rfl,rfl⟩
   refine tq q1 ?_;intro Nx aB Gx aG
   exact(hM _).2 ⟨rfl,rfl,rfl,rfl,by rw[eb] <;> rfl,rfl⟩
  have q1:(rk=0)=True:=aK h1
  rw[bF h1,cT] at uR
  by_cases h2:rop=0
  case neg=>
   have q2:(rop=0)=False:=aI h2
   have eb:B=false:=by rw[uR,bC h2];rfl
   refine tq trivial ?_;intro Nx aB Gx aG
   refine KJ.mono ?_
   rintro d _ ⟨rfl,rfl⟩
   refine tq (cZ q1 q2) ?_;intro Nx aB Gx aG
   exact(hM _).2 ⟨rfl,rfl,rfl,rfl,by rw[eb] <;> rfl,rfl⟩
  have q2:(rop=0)=True:=aK h2
  rw[bF h2,cT] at uR
  by_cases h3:rar.length=0
  case neg=>
   have q3:((rar.length:Int)=0)=False:=aI (by omega)
   have eb:B=false:=by rw[uR,bC h3];rfl
   refine tq trivial ?_;intro Nx aB Gx aG
   refine KJ.mono ?_
   rintro d _ ⟨rfl,rfl⟩
   refine tq (fJ q1 q2 q3 cI) ?_;intro Nx aB Gx aG
   exact(hM _).2 ⟨rfl,rfl,rfl,rfl,by rw[eb] <;> rfl,rfl⟩
  have q3:((rar.length:Int)=0)=True:=aK (by omega)
  rw[bF h3,cT] at uR
  by_cases h4:rrg=0
  case neg=>
   have q4:(rrg=0)=False:=aI h4
   have eb:B=false:=by rw[uR,bC h4];rfl
   refine tq trivial ?_;intro Nx aB Gx aG
   refine KJ.mono ?_
   rintro d _ ⟨rfl,rfl⟩
   refine tq (gE q1 q2 q3 cI q4) ?_;intro Nx aB Gx aG
   exact(hM _).2 ⟨rfl,rfl,rfl,rfl,by rw[eb] <;> rfl,rfl⟩
  have q4:(rrg=0)=True:=aK h4
  rw[bF h4,cT] at uR
  cases rmu
  case true=>
   have eb:B=false:=by rw[uR];rfl
   refine tq trivial ?_;intro Nx aB Gx aG
   refine KJ.mono ?_
   rintro d _ ⟨rfl,rfl⟩
   refine tq (gE q1 q2 q3 cI q4) ?_;intro Nx aB Gx aG
   exact(hM _).2 ⟨rfl,rfl,rfl,rfl,by rw[eb] <;> rfl,rfl⟩
  have eb:B=Z2:=by rw[uR];rfl
  refine tq trivial ?_;intro Nx aB Gx aG
  refine KJ.mono ?_
  rintro d _ ⟨rfl,rfl⟩
  refine tq (gE q1 q2 q3 cI q4) ?_;intro Nx aB Gx aG
  refine UA.mono ?_
  rintro d _ ⟨rfl,rfl⟩
  refine tq trivial ?_;intro Nx aB Gx aG
  exact(hM _).2 ⟨rfl,rfl,rfl,rfl,by rw[eb] <;> rfl,rfl⟩
 intro s hs
 obtain⟨bG,f2,f3,f5,f6,hH⟩:=(hM s).1 hs
 have aX:H.le s.H:=by rw[hH];exact aE _
 by_cases hk:k=0
 ·have k0:(k=0)=True:=aK hk
  rw[aH hk] at hy
  by_cases h1:lo=0
  case neg=>
   have q1:(lo=0)=False:=aI h1
   have e:y=2:=hy.trans (aH h1)
   exact oz aC (dZ f3 k0 q1) aX e
  have q1:(lo=0)=True:=aK h1
  rw[aD (fun h=>h h1)] at hy
  rw[<-hH] at KI
  refine tq (fJ f2 f3 k0 q1) ?_;intro Nx aB Gx aG
  refine KI.mono ?_
  rintro d _ ⟨rfl,yV⟩
  by_cases h2:E=0
  case neg=>
   have q2:(E=0)=False:=aI h2
   have e:y=E:=hy.trans (aH h2)
   rw[yV] at aX
   exact oz aC q2 aX e
  have q2:(E=0)=True:=aK h2
  rw[aD (fun h=>h h2)] at hy
  have hr:=hrv T.1 (jX h2)
  rw[<-hH,yV] at hr
  rw[yV] at aX
  refine tq (dZ f2 f5 q2) ?_;intro Nx aB Gx aG
  refine hr.mono ?_
  rintro d _ ⟨rfl,SW⟩
  rw[SW] at aX
  have e:=hy
  exact oz aC trivial aX e
 have k0:(k=0)=False:=aI hk
 rw[aD hk] at hy
 by_cases mZ:k=1
 ·have k1:(k=1)=True:=aK mZ
  rw[aH mZ] at hy
  cases B
  ·have e:y=2:=hy
   exact oz aC (fJ f3 f6 k0 k1) aX e
  rw[aD (fun h=>by cases h)] at hy
  by_cases h1:lo<0
  ·have q1:(lo<0)=True:=aK h1
   have e:y=3:=hy.trans (aH (.inl h1))
   exact oz aC (jA f2 f3 f6 k0 k1 q1) aX e
  have q1:(lo<0)=False:=aI h1
  by_cases h2:(b.lc.length:Int)<=lo
  ·have q2:(lo≥(b.lc.length:Int))=True:=aK h2
   have e:y=3:=hy.trans (aH (.inr h2))
   exact oz aC (qN f2 f3 f6 k0 k1 q1 q2 hmc) aX e
  have q2:(lo≥(b.lc.length:Int))=False:=aI h2
  have e:y=0:=hy.trans (aD (by omega))
  exact oz aC (qN f2 f3 f6 k0 k1 q1 q2 hmc) aX e
 have k1:(k=1)=False:=aI mZ
 rw[aD mZ] at hy
 by_cases iQ:k=2
 ·have k2:(k=2)=True:=aK iQ
  rw[aH iQ] at hy
  cases B
  ·have e:y=2:=hy
   exact oz aC (gE f3 f6 k0 k1 k2) aX e
  by_cases h1:lo=0
  ·have q1:(lo=0)=True:=aK h1
   have e:y=0:=hy.trans (aD (by rintro(h|h);cases h;exact h h1))
   exact oz aC (jA f3 f6 k0 k1 k2 q1) aX e
  ·have q1:(lo=0)=False:=aI h1
   have e:y=2:=hy.trans (aH (.inr h1))
   exact oz aC (jA f3 f6 k0 k1 k2 q1) aX e
 have k2:(k=2)=False:=aI iQ
 rw[aD iQ] at hy
 have e:y=14:=hy
 exact oz aC (fJ f3 k0 k1 k2) aX e
end Go.Proofs.YtelbfbioomcmeaaGreatDoor

