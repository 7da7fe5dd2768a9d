/- Lemmas and contracts of functions, several texts in one. -/
import Derived.Test.YtfiipaodjpiooaaGreatDoorQ15
set_option maxRecDepth 100000
set_option maxHeartbeats 4000000
set_option linter.all false
namespace Go.Proofs.YtfiipaodjpiooaaGreatDoor
open Go.RowKit
theorem kF {H:aC} {a c:Nat} {x y:fK} (h2:H a=none) (h3:H c=none):H.le ((((H.bH a x).bH c y).del a).del c):=fun b z hz=>by
 have e2:b≠a:=fun e=>by rw[e,h2] at hz;cases hz
 have e3:b≠c:=fun e=>by rw[e,h3] at hz;cases hz
 rw[bS e3,bS e2,aN e3,aN e2];exact hz
theorem HX {H:aC} {a c:Nat} {x y:fK} (h2:H a=none) (h3:H c=none) (hn:c≠a):(H.bH c y).le (((H.bH a x).bH c y).del a):=fun b z hz=>by
 by_cases e:b=c
 ·subst e
  rw[aO] at hz
  rw[bS hn,aO];exact hz
 ·rw[aN e] at hz
  have e2:b≠a:=fun e=>by rw[e,h2] at hz;cases hz
  rw[bS e2,aN e,aN e2];exact hz
open Tryz
theorem ZH (l:List (Int×Int)) (n:Nat):(l.map pD).take n=(l.take n).map pD:=(qB ..).symm
theorem aJv (l:List (Int×Int)) (n:Nat):(l.map pD).drop n=(l.drop n).map pD:=(List.map_drop ..).symm
theorem aA5 (p:pA) (n:Nat) (H:aC) (hp:dO p.pr.length) (hn:dO n):bE prog 69 [.agg (lN p),i64 n] H fun d H'=>d=.val (.bool (XE p n))/\H=H':=by
 refine bO (K:=fun d=>d=.val (.bool (XE p n))) ?_
 have aS:=aG H
 have dX:=lm pD p.pr
 unfold dO at hp hn
 have N7:=aDI (p.pr.drop (min n p.pr.length)) 129 (fun x=>decide (x.1=0)) H (by unfold dO;rw[nD];omega) (fun x _ H1=>aM7 x H1)
 have e:(p.pr.drop (min n p.pr.length)).any (fun x=>decide (x.1=0))=XE p n:=by
  unfold XE
  by_cases h:n<=p.pr.length
  ·rw[zR h]
  ·rw[Nat.min_eq_right (by omega),eT (dI _),eT (by omega)]
 rw[e] at N7
 refine aQ _ _ func69 rfl rfl ntmps69 results69 (by simp) fun w0 g0 Q aD=>?_
 refine tq @lN.eq_1 ?_;intro Nx aB Gx aF
 intro c2 lH
 refine aB _ ?_
 refine fZ 2 lH ?_
 have m0:max (n:Int) 0=n:=by omega
 have m1:min (n:Int) (p.pr.length:Int)=((min n p.pr.length:Nat):Int):=by omega
 refine tq (eA dX m0 m1) ?_;intro Nx aB Gx aF
 rw[aJv]
 refine⟨by omega,by omega,N7.mono ?_⟩
 rintro d _ ⟨rfl,rfl⟩
 refine tq trivial ?_;intro Nx aB Gx aF
 refine rt aD trivial ?_
 exact⟨_,aG _,aS,_,aH aS,rfl⟩
theorem aIJ (p q:pA) (H:aC) (hp:dO p.pr.length) (hq:dO q.pr.length):bE prog 68 [.agg (lN p),.agg (lN q)] H fun d H'=>d=.val (.bool (aC5 p q))/\H=H':=by
 refine bO (K:=fun d=>d=.val (.bool (aC5 p q))) ?_
 have aS:=aG H
 have T2:=lm pD p.pr
 have hmq:=lm pD q.pr
 have N7:∀H1,eF prog 127 [.seq 2 (p.pr.map pD),.seq 2 ((q.pr.map pD).take p.pr.length)] H1 fun d A=>A=aC.none/\d=.val (.bool (decide (p.pr=q.pr.take p.pr.length))):=fun H1=>cF fun gI _=>by rw[ZH];exact VB gI _ _ hp
 unfold dO at hp hq
 have OD:aC5 p q=decide (p.lo=q.lo/\p.pr.length<=q.pr.length/\p.pr=q.pr.take p.pr.length):=rfl
 obtain⟨E,hE⟩:∃E,E=aC5 p q:=⟨_,rfl⟩
 rw[<-hE] at OD ⊢
 clear hE
 obtain⟨pl,pp⟩:=p
 obtain⟨ql,qq⟩:=q
 simp only[lN] at N7 OD T2 hmq hp hq ⊢
 refine aQ _ _ func68 rfl rfl ntmps68 results68 (by simp) fun w0 g0 Q aD=>?_
 refine tq trivial ?_;intro Nx aB Gx aF
 intro c2 lH c3 j5
 refine aB _ ?_
 obtain⟨lK,sH⟩:=bY.1 j5;refine cA 2 rfl ((aN lK.symm).trans (aO _ _ _)) rfl ?_;refine cA 3 rfl ((bS lK).trans (aO _ _ _)) rfl ?_;refine eV _ (kF lH sH) ?_;simp only[St.jH,List.drop]
 refine tq (dG T2 hmq) ?_;intro Nx aB Gx aF
 have r1:(0:Int)<=(pp.length:Int):=bM _
 by_cases c1:pl=ql
 case neg=>
  have p1:(pl=ql)=False:=aI c1
  rw[bB fun h=>c1 h.1] at OD
  refine dE (fun _ _ _ _=>False) fun Nx aB=>?_;refine dst p1 ?_;intro Nx aB Gx aF
  refine tq trivial ?_;intro Nx aB Gx aF
  refine rt aD trivial ?_
  exact⟨_,aG _,aS,_,aH aS,(by rw[OD])⟩
 have p1:(pl=ql)=True:=aK c1
 by_cases c2:pp.length<=qq.length
 case neg=>
  have p2:((pp.length:Int)<=(qq.length:Int))=False:=aI (by omega)
  rw[bB fun h=>c2 h.2.1] at OD
  refine dE (fun _ _ _ _=>False) fun Nx aB=>?_;refine dst (gQ p1 p2 T2 hmq) ?_;intro Nx aB Gx aF
  refine tq trivial ?_;intro Nx aB Gx aF
  refine rt aD trivial ?_
  exact⟨_,aG _,aS,_,aH aS,(by rw[OD])⟩
 have c2':(pp.length:Int)<=(qq.length:Int):=by omega
 have p2:((pp.length:Int)<=(qq.length:Int))=True:=aK c2'
 refine dE (fun _ _ d A=>A=.none/\d=.val (.bool (decide (pp=qq.take pp.length)))) fun Nx aB=>?_;refine dst (kB p1 p2 T2 hmq r1 c2') ?_;intro Nx aB Gx aF
 refine⟨(N7 _),?_⟩;(first|refine aF _ ?_|skip);(first|refine dst (kB p1 p2 T2 hmq r1 c2') ?_;intro Nx aB Gx aF|skip)
 refine tq trivial ?_;intro Nx aB Gx aF;refine rt aD trivial ?_;exact⟨_,aG _,aS,_,aH aS,(by rw[OD];exact cS (fun b:Bool=>D.val (.bool b)) (decide_eq_decide.2 ⟨fun h=>⟨c1,c2,h⟩,fun h=>h.2.2⟩))⟩
theorem aC3 (p q:pA) (H:aC) (hp:dO p.pr.length) (hq:dO q.pr.length):bE prog 132 [.agg (lN p),.agg (lN q)] H fun d H'=>d=.val (.bool (ovP p q))/\H=H':=by
 refine bO (K:=fun d=>d=.val (.bool (ovP p q))) ?_
 have aS:=aG H
 have T2:=lm pD p.pr
 have hmq:=lm pD q.pr
 unfold dO at hp hq
 obtain⟨m,hm⟩:∃m,m=min p.pr.length q.pr.length:=⟨_,rfl⟩
 have N7:∀H1,eF prog 127 [.seq 2 ((p.pr.map pD).take m),.seq 2 ((q.pr.map pD).take m)] H1 fun d A=>A=aC.none/\d=.val (.bool (decide (p.pr.take m=q.pr.take m))):=fun H1=>cF fun gI _=>by rw[ZH,ZH];exact VB gI _ _ (by unfold dO;rw[dU];omega)
 have OD:ovP p q=decide (p.lo=q.lo/\p.pr.take m=q.pr.take m):=by rw[hm];rfl
 obtain⟨E,hE⟩:∃E,E=ovP p q:=⟨_,rfl⟩
 rw[<-hE] at OD ⊢
 clear hE
 have m1:min (p.pr.length:Int) (q.pr.length:Int)=(m:Int):=by omega
 have r1:=bM m
 have r2:(m:Int)<=(p.pr.length:Int):=by omega
 have r3:(m:Int)<=(q.pr.length:Int):=by omega
 have r4:=bI m
 clear hm
 obtain⟨pl,pp⟩:=p
 obtain⟨ql,qq⟩:=q
 simp only[lN] at N7 OD T2 hmq hp hq m1 r2 r3 ⊢
 refine aQ _ _ func132 rfl rfl ntmps132 results132 (by simp) fun w0 g0 Q aD=>?_
 refine tq trivial ?_;intro Nx aB Gx aF
 intro c2 lH c3 j5
 refine aB _ ?_
 obtain⟨lK,sH⟩:=bY.1 j5;refine cA 2 rfl ((aN lK.symm).trans (aO _ _ _)) rfl ?_;refine cA 3 rfl ((bS lK).trans (aO _ _ _)) rfl ?_;refine eV _ (kF lH sH) ?_;simp only[St.jH,List.drop]
 refine tq (eA T2 hmq m1) ?_;intro Nx aB Gx aF
 by_cases c1:pl=ql
 case neg=>
  have p1:(pl=ql)=False:=aI c1
  rw[bB fun h=>c1 h.1] at OD
  refine dE (fun _ _ _ _=>False) fun Nx aB=>?_;refine dst p1 ?_;intro Nx aB Gx aF
  refine tq trivial ?_;intro Nx aB Gx aF;refine rt aD trivial ?_;exact⟨_,aG _,aS,_,aH aS,(by rw[OD])⟩
 have p1:(pl=ql)=True:=aK c1
 refine dE (fun _ _ d A=>A=.none/\d=.val (.bool (decide (pp.take m=qq.take m)))) fun Nx aB=>?_;refine dst (nF p1 T2 hmq r1 r2 r3 r4) ?_;intro Nx aB Gx aF
 refine⟨(N7 _),?_⟩;(first|refine aF _ ?_|skip);(first|refine dst (nF p1 T2 hmq r1 r2 r3 r4) ?_;intro Nx aB Gx aF|skip)
 refine tq trivial ?_;intro Nx aB Gx aF;refine rt aD trivial ?_;exact⟨_,aG _,aS,_,aH aS,(by rw[OD];exact cS (fun b:Bool=>D.val (.bool b)) (decide_eq_decide.2 ⟨fun h=>⟨c1,h⟩,fun h=>h.2⟩))⟩
def yT (x:mP) (k:Nat):pA×Bool×Bool:=match x.st[k]? with
 |some s=>if s.k=0 then (s.pl,true,true) else if s.k=1 then (⟨s.lo,[]⟩,true,false) else (⟨0,[]⟩,false,false)
 |none=>(x.tm.pl,decide (x.tm.k=3\/x.tm.k=4),decide (x.tm.k=3))
def aMX (z:pA×Bool×Bool):D:=.pG [.agg (lN z.1),.val (.bool z.2.1),.val (.bool z.2.2)]
theorem WH (x:mP) (k:Nat) (H:aC) (hs:dO x.st.length) (hk:k<=x.st.length):bE prog 67 [.agg (jP x),i64 k] H fun d H'=>d=aMX (yT x k)/\H=H':=by
 obtain⟨Z,hZ⟩:∃Z,Z=yT x k:=⟨_,rfl⟩
 rw[<-hZ]
 refine bO (K:=fun d=>d=aMX Z) ?_
 have aS:=aG H
 have wO:=lm vV x.st
 unfold dO at hs
 obtain⟨xs,xt⟩:=x
 simp only at hs hk wO
 simp only[jP]
 refine aQ _ _ func67 rfl rfl ntmps67 results67 (by simp) fun w0 g0 Q aD=>?_
 refine tq trivial ?_;intro Nx aB Gx aF
 intro c2 lH c4 uL
 refine aB _ ?_
 obtain⟨lK,sH⟩:=bY.1 uL;refine cA 2 rfl ((aN lK.symm).trans (aO _ _ _)) rfl ?_;refine eV _ (HX lH sH lK) ?_;simp only[St.jH,List.drop]
 have aYQ:=tJ (H:=H) (bK (x:=.row 40 0 7 [[.seq 11 (xs.map vV),i64 xt.k,.seq 1 (xt.tg.map iD),.seq 4 (xt.ar.map jW),i64 xt.pl.lo,.seq 2 (xt.pl.pr.map pD),cX xt.nm]]) (aG _) lH) uL
 have hg:∀(v:fK),H.le (H.bH c4 v):=fun v=>bK (aG _) aYQ
 by_cases CA:k<xs.length
 case neg=>
  have e:k=xs.length:=by omega
  subst e
  have q1:((xs.length:Int)=(xs.length:Int))=True:=aK rfl
  unfold yT at hZ
  rw[uR (dI _)] at hZ
  simp only at hZ
  by_cases h3:xt.k=3
  ·have q3:(xt.k=3)=True:=aK h3
   rw[bG (.inl h3),bG h3] at hZ
   refine tq (eA wO q1 q3) ?_;intro Nx aB Gx aF
   refine rt aD trivial ?_
   exact⟨_,aG _,hg _,_,aH (hg _),by rw[hZ] <;> rfl⟩
  have q3:(xt.k=3)=False:=aI h3
  by_cases h4:xt.k=4
  ·have q4:(xt.k=4)=True:=aK h4
   rw[bG (.inr h4),bB h3] at hZ
   refine tq (gQ wO q1 q3 q4) ?_;intro Nx aB Gx aF
   refine rt aD trivial ?_
   exact⟨_,aG _,hg _,_,aH (hg _),by rw[hZ] <;> rfl⟩
  have q4:(xt.k=4)=False:=aI h4
  rw[bB (fun h=>h.elim h3 h4),bB h3] at hZ
  refine tq (gQ wO q1 q3 q4) ?_;intro Nx aB Gx aF
  refine rt aD trivial ?_
  exact⟨_,aG _,hg _,_,aH (hg _),by rw[hZ] <;> rfl⟩
 have aCC:(k:Int)<(xs.length:Int):=by omega
 have q1:((k:Int)=(xs.length:Int))=False:=aI (by omega)
 have hx:=bI k
 have cJ:=bM k
 have cD:(xs.map vV)[k]?=some (vV xs[k]):=fY CA
 unfold yT at hZ
 rw[bX CA] at hZ
 simp only at hZ
 obtain⟨u,hu⟩:∃u,u=xs[k]:=⟨_,rfl⟩
 rw[<-hu] at cD hZ
 simp only[vV] at cD
 refine tq (nF wO q1 cD hx cJ CA aCC) ?_;intro Nx aB Gx aF
 intro c8 X1
 refine aB _ ?_
 refine fZ 8 X1 ?_
 by_cases h0:u.k=0
 ·have q0:(u.k=0)=True:=aK h0
  rw[aE h0] at hZ
  refine tq q0 ?_;intro Nx aB Gx aF
  refine rt aD trivial ?_
  exact⟨_,aG _,hg _,_,aH (hg _),by rw[hZ] <;> rfl⟩
 have q0:(u.k=0)=False:=aI h0
 rw[aA h0] at hZ
 by_cases h1:u.k=1
 ·have q2:(u.k=1)=True:=aK h1
  rw[aE h1] at hZ
  refine tq (dG q0 q2) ?_;intro Nx aB Gx aF
  refine rt aD trivial ?_
  exact⟨_,aG _,hg _,_,JH (aPy (XV (aKJ (aH (hg _)) qA)) (aH (hg _)) (aH (hg _))),by rw[hZ] <;> rfl⟩
 have q2:(u.k=1)=False:=aI h1
 rw[aA h1] at hZ
 refine tq (dG q0 q2) ?_;intro Nx aB Gx aF
 refine rt aD trivial ?_
 exact⟨_,aG _,hg _,_,JH (aPy (XV (aKJ (aH (hg _)) qA)) (aH (hg _)) (aH (hg _))),by rw[hZ] <;> rfl⟩
def acD (a:AcS):List D:=[i64 a.pl.lo,.seq 2 (a.pl.pr.map pD),.val (.bool a.wr),.val (.bool a.dp)]
def vS (l:uV):List D:=[i64 l.rg,i64 l.pt,.val (.bool l.mu),i64 l.pl.lo,.seq 2 (l.pl.pr.map pD)]
theorem aN4 (a:AcS) (l:uV) (H:aC) (ha:dO a.pl.pr.length) (hl:dO l.pl.pr.length):bE prog 71 [.agg (acD a),.agg (vS l)] H fun d H'=>d=.val (.bool (cfB a l))/\H=H':=by
 obtain⟨Z,hZ⟩:∃Z,Z=cfB a l:=⟨_,rfl⟩
 rw[<-hZ]
 refine bO (K:=fun d=>d=.val (.bool Z)) ?_
 have aS:=aG H
 have vQ:=lm pD a.pl.pr
 have hov:=fun H1=>aC3 a.pl l.pl H1 ha hl
 have K5:=fun H1=>aA5 l.pl a.pl.pr.length H1 hl ha
 unfold cfB at hZ
 obtain⟨E,hE⟩:∃E,E=ovP a.pl l.pl:=⟨_,rfl⟩
 obtain⟨G,hG⟩:∃G,G=XE l.pl a.pl.pr.length:=⟨_,rfl⟩
 rw[<-hE] at hZ hov
 rw[<-hG] at hZ K5
 clear hE hG
 obtain⟨⟨al,ap⟩,aw,ad⟩:=a
 obtain⟨lr,lp,lm,⟨ll,lq⟩⟩:=l
 simp only[lN] at hov K5 hZ vQ
 simp only[acD,vS]
 refine aQ _ _ func71 rfl rfl ntmps71 results71 (by simp) fun w0 g0 Q aD=>?_
 refine tq trivial ?_;intro Nx aB Gx aF
 intro c2 lH c3 j5
 refine aB _ ?_
 obtain⟨lK,sH⟩:=bY.1 j5;refine cA 2 rfl ((aN lK.symm).trans (aO _ _ _)) rfl ?_;refine cA 3 rfl ((bS lK).trans (aO _ _ _)) rfl ?_;refine eV _ (kF lH sH) ?_;simp only[St.jH,List.drop]
 have fin:∀s:St,s.df=[]->s.fr 4=.val (.bool Z)->s.H=H->Q .ret s:=fun s aT h4 hH=>by
  refine aD _ _ (.inr rfl) aT ?_
  show ∃H':aC,_
  exact⟨s.H,aG _,by rw[hH];exact aS,_,by rw[h4];exact aH (by rw[hH];exact aS),rfl⟩
 by_cases h1:aw=false/\lm=false
 ·obtain⟨rfl,rfl⟩:=h1
  rw[aE (.inl ⟨rfl,rfl⟩)] at hZ
  subst hZ
  refine tq trivial ?_;intro Nx aB Gx aF
  exact fin _ rfl rfl rfl
 have aGy:(aw=true)\/(aw=false/\lm=true):=by cases aw <;> cases lm <;> simp at h1 ⊢
 cases E
 ·rw[aE (.inr rfl)] at hZ
  subst hZ
  rcases aGy with rfl|⟨rfl,rfl⟩
  ·refine tq trivial ?_;intro Nx aB Gx aF
   refine(hov _).mono ?_
   rintro d _ ⟨rfl,rfl⟩
   refine tq trivial ?_;intro Nx aB Gx aF
   exact fin _ rfl rfl rfl
  ·refine tq trivial ?_;intro Nx aB Gx aF
   refine(hov _).mono ?_
   rintro d _ ⟨rfl,rfl⟩
   refine tq trivial ?_;intro Nx aB Gx aF
   exact fin _ rfl rfl rfl
 rw[aA (fun h=>h.elim h1 (fun h=>by cases h))] at hZ
 cases ad
 ·rw[aA (by decide)] at hZ
  subst hZ
  rcases aGy with rfl|⟨rfl,rfl⟩
  ·refine tq trivial ?_;intro Nx aB Gx aF
   refine(hov _).mono ?_
   rintro d _ ⟨rfl,rfl⟩
   refine tq vQ ?_;intro Nx aB Gx aF
   refine(K5 _).mono ?_
   rintro d _ ⟨rfl,rfl⟩
   refine tq trivial ?_;intro Nx aB Gx aF
   exact fin _ rfl rfl rfl
  ·refine tq trivial ?_;intro Nx aB Gx aF
   refine(hov _).mono ?_
   rintro d _ ⟨rfl,rfl⟩
   refine tq vQ ?_;intro Nx aB Gx aF
   refine(K5 _).mono ?_
   rintro d _ ⟨rfl,rfl⟩
   refine tq trivial ?_;intro Nx aB Gx aF
   exact fin _ rfl rfl rfl
 ·rw[aE rfl] at hZ
  subst hZ
  rcases aGy with rfl|⟨rfl,rfl⟩
  ·refine tq trivial ?_;intro Nx aB Gx aF
   refine(hov _).mono ?_
   rintro d _ ⟨rfl,rfl⟩
   refine tq trivial ?_;intro Nx aB Gx aF
   exact fin _ rfl rfl rfl
  ·refine tq trivial ?_;intro Nx aB Gx aF
   refine(hov _).mono ?_
   rintro d _ ⟨rfl,rfl⟩
   refine tq trivial ?_;intro Nx aB Gx aF
   exact fin _ rfl rfl rfl
def TM {α:Type} (F:Bool->Int->α) (k:Bool) (x:Int) (v:α):Bool->Int->α:=fun k' x'=>if k'=k/\x'=x then v else F k' x'
theorem tC {α:Type} (F:Bool->Int->α) (k:Bool) (x:Int) (v:α):TM F k x v k x=v:=aE ⟨rfl,rfl⟩
theorem pV {α:Type} {F:Bool->Int->α} {k k':Bool} {x x':Int} {v:α} (h:¬(k'=k/\x'=x)):TM F k x v k' x'=F k' x':=aA h
structure Z7 (H0:aC) (F:Bool->Int->List Int) (c:Bool->Int->Nat) (dm:Bool->Int->Option D) (H:aC):Prop where
 nil:∀k x,F k x=[]->dm k x=none
 own:∀k x,F k x≠[]->∃o,dm k x=some (.os (c k x) o 1 0 (F k x).length)/\H0 (c k x)=none/\H (c k x)=some (.row 3 o 1 ((F k x).map iD))
 inj:∀k x k' x',F k x≠[]->F k' x'≠[]->c k x=c k' x'->k'=k/\x'=x
theorem Z7.fS {H0 H H':aC} {F:Bool->Int->List Int} {c:Bool->Int->Nat} {dm:Bool->Int->Option D} (h:Z7 H0 F c dm H) (hk:∀b z,H b=some z->(∃o els,z=.row 3 o 1 els)->H' b=some z):Z7 H0 F c dm H' where
 nil:=h.nil
 own:=fun k x hx=>by
  obtain⟨o,h1,h2,h3⟩:=h.own k x hx
  exact⟨o,h1,h2,hk _ _ h3 ⟨_,_,rfl⟩⟩
 inj:=h.inj
theorem Z7.gl {H0 H:aC} {F:Bool->Int->List Int} {c:Bool->Int->Nat} {dm:Bool->Int->Option D} (h:Z7 H0 F c dm H) (k:Bool) (x:Int):
  ∃ob,Gl H0 3 1 ((F k x).map iD) ((dm k x).getD (.val (.slice none 0 0))) H ob/\(∀b,ob=some b->∃o els,H b=some (.row 3 o 1 els))/\∀k' x',F k' x'≠[]->¬(k'=k/\x'=x)->ob≠some (c k' x'):=by
 by_cases hx:F k x=[]
 ·exact⟨none,.inl ⟨rfl,by rw[h.nil k x hx] <;> rfl,by rw[hx] <;> rfl⟩,(fun b hb=>by cases hb),fun _ _ _ _ e=>by cases e⟩
 ·obtain⟨o,h1,h2,h3⟩:=h.own k x hx
  refine⟨some (c k x),.inr ⟨c k x,o,rfl,by rw[h1,bC] <;> rfl,h2,h3⟩,fun b hb=>?_,fun k' x' h' fM e=>?_⟩
  ·injection hb with hb;subst hb;exact⟨_,_,h3⟩
  ·injection e with e
   exact fM (h.inj k x k' x' hx h' e)
theorem Z7.step {H0 H H':aC} {F:Bool->Int->List Int} {c:Bool->Int->Nat} {dm:Bool->Int->Option D} (h:Z7 H0 F c dm H) {k:Bool} {x y:Int} {d':D} {ob':Option Nat}
  (hg:Gl H0 3 1 ((F k x++[y]).map iD) d' H' ob') (hk:∀k' x',F k' x'≠[]->¬(k'=k/\x'=x)->H' (c k' x')=H (c k' x')/\ob'≠some (c k' x')):
  ∃c',Z7 H0 (TM F k x (F k x++[y])) c' (TM dm k x (some d')) H':=by
 rcases hg with⟨_,_,h0⟩|⟨b,o,kN,hd,wN,hb⟩
 ·simp at h0
 ·refine⟨TM c k x b,fun k' x' he=>?_,fun k' x' he=>?_,fun k1 x1 k2 x2 h1 h2 he=>?_⟩
  ·by_cases X9:k'=k/\x'=x
   ·rw[X9.1,X9.2,tC] at he;simp at he
   ·rw[pV X9] at he ⊢;exact h.nil k' x' he
  ·by_cases X9:k'=k/\x'=x
   ·obtain⟨rfl,rfl⟩:=X9
    simp only[tC]
    exact⟨o,by rw[hd,bC],wN,hb⟩
   ·rw[pV X9] at he
    simp only[pV X9]
    obtain⟨o',h1,h2,h3⟩:=h.own k' x' he
    exact⟨o',h1,h2,(hk k' x' he X9).1.trans h3⟩
  ·by_cases e1:k1=k/\x1=x <;> by_cases e2:k2=k/\x2=x
   ·exact⟨e2.1.trans e1.1.symm,e2.2.trans e1.2.symm⟩
   ·rw[pV e2] at h2 he
    rw[e1.1,e1.2,tC] at he
    exact absurd (by rw[kN,he]) (hk k2 x2 h2 e2).2
   ·rw[pV e1] at h1 he
    rw[e2.1,e2.2,tC] at he
    exact absurd (by rw[kN,<-he]) (hk k1 x1 h1 e1).2
   ·rw[pV e1] at h1 he
    rw[pV e2] at h2 he
    exact h.inj k1 x1 k2 x2 h1 h2 he
def HE (l:List (Int×Int)):Bool->Int->List Int:=fun k x=>if k=true then jD l x else eC l x
theorem aFt (l:List (Int×Int)) (p:Int×Int):HE (l++[p])=TM (TM (HE l) true p.1 (HE l true p.1++[p.2])) false p.2 (HE l false p.2++[p.1]):=by
 funext k x
 cases k
 ·by_cases hx:x=p.2
  ·subst hx;rw[tC];simp [HE,eC]
  ·rw[pV (by simp [hx]),pV (by simp)]
   have:¬p.2=x:=fun e=>hx e.symm
   simp [HE,eC,this]
 ·rw[pV (by simp)]
  by_cases hx:x=p.1
  ·subst hx;rw[tC];simp [HE,jD]
  ·rw[pV (by simp [hx])]
   have:¬p.1=x:=fun e=>hx e.symm
   simp [HE,jD,this]
theorem aJX (l:List (Int×Int)) (k:Bool) (x:Int):(HE l k x).length<=l.length:=by
 cases k <;> simp only[HE,mF,fW,fO,jD,eC,bC] <;> exact r9 _ _
theorem aDG:∀{l:List (Int×Int)} {n:Int} {q:Option (Int×Int)},zW n q l=0->∀p∈l,cE n p.1/\cE n p.2
 |[],n,q,_,p,hp=>by cases hp
 |r::l,n,q,h,p,hp=>by
  simp only[zW] at h
  split at h
  ·cases h
  ·split at h
   ·cases h
   ·split at h
    ·rcases dJ.1 hp with rfl|hp
     ·unfold cE;omega
     ·exact aDG h p hp
    ·cases h
theorem LH {l:List (Int×Int)} {n:Int} (h:jA l n=0):l.length<=65535/\∀p∈l,cE n p.1/\cE n p.2:=by
 unfold jA at h
 split at h
 ·cases h
 ·exact⟨by omega,aDG h⟩
def NwI (l:List (Int×Int)) (n:Int) (b1 b2:Nat) (H:aC) (i:Nat) (s:St):Prop:=
 s.df=[]/\s.fr 7=jL n b1 b2/\s.fr 21=.seq 2 (l.map pD)/\s.fr 22=i64 l.length/\s.fr 23=i64 i/\H.le s.H/\∃m1 m2 c dm,s.H b1=some (.map m1)/\s.H b2=some (.map m2)/\kP m1 (dm true)/\kP m2 (dm false)/\Z7 H (HE (l.take i)) c dm s.H
def aXf (l:List (Int×Int)) (n:Int) (H:aC) (d:D) (H':aC):Prop:=∃b1 b2 m1 m2 c dm,d=.pG [jL n b1 b2,i64 0]/\H b1=none/\H b2=none/\b1≠b2/\H.le H'/\H' b1=some (.map m1)/\H' b2=some (.map m2)/\kP m1 (dm true)/\kP m2 (dm false)/\Z7 H (HE l) c dm H'
theorem aLM (l:List (Int×Int)) (n:Int) (H:aC) (hn:n<=9223372036854775807) (hc:jA l n=0):bE prog 55 [.seq 2 (l.map pD),i64 n] H (aXf l n H):=by
 have jY:=lm pD l
 obtain⟨hl,iI⟩:=LH hc
 refine aQ _ _ func55 rfl rfl ntmps55 results55 (by simp) fun w0 g0 Q aD=>?_
 refine tq trivial ?_;intro Nx aB Gx aF
 refine(aBJ l n _ (by omega)).mono ?_
 rintro d _ ⟨rfl,rfl⟩
 rw[hc]
 refine tq trivial ?_;intro Nx aB Gx aF
 intro b1 DQ b2 VG bR hbR
 refine aB _ ?_
 refine fZ 7 hbR ?_
 have h12:b1≠b2:=nZ (aO _ _ _) VG
 have aFF:H b2=none:=(bY.1 VG).2
 refine tq jY ?_;intro Nx aB Gx aF
 refine aZ l.length (NwI l n b1 b2 H) ⟨rfl,rfl,rfl,rfl,rfl,bK (bK (aG _) DQ) aFF,[],[],fun _ _=>0,fun _ _=>none,(aN h12).trans (aO _ _ _),aO _ _ _,kP.nil,kP.nil,⟨fun _ _ _=>rfl,fun k x h=>absurd (by cases k <;> simp [HE,jD,eC]) h,fun k x _ _ h _ _=>absurd (by cases k <;> simp [HE,jD,eC]) h⟩⟩ ?_
 rintro i s hi ⟨aT,f7,f21,f22,f23,aS,m1,m2,c,dm,NB,CB,B9,EM,hF⟩
 have hx:=bI i
 have cJ:=bM i
 by_cases aV:i<l.length
 case neg=>
  have q1:=lF i l.length (by omega)
  refine tq (gQ f7 f22 f23 q1) ?_;intro Nx aB Gx aF
  refine rt aD aT ?_
  rw[cW (by omega)] at hF
  exact⟨_,aG _,b1,b2,m1,m2,c,dm,rfl,DQ,aFF,h12,aS,NB,CB,B9,EM,hF⟩
 have q1:=lT i l.length (by omega)
 have cD:=mU aV
 have w3:=wS i (by omega)
 obtain⟨p,OD⟩:∃p,p=l[i]:=⟨_,rfl⟩
 rw[<-OD] at cD
 have oJ:=aFt (l.take i) p
 rw[OD,<-dH aV,<-OD] at oJ
 refine tq (BR f21 f22 f23 q1 cD hx cJ aV jY) ?_;intro Nx aB Gx aF
 intro b9 hb9
 refine aB _ ?_
 refine fZ 9 hb9 ?_
 have l4:=aJX (l.take i)
 have wI:(l.take i).length<=65535:=by rw[dU];omega
 have hpR:=iI p (OD▸bU aV)
 have T4:(-9223372036854775808<=p.1/\p.1<=9223372036854775807)/\(-9223372036854775808<=p.2/\p.2<=9223372036854775807):=by unfold cE at hpR;omega
 refine aCv (fun s'=>s'.df=[]/\s'.fr 7=jL n b1 b2/\s'.fr 9=.rp [i64 p.1,i64 p.2]/\s'.fr 21=.seq 2 (l.map pD)/\s'.fr 22=i64 l.length/\s'.fr 23=i64 i/\H.le s'.H/\∃m1 m2 c dm,s'.H b1=some (.map m1)/\s'.H b2=some (.map m2)/\kP m1 (dm true)/\kP m2 (dm false)/\Z7 H (TM (HE (l.take i)) true p.1 (HE (l.take i) true p.1++[p.2])) c dm s'.H) ?_ ?_
 ·have X7:=B9.get p.1
  have pB:=B9.ok (P:=prog) underlying3 T4.1
  have hb8:=l4 true p.1
  obtain⟨ob,hg,JO,aCH⟩:=hF.gl true p.1
  have LX:ob≠some b1:=fun e=>by obtain⟨o,els,he⟩:=JO b1 e;rw[NB] at he;cases he
  have vF:ob≠some b2:=fun e=>by obtain⟨o,els,he⟩:=JO b2 e;rw[CB] at he;cases he
  have fin:∀d H6 oG,Gl H 3 1 ((HE (l.take i) true p.1).map iD++[iD p.2]) d H6 oG->H.le H6->(∀b z,s.H b=some z->ob≠some b->H6 b=some z/\oG≠some b)->
    H6 b1=some (.map m1)/\H.le (H6.bH b1 (.map (iM m1 (.int .i64 p.1) d)))/\∃m1' m2' c dm,(H6.bH b1 (.map (iM m1 (.int .i64 p.1) d))) b1=some (.map m1')/\(H6.bH b1 (.map (iM m1 (.int .i64 p.1) d))) b2=some (.map m2')/\kP m1' (dm true)/\kP m2' (dm false)/\Z7 H (TM (HE (l.take i)) true p.1 (HE (l.take i) true p.1++[p.2])) c dm (H6.bH b1 (.map (iM m1 (.int .i64 p.1) d))):=fun d H6 oG j6 eM nJ=>by
   have e1:=(nJ _ _ NB LX).1
   have e2:=(nJ _ _ CB vF).1
   rw[show[iD p.2]=[p.2].map iD from rfl,<-cQ] at j6
   obtain⟨c',hF'⟩:=hF.step j6 fun k' x' he fM=>by
    obtain⟨o,h1,h2,h3⟩:=hF.own k' x' he
    have:=nJ _ _ h3 (aCH k' x' he fM)
    exact⟨this.1.trans h3.symm,this.2⟩
   refine⟨e1,bK eM DQ,_,m2,c',TM dm true p.1 (some d),aO _ _ _,(aN h12.symm).trans e2,(B9.set T4.1 d).congr fun x=>by simp [TM],EM.congr fun x=>by simp [TM],hF'.fS fun b z hz ⟨o,els,hzr⟩=>?_⟩
   rw[aN fun e=>by rw[e,e1,hzr] at hz;cases hz]
   exact hz
  cases hdm:dm true p.1 with
  |none=>
   rw[hdm] at X7 hg
   refine wE (fun t=>t==some 30||t==some 31||t==some 32||t==some 36||t==some 37||t==some 38||t==some 40||t==some 41) (fun _=>false) (fun _ _ _ _=>False) (fun _ _ _ _ _=>False) fun Nx aB=>?_;have fs:=And.intro f7 (And.intro @jL.eq_1 (And.intro NB X7));refine TU ?_;(first|refine aF _ ?_|refine aB _ ?_|skip);(try clear fs)
   refine⟨pB,?_⟩
   refine dD (e:=3) kZ rfl kZ rfl PF rfl (by decide) aS hg (new:=[iD p.2]) (by exact⟨rfl,rfl⟩) (by rw[bC];show(_+1) * 8<=_;omega) fun d H6 oG j6 eM nJ=>?_
   obtain⟨e1,e2,e3⟩:=fin d H6 oG j6 eM nJ
   simp only[e1]
   exact⟨pB,aB _ ⟨aT,f7,rfl,f21,f22,f23,e2,e3⟩⟩
  |some dv=>
   rw[hdm] at X7 hg
   refine wE (fun t=>t==some 30||t==some 31||t==some 32||t==some 36||t==some 37||t==some 38||t==some 40||t==some 41) (fun _=>false) (fun _ _ _ _=>False) (fun _ _ _ _ _=>False) fun Nx aB=>?_;have fs:=And.intro f7 (And.intro @jL.eq_1 (And.intro NB X7));refine TU ?_;(first|refine aF _ ?_|refine aB _ ?_|skip);(try clear fs)
   refine⟨pB,?_⟩
   refine dD (e:=3) kZ rfl kZ rfl PF rfl (by decide) aS hg (new:=[iD p.2]) (by exact⟨rfl,rfl⟩) (by rw[bC];show(_+1) * 8<=_;omega) fun d H6 oG j6 eM nJ=>?_
   obtain⟨e1,e2,e3⟩:=fin d H6 oG j6 eM nJ
   simp only[e1]
   exact⟨pB,aB _ ⟨aT,f7,rfl,f21,f22,f23,e2,e3⟩⟩
 rintro s2 ⟨GG,g7,g9,g21,g22,g23,gle,M1,M2,C,DM,gm1,gm2,gi1,gi2,gF⟩
 have aAj:TM (HE (l.take i)) true p.1 (HE (l.take i) true p.1++[p.2]) false p.2=HE (l.take i) false p.2:=pV (by simp)
 rw[<-aAj] at oJ
 obtain⟨F2,hF2⟩:∃F2,F2=TM (HE (l.take i)) true p.1 (HE (l.take i) true p.1++[p.2]):=⟨_,rfl⟩
 rw[<-hF2] at gF oJ aAj
 have aK0:=gi2.get p.2
 have jG:=gi2.ok (P:=prog) underlying3 T4.2
 have aYI:=l4 false p.2
 rw[<-aAj] at aYI
 obtain⟨ob,hg,JO,aCH⟩:=gF.gl false p.2
 have LX:ob≠some b1:=fun e=>by obtain⟨o,els,he⟩:=JO b1 e;rw[gm1] at he;cases he
 have vF:ob≠some b2:=fun e=>by obtain⟨o,els,he⟩:=JO b2 e;rw[gm2] at he;cases he
 have fin:∀d H6 oG,Gl H 3 1 ((F2 false p.2).map iD++[iD p.1]) d H6 oG->H.le H6->(∀b z,s2.H b=some z->ob≠some b->H6 b=some z/\oG≠some b)->
   H6 b2=some (.map M2)/\H.le (H6.bH b2 (.map (iM M2 (.int .i64 p.2) d)))/\∃m1' m2' c dm,(H6.bH b2 (.map (iM M2 (.int .i64 p.2) d))) b1=some (.map m1')/\(H6.bH b2 (.map (iM M2 (.int .i64 p.2) d))) b2=some (.map m2')/\kP m1' (dm true)/\kP m2' (dm false)/\Z7 H (HE (l.take (i+1))) c dm (H6.bH b2 (.map (iM M2 (.int .i64 p.2) d))):=fun d H6 oG j6 eM nJ=>by
  have e1:=(nJ _ _ gm1 LX).1
  have e2:=(nJ _ _ gm2 vF).1
  rw[show[iD p.1]=[p.1].map iD from rfl,<-cQ] at j6
  obtain⟨c',hF'⟩:=gF.step j6 fun k' x' he fM=>by
   obtain⟨o,h1,h2,h3⟩:=gF.own k' x' he
   have:=nJ _ _ h3 (aCH k' x' he fM)
   exact⟨this.1.trans h3.symm,this.2⟩
  rw[<-oJ] at hF'
  refine⟨e2,bK eM aFF,M1,_,c',TM DM false p.2 (some d),(aN h12).trans e1,aO _ _ _,gi1.congr fun x=>by simp [TM],(gi2.set T4.2 d).congr fun x=>by simp [TM],hF'.fS fun b z hz ⟨o,els,hzr⟩=>?_⟩
  rw[aN fun e=>by rw[e,e2,hzr] at hz;cases hz]
  exact hz
 cases hdm:DM false p.2 with
 |none=>
  rw[hdm] at aK0 hg
  refine wE (fun t=>t==some 47||t==some 48||t==some 49||t==some 53||t==some 54||t==some 55||t==some 57||t==some 58) (fun _=>false) (fun _ _ _ _=>False) (fun _ _ _ _ _=>False) fun Nx aB=>?_;have fs:=And.intro g7 (And.intro g9 (And.intro @jL.eq_1 (And.intro gm2 aK0)));refine TU ?_;(first|refine aF _ ?_|refine aB _ ?_|skip);(try clear fs)
  refine⟨jG,?_⟩
  refine dD (e:=3) kZ rfl kZ rfl PF rfl (by decide) gle hg (new:=[iD p.1]) (by exact⟨rfl,rfl⟩) (by rw[bC];show(_+1) * 8<=_;omega) fun d H6 oG j6 eM nJ=>?_
  obtain⟨e1,e2,e3⟩:=fin d H6 oG j6 eM nJ
  simp only[e1]
  refine⟨jG,?_⟩
  refine tq (dG g23 w3) ?_;intro Nx aB Gx aF
  exact⟨aV,GG,g7,g21,g22,rfl,e2,e3⟩
 |some dv=>
  rw[hdm] at aK0 hg
  refine wE (fun t=>t==some 47||t==some 48||t==some 49||t==some 53||t==some 54||t==some 55||t==some 57||t==some 58) (fun _=>false) (fun _ _ _ _=>False) (fun _ _ _ _ _=>False) fun Nx aB=>?_;have fs:=And.intro g7 (And.intro g9 (And.intro @jL.eq_1 (And.intro gm2 aK0)));refine TU ?_;(first|refine aF _ ?_|refine aB _ ?_|skip);(try clear fs)
  refine⟨jG,?_⟩
  refine dD (e:=3) kZ rfl kZ rfl PF rfl (by decide) gle hg (new:=[iD p.1]) (by exact⟨rfl,rfl⟩) (by rw[bC];show(_+1) * 8<=_;omega) fun d H6 oG j6 eM nJ=>?_
  obtain⟨e1,e2,e3⟩:=fin d H6 oG j6 eM nJ
  simp only[e1]
  refine⟨jG,?_⟩
  refine tq (dG g23 w3) ?_;intro Nx aB Gx aF
  exact⟨aV,GG,g7,g21,g22,rfl,e2,e3⟩
def RM (F:Int->List Int):Value->D
 | .int _ x=>.seq 1 ((F x).map iD)
 |_=>.TA
theorem XR {H H0 H':aC} {F:Bool->Int->List Int} {c:Bool->Int->Nat} {dm:Bool->Int->Option D} {k:Bool} {m:List (Value×D)} (hF:Z7 H F c dm H') (hi:kP m (dm k)) (hd:Dom H0 H') (hn:∀b o els,H' b=some (.row 3 o 1 els)->H b=none->H0 b=none):
  (m.map (·.1)).Nodup->∀p∈m,GB H0 H' p.2 (RM (F k) p.1):=fun IK p hp=>by
 obtain⟨x,hx,he⟩:=hi.keys p hp
 have hg:=NI IK hp
 rw[he,hi.get] at hg
 rw[he]
 by_cases hf:F k x=[]
 ·rw[hF.nil k x hf] at hg;cases hg
 ·obtain⟨o,h1,h2,h3⟩:=hF.own k x hf
  rw[h1] at hg
  injection hg with hg
  rw[<-hg]
  have:=aGl (k:=0) (n:=(F k x).length) hd h3 (hn _ _ _ h3 h2) (by rw[bC];omega)
  rw[jB,cW (by rw[bC];exact dI _)] at this
  exact this
theorem XS {H H':aC} {F:Bool->Int->List Int} {c:Bool->Int->Nat} {dm:Bool->Int->Option D} {k:Bool} {m:List (Value×D)} (hF:Z7 H F c dm H') (hi:kP m (dm k)):kP (m.map fun p=>(p.1,RM (F k) p.1)) fun x=>RY (F k x):=
 (hi.aZN (RM (F k))).congr fun x=>by
  unfold RY
  by_cases hf:F k x=[]
  ·rw[hF.nil k x hf,aE hf];rfl
  ·obtain⟨o,h1,_⟩:=hF.own k x hf
   rw[h1,aA hf];rfl
theorem aMn (l:List (Int×Int)) (n:Int) (H:aC) (hn:n<=9223372036854775807) (hc:jA l n=0):bE prog 55 [.seq 2 (l.map pD),i64 n] H fun d H'=>∃b1 b2 m1 m2,d=.pG [jL n b1 b2,i64 0]/\H b1=none/\H b2=none/\b1≠b2/\H'=(H.bH b1 (.map m1)).bH b2 (.map m2)/\yL l b1 b2 H'/\H.le H':=
 (aLM l n H hn hc).R8 fun d H' ⟨b1,b2,m1,m2,c,dm,hde,DQ,VG,fM,aS,NB,CB,B9,EM,hF⟩=>by
  obtain⟨H0,hH0⟩:∃H0,H0=(H.bH b1 (.map (m1.map fun p=>(p.1,RM (HE l true) p.1)))).bH b2 (.map (m2.map fun p=>(p.1,RM (HE l false) p.1))):=⟨_,rfl⟩
  have e2:H0 b2=some (.map (m2.map fun p=>(p.1,RM (HE l false) p.1))):=by rw[hH0,aO]
  have e1:H0 b1=some (.map (m1.map fun p=>(p.1,RM (HE l true) p.1))):=by rw[hH0,aN fM,aO]
  have e0:∀b,b≠b1->b≠b2->H0 b=H b:=fun b h1 h2=>by rw[hH0,aN h2,aN h1]
  have hd:Dom H0 H':=fun b hb=>by
   rw[e0 b (fun e=>by rw[e,NB] at hb;cases hb) (fun e=>by rw[e,CB] at hb;cases hb)]
   cases hx:H b with
   |none=>rfl
   |some x=>rw[aS _ _ hx] at hb;cases hb
  have YE:∀b o els,H' b=some (.row 3 o 1 els)->H b=none->H0 b=none:=fun b o els h1 h2=>by
   rw[e0 b (fun e=>by rw[e,NB] at h1;cases h1) (fun e=>by rw[e,CB] at h1;cases h1)]
   exact h2
  have rT:H.le H0:=by rw[hH0];exact bK (bK (aG _) DQ) VG
  refine⟨d,H0,hd,fun w hH=>hH.R8 hd fun b x hb=>?_,aAZ hd,b1,b2,_,_,hde,DQ,VG,fM,hH0,⟨_,_,e1,XS hF B9,e2,XS hF EM⟩,rT⟩
  by_cases h1:b=b1
  ·subst h1
   rw[e1] at hb
   injection hb with hb
   exact .inr ⟨m1,RM (HE l true),NB,hb.symm,XR hF B9 hd YE⟩
  ·by_cases h2:b=b2
   ·subst h2
    rw[e2] at hb
    injection hb with hb
    exact .inr ⟨m2,RM (HE l false),CB,hb.symm,XR hF EM hd YE⟩
   ·rw[e0 b h1 h2] at hb
    exact .inl (aS _ _ hb)
def rV (S l:List (Int×Int)):List (Int×Int):=l.foldl HV S
theorem aFL {S l:List (Int×Int)} {j:Nat} (h:j<l.length):rV S (l.take (j+1))=HV (rV S (l.take j)) l[j]:=by
 unfold rV
 rw[dH h,zP]
 rfl
theorem rA {l:List (Int×Int)}:∀{S:List (Int×Int)} {y:Int×Int},y∈rV S l↔y∈S\/y∈l:=by
 induction l with
 |nil=>intro S y;simp [rV]
 |cons r l ih=>
  intro S y
  have e:rV S (r::l)=rV (HV S r) l:=rfl
  rw[e,ih,aAs,dJ]
  constructor
  ·rintro((h|h)|h)
   ·exact .inl h
   ·exact .inr (.inl h)
   ·exact .inr (.inr h)
  ·rintro(h|h|h)
   ·exact .inl (.inl h)
   ·exact .inl (.inr h)
   ·exact .inr h
theorem aLw (l:List (Int×Int)) (H:aC) (hl:dO l.length) (h64:∀y∈l,fU y.1/\fU y.2):bE prog 83 [.seq 2 (l.map pD)] H fun d H'=>∃bs,H bs=none/\d=.val (.map (some bs))/\H'=H.bH bs (.map (NT (rV [] l))):=by
 have dX:=lm pD l
 unfold dO at hl
 refine aQ _ _ func83 rfl rfl ntmps83 results83 (by simp) fun w0 g0 Q aD=>?_
 refine tq trivial ?_;intro Nx aB Gx aF
 intro bs hbs
 refine aB _ ?_
 refine tq dX ?_;intro Nx aB Gx aF
 refine aZ l.length (fun i s=>s.df=[]/\s.fr 3=.val (.map (some bs))/\s.fr 7=.seq 2 (l.map pD)/\s.fr 8=i64 l.length/\s.fr 9=i64 i/\s.H=H.bH bs (.map (NT (rV [] (l.take i))))) ⟨rfl,rfl,rfl,rfl,rfl,rfl⟩ ?_
 rintro i s hi ⟨aT,f3,f7,f8,f9,hH⟩
 have hx:=bI i
 have cJ:=bM i
 by_cases aV:i<l.length
 case neg=>
  have q1:=lF i l.length (by omega)
  rw[cW (by omega)] at hH
  refine tq (gQ f3 f8 f9 q1) ?_;intro Nx aB Gx aF
  refine rt aD aT ?_
  exact⟨_,aG _,bs,hbs,rfl,hH⟩
 have q1:=lT i l.length (by omega)
 have cD:=mU aV
 have w3:=wS i (by omega)
 have nI:=aFL (S:=[]) aV
 have zA:=aAC (S:=rV [] (l.take i)) (fun x hx=>h64 x (by rcases rA.1 hx with h|h;cases h;exact zN h)) (h64 l[i] (bU _))
 have GO:=aCs (rV [] (l.take i)) l[i]
 rw[<-nI] at GO
 obtain⟨y,hy⟩:∃y,y=l[i]:=⟨_,rfl⟩
 rw[<-hy] at cD zA GO
 simp only[pk] at zA GO
 refine tq (BR f7 f8 f9 q1 cD hx cJ aV dX) ?_;intro Nx aB Gx aF
 intro b5 hb5
 refine aB _ ?_
 refine fZ 5 hb5 ?_
 refine tq (kB f3 f9 hH GO zA w3) ?_;intro Nx aB Gx aF
 exact⟨aV,aT,f3,f7,f8,rfl,rfl⟩
def fcD (LN:List uV) (E K V L:List (Int×Int)):List D:=[.seq 5 (LN.map vS),.seq 2 (E.map pD),.seq 2 (K.map pD),.seq 2 (V.map pD),.seq 2 (L.map pD)]
def ixD (LN:List uV) (E K V L:List (Int×Int)) (b1 b2 b3 b4:Nat):D:=.rp [.seq 5 (LN.map vS),.seq 2 (E.map pD),.seq 2 (K.map pD),.seq 2 (V.map pD),.seq 2 (L.map pD),.val (.map (some b1)),.val (.map (some b2)),.val (.map (some b3)),.val (.map (some b4))]
def NxF (E:List (Int×Int)):Bool->Int->List Int:=fun k x=>if k=true then jD E x else []
theorem aFp (E:List (Int×Int)) (e:Int×Int):NxF (E++[e])=TM (NxF E) true e.1 (NxF E true e.1++[e.2]):=by
 funext k x
 cases k
 ·rw[pV (by simp)];rfl
 ·by_cases hx:x=e.1
  ·subst hx;rw[tC];simp [NxF,jD]
  ·rw[pV (by simp [hx])]
   have:¬e.1=x:=fun h=>hx h.symm
   simp [NxF,jD,this]
theorem aJS (E:List (Int×Int)) (k:Bool) (x:Int):(NxF E k x).length<=E.length:=by
 cases k <;> simp only[NxF,mF,fW,fO,jD,bC,wF] <;> first|exact r9 _ _|omega
theorem aNQ {R:Nat->aC} {V:Nat->D} {p:D->aC->Prop}:(∀d A,(∃b,A=R b/\d=V b)->p d A)=∀b,p (V b) (R b):=propext
 ⟨fun h b=>h _ _ ⟨b,rfl,rfl⟩,fun h d A ⟨b,h1,h2⟩=>by rw[h1,h2];exact h b⟩
theorem evM {P Q:Prop} (hq:Q) (h:Q->P:=by intro h;simp (maxSteps:=4000000) only[vX,vB,vT,vZ,oN,kV,mmV,O6,RT,mB,jI,kW,↓nV,OS,eG,W8,QF,U2,yQ,yM,AQ,AR,sF,qE,sE,oL,D.nilPtr,D.nK,D.mY,jK,UK,U8,K3,nH,rE,fieldsOf,l3,TW,UA,UB,UC,EP,TK,D.cells,rG,W4,WW,AS,iN,iL,TS,S8,qI,YS,DG,UI,mK,TD.kX,TD.agg,ZY,DI,yN,cpV,wP,AE,AD,UD,TV,tY,BK,gK,iV,Value.oneCell',nY,nW,mR,reduceCtorEq,sB,oA,fO,fW,↓reduceIte,Nat.reduceEqDiff,Int.reduceLE,Int.reduceLT,Int.reduceNeg,Int.reduceToNat,Nat.reduceAdd,Nat.reduceMul,Nat.reduceLeDiff,Nat.reduceMod,Nat.reduceSub,Int.reduceEq,Int.reduceNe,Int.reduceAdd,Int.reduceSub,Int.reduceMul,nX,eY,eX,eN,bW,eQ,lD,fP,jC,kY,j9,jT,jU,jS,aCo,ZO,gdY,gN,St.out,sC,qC,nP,nO,oU,or_true,true_or,zV,u9,↓HI,↓ZP,BS,TX,gC,jV,oS,St.pT,↓aNQ,i64,eU,nE];exact h):P:=h hq
theorem aI7 (l:List (Int×Int)) (H:aC) (hl:dO l.length) (h64:∀y∈l,fU y.1/\fU y.2):eF prog 83 [.seq 2 (l.map pD)] H fun d A=>∃b,A=aC.none.bH b (.map (NT (rV [] l)))/\d=.val (.map (some b)):=
 E2 (fun gI _=>aLw l gI hl h64) fun gI d H' ⟨b,hb,hd,he⟩=>⟨aC.none.bH b (.map (NT (rV [] l))),xQ hb,by rw[he,qC],b,rfl,hd⟩
structure aMy (LN:List uV) (E K V L:List (Int×Int)) (H:aC) (i b1 b2 b3 b4:Nat) (Hs:aC):Prop where
 le:H.le Hs
 n1:H b1=none
 n2:H b2=none
 n3:H b3=none
 n4:H b4=none
 ne:b2≠b1/\b3≠b1/\b4≠b1
 hm:∃m c dm,Hs b1=some (.map m)/\kP m (dm true)/\Z7 H (NxF (E.take i)) c dm Hs
 m2:Hs b2=some (.map (NT (rV [] K)))
 m3:Hs b3=some (.map (NT (rV [] V)))
 m4:Hs b4=some (.map (NT (rV [] L)))
theorem aLN (LN:List uV) (E K V L:List (Int×Int)) (H:aC) (hK:dO K.length) (hV:dO V.length) (hL:dO L.length) (hE:E.length<=1000000) (k64:∀y∈K,fU y.1/\fU y.2) (v64:∀y∈V,fU y.1/\fU y.2) (l64:∀y∈L,fU y.1/\fU y.2) (e64:∀y∈E,fU y.1/\fU y.2):
  bE prog 38 [.agg (fcD LN E K V L)] H fun d H'=>∃b1 b2 b3 b4,d=ixD LN E K V L b1 b2 b3 b4/\aMy LN E K V L H E.length b1 b2 b3 b4 H':=by
 have s1:=fun H1=>aI7 K H1 hK k64
 have s2:=fun H1=>aI7 V H1 hV v64
 have s3:=fun H1=>aI7 L H1 hL l64
 have dX:=lm pD E
 unfold fcD
 refine aQ _ _ func38 rfl rfl ntmps38 results38 (by simp) fun w0 g0 Q aD=>?_
 refine tq trivial ?_;intro Nx aB Gx aF
 intro c1 mA
 refine aB _ ?_
 refine fZ 1 mA ?_
 refine bP ?_
 refine WU (fun t _ d A=>∃b,A=aC.none.bH b (.map (NT (rV [] (if t=some 10 then K else if t=some 13 then V else L))))/\d=.val (.map (some b))) (by kernel_rfl) (by kernel_rfl) (by kernel_rfl) fun Nx aB=>?_
 refine PH ?_
 refine evM ?_
 intro b1 DQ
 refine⟨s1 _,?_⟩
 intro b2 VG
 refine⟨s2 _,?_⟩
 intro b3 hb3
 refine⟨s3 _,?_⟩
 intro b4 hb4 bR hbR
 refine aB _ ?_
 refine fZ 3 hbR ?_
 obtain⟨n21,aFF⟩:=bY.1 VG
 obtain⟨n32,aYF⟩:=bY.1 hb3
 obtain⟨n31,aQP⟩:=bY.1 aYF
 obtain⟨n43,aYH⟩:=bY.1 hb4
 obtain⟨n42,aYG⟩:=bY.1 aYH
 obtain⟨n41,aQQ⟩:=bY.1 aYG
 clear s1 s2 s3
 refine tq dX ?_;intro Nx aB Gx aF
 refine aZ E.length (fun i s=>s.df=[]/\s.fr 3=ixD LN E K V L b1 b2 b3 b4/\s.fr 20=.seq 2 (E.map pD)/\s.fr 21=i64 E.length/\s.fr 22=i64 i/\aMy LN E K V L H i b1 b2 b3 b4 s.H) ⟨rfl,rfl,rfl,rfl,rfl,bK (bK (bK (bK (aG _) DQ) aFF) aQP) aQQ,DQ,aFF,aQP,aQQ,⟨n21,n31,n41⟩,⟨[],fun _ _=>0,fun _ _=>none,(aN n41.symm).trans ((aN n31.symm).trans ((aN n21.symm).trans (aO _ _ _))),kP.nil,⟨fun _ _ _=>rfl,fun k x h=>absurd (by cases k <;> simp [NxF,jD]) h,fun k x _ _ h _ _=>absurd (by cases k <;> simp [NxF,jD]) h⟩⟩,(aN n42.symm).trans ((aN n32.symm).trans (aO _ _ _)),(aN n43.symm).trans (aO _ _ _),aO _ _ _⟩ ?_
 rintro i s hi ⟨aT,f3,f20,f21,f22,⟨aS,n1,n2,n3,n4,ne,⟨m,c,dm,hm,B9,hF⟩,CB,hm3,hm4⟩⟩
 have hx:=bI i
 have cJ:=bM i
 by_cases aV:i<E.length
 case neg=>
  have q1:=lF i E.length (by omega)
  have iI:i=E.length:=by omega
  subst iI
  refine tq (gQ f3 f21 f22 q1) ?_;intro Nx aB Gx aF
  refine rt aD aT ?_
  exact⟨_,aG _,b1,b2,b3,b4,rfl,⟨aS,n1,n2,n3,n4,ne,⟨m,c,dm,hm,B9,hF⟩,CB,hm3,hm4⟩⟩
 have q1:=lT i E.length (by omega)
 have cD:=mU aV
 have w3:=wS i (by omega)
 have T4:=e64 E[i] (bU _)
 obtain⟨p,OD⟩:∃p,p=E[i]:=⟨_,rfl⟩
 rw[<-OD] at cD T4
 have oJ:=aFp (E.take i) p
 rw[OD,<-dH aV,<-OD] at oJ
 refine tq (BR f20 f21 f22 q1 cD hx cJ aV dX) ?_;intro Nx aB Gx aF
 intro b9 hb9
 refine aB _ ?_
 refine fZ 5 hb9 ?_
 have l4:=aJS (E.take i) true p.1
 have wI:(E.take i).length<=1000000:=by rw[dU];omega
 have X7:=B9.get p.1
 have pB:=B9.ok (P:=prog) underlying3 T4.1
 obtain⟨ob,hg,JO,aCH⟩:=hF.gl true p.1
 have RH:∀b z,s.H b=some (.map z)->ob≠some b:=fun b z hz e=>by obtain⟨o,els,he⟩:=JO b e;rw[hz] at he;cases he
 have fin:∀d H6 oG,Gl H 3 1 ((NxF (E.take i) true p.1).map iD++[iD p.2]) d H6 oG->H.le H6->(∀b z,s.H b=some z->ob≠some b->H6 b=some z/\oG≠some b)->
   H6 b1=some (.map m)/\aMy LN E K V L H (i+1) b1 b2 b3 b4 (H6.bH b1 (.map (iM m (.int .i64 p.1) d))):=fun d H6 oG j6 eM nJ=>by
  have e1:=(nJ _ _ hm (RH _ _ hm)).1
  rw[show[iD p.2]=[p.2].map iD from rfl,<-cQ] at j6
  obtain⟨c',hF'⟩:=hF.step j6 fun k' x' he fM=>by
   obtain⟨o,h1,h2,h3⟩:=hF.own k' x' he
   have:=nJ _ _ h3 (aCH k' x' he fM)
   exact⟨this.1.trans h3.symm,this.2⟩
  rw[<-oJ] at hF'
  refine⟨e1,bK eM DQ,n1,n2,n3,n4,ne,⟨_,c',TM dm true p.1 (some d),aO _ _ _,(B9.set T4.1 d).congr fun x=>by simp [TM],hF'.fS fun b z hz ⟨o,els,hzr⟩=>?_⟩,(aN n21).trans (nJ _ _ CB (RH _ _ CB)).1,(aN n31).trans (nJ _ _ hm3 (RH _ _ hm3)).1,(aN n41).trans (nJ _ _ hm4 (RH _ _ hm4)).1⟩
  rw[aN fun e=>by rw[e,e1,hzr] at hz;cases hz]
  exact hz
 cases hdm:dm true p.1 with
 |none=>
  rw[hdm] at X7 hg
  refine wE (fun t=>t==some 29||t==some 30||t==some 31||t==some 35||t==some 36||t==some 37||t==some 39||t==some 40) (fun _=>false) (fun _ _ _ _=>False) (fun _ _ _ _ _=>False) fun Nx aB=>?_;have fs:=And.intro f3 (And.intro @ixD.eq_1 (And.intro hm X7));refine TU ?_;(first|refine aF _ ?_|refine aB _ ?_|skip);(try clear fs)
  refine⟨pB,?_⟩
  refine dD (e:=3) kZ rfl kZ rfl PF rfl (by decide) aS hg (new:=[iD p.2]) (by exact⟨rfl,rfl⟩) (by rw[bC];show(_+1) * 8<=_;omega) fun d H6 oG j6 eM nJ=>?_
  obtain⟨e1,e2⟩:=fin d H6 oG j6 eM nJ
  simp only[e1]
  refine⟨pB,?_⟩
  refine tq (dG f22 w3) ?_;intro Nx aB Gx aF
  exact⟨aV,aT,f3,f20,f21,rfl,e2⟩
 |some dv=>
  rw[hdm] at X7 hg
  refine wE (fun t=>t==some 29||t==some 30||t==some 31||t==some 35||t==some 36||t==some 37||t==some 39||t==some 40) (fun _=>false) (fun _ _ _ _=>False) (fun _ _ _ _ _=>False) fun Nx aB=>?_;have fs:=And.intro f3 (And.intro @ixD.eq_1 (And.intro hm X7));refine TU ?_;(first|refine aF _ ?_|refine aB _ ?_|skip);(try clear fs)
  refine⟨pB,?_⟩
  refine dD (e:=3) kZ rfl kZ rfl PF rfl (by decide) aS hg (new:=[iD p.2]) (by exact⟨rfl,rfl⟩) (by rw[bC];show(_+1) * 8<=_;omega) fun d H6 oG j6 eM nJ=>?_
  obtain⟨e1,e2⟩:=fin d H6 oG j6 eM nJ
  simp only[e1]
  refine⟨pB,?_⟩
  refine tq (dG f22 w3) ?_;intro Nx aB Gx aF
  exact⟨aV,aT,f3,f20,f21,rfl,e2⟩
structure IxO (E K V L:List (Int×Int)) (b1 b2 b3 b4:Nat) (m1:List (Value×D)) (Hs:aC):Prop where
 m1:Hs b1=some (.map m1)
 m2:Hs b2=some (.map (NT (rV [] K)))
 m3:Hs b3=some (.map (NT (rV [] V)))
 m4:Hs b4=some (.map (NT (rV [] L)))
theorem aHr (LN:List uV) (E K V L:List (Int×Int)) (H:aC) (hK:dO K.length) (hV:dO V.length) (hL:dO L.length) (hE:E.length<=1000000) (k64:∀y∈K,fU y.1/\fU y.2) (v64:∀y∈V,fU y.1/\fU y.2) (l64:∀y∈L,fU y.1/\fU y.2) (e64:∀y∈E,fU y.1/\fU y.2):
  bE prog 38 [.agg (fcD LN E K V L)] H fun d H'=>∃b1 b2 b3 b4 m1,d=ixD LN E K V L b1 b2 b3 b4/\H.le H'/\kP m1 (fun x=>RY (jD E x))/\IxO E K V L b1 b2 b3 b4 m1 H':=
 (aLN LN E K V L H hK hV hL hE k64 v64 l64 e64).R8 fun d H' ⟨b1,b2,b3,b4,hde,aS,n1,n2,n3,n4,⟨n21,n31,n41⟩,⟨m,c,dm,hm,B9,hF⟩,CB,hm3,hm4⟩=>by
  rw[nC] at hF
  obtain⟨M,hM⟩:∃M,M=m.map fun p=>(p.1,RM (NxF E true) p.1):=⟨_,rfl⟩
  obtain⟨H0,hH0⟩:∃H0:aC,H0=fun b=>if b=b1 then some (.map M) else if b=b2\/b=b3\/b=b4 then H' b else H b:=⟨_,rfl⟩
  have e1:H0 b1=some (.map M):=by rw[hH0];exact aE rfl
  have e0:∀b,b≠b1->H0 b=H' b\/H0 b=H b:=fun b h=>by
   rw[hH0]
   simp only[aA h]
   split
   ·exact .inl rfl
   ·exact .inr rfl
  have e4:∀b,b≠b1->(b=b2\/b=b3\/b=b4)->H0 b=H' b:=fun b h h2=>by rw[hH0];simp only[aA h,aE h2]
  have hd:Dom H0 H':=fun b hb=>by
   rcases e0 b (fun e=>by rw[e,hm] at hb;cases hb) with h|h
   ·rw[h];exact hb
   ·rw[h];exact lC aS hb
  have YE:∀b o els,H' b=some (.row 3 o 1 els)->H b=none->H0 b=none:=fun b o els h1 h2=>by
   have DQ:b≠b1:=fun e=>by rw[e,hm] at h1;cases h1
   by_cases hq:b=b2\/b=b3\/b=b4
   ·rcases hq with e|e|e <;> rw[e] at h1
    ·rw[CB] at h1;cases h1
    ·rw[hm3] at h1;cases h1
    ·rw[hm4] at h1;cases h1
   ·rw[hH0];simp only[aA DQ,aA hq];exact h2
  refine⟨d,H0,hd,fun w hH=>hH.R8 hd fun b x hb=>?_,aAZ hd,b1,b2,b3,b4,M,hde,fun b x hb=>?_,hM▸XS hF B9,e1,(e4 b2 n21 (.inl rfl)).trans CB,(e4 b3 n31 (.inr (.inl rfl))).trans hm3,(e4 b4 n41 (.inr (.inr rfl))).trans hm4⟩
  ·by_cases h1:b=b1
   ·subst h1
    rw[e1] at hb
    injection hb with hb
    exact .inr ⟨m,RM (NxF E true),hm,by rw[<-hb,hM],XR hF B9 hd YE⟩
   ·rcases e0 b h1 with h|h
    ·exact .inl (h.symm.trans hb)
    ·exact .inl (aS _ _ (h.symm.trans hb))
  ·rcases e0 b (fun e=>by rw[e,n1] at hb;cases hb) with h|h
   ·rw[h];exact aS _ _ hb
   ·rw[h];exact hb
end Go.Proofs.YtfiipaodjpiooaaGreatDoor

