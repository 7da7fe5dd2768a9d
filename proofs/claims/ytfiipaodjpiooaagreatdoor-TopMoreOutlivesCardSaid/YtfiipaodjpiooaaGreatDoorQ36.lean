/- Lemmas and contracts of functions, several texts in one. -/
import Derived.Test.YtfiipaodjpiooaaGreatDoorQ35
set_option maxRecDepth 100000
set_option maxHeartbeats 4000000
set_option linter.all false
namespace Go.Proofs.YtfiipaodjpiooaaGreatDoor
open Go.RowKit
open Tryz
theorem VL (l:List ByteArray) (t:ByteArray) (H:aC) (hl:dO l.length):bE prog 91 [.seq 1 (l.map sD),cX t] H fun d H'=>d=i64 (if ixS l t<l.length then (ixS l t:Int) else -1)/\H=H':=by
 have dX:=lm sD l
 unfold dO at hl
 refine aQ _ _ func91 rfl rfl ntmps91 results91 (by simp) fun w0 g0 Q aD=>?_
 refine tq @cX.eq_1 ?_;intro Nx aB Gx aF
 refine aZ l.length (fun i s=>s.df=[]/\s.fr 0=.seq 1 (l.map sD)/\s.fr 1=.val (.string t)/\s.fr 5=i64 i/\s.H=H/\∀(k:Nat) (h:k<l.length),k<i->l[k]≠t) ⟨rfl,rfl,rfl,rfl,rfl,fun k _ h=>absurd h (by omega)⟩ ?_
 rintro i s hi ⟨aT,f0,f1,f5,hH,ha⟩
 have hx:=bI i
 have cJ:=bM i
 by_cases aV:i<l.length
 case neg=>
  have p1:=lF i l.length (by omega)
  have hn:¬ixS l t<l.length:=fun h=>by
   obtain⟨k,hk,e⟩:=sA (CE.1 h)
   exact ha k hk (by omega) e
  refine tq (jE f0 f1 f5 p1 dX) ?_;intro Nx aB Gx aF
  refine rt aD aT ?_
  exact⟨_,aG _,by rw[aA hn] <;> rfl,hH.symm⟩
 have cC:(i:Int)<(l.length:Int):=by omega
 have p1:((i:Int)<(l.length:Int))=True:=aK cC
 have cD:=Q6 aV
 have w3:=wS i (by omega)
 by_cases he:l[i]=t
 ·have q1:(l[i].toList=t.toList)=True:=aK (by rw[he])
  have GP:=aO7 aV he ha
  refine tq (nN f0 f1 f5 p1 dX cD hx cJ aV q1) ?_;intro Nx aB Gx aF
  refine rt aD f5 ?_
  exact⟨_,aG _,by rw[GP,aE aV] <;> rfl,hH.symm⟩
 ·have q1:(l[i].toList=t.toList)=False:=aI fun h=>he (kH.1 h)
  refine tq (rQ f0 f1 f5 p1 dX cD hx cJ aV q1 w3) ?_;intro Nx aB Gx aF
  refine⟨aV,aT,f0,f1,rfl,hH,fun k hk hki=>?_⟩
  by_cases h1:k=i
  ·subst h1;exact he
  ·exact ha k hk (by omega)
def RkI (l:List (Int×Int)) (n:Int) (H:aC) (i:Nat) (s:St):Prop:=s.df=[]/\s.fr 0=.seq 2 (l.map pD)/\s.fr 1=i64 n/\s.fr 5=i64 i/\s.H=H/\zW n none l=zW n (BJ l i) (l.drop i)
theorem aAl (l:List (Int×Int)) (n:Int) (H:aC) (hl:l.length<=140737488351232):bE prog 20 [.seq 2 (l.map pD),i64 n] H fun d H'=>d=i64 (jA l n)/\H=H':=by
 have jY:=lm pD l
 refine aQ _ _ func20 rfl rfl ntmps20 results20 (by simp) fun w0 g0 Q aD=>?_
 by_cases hb:65535<l.length
 ·have q0:((65535:Int)<(l.length:Int))=True:=aK (by omega)
  have hc:jA l n=15:=aE hb
  rw[hc] at aD
  refine tq (dG jY q0) ?_;intro Nx aB Gx aF
  refine rt aD jY ?_
  exact⟨_,aG _,by first|rfl|exact⟨rfl,rfl⟩⟩
 have q0:((65535:Int)<(l.length:Int))=False:=aI (by omega)
 have hc:jA l n=zW n none l:=aA hb
 rw[hc] at aD
 refine tq (dG jY q0) ?_;intro Nx aB Gx aF
 refine aZ l.length (RkI l n H) ⟨rfl,rfl,rfl,rfl,rfl,rfl⟩ ?_
 rintro i s hi ⟨aT,f0,f1,f5,hH,gV⟩
 have hx:=bI i
 have cJ:=bM i
 by_cases aV:i<l.length
 case neg=>
  have q1:=lF i l.length (by omega)
  rw[eT (show l.length<=i by omega)] at gV
  refine tq (jE f0 f1 f5 q1 jY) ?_;intro Nx aB Gx aF
  refine rt aD aT ?_
  exact⟨_,aG _,by rw[gV] <;> rfl,hH.symm⟩
 have q1:=lT i l.length (by omega)
 have cD:=mU aV
 have w3:=wS i (by omega)
 rw[eH aV] at gV
 simp only[zW] at gV
 have fin:∀(e:Nat),zW n none l=e->∃H',H'.le s.H/\i64 e=i64 (zW n none l)/\H=H':=fun e he=>⟨_,aG _,by rw[he],hH.symm⟩
 obtain⟨a,ha⟩:∃a,a=l[i].1:=⟨_,rfl⟩
 obtain⟨c,lH⟩:∃c,c=l[i].2:=⟨_,rfl⟩
 rw[<-ha,<-lH] at cD gV
 by_cases h1:a<0
 ·rw[aE (by omega)] at gV
  have p1:(a<0)=True:=aK h1
  refine tq (nN f0 f1 f5 q1 cD hx cJ aV jY p1) ?_;intro Nx aB Gx aF
  refine rt aD aT ?_
  exact fin 3 gV
 have p1:(a<0)=False:=aI h1
 by_cases h2:n<=a
 ·rw[aE (by omega)] at gV
  have p2:(n<=a)=True:=aK h2
  refine tq (rQ f0 f1 f5 q1 cD hx cJ aV jY p1 p2) ?_;intro Nx aB Gx aF
  refine rt aD aT ?_
  exact fin 3 gV
 have p2:(n<=a)=False:=aI h2
 by_cases h3:c<0
 ·rw[aE (by omega)] at gV
  have p3:(c<0)=True:=aK h3
  refine tq (zY f0 f1 f5 q1 cD hx cJ aV jY p1 p2 p3) ?_;intro Nx aB Gx aF
  refine rt aD aT ?_
  exact fin 3 gV
 have p3:(c<0)=False:=aI h3
 by_cases h4:n<=c
 ·rw[aE (by omega)] at gV
  have p4:(n<=c)=True:=aK h4
  refine tq (W7 f0 f1 f5 q1 cD hx cJ aV jY p1 p2 p3 p4) ?_;intro Nx aB Gx aF
  refine rt aD aT ?_
  exact fin 3 gV
 have p4:(n<=c)=False:=aI h4
 rw[aA (by omega)] at gV
 by_cases h5:a=c
 ·rw[aE h5] at gV
  have p5:(a=c)=True:=aK h5
  refine tq (DH f0 f1 f5 q1 cD hx cJ aV jY p1 p2 p3 p4 p5) ?_;intro Nx aB Gx aF
  refine rt aD aT ?_
  exact fin 2 gV
 have p5:(a=c)=False:=aI h5
 rw[aA h5] at gV
 by_cases hi0:i=0
 ·have p6:((0:Int)<(i:Int))=False:=aI (by omega)
  have NC:BJ l i=none:=by rw[hi0];rfl
  rw[NC] at gV
  simp only[VW,fO] at gV
  refine tq (aAN f0 f1 f5 q1 cD hx cJ aV jY p1 p2 p3 p4 p5 p6 w3) ?_;intro Nx aB Gx aF
  exact⟨aV,aT,f0,f1,rfl,hH,by rw[gV,BJ,bX aV]⟩
 obtain⟨j,hj⟩:∃j,i=j+1:=⟨i - 1,by omega⟩
 have fQ:j<l.length:=by omega
 have p6:((0:Int)<(i:Int))=True:=aK (by omega)
 have hgp:=mU fQ
 have w4:IntKind.i64.wrap ((i:Int) - 1)=(j:Int):=by rw[bF (by omega)];omega
 have xB:=bM j
 have G8:=bI j
 have NC:BJ l i=some l[j]:=by rw[hj,BJ,bX fQ]
 rw[NC] at gV
 simp only[VW,fV,sJ,<-ha,<-lH] at gV
 by_cases h7:a<l[j].1
 ·rw[aA (by omega)] at gV
  have p7:(a<l[j].1)=True:=aK h7
  refine tq (aNX f0 f1 f5 q1 cD hx cJ aV jY p1 p2 p3 p4 p5 p6 w4 hgp xB G8 fQ p7) ?_;intro Nx aB Gx aF
  refine rt aD aT ?_
  exact fin 21 gV
 have p7:(a<l[j].1)=False:=aI h7
 by_cases h8:a=l[j].1
 ·by_cases h9:c<=l[j].2
  ·rw[aA (by omega)] at gV
   have p8:(a=l[j].1)=True:=aK h8
   have p9:(c<=l[j].2)=True:=aK h9
   refine tq (aPq f0 f1 f5 q1 cD hx cJ aV jY p1 p2 p3 p4 p5 p6 w4 hgp xB G8 fQ p7 p8 p9) ?_;intro Nx aB Gx aF
   refine rt aD aT ?_
   exact fin 21 gV
  ·rw[aE (by omega)] at gV
   have p8:(a=l[j].1)=True:=aK h8
   have p9:(c<=l[j].2)=False:=aI h9
   refine tq (aXq f0 f1 f5 q1 cD hx cJ aV jY p1 p2 p3 p4 p5 p6 w4 hgp xB G8 fQ p7 p8 p9 w3) ?_;intro Nx aB Gx aF
   exact⟨aV,aT,f0,f1,rfl,hH,by rw[gV,BJ,bX aV]⟩
 ·rw[aE (by omega)] at gV
  have p8:(a=l[j].1)=False:=aI h8
  refine tq (aPq f0 f1 f5 q1 cD hx cJ aV jY p1 p2 p3 p4 p5 p6 w4 hgp xB G8 fQ p7 p8 w3) ?_;intro Nx aB Gx aF
  exact⟨aV,aT,f0,f1,rfl,hH,by rw[gV,BJ,bX aV]⟩
theorem Gl.nH {H0:aC} {e:TypeId} {sz:Nat} {els:List (List D)} {d:D} {H:aC} {ob:Option Nat} (h:Gl H0 e sz els d H ob):nH H sz d (·=els):=by
 rcases h with⟨_,rfl,rfl⟩|⟨c,o,_,rfl,_,h4⟩
 ·simp [Go.Proofs.YtfiipaodjpiooaaGreatDoor.nH]
 ·exact aDP h4 rfl
theorem aOd (l:List ByteArray) (x:ByteArray) (d:D) (H H0:aC) (ob:Option Nat) (hl:dO l.length) (hg:Gl H0 9 1 (l.map sD) d H ob):bE prog 91 [d,cX x] H fun d H'=>d=i64 (if ixS l x<l.length then (ixS l x:Int) else -1)/\H=H':=
 MC ((VL l x .none hl).mono fun _ _ h=>h.1) rfl (aJC (aJB hg.nH) (tE _ _))
theorem aME (l:List ByteArray) (i:Nat):List.take i (List.map sD l)=List.map sD (l.take i):=(qB).symm
theorem aKl (b:cT) (H:aC) (sb:Sb b):bE prog 45 [.agg (iS b)] H fun d H'=>d=i64 (oI b)/\H=H':=by
 refine bO (K:=fun d=>d=i64 (oI b)) ?_
 have aS:=aG H
 obtain⟨o1,o2,⟨o3,o4⟩,o5,o6,o7⟩:=sb.ok
 have hid:=O4 b.nm H sb.nm
 have T0:=aAl b.ol b.rg.length H o2
 have hkt:=aH1 b.ty b.rg.length H o3 o4
 have OZ:=sb.rs
 have hls:=sb.ls
 have CC:=lm sD b.rg
 have dX:=lm mN b.lc
 have lJ:=lm cP b.ty
 have sQ:=lm jP b.bl
 unfold dO at o1 o5 o6
 obtain⟨y,hy⟩:∃y,y=oI b:=⟨_,rfl⟩
 rw[<-hy]
 unfold oI uO JX at hy
 obtain⟨I,hI⟩:∃I,I=x7 b.nm:=⟨_,rfl⟩
 rw[<-hI] at hy hid
 clear hI
 obtain⟨R,hR⟩:∃R,R=jA b.ol b.rg.length:=⟨_,rfl⟩
 rw[<-hR] at hy T0
 obtain⟨T,hT⟩:∃T,T=B4 b.ty b.rg.length:=⟨_,rfl⟩
 rw[<-hT] at hy hkt
 clear hR hT
 rw[pI]
 refine aQ _ _ func45 rfl rfl ntmps45 results45 (by simp) fun w0 g0 Q aD=>?_
 refine tq trivial ?_;intro Nx aB Gx aF
 intro c1 mA
 refine aB _ ?_
 refine fZ 1 mA ?_
 refine tq trivial ?_;intro Nx aB Gx aF
 refine hid.mono ?_
 rintro d _ ⟨rfl,rfl⟩
 cases I
 ·have e:y=12:=hy
  exact oz aD trivial aS e
 rw[aA (fun h=>by cases h)] at hy
 by_cases h1:65535<b.rg.length
 ·have q1:((65535:Int)<(b.rg.length:Int))=True:=aK (by omega)
  have e:y=15:=by rw[hy,aE h1];rfl
  exact oz aD (dG q1 CC) aS e
 have q1:((65535:Int)<(b.rg.length:Int))=False:=aI (by omega)
 rw[aA h1] at hy
 refine tq (dG q1 CC) ?_;intro Nx aB Gx aF
 refine aZ b.rg.length (fun i s=>s.df=[]/\s.fr 1=.rp [cX b.nm,.seq 1 (b.rg.map sD),.seq 2 (b.ol.map pD),.seq 5 (b.ty.map cP),.seq 2 (b.lc.map mN),i64 b.ag,.seq 7 (b.bl.map jP)]/\s.fr 3=i64 i/\s.H=H/\OG [] b.rg=OG (b.rg.take i) (b.rg.drop i)) ⟨rfl,rfl,rfl,rfl,rfl⟩ ?_
 rintro i s hi ⟨aT,f1,f3,hH,ha⟩
 have hx:=bI i
 have cJ:=bM i
 have aY:H.le s.H:=by rw[hH];exact aG _
 by_cases aV:i<b.rg.length
 case pos=>
  have cC:(i:Int)<(b.rg.length:Int):=by omega
  have DK:(i:Int)<=(b.rg.length:Int):=by omega
  have q6:((i:Int)<(b.rg.length:Int))=True:=aK cC
  have w3:=wS i (by omega)
  have cD:=Q6 aV
  have TC:=OZ b.rg[i] (bU aV)
  rw[eH aV,OG] at ha
  have pY:=dH aV
  obtain⟨x,T7⟩:∃x,x=b.rg[i]:=⟨_,rfl⟩
  rw[<-T7] at cD TC ha pY
  have HL:∀z:Int,z≠0->OG [] b.rg=z->y=z:=fun z hz h=>by rw[h,aE hz] at hy;exact hy
  have hid:=O4 x s.H TC
  simp only[cX] at hid
  obtain⟨v,hv⟩:∃v,v=x7 x:=⟨_,rfl⟩
  rw[<-hv] at hid ha
  refine tq (BR f1 f3 CC q6 cD hx cJ aV cC) ?_;intro Nx aB Gx aF
  refine hid.mono ?_
  rintro d _ ⟨rfl,E9⟩
  rw[E9] at aY
  cases v
  ·rw[aE rfl] at ha
   have e:=HL 12 (by decide) ha
   exact oz aD trivial aY e
  rw[aA (fun h=>by cases h)] at ha
  have GP:∀H1,eF prog 91 [.seq 1 ((b.rg.take i).map sD),.val (.string x)] H1 fun d A=>A=aC.none/\d=i64 (if ixS (b.rg.take i) x<(b.rg.take i).length then (ixS (b.rg.take i) x:Int) else -1):=fun H1=>cF fun gI gX=>VL (b.rg.take i) x gI (by unfold dO;rw[dU];omega)
  have K6:=aME b.rg i
  have hd0:=jB (l:=List.map sD (b.rg.take i))
  by_cases hm:x∈b.rg.take i
  ·have CB:=CE.2 hm
   rw[aE CB] at ha GP
   have e:=HL 21 (by decide) ha
   obtain⟨n,hn⟩:∃n:Int,n=(ixS (b.rg.take i) x:Int):=⟨_,rfl⟩
   rw[<-hn] at GP
   have qn:(n≥0)=True:=aK (by omega)
   refine tq trivial ?_;intro Nx aB Gx aF
   (try refine bP ?_)
   refine dE (fun _ _ d A=>A=.none/\d=i64 n) fun Nx aB=>?_;refine dst (rQ f1 f3 CC cD hx cJ aV cC DK K6 hd0) ?_;intro Nx aB Gx aF
   refine⟨GP _,?_⟩
   (first|refine aF _ ?_|refine aB _ ?_|skip)
   exact oz aD qn aY e
  ·have CB:¬ixS (b.rg.take i) x<(b.rg.take i).length:=fun h=>hm (CE.1 h)
   rw[aA CB] at ha GP
   refine tq trivial ?_;intro Nx aB Gx aF
   (try refine bP ?_)
   refine dE (fun _ _ d A=>A=.none/\d=i64 (-1)) fun Nx aB=>?_;refine dst (rQ f1 f3 CC cD hx cJ aV cC DK K6 hd0) ?_;intro Nx aB Gx aF
   refine⟨GP _,?_⟩
   (first|refine aF _ ?_|refine aB _ ?_|skip)
   refine tq (dG f3 w3) ?_;intro Nx aB Gx aF
   exact⟨aV,aT,f1,rfl,E9▸hH,by rw[ha,pY]⟩
 have q6:=lF i b.rg.length (by omega)
 rw[eT (by omega),OG] at ha
 rw[ha,aA (fun h=>h rfl)] at hy
 clear ha
 rw[<-hH] at T0 hkt
 refine tq (gQ f1 f3 CC q6) ?_;intro Nx aB Gx aF
 refine T0.mono ?_
 rintro d _ ⟨rfl,E9⟩
 rw[E9] at aY hkt
 by_cases h2:R=0
 case neg=>
  have q2:((R:Int)=0)=False:=aI (by omega)
  have e:y=R:=by rw[hy,aE h2]
  exact oz aD q2 aY e
 have q2:((R:Int)=0)=True:=aK (by omega)
 rw[aA (fun h=>h h2)] at hy
 refine tq (eA f1 q2 CC) ?_;intro Nx aB Gx aF
 refine hkt.mono ?_
 rintro d _ ⟨rfl,XZ⟩
 rw[XZ] at aY
 by_cases h3:T=0
 case neg=>
  have q3:((T:Int)=0)=False:=aI (by omega)
  have e:y=T:=by rw[hy,aE h3]
  exact oz aD q3 aY e
 have q3:((T:Int)=0)=True:=aK (by omega)
 rw[aA (fun h=>h h3)] at hy
 by_cases h4:65535<b.lc.length
 ·have q4:((65535:Int)<(b.lc.length:Int))=True:=aK (by omega)
  have e:y=15:=by rw[hy,aE h4];rfl
  exact oz aD (gQ f1 q3 q4 dX) aY e
 have q4:((65535:Int)<(b.lc.length:Int))=False:=aI (by omega)
 rw[aA h4] at hy
 refine tq (gQ f1 q3 q4 dX) ?_;intro Nx aB Gx aF
 clear hi hx cJ q6 aV f3
 refine aZ b.lc.length (fun i s=>s.df=[]/\s.fr 1=.rp [cX b.nm,.seq 1 (b.rg.map sD),.seq 2 (b.ol.map pD),.seq 5 (b.ty.map cP),.seq 2 (b.lc.map mN),i64 b.ag,.seq 7 (b.bl.map jP)]/\s.fr 6=i64 i/\H.le s.H/\∃ob,Gl H 9 1 (((b.lc.take i).map (·.nm)).map sD) (s.fr 5) s.H ob/\EO b.ty.length [] b.lc=EO b.ty.length ((b.lc.take i).map (·.nm)) (b.lc.drop i)) ⟨aT,f1,rfl,aY,none,iW _ _ _ _,rfl⟩ ?_
 clear aT f1 aY
 rintro i s hi ⟨aT,f1,f6,aY,ob,hg,ha⟩
 have hx:=bI i
 have cJ:=bM i
 by_cases aV:i<b.lc.length
 case neg=>
  have q6:=lF i b.lc.length (by omega)
  rw[eT (by omega),EO] at ha
  rw[ha,aA (fun h=>h rfl:¬((0:Int)≠0))] at hy
  by_cases h2:b.ag<0
  ·have q2:(b.ag<0)=True:=aK h2
   have e:y=3:=by rw[hy,aE (.inl h2:b.ag<0\/(b.lc.length:Int)<b.ag)];rfl
   exact oz aD (jE f1 f6 dX q6 q2) aY e
  have q2:(b.ag<0)=False:=aI h2
  by_cases h3:(b.lc.length:Int)<b.ag
  ·have q3:((b.lc.length:Int)<b.ag)=True:=aK h3
   have e:y=3:=by rw[hy,aE (.inr h3:b.ag<0\/(b.lc.length:Int)<b.ag)];rfl
   exact oz aD (kB f1 f6 dX q6 q2 q3) aY e
  have q3:((b.lc.length:Int)<b.ag)=False:=aI h3
  rw[aA (by omega:¬(b.ag<0\/(b.lc.length:Int)<b.ag)),aA (fun h=>h rfl:¬((0:Int)≠0))] at hy
  by_cases p:b.bl.length=0
  ·have p1:((b.bl.length:Int)=0)=True:=aK (by omega)
   have e:y=15:=hy.trans (aE (.inl p))
   exact oz aD (wG f1 f6 dX q6 q2 q3 p1 sQ) aY e
  have p1:((b.bl.length:Int)=0)=False:=aI (by omega)
  by_cases p2:65535<b.bl.length
  ·have p3:((65535:Int)<(b.bl.length:Int))=True:=aK (by omega)
   have e:y=15:=hy.trans (aE (.inr p2))
   exact oz aD (BR f1 f6 dX q6 q2 q3 p1 p3 sQ) aY e
  have p3:((65535:Int)<(b.bl.length:Int))=False:=aI (by omega)
  have e:y=0:=hy.trans (aA (by omega))
  exact oz aD (BR f1 f6 dX q6 q2 q3 p1 p3 sQ) aY e
 have cC:(i:Int)<(b.lc.length:Int):=by omega
 have q6:((i:Int)<(b.lc.length:Int))=True:=aK cC
 have w3:=wS i (by omega)
 have cD:=aHa aV
 have TC:=hls b.lc[i] (bU aV)
 rw[eH aV,EO] at ha
 have pY:=dH aV
 obtain⟨S,hS⟩:∃S,S=(b.lc.take i).map (·.nm):=⟨_,rfl⟩
 have hSl:S.length=i:=by rw[hS,bC,dU];omega
 have hSs:(b.lc.take (i+1)).map (·.nm)=S++[b.lc[i].nm]:=by rw[pY,cQ,<-hS];rfl
 rw[<-hS] at hg ha
 obtain⟨x,T7⟩:∃x,x=b.lc[i]:=⟨_,rfl⟩
 rw[<-T7] at cD TC ha hSs
 clear T7 hS pY
 obtain⟨x,xt⟩:=x
 simp only at TC ha hSs
 simp only[mN,cX] at cD
 have hid:=O4 x s.H TC
 simp only[cX] at hid
 obtain⟨v,hv⟩:∃v,v=x7 x:=⟨_,rfl⟩
 rw[<-hv] at hid ha
 have HL:∀z:Int,z≠0->EO b.ty.length [] b.lc=z->y=z:=fun z hz h=>by rw[h,aE hz,aE hz] at hy;exact hy
 refine tq (BR f1 f6 dX q6 cD hx cJ aV cC) ?_;intro Nx aB Gx aF
 refine hid.mono ?_
 rintro d _ ⟨rfl,E9⟩
 cases v
 ·rw[aE rfl] at ha
  have e:=HL 12 (by decide) ha
  rw[E9] at aY
  exact oz aD trivial aY e
 rw[aA (fun h=>by cases h)] at ha
 rw[E9] at hg aY
 have GP:=aOd S x (s.fr 5) _ H ob (by unfold dO;omega) hg
 simp only[cX] at GP
 by_cases hm:x∈S
 ·have CB:=CE.2 hm
  rw[aE CB] at ha GP
  have e:=HL 21 (by decide) ha
  obtain⟨n,hn⟩:∃n:Int,n=(ixS S x:Int):=⟨_,rfl⟩
  rw[<-hn] at GP
  have qn:(n≥0)=True:=aK (by omega)
  refine tq (wG f1 f6 dX cD hx cJ aV cC) ?_;intro Nx aB Gx aF
  refine GP.mono ?_
  rintro d _ ⟨rfl,XZ⟩
  rw[XZ] at aY
  exact oz aD qn aY e
 have CB:¬ixS S x<S.length:=fun h=>hm (CE.1 h)
 rw[aA CB] at ha GP
 refine tq (wG f1 f6 dX cD hx cJ aV cC) ?_;intro Nx aB Gx aF
 refine GP.mono ?_
 rintro d _ ⟨rfl,XZ⟩
 rw[XZ] at hg aY
 refine tq trivial ?_;intro Nx aB Gx aF
 (try refine bP ?_)
 by_cases h2:xt<0
 ·have q2:(xt<0)=True:=aK h2
  rw[aE (by unfold cE;omega)] at ha
  have e:=HL 3 (by decide) ha
  refine dE (fun _ _ _ _=>False) fun Nx aB=>?_;refine dst (BR f1 f6 dX cD hx cJ aV cC q2) ?_;intro Nx aB Gx aF
  exact oz aD trivial aY e
 have q2:(xt<0)=False:=aI h2
 by_cases h3:(b.ty.length:Int)<=xt
 ·have q3:(xt≥(b.ty.length:Int))=True:=aK h3
  rw[aE (by unfold cE;omega)] at ha
  have e:=HL 3 (by decide) ha
  refine dE (fun _ _ _ _=>False) fun Nx aB=>?_;refine dst (rQ f1 f6 dX cD hx cJ aV cC q2 q3 lJ) ?_;intro Nx aB Gx aF
  exact oz aD trivial aY e
 have q3:(xt≥(b.ty.length:Int))=False:=aI h3
 rw[aA (by unfold cE;omega)] at ha
 refine dE (fun _ _ _ _=>False) fun Nx aB=>?_;refine dst (rQ f1 f6 dX cD hx cJ aV cC q2 q3 lJ) ?_;intro Nx aB Gx aF
 refine tq (wG f1 f6 dX cD hx cJ aV cC) ?_;intro Nx aB Gx aF
 refine dD (e:=9) aPY rfl aPY rfl ty9 rfl (by decide) aY hg (new:=[sD x]) (by exact⟨rfl,rfl⟩) (by rw[bC];show(_+1) * 16<=_;omega) fun d H6 oG j6 eM _=>?_
 refine tq (dG f6 w3) ?_;intro Nx aB Gx aF
 refine⟨aV,aT,f1,rfl,eM,oG,?_,by rw[ha,hSs]⟩
 rw[hSs,cQ];exact j6
theorem aCN (b:cT) (H:aC) (sb:Sb b) (gV:oI b=0->Ck b):bE prog 23 [.agg (iS b)] H fun d H'=>d=i64 (qJ b)/\H=H':=by
 refine bO (K:=fun d=>d=i64 (qJ b)) ?_
 have aS:=aG H
 obtain⟨o1,o2,⟨o3,o4⟩,o5,o6,o7⟩:=sb.ok
 have hts:=sb.ts
 have hde:=aKl b H sb
 have sQ:=lm jP b.bl
 unfold dO at o6
 obtain⟨y,hy⟩:∃y,y=qJ b:=⟨_,rfl⟩
 rw[<-hy]
 unfold qJ at hy
 obtain⟨D0,hD⟩:∃D0,D0=oI b:=⟨_,rfl⟩
 rw[<-hD] at hde gV hy
 clear hD
 rw[pI] at hde ⊢
 refine aQ _ _ func23 rfl rfl ntmps23 results23 (by simp) fun w0 g0 Q aD=>?_
 refine tq trivial ?_;intro Nx aB Gx aF
 intro c1 mA
 refine aB _ ?_
 refine fZ 1 mA ?_
 refine tq trivial ?_;intro Nx aB Gx aF
 refine hde.mono ?_
 rintro d _ ⟨rfl,rfl⟩
 by_cases h0:D0=0
 case neg=>
  have q0:(D0=0)=False:=aI h0
  have e:y=D0:=hy.trans (aE h0)
  refine tq q0 ?_;intro Nx aB Gx aF
  refine rt aD trivial ?_
  exact⟨_,aG _,aS,_,aH aS,by rw[e]⟩
 have q0:(D0=0)=True:=aK h0
 rw[aA (fun h=>h h0)] at hy
 have ck:=gV h0
 refine tq q0 ?_;intro Nx aB Gx aF
 refine aZ b.bl.length (fun i s=>s.df=[]/\s.fr 1=.rp [cX b.nm,.seq 1 (b.rg.map sD),.seq 2 (b.ol.map pD),.seq 5 (b.ty.map cP),.seq 2 (b.lc.map mN),i64 b.ag,.seq 7 (b.bl.map jP)]/\s.fr 4=i64 i/\s.H=H/\uG b b.bl=uG b (b.bl.drop i)) ⟨rfl,rfl,rfl,rfl,rfl⟩ ?_
 rintro i s hi ⟨aT,f1,f4,hH,ha⟩
 have hx:=bI i
 have cJ:=bM i
 have aY:H.le s.H:=by rw[hH];exact aS
 by_cases aV:i<b.bl.length
 case neg=>
  have q6:=lF i b.bl.length (by omega)
  rw[eT (by omega)] at ha
  have e:y=0:=by rw[hy,ha];rfl
  exact oz aD (gQ f1 f4 sQ q6) aY e
 have cC:(i:Int)<(b.bl.length:Int):=by omega
 have q6:((i:Int)<(b.bl.length:Int))=True:=aK cC
 have w3:=wS i (by omega)
 have cD:=aBh aV
 have fI:=o7 b.bl[i] (bU aV)
 have hnm:=hts b.bl[i] (bU aV)
 rw[eH aV,uG] at ha
 obtain⟨x,T7⟩:∃x,x=b.bl[i]:=⟨_,rfl⟩
 rw[<-T7] at cD fI hnm ha
 clear T7
 obtain⟨xs,xt⟩:=x
 obtain⟨⟨ND,hso⟩,hto⟩:=fI
 simp only at ND hso hto ha hnm
 have K6:=aKw b xt H ck hto hnm
 have nI:∀s∈xs,∀H1,eF prog 46 [.agg (iS b),.agg (vV s)] H1 fun d A=>A=aC.none/\d=i64 (IN b s):=fun s hs H1=>cF fun gI gX=>aKv b s gI ck (hso s hs)
 rw[pI] at K6 nI
 have wO:=lm vV xs
 unfold dO at ND
 simp only[jP] at cD
 simp only[tmD] at K6
 refine tq (BR f1 f4 sQ q6 cD hx cJ aV cC) ?_;intro Nx aB Gx aF
 intro c5 lY
 refine aB _ ?_
 refine fZ 5 lY ?_
 by_cases h1:65535<xs.length
 ·have q1:((65535:Int)<(xs.length:Int))=True:=aK (by omega)
  have e:y=15:=by rw[hy,ha,aE h1]
  exact oz aD (dG wO q1) aY e
 have q1:((65535:Int)<(xs.length:Int))=False:=aI (by omega)
 rw[aA h1] at ha
 refine tq (dG wO q1) ?_;intro Nx aB Gx aF
 refine aZ xs.length (fun j s2=>s2.df=[]/\s2.fr 1=.rp [cX b.nm,.seq 1 (b.rg.map sD),.seq 2 (b.ol.map pD),.seq 5 (b.ty.map cP),.seq 2 (b.lc.map mN),i64 b.ag,.seq 7 (b.bl.map jP)]/\s2.fr 4=i64 i/\s2.fr 5=.rp [.seq 11 (xs.map vV),i64 xt.k,.seq 1 (xt.tg.map iD),.seq 4 (xt.ar.map jW),i64 xt.pl.lo,.seq 2 (xt.pl.pr.map pD),cX xt.nm]/\s2.fr 6=i64 j/\s2.H=H/\tB b xs=tB b (xs.drop j)) ⟨aT,f1,f4,rfl,rfl,hH,rfl⟩ ?_
 clear aT f1 f4 hH aY
 rintro j s2 hj ⟨aT,f1,f4,f5,f6,hH,hb⟩
 have hy0:=bI j
 have g00:=bM j
 have aY:H.le s2.H:=by rw[hH];exact aS
 by_cases fQ:j<xs.length
 case pos=>
  have RE:(j:Int)<(xs.length:Int):=by omega
  have p6:((j:Int)<(xs.length:Int))=True:=aK RE
  have w4:=wS j (by omega)
  have qR:=aIf fQ
  have nI:=nI xs[j] (bU fQ) s2.H
  rw[eH fQ,tB] at hb
  obtain⟨v,hv⟩:∃v,v=xs[j]:=⟨_,rfl⟩
  rw[<-hv] at qR nI hb
  clear hv
  obtain⟨E,hE⟩:∃E,E=IN b v:=⟨_,rfl⟩
  rw[<-hE] at nI hb
  clear hE
  simp only[vV] at qR nI
  refine tq (gQ f5 f6 wO p6) ?_;intro Nx aB Gx aF
  (try refine bP ?_)
  refine dE (fun _ _ d A=>A=.none/\d=i64 E) fun Nx aB=>?_;refine dst (BR f1 f5 f6 wO qR hy0 g00 fQ RE) ?_;intro Nx aB Gx aF
  refine⟨nI,?_⟩
  (first|refine aF _ ?_|refine aB _ ?_|skip)
  by_cases h2:E=0
  ·have q2:(E=0)=True:=aK h2
   rw[aA (fun h=>h h2)] at hb
   refine tq (eA f6 q2 w4) ?_;intro Nx aB Gx aF
   exact⟨fQ,aT,f1,f4,f5,rfl,hH,hb⟩
  ·have q2:(E=0)=False:=aI h2
   rw[aE h2] at hb
   have e:y=E:=by rw[hy,ha,hb,aE h2]
   exact oz aD q2 aY e
 have p6:=lF j xs.length (by omega)
 rw[eT (by omega),tB] at hb
 rw[hb,aA (fun h=>h rfl)] at ha
 clear hb
 obtain⟨E,hE⟩:∃E,E=BU b xt:=⟨_,rfl⟩
 rw[<-hE] at K6 ha
 clear hE
 rw[<-hH] at K6
 refine tq (jE f1 f5 f6 wO p6) ?_;intro Nx aB Gx aF
 refine K6.mono ?_
 rintro d _ ⟨rfl,mV⟩
 by_cases h2:E=0
 ·have q2:(E=0)=True:=aK h2
  rw[aA (fun h=>h h2)] at ha
  refine tq (eA f4 q2 w3) ?_;intro Nx aB Gx aF
  exact⟨aV,aT,f1,rfl,by rw[<-mV];exact hH,ha⟩
 ·have q2:(E=0)=False:=aI h2
  rw[aE h2] at ha
  have e:y=E:=by rw[hy,ha]
  rw[mV] at aY
  exact oz aD q2 aY e
structure Ts (b:cT):Prop where
 ok:AG b
 sk:Sm b
 cn:bZ (dK b)<=60
 lc:b.lc.length<=20
 rg:b.rg.length<=10
 ch:qJ b=0
theorem aGU:∀l:List mP,bZ (l.map fun x=>(x.st.length,x.tm.tg))<=sm WB l
 |[]=>dI _
 |x::l=>by
  have:=aGU l
  have e:WB x=1+x.st.length+x.tm.tg.length+x.tm.pl.pr.length+x.tm.nm.size+sm szS x.st+opz x.tm.ar:=rfl
  simp only[eU,bZ,sm]
  omega
theorem Sm.cn {b:cT} (h:Sm b):bZ (dK b)<=3000:=by
 have h1:=h.tt
 rw[AH] at h1
 have h2:=aGU b.bl
 have e:dK b=b.bl.map fun x=>(x.st.length,x.tm.tg):=rfl
 rw[e];omega
theorem Ts.tb {b:cT} (h:Ts b):Tb b where
 ok:=h.ok
 sb:=aI1 h.ok h.sk
 ck:=aM1 h.ok h.sk (uY h.ch).1
 ch:=h.ch
 cn:=by have:=h.cn;omega
 lc:=h.lc
 rg:=h.rg
 ar:=fun x hx=>by
  have h1:=h.sk.tt
  rw[AH] at h1
  have h2:=CN (f:=WB) hx
  have e:WB x=1+x.st.length+x.tm.tg.length+x.tm.pl.pr.length+x.tm.nm.size+sm szS x.st+opz x.tm.ar:=rfl
  have e2:opz x.tm.ar=x.tm.ar.length+sm (fun o=>o.pl.pr.length) x.tm.ar:=rfl
  refine⟨fun s hs=>?_,by omega⟩
  have h3:=CN (f:=szS) hs
  have e3:szS s=s.pl.pr.length+s.rv.pl.pr.length+opz s.rv.ar:=rfl
  have e4:opz s.rv.ar=s.rv.ar.length+sm (fun o=>o.pl.pr.length) s.rv.ar:=rfl
  omega
theorem aCO (b:cT) (H:aC) (h:bZ (dK b)<=1000000):bE prog 9 [.agg (iS b)] H fun d H'=>d=i64 (bZ (dK b))/\H=H':=by
 have h:=aH2 (gB b) H (by rw[TY];exact h)
 rwa[Q5,TY] at h
theorem ES (b:cT) (H:aC) (ok:AG b):bE prog 8 [.agg (iS b)] H fun d H'=>(d=i64 1\/(d=i64 0/\Ts b))/\H=H':=by
 refine bO (K:=fun d=>d=i64 1\/(d=i64 0/\Ts b)) ?_
 have aS:=aG H
 have TI:=aIb b H ok
 have BC:=fun hs:Sm b=>aCO b H (by have:=hs.cn;omega)
 have hkc:=fun hs:Sm b=>aCN b H (aI1 ok hs) fun hd=>aM1 ok hs hd
 have dX:=lm mN b.lc
 have CC:=lm sD b.rg
 obtain⟨C,hC⟩:∃C,C=qJ b:=⟨_,rfl⟩
 rw[<-hC] at hkc
 unfold iS at TI BC hkc ⊢
 refine aQ _ _ func8 rfl rfl ntmps8 results8 (by simp) fun w0 g0 Q aD=>?_
 refine tq trivial ?_;intro Nx aB Gx aF
 intro c1 mA
 refine aB _ ?_
 refine fZ 1 mA ?_
 refine tq trivial ?_;intro Nx aB Gx aF
 refine TI.mono ?_
 rintro d _ ⟨hd,rfl⟩
 rcases hd with rfl|⟨rfl,hs⟩
 ·refine tq trivial ?_;intro Nx aB Gx aF
  refine rt aD trivial ?_
  exact⟨_,aG _,aS,_,aH aS,.inl rfl⟩
 have BC:=BC hs
 have hkc:=hkc hs
 refine tq trivial ?_;intro Nx aB Gx aF
 refine BC.mono ?_
 rintro d _ ⟨rfl,rfl⟩
 by_cases h1:bZ (dK b)<=60
 case neg=>
  have q1:((60:Int)<(bZ (dK b):Int))=True:=aK (by omega)
  refine tq q1 ?_;intro Nx aB Gx aF
  refine rt aD trivial ?_
  exact⟨_,aG _,aS,_,aH aS,.inl rfl⟩
 have q1:((60:Int)<(bZ (dK b):Int))=False:=aI (by omega)
 by_cases h2:b.lc.length<=20
 case neg=>
  have q2:((20:Int)<(b.lc.length:Int))=True:=aK (by omega)
  refine tq (eA q1 q2 dX) ?_;intro Nx aB Gx aF
  refine rt aD trivial ?_
  exact⟨_,aG _,aS,_,aH aS,.inl rfl⟩
 have q2:((20:Int)<(b.lc.length:Int))=False:=aI (by omega)
 by_cases h3:b.rg.length<=10
 case neg=>
  have q3:((10:Int)<(b.rg.length:Int))=True:=aK (by omega)
  refine tq (jE q1 q2 q3 dX CC) ?_;intro Nx aB Gx aF
  refine rt aD trivial ?_
  exact⟨_,aG _,aS,_,aH aS,.inl rfl⟩
 have q3:((10:Int)<(b.rg.length:Int))=False:=aI (by omega)
 refine tq (jE q1 q2 q3 dX CC) ?_;intro Nx aB Gx aF
 refine hkc.mono ?_
 rintro d _ ⟨rfl,rfl⟩
 by_cases h4:C=0
 ·refine tq h4 ?_;intro Nx aB Gx aF
  refine rt aD trivial ?_
  exact⟨_,aG _,aS,_,aH aS,.inr ⟨rfl,ok,hs,h1,h2,h3,by rw[<-hC];exact h4⟩⟩
 ·have q4:(C=0)=False:=aI h4
  refine tq q4 ?_;intro Nx aB Gx aF
  refine rt aD trivial ?_
  exact⟨_,aG _,aS,_,aH aS,.inl rfl⟩
theorem aKE (b:cT) (H:aC) (sb:Sb b) (gV:oI b=0->Ck b) (fM:qJ b≠0):bE prog 14 [.agg (iS b)] H fun d H'=>d=.pG [.agg [.val (.slice none 0 0),.val (.slice none 0 0),.val (.slice none 0 0),.val (.slice none 0 0),.val (.slice none 0 0)],i64 16]/\H=H':=by
 have hc:=fun H1=>U3 b H1 sb gV
 have q1:(qJ b=0)=False:=aI fM
 unfold iS at hc ⊢
 refine aQ _ _ func14 rfl rfl ntmps14 results14 (by simp) fun w0 g0 Q aD=>?_
 refine tq trivial ?_;intro Nx aB Gx aF
 intro c1 mA c2 lH
 refine aB _ ?_
 obtain⟨lK,sH⟩:=bY.1 lH;refine cA 1 rfl ((aN lK.symm).trans (aO _ _ _)) rfl ?_;refine eV _ (HX mA sH lK) ?_;simp only[St.jH,List.drop]
 have aBu:=(bY.1 lH).2
 clear mA lH
 refine tq trivial ?_;intro Nx aB Gx aF
 refine(hc _).mono ?_
 rintro d _ ⟨rfl,rfl⟩
 refine tq q1 ?_;intro Nx aB Gx aF
 refine rt aD trivial ?_
 have iC:=fun z=>bK (x:=z) (aG H) aBu
 exact⟨H,iC _,by first|rfl|exact⟨rfl,rfl⟩⟩
theorem aKz (b:cT) (H:aC) (sb:Sb b) (gV:oI b=0->Ck b) (fM:qJ b≠0):bE prog 11 [.agg (iS b)] H fun d H'=>d=.pG [.val (.slice none 0 0),i64 16]/\H=H':=by
 have hc:=fun H1=>aKE b H1 sb gV fM
 unfold iS at hc ⊢
 refine aQ _ _ func11 rfl rfl ntmps11 results11 (by simp) fun w0 g0 Q aD=>?_
 refine tq trivial ?_;intro Nx aB Gx aF
 intro c1 mA
 refine aB _ ?_
 refine fZ 1 mA ?_
 refine tq trivial ?_;intro Nx aB Gx aF
 refine(hc _).mono ?_
 rintro d _ ⟨rfl,rfl⟩
 refine tq trivial ?_;intro Nx aB Gx aF
 intro c4 uL
 refine aB _ ?_
 refine fZ 4 uL ?_
 refine tq trivial ?_;intro Nx aB Gx aF
 refine rt aD trivial ?_
 exact⟨_,aG _,by first|rfl|exact⟨rfl,rfl⟩⟩
def fS1:ByteArray:=⟨#[102]⟩
def tmZ:HF:=⟨2,[],[],⟨0,[]⟩,ByteArray.empty⟩
def zS:cT:=⟨fS1,[],[],[],[],0,[⟨[],tmZ⟩]⟩
def eS:cT:=⟨ByteArray.empty,[],[],[],[],0,[]⟩
theorem aNU:qJ zS=0:=by
 have h1:oI zS=0:=by
  have e1:x7 fS1=true:=by decide
  unfold oI zS
  simp [e1,uO,OG,jA,zW,B4,zX,JX,EO]
 have h2:BU zS tmZ=0:=by unfold BU;simp [tmZ,yO,gL]
 unfold qJ
 rw[aA (by rw[h1];simp)]
 show uG zS [⟨[],tmZ⟩]=0
 simp [uG,tB,h2]
theorem aGP:oI eS≠0/\qJ eS≠0:=by
 have e1:x7 ByteArray.empty=false:=by decide
 have h1:oI eS=12:=by
  unfold oI eS
  simp [e1]
 unfold qJ
 rw[h1]
 simp
theorem aRS:AG zS:=by
 refine⟨by unfold dO;decide,by unfold dO;decide,⟨by unfold dO;decide,fun t ht=>by simp [zS] at ht⟩,by unfold dO;decide,by unfold dO;decide,fun x hx=>?_⟩
 simp only[zS,cR] at hx
 subst hx
 exact⟨⟨by unfold dO;decide,fun s hs=>by simp at hs⟩,by unfold dO;decide,⟨by unfold dO;decide,fun o ho=>by simp [tmZ] at ho⟩,by unfold L9 dO;decide⟩
theorem aRR:AG eS:=⟨by unfold dO;decide,by unfold dO;decide,⟨by unfold dO;decide,fun t ht=>by simp [eS] at ht⟩,by unfold dO;decide,by unfold dO;decide,fun x hx=>by simp [eS] at hx⟩
theorem aRb:Ts zS:=⟨aRS,⟨by decide,by decide,by decide,by decide⟩,by decide,by decide,by decide,aNU⟩
theorem aR1:Sb eS:=aI1 aRR ⟨by decide,by decide,by decide,by decide⟩
theorem aMT:rZ zS=[]:=rfl
theorem kQ (H:aC):bE prog 10 [] H fun d H'=>d=.val (.bool true)/\H=H':=by
 have h1:=fun H1=>(I9 aRb.tb H1).imp (ds:=[.agg [cX fS1,.val (.slice none 0 0),.val (.slice none 0 0),.val (.slice none 0 0),.val (.slice none 0 0),i64 0,.seq 7 [[.val (.slice none 0 0),i64 2,.val (.slice none 0 0),.val (.slice none 0 0),i64 0,.val (.slice none 0 0),cX ByteArray.empty]]]]) ⟨RL ⟨dQ _,fR,fR,fR,fR,dQ _,YI ⟨⟨fR,dQ _,fR,fR,dQ _,fR,dQ _,trivial⟩,trivial⟩,trivial⟩,trivial⟩
 have h2:=fun H1=>(aKz eS H1 aR1 (fun h=>absurd h aGP.1) aGP.2).imp (ds:=[.agg [cX ByteArray.empty,.val (.slice none 0 0),.val (.slice none 0 0),.val (.slice none 0 0),.val (.slice none 0 0),i64 0,.val (.slice none 0 0)]]) ⟨RL ⟨dQ _,fR,fR,fR,fR,dQ _,fR,trivial⟩,trivial⟩
 rw[aMT] at h1
 unfold cX fS1 at h1
 unfold cX at h2
 have h3:∀H1,bE prog 25 [] H1 fun d H'=>d=.agg [.val (.string ⟨#[102]⟩),.val (.slice none 0 0),.val (.slice none 0 0),.val (.slice none 0 0),.val (.slice none 0 0),i64 0,.seq 7 [[.val (.slice none 0 0),i64 2,.val (.slice none 0 0),.val (.slice none 0 0),i64 0,.val (.slice none 0 0),.val (.string ByteArray.empty)]]]/\H1=H':=fun H1=>by
  refine aQ _ _ func25 rfl rfl ntmps25 results25 (by simp) fun w0 g0 Q aD=>?_
  refine tq trivial ?_;intro Nx aB Gx aF
  intro c0 AL
  refine aB _ ?_
  refine tq trivial ?_;intro Nx aB Gx aF
  refine rt aD trivial ?_
  have iC:=fun z=>bK (x:=z) (aG H1) AL
  exact⟨H1,iC _,by first|rfl|exact⟨rfl,rfl⟩⟩
 refine aQ _ _ func10 rfl rfl ntmps10 results10 (by simp) fun w0 g0 Q aD=>?_
 refine tq trivial ?_;intro Nx aB Gx aF
 refine(h3 _).mono ?_
 rintro d _ ⟨rfl,rfl⟩
 refine tq trivial ?_;intro Nx aB Gx aF
 refine(h1 _).mono ?_
 rintro d _ ⟨rfl,rfl⟩
 refine tq trivial ?_;intro Nx aB Gx aF
 refine(h2 _).mono ?_
 rintro d _ ⟨rfl,rfl⟩
 refine tq trivial ?_;intro Nx aB Gx aF
 refine rt aD trivial ?_
 exact⟨_,aG _,by first|rfl|exact⟨rfl,rfl⟩⟩
end Go.Proofs.YtfiipaodjpiooaaGreatDoor

