/- Lemmas and contracts of functions, several texts in one. -/
import Derived.Test.YtelbfbioomcmeaaGreatDoorQ33
set_option maxRecDepth 100000
set_option maxHeartbeats 4000000
set_option linter.all false
namespace Go.Proofs.YtelbfbioomcmeaaGreatDoor
open Go.RowKit
open Tryz
theorem LG (l:List ByteArray) (t:ByteArray) (H:aA) (hl:fC l.length):aT prog 121 [.seq 1 (l.map sD),bX t] H fun d H'=>d=i64 (if FM l t<l.length then (FM l t:Int) else -1)/\H=H':=by
 have cI:=lm sD l
 unfold fC at hl
 refine aN _ _ func121 rfl rfl ntmps121 results121 (by simp) fun w0 g0 Q aC=>?_
 refine tq @bX.eq_1 ?_;intro Nx aB Gx aG
 refine bB l.length (fun i s=>s.df=[]/\s.fr 0=.seq 1 (l.map sD)/\s.fr 1=.val (.string t)/\s.fr 5=i64 i/\s.H=H/\∀(k:Nat) (h:k<l.length),k<i->l[k]≠t) ⟨rfl,rfl,rfl,rfl,rfl,fun k _ h=>absurd h (by omega)⟩ ?_
 rintro i s hi ⟨bG,f0,f1,f5,hH,ha⟩
 have hx:=bL i
 have cL:=bY i
 by_cases aZ:i<l.length
 case neg=>
  have p1:=lF i l.length (by omega)
  have hn:¬FM l t<l.length:=fun h=>by
   obtain⟨k,hk,e⟩:=wM (qP.1 h)
   exact ha k hk (by omega) e
  refine tq (gE f0 f1 f5 p1 cI) ?_;intro Nx aB Gx aG
  refine rt aC bG ?_
  exact⟨_,aE _,by rw[aD hn] <;> rfl,hH.symm⟩
 have cN:(i:Int)<(l.length:Int):=by omega
 have p1:((i:Int)<(l.length:Int))=True:=aK cN
 have b8:=jG aZ
 have w3:=wS i (by omega)
 by_cases he:l[i]=t
 ·have q1:(l[i].toList=t.toList)=True:=aK (by rw[he])
  have LD:=aBt aZ he ha
  refine tq (rF f0 f1 f5 p1 cI b8 hx cL aZ q1) ?_;intro Nx aB Gx aG
  refine rt aC f5 ?_
  exact⟨_,aE _,by rw[LD,aH aZ] <;> rfl,hH.symm⟩
 ·have q1:(l[i].toList=t.toList)=False:=aI fun h=>he (fG.1 h)
  refine tq (pE f0 f1 f5 p1 cI b8 hx cL aZ q1 w3) ?_;intro Nx aB Gx aG
  refine⟨aZ,bG,f0,f1,rfl,hH,fun k hk hki=>?_⟩
  by_cases h1:k=i
  ·subst h1;exact he
  ·exact ha k hk (by omega)
def RkI (l:List (Int×Int)) (n:Int) (H:aA) (i:Nat) (s:St):Prop:=s.df=[]/\s.fr 0=.seq 2 (l.map pD)/\s.fr 1=i64 n/\s.fr 5=i64 i/\s.H=H/\xK n none l=xK n (u0 l i) (l.drop i)
theorem aBv (l:List (Int×Int)) (n:Int) (H:aA) (hl:l.length<=140737488351232):aT prog 122 [.seq 2 (l.map pD),i64 n] H fun d H'=>d=i64 (iI l n)/\H=H':=by
 have mA:=lm pD l
 refine aN _ _ func122 rfl rfl ntmps122 results122 (by simp) fun w0 g0 Q aC=>?_
 by_cases hb:65535<l.length
 ·have q0:((65535:Int)<(l.length:Int))=True:=aK (by omega)
  have hc:iI l n=15:=aH hb
  rw[hc] at aC
  refine tq (cZ mA q0) ?_;intro Nx aB Gx aG
  refine rt aC mA ?_
  exact⟨_,aE _,by first|rfl|exact⟨rfl,rfl⟩⟩
 have q0:((65535:Int)<(l.length:Int))=False:=aI (by omega)
 have hc:iI l n=xK n none l:=aD hb
 rw[hc] at aC
 refine tq (cZ mA q0) ?_;intro Nx aB Gx aG
 refine bB l.length (RkI l n H) ⟨rfl,rfl,rfl,rfl,rfl,rfl⟩ ?_
 rintro i s hi ⟨bG,f0,f1,f5,hH,fF⟩
 have hx:=bL i
 have cL:=bY i
 by_cases aZ:i<l.length
 case neg=>
  have q1:=lF i l.length (by omega)
  rw[dX (show l.length<=i by omega)] at fF
  refine tq (gE f0 f1 f5 q1 mA) ?_;intro Nx aB Gx aG
  refine rt aC bG ?_
  exact⟨_,aE _,by rw[fF] <;> rfl,hH.symm⟩
 have q1:=lT i l.length (by omega)
 have b8:=rT aZ
 have w3:=wS i (by omega)
 rw[dI aZ] at fF
 simp only[xK] at fF
 have fin:∀(e:Nat),xK n none l=e->∃H',H'.le s.H/\i64 e=i64 (xK n none l)/\H=H':=fun e he=>⟨_,aE _,by rw[he],hH.symm⟩
 obtain⟨a,ha⟩:∃a,a=l[i].1:=⟨_,rfl⟩
 obtain⟨c,pZ⟩:∃c,c=l[i].2:=⟨_,rfl⟩
 rw[<-ha,<-pZ] at b8 fF
 by_cases h1:a<0
 ·rw[aH (by omega)] at fF
  have p1:(a<0)=True:=aK h1
  refine tq (rF f0 f1 f5 q1 b8 hx cL aZ mA p1) ?_;intro Nx aB Gx aG
  refine rt aC bG ?_
  exact fin 3 fF
 have p1:(a<0)=False:=aI h1
 by_cases h2:n<=a
 ·rw[aH (by omega)] at fF
  have p2:(n<=a)=True:=aK h2
  refine tq (pE f0 f1 f5 q1 b8 hx cL aZ mA p1 p2) ?_;intro Nx aB Gx aG
  refine rt aC bG ?_
  exact fin 3 fF
 have p2:(n<=a)=False:=aI h2
 by_cases h3:c<0
 ·rw[aH (by omega)] at fF
  have p3:(c<0)=True:=aK h3
  refine tq (CF f0 f1 f5 q1 b8 hx cL aZ mA p1 p2 p3) ?_;intro Nx aB Gx aG
  refine rt aC bG ?_
  exact fin 3 fF
 have p3:(c<0)=False:=aI h3
 by_cases h4:n<=c
 ·rw[aH (by omega)] at fF
  have p4:(n<=c)=True:=aK h4
  refine tq (P0 f0 f1 f5 q1 b8 hx cL aZ mA p1 p2 p3 p4) ?_;intro Nx aB Gx aG
  refine rt aC bG ?_
  exact fin 3 fF
 have p4:(n<=c)=False:=aI h4
 rw[aD (by omega)] at fF
 by_cases h5:a=c
 ·rw[aH h5] at fF
  have p5:(a=c)=True:=aK h5
  refine tq (F0 f0 f1 f5 q1 b8 hx cL aZ mA p1 p2 p3 p4 p5) ?_;intro Nx aB Gx aG
  refine rt aC bG ?_
  exact fin 2 fF
 have p5:(a=c)=False:=aI h5
 rw[aD h5] at fF
 by_cases hi0:i=0
 ·have p6:((0:Int)<(i:Int))=False:=aI (by omega)
  have hpr:u0 l i=none:=by rw[hi0];rfl
  rw[hpr] at fF
  simp only[RZ,fU] at fF
  refine tq (aAe f0 f1 f5 q1 b8 hx cL aZ mA p1 p2 p3 p4 p5 p6 w3) ?_;intro Nx aB Gx aG
  exact⟨aZ,bG,f0,f1,rfl,hH,by rw[fF,u0,cP aZ]⟩
 obtain⟨j,hj⟩:∃j,i=j+1:=⟨i - 1,by omega⟩
 have kR:j<l.length:=by omega
 have p6:((0:Int)<(i:Int))=True:=aK (by omega)
 have hgp:=rT kR
 have w4:IntKind.i64.wrap ((i:Int) - 1)=(j:Int):=by rw[aY (by omega)];omega
 have GP:=bY j
 have hxj:=bL j
 have hpr:u0 l i=some l[j]:=by rw[hj,u0,cP kR]
 rw[hpr] at fF
 simp only[RZ,jU,IW,<-ha,<-pZ] at fF
 by_cases h7:a<l[j].1
 ·rw[aD (by omega)] at fF
  have p7:(a<l[j].1)=True:=aK h7
  refine tq (aGU f0 f1 f5 q1 b8 hx cL aZ mA p1 p2 p3 p4 p5 p6 w4 hgp GP hxj kR p7) ?_;intro Nx aB Gx aG
  refine rt aC bG ?_
  exact fin 21 fF
 have p7:(a<l[j].1)=False:=aI h7
 by_cases h8:a=l[j].1
 ·by_cases h9:c<=l[j].2
  ·rw[aD (by omega)] at fF
   have p8:(a=l[j].1)=True:=aK h8
   have p9:(c<=l[j].2)=True:=aK h9
   refine tq (aI4 f0 f1 f5 q1 b8 hx cL aZ mA p1 p2 p3 p4 p5 p6 w4 hgp GP hxj kR p7 p8 p9) ?_;intro Nx aB Gx aG
   refine rt aC bG ?_
   exact fin 21 fF
  ·rw[aH (by omega)] at fF
   have p8:(a=l[j].1)=True:=aK h8
   have p9:(c<=l[j].2)=False:=aI h9
   refine tq (aWw f0 f1 f5 q1 b8 hx cL aZ mA p1 p2 p3 p4 p5 p6 w4 hgp GP hxj kR p7 p8 p9 w3) ?_;intro Nx aB Gx aG
   exact⟨aZ,bG,f0,f1,rfl,hH,by rw[fF,u0,cP aZ]⟩
 ·rw[aH (by omega)] at fF
  have p8:(a=l[j].1)=False:=aI h8
  refine tq (aI4 f0 f1 f5 q1 b8 hx cL aZ mA p1 p2 p3 p4 p5 p6 w4 hgp GP hxj kR p7 p8 w3) ?_;intro Nx aB Gx aG
  exact⟨aZ,bG,f0,f1,rfl,hH,by rw[fF,u0,cP aZ]⟩
theorem Gl.kU {H0:aA} {e:TypeId} {sz:Nat} {els:List (List D)} {d:D} {H:aA} {ob:Option Nat} (h:Gl H0 e sz els d H ob):kU H sz d (·=els):=by
 rcases h with⟨_,rfl,rfl⟩|⟨c,o,_,rfl,_,h4⟩
 ·simp [Go.Proofs.YtelbfbioomcmeaaGreatDoor.kU]
 ·exact VT h4 rfl
theorem aHT (l:List ByteArray) (x:ByteArray) (d:D) (H H0:aA) (ob:Option Nat) (hl:fC l.length) (hg:Gl H0 9 1 (l.map sD) d H ob):aT prog 121 [d,bX x] H fun d H'=>d=i64 (if FM l x<l.length then (FM l x:Int) else -1)/\H=H':=
 yE ((LG l x .none hl).mono fun _ _ h=>h.1) rfl (aFU (aCw hg.kU) (nG _ _))
theorem aFM (l:List ByteArray) (i:Nat):List.take i (List.map sD l)=List.map sD (l.take i):=(sW).symm
theorem aEL (b:iF) (H:aA) (sb:Sb b):aT prog 55 [.agg (iG b)] H fun d H'=>d=i64 (tY b)/\H=H':=by
 refine bM (K:=fun d=>d=i64 (tY b)) ?_
 have aR:=aE H
 obtain⟨o1,o2,⟨o3,o4⟩,o5,o6,o7⟩:=sb.ok
 have hid:=GZ b.nm H sb.nm
 have KG:=aBv b.ol b.rg.length H o2
 have hkt:=aBw b.ty b.rg.length H o3 o4
 have J1:=sb.rs
 have hls:=sb.ls
 have BN:=lm sD b.rg
 have cI:=lm lI b.lc
 have iX:=lm cE b.ty
 have CT:=lm rE b.bl
 unfold fC at o1 o5 o6
 obtain⟨y,hy⟩:∃y,y=tY b:=⟨_,rfl⟩
 rw[<-hy]
 unfold tY qR EJ at hy
 obtain⟨I,hI⟩:∃I,I=qO b.nm:=⟨_,rfl⟩
 rw[<-hI] at hy hid
 clear hI
 obtain⟨R,hR⟩:∃R,R=iI b.ol b.rg.length:=⟨_,rfl⟩
 rw[<-hR] at hy KG
 obtain⟨T,hT⟩:∃T,T=wV b.ty b.rg.length:=⟨_,rfl⟩
 rw[<-hT] at hy hkt
 clear hR hT
 rw[lK]
 refine aN _ _ func55 rfl rfl ntmps55 results55 (by simp) fun w0 g0 Q aC=>?_
 refine tq trivial ?_;intro Nx aB Gx aG
 intro c1 l9
 refine aB _ ?_
 refine fW 1 l9 ?_
 refine tq trivial ?_;intro Nx aB Gx aG
 refine hid.mono ?_
 rintro d _ ⟨rfl,rfl⟩
 cases I
 ·have e:y=12:=hy
  exact oz aC trivial aR e
 rw[aD (fun h=>by cases h)] at hy
 by_cases h1:65535<b.rg.length
 ·have q1:((65535:Int)<(b.rg.length:Int))=True:=aK (by omega)
  have e:y=15:=by rw[hy,aH h1];rfl
  exact oz aC (cZ q1 BN) aR e
 have q1:((65535:Int)<(b.rg.length:Int))=False:=aI (by omega)
 rw[aD h1] at hy
 refine tq (cZ q1 BN) ?_;intro Nx aB Gx aG
 refine bB b.rg.length (fun i s=>s.df=[]/\s.fr 1=.rp [bX b.nm,.seq 1 (b.rg.map sD),.seq 2 (b.ol.map pD),.seq 5 (b.ty.map cE),.seq 2 (b.lc.map lI),i64 b.ag,.seq 7 (b.bl.map rE)]/\s.fr 3=i64 i/\s.H=H/\GC [] b.rg=GC (b.rg.take i) (b.rg.drop i)) ⟨rfl,rfl,rfl,rfl,rfl⟩ ?_
 rintro i s hi ⟨bG,f1,f3,hH,ha⟩
 have hx:=bL i
 have cL:=bY i
 have aX:H.le s.H:=by rw[hH];exact aE _
 by_cases aZ:i<b.rg.length
 case pos=>
  have cN:(i:Int)<(b.rg.length:Int):=by omega
  have CR:(i:Int)<=(b.rg.length:Int):=by omega
  have q6:((i:Int)<(b.rg.length:Int))=True:=aK cN
  have w3:=wS i (by omega)
  have b8:=jG aZ
  have QK:=J1 b.rg[i] (bZ aZ)
  rw[dI aZ,GC] at ha
  have uX:=dH aZ
  obtain⟨x,T9⟩:∃x,x=b.rg[i]:=⟨_,rfl⟩
  rw[<-T9] at b8 QK ha uX
  have BK:∀z:Int,z≠0->GC [] b.rg=z->y=z:=fun z hz h=>by rw[h,aH hz] at hy;exact hy
  have hid:=GZ x s.H QK
  simp only[bX] at hid
  obtain⟨v,hv⟩:∃v,v=qO x:=⟨_,rfl⟩
  rw[<-hv] at hid ha
  refine tq (yP f1 f3 BN q6 b8 hx cL aZ cN) ?_;intro Nx aB Gx aG
  refine hid.mono ?_
  rintro d _ ⟨rfl,yV⟩
  rw[yV] at aX
  cases v
  ·rw[aH rfl] at ha
   have e:=BK 12 (by decide) ha
   exact oz aC trivial aX e
  rw[aD (fun h=>by cases h)] at ha
  have LD:∀H1,dY prog 121 [.seq 1 ((b.rg.take i).map sD),.val (.string x)] H1 fun d A=>A=aA.none/\d=i64 (if FM (b.rg.take i) x<(b.rg.take i).length then (FM (b.rg.take i) x:Int) else -1):=fun H1=>bN fun eL eO=>LG (b.rg.take i) x eL (by unfold fC;rw[dJ];omega)
  have B5:=aFM b.rg i
  have hd0:=iY (l:=List.map sD (b.rg.take i))
  by_cases hm:x∈b.rg.take i
  ·have F9:=qP.2 hm
   rw[aH F9] at ha LD
   have e:=BK 21 (by decide) ha
   obtain⟨n,hn⟩:∃n:Int,n=(FM (b.rg.take i) x:Int):=⟨_,rfl⟩
   rw[<-hn] at LD
   have qn:(n≥0)=True:=aK (by omega)
   refine tq trivial ?_;intro Nx aB Gx aG
   (try refine bO ?_)
   refine dE (fun _ _ d A=>A=.none/\d=i64 n) fun Nx aB=>?_;refine dst (pE f1 f3 BN b8 hx cL aZ cN CR B5 hd0) ?_;intro Nx aB Gx aG
   refine⟨LD _,?_⟩
   (first|refine aG _ ?_|refine aB _ ?_|skip)
   exact oz aC qn aX e
  ·have F9:¬FM (b.rg.take i) x<(b.rg.take i).length:=fun h=>hm (qP.1 h)
   rw[aD F9] at ha LD
   refine tq trivial ?_;intro Nx aB Gx aG
   (try refine bO ?_)
   refine dE (fun _ _ d A=>A=.none/\d=i64 (-1)) fun Nx aB=>?_;refine dst (pE f1 f3 BN b8 hx cL aZ cN CR B5 hd0) ?_;intro Nx aB Gx aG
   refine⟨LD _,?_⟩
   (first|refine aG _ ?_|refine aB _ ?_|skip)
   refine tq (cZ f3 w3) ?_;intro Nx aB Gx aG
   exact⟨aZ,bG,f1,rfl,yV▸hH,by rw[ha,uX]⟩
 have q6:=lF i b.rg.length (by omega)
 rw[dX (by omega),GC] at ha
 rw[ha,aD (fun h=>h rfl)] at hy
 clear ha
 rw[<-hH] at KG hkt
 refine tq (fJ f1 f3 BN q6) ?_;intro Nx aB Gx aG
 refine KG.mono ?_
 rintro d _ ⟨rfl,yV⟩
 rw[yV] at aX hkt
 by_cases h2:R=0
 case neg=>
  have q2:((R:Int)=0)=False:=aI (by omega)
  have e:y=R:=by rw[hy,aH h2]
  exact oz aC q2 aX e
 have q2:((R:Int)=0)=True:=aK (by omega)
 rw[aD (fun h=>h h2)] at hy
 refine tq (dZ f1 q2 BN) ?_;intro Nx aB Gx aG
 refine hkt.mono ?_
 rintro d _ ⟨rfl,NM⟩
 rw[NM] at aX
 by_cases h3:T=0
 case neg=>
  have q3:((T:Int)=0)=False:=aI (by omega)
  have e:y=T:=by rw[hy,aH h3]
  exact oz aC q3 aX e
 have q3:((T:Int)=0)=True:=aK (by omega)
 rw[aD (fun h=>h h3)] at hy
 by_cases h4:65535<b.lc.length
 ·have q4:((65535:Int)<(b.lc.length:Int))=True:=aK (by omega)
  have e:y=15:=by rw[hy,aH h4];rfl
  exact oz aC (fJ f1 q3 q4 cI) aX e
 have q4:((65535:Int)<(b.lc.length:Int))=False:=aI (by omega)
 rw[aD h4] at hy
 refine tq (fJ f1 q3 q4 cI) ?_;intro Nx aB Gx aG
 clear hi hx cL q6 aZ f3
 refine bB b.lc.length (fun i s=>s.df=[]/\s.fr 1=.rp [bX b.nm,.seq 1 (b.rg.map sD),.seq 2 (b.ol.map pD),.seq 5 (b.ty.map cE),.seq 2 (b.lc.map lI),i64 b.ag,.seq 7 (b.bl.map rE)]/\s.fr 6=i64 i/\H.le s.H/\∃ob,Gl H 9 1 (((b.lc.take i).map (·.nm)).map sD) (s.fr 5) s.H ob/\xZ b.ty.length [] b.lc=xZ b.ty.length ((b.lc.take i).map (·.nm)) (b.lc.drop i)) ⟨bG,f1,rfl,aX,none,nJ _ _ _ _,rfl⟩ ?_
 clear bG f1 aX
 rintro i s hi ⟨bG,f1,f6,aX,ob,hg,ha⟩
 have hx:=bL i
 have cL:=bY i
 by_cases aZ:i<b.lc.length
 case neg=>
  have q6:=lF i b.lc.length (by omega)
  rw[dX (by omega),xZ] at ha
  rw[ha,aD (fun h=>h rfl:¬((0:Int)≠0))] at hy
  by_cases h2:b.ag<0
  ·have q2:(b.ag<0)=True:=aK h2
   have e:y=3:=by rw[hy,aH (.inl h2:b.ag<0\/(b.lc.length:Int)<b.ag)];rfl
   exact oz aC (gE f1 f6 cI q6 q2) aX e
  have q2:(b.ag<0)=False:=aI h2
  by_cases h3:(b.lc.length:Int)<b.ag
  ·have q3:((b.lc.length:Int)<b.ag)=True:=aK h3
   have e:y=3:=by rw[hy,aH (.inr h3:b.ag<0\/(b.lc.length:Int)<b.ag)];rfl
   exact oz aC (jA f1 f6 cI q6 q2 q3) aX e
  have q3:((b.lc.length:Int)<b.ag)=False:=aI h3
  rw[aD (by omega:¬(b.ag<0\/(b.lc.length:Int)<b.ag)),aD (fun h=>h rfl:¬((0:Int)≠0))] at hy
  by_cases p:b.bl.length=0
  ·have p1:((b.bl.length:Int)=0)=True:=aK (by omega)
   have e:y=15:=hy.trans (aH (.inl p))
   exact oz aC (qN f1 f6 cI q6 q2 q3 p1 CT) aX e
  have p1:((b.bl.length:Int)=0)=False:=aI (by omega)
  by_cases p2:65535<b.bl.length
  ·have p3:((65535:Int)<(b.bl.length:Int))=True:=aK (by omega)
   have e:y=15:=hy.trans (aH (.inr p2))
   exact oz aC (yP f1 f6 cI q6 q2 q3 p1 p3 CT) aX e
  have p3:((65535:Int)<(b.bl.length:Int))=False:=aI (by omega)
  have e:y=0:=hy.trans (aD (by omega))
  exact oz aC (yP f1 f6 cI q6 q2 q3 p1 p3 CT) aX e
 have cN:(i:Int)<(b.lc.length:Int):=by omega
 have q6:((i:Int)<(b.lc.length:Int))=True:=aK cN
 have w3:=wS i (by omega)
 have b8:=aCA aZ
 have QK:=hls b.lc[i] (bZ aZ)
 rw[dI aZ,xZ] at ha
 have uX:=dH aZ
 obtain⟨S,hS⟩:∃S,S=(b.lc.take i).map (·.nm):=⟨_,rfl⟩
 have hSl:S.length=i:=by rw[hS,bK,dJ];omega
 have hSs:(b.lc.take (i+1)).map (·.nm)=S++[b.lc[i].nm]:=by rw[uX,fI,<-hS];rfl
 rw[<-hS] at hg ha
 obtain⟨x,T9⟩:∃x,x=b.lc[i]:=⟨_,rfl⟩
 rw[<-T9] at b8 QK ha hSs
 clear T9 hS uX
 obtain⟨x,xt⟩:=x
 simp only at QK ha hSs
 simp only[lI,bX] at b8
 have hid:=GZ x s.H QK
 simp only[bX] at hid
 obtain⟨v,hv⟩:∃v,v=qO x:=⟨_,rfl⟩
 rw[<-hv] at hid ha
 have BK:∀z:Int,z≠0->xZ b.ty.length [] b.lc=z->y=z:=fun z hz h=>by rw[h,aH hz,aH hz] at hy;exact hy
 refine tq (yP f1 f6 cI q6 b8 hx cL aZ cN) ?_;intro Nx aB Gx aG
 refine hid.mono ?_
 rintro d _ ⟨rfl,yV⟩
 cases v
 ·rw[aH rfl] at ha
  have e:=BK 12 (by decide) ha
  rw[yV] at aX
  exact oz aC trivial aX e
 rw[aD (fun h=>by cases h)] at ha
 rw[yV] at hg aX
 have LD:=aHT S x (s.fr 5) _ H ob (by unfold fC;omega) hg
 simp only[bX] at LD
 by_cases hm:x∈S
 ·have F9:=qP.2 hm
  rw[aH F9] at ha LD
  have e:=BK 21 (by decide) ha
  obtain⟨n,hn⟩:∃n:Int,n=(FM S x:Int):=⟨_,rfl⟩
  rw[<-hn] at LD
  have qn:(n≥0)=True:=aK (by omega)
  refine tq (qN f1 f6 cI b8 hx cL aZ cN) ?_;intro Nx aB Gx aG
  refine LD.mono ?_
  rintro d _ ⟨rfl,NM⟩
  rw[NM] at aX
  exact oz aC qn aX e
 have F9:¬FM S x<S.length:=fun h=>hm (qP.1 h)
 rw[aD F9] at ha LD
 refine tq (qN f1 f6 cI b8 hx cL aZ cN) ?_;intro Nx aB Gx aG
 refine LD.mono ?_
 rintro d _ ⟨rfl,NM⟩
 rw[NM] at hg aX
 refine tq trivial ?_;intro Nx aB Gx aG
 (try refine bO ?_)
 by_cases h2:xt<0
 ·have q2:(xt<0)=True:=aK h2
  rw[aH (by unfold dG;omega)] at ha
  have e:=BK 3 (by decide) ha
  refine dE (fun _ _ _ _=>False) fun Nx aB=>?_;refine dst (yP f1 f6 cI b8 hx cL aZ cN q2) ?_;intro Nx aB Gx aG
  exact oz aC trivial aX e
 have q2:(xt<0)=False:=aI h2
 by_cases h3:(b.ty.length:Int)<=xt
 ·have q3:(xt≥(b.ty.length:Int))=True:=aK h3
  rw[aH (by unfold dG;omega)] at ha
  have e:=BK 3 (by decide) ha
  refine dE (fun _ _ _ _=>False) fun Nx aB=>?_;refine dst (pE f1 f6 cI b8 hx cL aZ cN q2 q3 iX) ?_;intro Nx aB Gx aG
  exact oz aC trivial aX e
 have q3:(xt≥(b.ty.length:Int))=False:=aI h3
 rw[aD (by unfold dG;omega)] at ha
 refine dE (fun _ _ _ _=>False) fun Nx aB=>?_;refine dst (pE f1 f6 cI b8 hx cL aZ cN q2 q3 iX) ?_;intro Nx aB Gx aG
 refine tq (qN f1 f6 cI b8 hx cL aZ cN) ?_;intro Nx aB Gx aG
 refine cY (e:=9) EW rfl EW rfl ty9 rfl (by decide) aX hg (new:=[sD x]) (by exact⟨rfl,rfl⟩) (by rw[bK];show(_+1) * 16<=_;omega) fun d H6 qL kK eJ _=>?_
 refine tq (cZ f6 w3) ?_;intro Nx aB Gx aG
 refine⟨aZ,bG,f1,rfl,eJ,qL,?_,by rw[ha,hSs]⟩
 rw[hSs,fI];exact kK
theorem UG (b:iF) (H:aA) (sb:Sb b) (fF:tY b=0->Ck b):aT prog 17 [.agg (iG b)] H fun d H'=>d=i64 (DY b)/\H=H':=by
 refine bM (K:=fun d=>d=i64 (DY b)) ?_
 have aR:=aE H
 obtain⟨o1,o2,⟨o3,o4⟩,o5,o6,o7⟩:=sb.ok
 have T8:=sb.ts
 have KC:=aEL b H sb
 have CT:=lm rE b.bl
 unfold fC at o6
 obtain⟨y,hy⟩:∃y,y=DY b:=⟨_,rfl⟩
 rw[<-hy]
 unfold DY at hy
 obtain⟨D0,hD⟩:∃D0,D0=tY b:=⟨_,rfl⟩
 rw[<-hD] at KC fF hy
 clear hD
 rw[lK] at KC ⊢
 refine aN _ _ func17 rfl rfl ntmps17 results17 (by simp) fun w0 g0 Q aC=>?_
 refine tq trivial ?_;intro Nx aB Gx aG
 intro c1 l9
 refine aB _ ?_
 refine fW 1 l9 ?_
 refine tq trivial ?_;intro Nx aB Gx aG
 refine KC.mono ?_
 rintro d _ ⟨rfl,rfl⟩
 by_cases h0:D0=0
 case neg=>
  have q0:(D0=0)=False:=aI h0
  have e:y=D0:=hy.trans (aH h0)
  refine tq q0 ?_;intro Nx aB Gx aG
  refine rt aC trivial ?_
  exact⟨_,aE _,aR,_,aJ aR,by rw[e]⟩
 have q0:(D0=0)=True:=aK h0
 rw[aD (fun h=>h h0)] at hy
 have ck:=fF h0
 refine tq q0 ?_;intro Nx aB Gx aG
 refine bB b.bl.length (fun i s=>s.df=[]/\s.fr 1=.rp [bX b.nm,.seq 1 (b.rg.map sD),.seq 2 (b.ol.map pD),.seq 5 (b.ty.map cE),.seq 2 (b.lc.map lI),i64 b.ag,.seq 7 (b.bl.map rE)]/\s.fr 4=i64 i/\s.H=H/\J8 b b.bl=J8 b (b.bl.drop i)) ⟨rfl,rfl,rfl,rfl,rfl⟩ ?_
 rintro i s hi ⟨bG,f1,f4,hH,ha⟩
 have hx:=bL i
 have cL:=bY i
 have aX:H.le s.H:=by rw[hH];exact aR
 by_cases aZ:i<b.bl.length
 case neg=>
  have q6:=lF i b.bl.length (by omega)
  rw[dX (by omega)] at ha
  have e:y=0:=by rw[hy,ha];rfl
  exact oz aC (fJ f1 f4 CT q6) aX e
 have cN:(i:Int)<(b.bl.length:Int):=by omega
 have q6:((i:Int)<(b.bl.length:Int))=True:=aK cN
 have w3:=wS i (by omega)
 have b8:=aA5 aZ
 have eX:=o7 b.bl[i] (bZ aZ)
 have FH:=T8 b.bl[i] (bZ aZ)
 rw[dI aZ,J8] at ha
 obtain⟨x,T9⟩:∃x,x=b.bl[i]:=⟨_,rfl⟩
 rw[<-T9] at b8 eX FH ha
 clear T9
 obtain⟨xs,xt⟩:=x
 obtain⟨⟨PB,hso⟩,hto⟩:=eX
 simp only at PB hso hto ha FH
 have B5:=aER b xt H ck hto FH
 have o9:∀s∈xs,∀H1,dY prog 56 [.agg (iG b),.agg (J4 s)] H1 fun d A=>A=aA.none/\d=i64 (stE b s):=fun s hs H1=>bN fun eL eO=>aEQ b s eL ck (hso s hs)
 rw[lK] at B5 o9
 have CU:=lm J4 xs
 unfold fC at PB
 simp only[rE] at b8
 simp only[SI] at B5
 refine tq (yP f1 f4 CT q6 b8 hx cL aZ cN) ?_;intro Nx aB Gx aG
 intro c5 pT
 refine aB _ ?_
 refine fW 5 pT ?_
 by_cases h1:65535<xs.length
 ·have q1:((65535:Int)<(xs.length:Int))=True:=aK (by omega)
  have e:y=15:=by rw[hy,ha,aH h1]
  exact oz aC (cZ CU q1) aX e
 have q1:((65535:Int)<(xs.length:Int))=False:=aI (by omega)
 rw[aD h1] at ha
 refine tq (cZ CU q1) ?_;intro Nx aB Gx aG
 refine bB xs.length (fun j s2=>s2.df=[]/\s2.fr 1=.rp [bX b.nm,.seq 1 (b.rg.map sD),.seq 2 (b.ol.map pD),.seq 5 (b.ty.map cE),.seq 2 (b.lc.map lI),i64 b.ag,.seq 7 (b.bl.map rE)]/\s2.fr 4=i64 i/\s2.fr 5=.rp [.seq 11 (xs.map J4),i64 xt.k,.seq 1 (xt.tg.map iD),.seq 4 (xt.ar.map jL),i64 xt.pl.lo,.seq 2 (xt.pl.pr.map pD),bX xt.nm]/\s2.fr 6=i64 j/\s2.H=H/\GG b xs=GG b (xs.drop j)) ⟨bG,f1,f4,rfl,rfl,hH,rfl⟩ ?_
 clear bG f1 f4 hH aX
 rintro j s2 hj ⟨bG,f1,f4,f5,f6,hH,hb⟩
 have hy0:=bL j
 have g00:=bY j
 have aX:H.le s2.H:=by rw[hH];exact aR
 by_cases kR:j<xs.length
 case pos=>
  have aBb:(j:Int)<(xs.length:Int):=by omega
  have p6:((j:Int)<(xs.length:Int))=True:=aK aBb
  have w4:=wS j (by omega)
  have AX:=aCh kR
  have o9:=o9 xs[j] (bZ kR) s2.H
  rw[dI kR,GG] at hb
  obtain⟨v,hv⟩:∃v,v=xs[j]:=⟨_,rfl⟩
  rw[<-hv] at AX o9 hb
  clear hv
  obtain⟨E,hE⟩:∃E,E=stE b v:=⟨_,rfl⟩
  rw[<-hE] at o9 hb
  clear hE
  simp only[J4] at AX o9
  refine tq (fJ f5 f6 CU p6) ?_;intro Nx aB Gx aG
  (try refine bO ?_)
  refine dE (fun _ _ d A=>A=.none/\d=i64 E) fun Nx aB=>?_;refine dst (yP f1 f5 f6 CU AX hy0 g00 kR aBb) ?_;intro Nx aB Gx aG
  refine⟨o9,?_⟩
  (first|refine aG _ ?_|refine aB _ ?_|skip)
  by_cases h2:E=0
  ·have q2:(E=0)=True:=aK h2
   rw[aD (fun h=>h h2)] at hb
   refine tq (dZ f6 q2 w4) ?_;intro Nx aB Gx aG
   exact⟨kR,bG,f1,f4,f5,rfl,hH,hb⟩
  ·have q2:(E=0)=False:=aI h2
   rw[aH h2] at hb
   have e:y=E:=by rw[hy,ha,hb,aH h2]
   exact oz aC q2 aX e
 have p6:=lF j xs.length (by omega)
 rw[dX (by omega),GG] at hb
 rw[hb,aD (fun h=>h rfl)] at ha
 clear hb
 obtain⟨E,hE⟩:∃E,E=tmE b xt:=⟨_,rfl⟩
 rw[<-hE] at B5 ha
 clear hE
 rw[<-hH] at B5
 refine tq (gE f1 f5 f6 CU p6) ?_;intro Nx aB Gx aG
 refine B5.mono ?_
 rintro d _ ⟨rfl,iW⟩
 by_cases h2:E=0
 ·have q2:(E=0)=True:=aK h2
  rw[aD (fun h=>h h2)] at ha
  refine tq (dZ f4 q2 w3) ?_;intro Nx aB Gx aG
  exact⟨aZ,bG,f1,rfl,by rw[<-iW];exact hH,ha⟩
 ·have q2:(E=0)=False:=aI h2
  rw[aH h2] at ha
  have e:y=E:=by rw[hy,ha]
  rw[iW] at aX
  exact oz aC q2 aX e
theorem aHk (b:iF) (ok:RR b):aT prog 4 [.agg (iG b)] .none fun d _=>d=.val (.bool true):=by
 have hsk:=fun H1=>aCe b H1 ok
 have hkc:=fun H1=>fun hs:Sm b=>UG b H1 (aCa ok hs) fun hd=>aAf ok hs hd
 have hcd:=fun H1=>aD1 H1 aQv
 have QJ:Sm b->DY b≠0->aDE b (DY b):=fun hs fP=>⟨fP,fun H1=>K2 b H1 (aCa ok hs) fun hd=>aAf ok hs hd⟩
 obtain⟨C,hC⟩:∃C,C=DY b:=⟨_,rfl⟩
 rw[<-hC] at hkc QJ
 have hgo:Sm b->C≠0->aDE b C:=QJ
 unfold iG at hsk hkc ⊢
 refine aN _ _ func4 rfl rfl ntmps4 results4 (by simp) fun w0 g0 Q aC=>?_
 refine tq trivial ?_;intro Nx aB Gx aG
 intro c1 l9
 refine aB _ ?_
 refine fW 1 l9 ?_
 refine tq trivial ?_;intro Nx aB Gx aG
 refine(hsk _).mono ?_
 rintro d _ ⟨hd,rfl⟩
 rcases hd with rfl|⟨rfl,hs⟩
 ·refine tq trivial ?_;intro Nx aB Gx aG
  refine(hcd _).mono ?_
  rintro d _ ⟨rfl,rfl⟩
  refine tq trivial ?_;intro Nx aB Gx aG
  refine rt aC trivial ?_
  exact⟨_,aE _⟩
 have hkc:=fun H1=>hkc H1 hs
 refine tq trivial ?_;intro Nx aB Gx aG
 refine(hkc _).mono ?_
 rintro d _ ⟨rfl,rfl⟩
 by_cases h4:C=0
 ·refine tq h4 ?_;intro Nx aB Gx aG
  refine(hcd _).mono ?_
  rintro d _ ⟨rfl,rfl⟩
  refine tq trivial ?_;intro Nx aB Gx aG
  refine rt aC trivial ?_
  exact⟨_,aE _⟩
 have q4:(C=0)=False:=aI h4
 have hB:=hgo hs h4
 have o9:=fun (i:Nat) (hi:i<3) H1=>aIB hB H1 i hi
 have hex:=fun H1=>aBM hB H1
 have htc:=fun H1=>aJh hB H1
 have hre:=fun H1=>aJa hB H1
 have hvc:=hB.2
 unfold iG at o9 hex htc hre hvc
 unfold bX at hre
 have e0:(ByteArray.empty.toList=ByteArray.toList ⟨#[]⟩)=True:=aK rfl
 refine tq q4 ?_;intro Nx aB Gx aG
 refine bB 3 (fun i s=>s.df=[]/\s.fr 1=.rp [bX b.nm,.seq 1 (b.rg.map sD),.seq 2 (b.ol.map pD),.seq 5 (b.ty.map cE),.seq 2 (b.lc.map lI),i64 b.ag,.seq 7 (b.bl.map rE)]/\s.fr 21=i64 i/\s.H=aA.none) ⟨rfl,rfl,rfl,rfl⟩ ?_
 rintro i s hi ⟨bG,f1,f21,hH⟩
 by_cases aZ:i<3
 case neg=>
  have q1:((i:Int)<3)=False:=aI (by omega)
  refine tq (dZ f1 f21 q1) ?_;intro Nx aB Gx aG
  refine(hex _).mono ?_
  rintro d _ ⟨rfl,rfl⟩
  refine tq trivial ?_;intro Nx aB Gx aG
  intro c6 JX
  refine aB _ ?_
  refine fW 6 JX ?_
  refine tq f1 ?_;intro Nx aB Gx aG
  refine(htc _).mono ?_
  rintro d _ ⟨rfl,rfl⟩
  refine tq f1 ?_;intro Nx aB Gx aG
  refine(hre _).mono ?_
  rintro d _ ⟨rfl,rfl⟩
  refine tq f1 ?_;intro Nx aB Gx aG
  refine(hcd _).mono ?_
  rintro d _ ⟨rfl,rfl⟩
  refine tq f1 ?_;intro Nx aB Gx aG
  refine(hvc _).mono ?_
  rintro d _ ⟨rfl,rfl⟩
  refine tq (cZ f1 q4) ?_;intro Nx aB Gx aG
  refine(aFF _).mono ?_
  rintro d _ ⟨rfl,rfl⟩
  refine tq e0 ?_;intro Nx aB Gx aG
  refine rt aC bG ?_
  exact⟨_,aE _⟩
 have cN:(i:Int)<3:=by omega
 have q1:((i:Int)<3)=True:=aK cN
 have w3:=wS i (by omega)
 refine tq (dZ f1 f21 q1) ?_;intro Nx aB Gx aG
 refine(o9 i aZ _).mono ?_
 rintro d _ ⟨rfl,rfl⟩
 refine tq (cZ f21 w3) ?_;intro Nx aB Gx aG
 exact⟨aZ,bG,f1,rfl,hH⟩
theorem vE (x0:X) (v0:Value) (w:World) (o0:DT.ok (DT.struct [DT.string,DT.slice 1 16 (DT.string),DT.slice 2 16 (DT.array 2 (DT.int .i64)),DT.slice 5 56 (DT.struct [DT.int .i64,DT.bool,DT.int .i64,DT.int .i64,DT.slice 1 8 (DT.int .i64)]),DT.slice 2 24 (DT.struct [DT.string,DT.int .i64]),DT.int .i64,DT.slice 7 128 (DT.struct [DT.slice 11 136 (DT.struct [DT.int .i64,DT.struct [DT.int .i64,DT.slice 2 16 (DT.struct [DT.int .i64,DT.int .i64])],DT.struct [DT.int .i64,DT.int .i64,DT.int .i64,DT.bool,DT.struct [DT.int .i64,DT.slice 2 16 (DT.struct [DT.int .i64,DT.int .i64])],DT.slice 4 48 (DT.struct [DT.int .i64,DT.struct [DT.int .i64,DT.slice 2 16 (DT.struct [DT.int .i64,DT.int .i64])],DT.int .i64])],DT.int .i64]),DT.struct [DT.int .i64,DT.slice 1 8 (DT.int .i64),DT.slice 4 48 (DT.struct [DT.int .i64,DT.struct [DT.int .i64,DT.slice 2 16 (DT.struct [DT.int .i64,DT.int .i64])],DT.int .i64]),DT.struct [DT.int .i64,DT.slice 2 16 (DT.struct [DT.int .i64,DT.int .i64])],DT.string]])]) x0) (i0:D.is w aA.none.others x0.d v0) (hG:E3 w aA.none):
  Calls prog 4 #[v0] w fun e w'=>e=.returned (.bool true)/\Below w.heap.size w w':=by
 obtain⟨a,ha,aXh⟩:=aE5 o0
 rw[ha] at i0
 exact aFV (aHk a aXh) ⟨_,_,rfl,i0,rfl⟩ hG
end Go.Proofs.YtelbfbioomcmeaaGreatDoor

