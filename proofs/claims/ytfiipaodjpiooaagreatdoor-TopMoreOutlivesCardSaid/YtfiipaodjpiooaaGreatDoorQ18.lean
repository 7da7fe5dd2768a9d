/- Lemmas and contracts of functions, several texts in one. -/
import Derived.Test.YtfiipaodjpiooaaGreatDoorQ17
set_option maxRecDepth 100000
set_option maxHeartbeats 4000000
set_option linter.all false
namespace Go.Proofs.YtfiipaodjpiooaaGreatDoor
open Go.RowKit
open Tryz
structure aMw where
 st:List (List D)
 k:D
 tg:List Int
 ar:D
 lo:D
 pr:D
 nm:D
def JI (b:aMw):List D:=[.seq 11 b.st,b.k,.seq 1 (b.tg.map iD),b.ar,b.lo,b.pr,b.nm]
structure sO where
 nm:D
 rg:D
 ol:D
 ty:D
 lc:D
 ag:D
 bl:List aMw
def qM (b:sO):List D:=[b.nm,b.rg,b.ol,b.ty,b.lc,b.ag,.seq 7 (b.bl.map JI)]
def sO.g (b:sO):Gr:=b.bl.map fun x=>(x.st.length,x.tg)
theorem sO.xV (b:sO):b.g.length=b.bl.length:=by unfold sO.g;simp
theorem sO.aA1 (b:sO) {i:Nat} (h:i<b.bl.length):b.g[i]'(by rw[b.xV];exact h)=(b.bl[i].st.length,b.bl[i].tg):=by simp only[sO.g,zQ]
theorem E1 {b:sO} {i:Nat} (h:i<b.bl.length):(b.bl.map JI)[i]?=some (JI b.bl[i]):=by rw[dN,bX h];rfl
theorem HG (b:sO):(b.bl.map JI).length=b.bl.length:=bC _
theorem AY (b:sO) {i:Nat} (h:i<b.bl.length):cY b.g (i+1)=cY b.g i+b.bl[i].st.length+1:=by
 rw[mT (by rw[b.xV];exact h),b.aA1 h]
theorem aNO {b:sO} {p:Int} {i k:Nat}:At b.g p i k↔∃h:i<b.bl.length,k<=b.bl[i].st.length/\p=(cY b.g i:Int)+k:=by
 constructor
 ·rintro⟨h1,h2,h3⟩
  have h4:i<b.bl.length:=by rw[b.xV] at h1;exact h1
  rw[b.aA1 h4] at h2
  exact⟨h4,h2,h3⟩
 ·rintro⟨h1,h2,h3⟩
  exact⟨by rw[b.xV];exact h1,by rw[b.aA1 h1];exact h2,h3⟩
theorem xL {b:sO} (hc:bZ b.g<=1000000):b.bl.length<=1000000:=by
 have:=FC b.g
 rw[b.xV] at this;omega
theorem xF {b:sO} (hc:bZ b.g<=1000000) {i:Nat} (h:i<b.bl.length):b.bl[i].st.length+cY b.g i+1<=1000000:=by
 have h1:=AY b h
 have h2:=AX (G:=b.g) (i:=i+1)
 omega
theorem aAm (b:sO) (n:Int) (H:aC) (hc:bZ b.g<=1000000):bE prog 24 [.agg (qM b),i64 n] H fun d H'=>d=i64 (cY b.g n.toNat)/\H=H':=by
 have l4:=HG b
 have hsm:=xL hc
 refine aQ _ _ func24 rfl rfl ntmps24 results24 (by simp) fun w0 g0 Q aD=>?_
 refine tq @qM.eq_1 ?_;intro Nx aB Gx aF
 intro c2 lH
 refine aB _ ?_
 refine fZ 2 lH ?_
 refine tq trivial ?_;intro Nx aB Gx aF
 refine aZ b.bl.length (fun i s=>s.df=[]/\s.fr 1=i64 n/\s.fr 2=.rp (qM b)/\s.fr 5=i64 (cY b.g i)/\s.fr 6=i64 i/\s.H=H/\i<=n.toNat) ⟨rfl,rfl,rfl,rfl,rfl,rfl,oD _⟩ ?_
 rintro i s hi ⟨aT,f1,f2,f5,f6,hH,iI⟩
 have hx:=bI i
 have cJ:=bM i
 simp only[qM] at f2
 by_cases q:(i:Int)<n
 case neg=>
  have q1:((i:Int)<n)=False:=aI q
  have e:n.toNat=i:=by omega
  refine tq (jE f1 f2 f5 f6 q1) ?_;intro Nx aB Gx aF
  refine rt aD aT ?_
  exact⟨_,aG _,by rw[e] <;> rfl,hH.symm⟩
 have q1:((i:Int)<n)=True:=aK q
 by_cases aV:i<b.bl.length
 case neg=>
  have q2:=lF i b.bl.length (by omega)
  have e:cY b.g i=cY b.g n.toNat:=by rw[nS (by rw[b.xV];omega),nS (by rw[b.xV];omega)]
  refine tq (nF f1 f2 f5 f6 q1 q2 l4) ?_;intro Nx aB Gx aF
  refine rt aD aT ?_
  exact⟨_,aG _,by rw[<-e] <;> rfl,hH.symm⟩
 have q2:=lT i b.bl.length (by omega)
 have cD:=E1 aV
 have nI:=xF hc aV
 have LW:=AY b aV
 obtain⟨x,tV⟩:∃x,x=b.bl[i]:=⟨_,rfl⟩
 rw[<-tV] at cD nI LW
 simp only[JI] at cD
 have w1:IntKind.i64.wrap ((x.st.length:Int)+1)=((x.st.length+1:Nat):Int):=by rw[bF (by omega)];omega
 have w2:IntKind.i64.wrap ((cY b.g i:Int)+((x.st.length+1:Nat):Int))=((cY b.g (i+1):Nat):Int):=by rw[bF (by omega)];omega
 have w3:=wS i (by omega)
 refine tq (DH f1 f2 f5 f6 q1 q2 l4 cD hx cJ aV w1 w2 w3) ?_;intro Nx aB Gx aF
 exact⟨aV,aT,f1,f2,rfl,rfl,hH,by omega⟩
theorem aH2 (b:sO) (H:aC) (hc:bZ b.g<=1000000):bE prog 9 [.agg (qM b)] H fun d H'=>d=i64 (bZ b.g)/\H=H':=by
 have l4:=HG b
 have e:cY b.g ((b.bl.length:Int)).toNat=bZ b.g:=nS (by rw[b.xV,bI];exact dI _)
 refine aQ _ _ func9 rfl rfl ntmps9 results9 (by simp) fun w0 g0 Q aD=>?_
 refine tq @qM.eq_1 ?_;intro Nx aB Gx aF
 intro c2 lH
 refine aB _ ?_
 refine fZ 1 lH ?_
 refine tq l4 ?_;intro Nx aB Gx aF
 refine(aAm b _ _ hc).mono ?_
 rintro d _ ⟨rfl,rfl⟩
 rw[e]
 refine tq trivial ?_;intro Nx aB Gx aF
 refine rt aD trivial ?_
 exact⟨_,aG _,rfl⟩
noncomputable def RR (G:Gr) (p:Int):D:=match aFR G p with
 |some (i,k)=>.pG [i64 i,i64 k,.val (.bool true)]
 |none=>.pG [i64 0,i64 0,.val (.bool false)]
theorem O9 {G:Gr} {p:Int} {i k:Nat} (h:At G p i k):RR G p=.pG [i64 i,i64 k,.val (.bool true)]:=by unfold RR;rw[aDn h]
theorem YP {G:Gr} {p:Int} (h:¬(0<=p/\p<bZ G)):RR G p=.pG [i64 0,i64 0,.val (.bool false)]:=by unfold RR;rw[aLD h]
theorem aOe (b:sO) (p:Int) (H:aC) (hc:bZ b.g<=1000000) (hp:p<=9223372036854775807):bE prog 12 [.agg (qM b),i64 p] H fun d H'=>d=RR b.g p/\H=H':=by
 have l4:=HG b
 have hsm:=xL hc
 refine aQ _ _ func12 rfl rfl ntmps12 results12 (by simp) fun w0 g0 Q aD=>?_
 refine tq @qM.eq_1 ?_;intro Nx aB Gx aF
 intro c2 lH
 refine aB _ ?_
 refine fZ 2 lH ?_
 refine tq trivial ?_;intro Nx aB Gx aF
 refine aZ b.bl.length (fun i s=>s.df=[]/\s.fr 1=i64 p/\s.fr 2=.rp (qM b)/\s.fr 7=i64 i/\s.H=H/\(0<=p->(cY b.g i:Int)<=p)) ⟨rfl,rfl,rfl,rfl,rfl,fun h=>h⟩ ?_
 rintro i s hi ⟨aT,f1,f2,f7,hH,iI⟩
 have hx:=bI i
 have cJ:=bM i
 simp only[qM] at f2
 by_cases aV:i<b.bl.length
 case neg=>
  have q2:=lF i b.bl.length (by omega)
  have e:RR b.g p=_:=YP fun h=>by
   have:=iI h.1
   rw[nS (by rw[b.xV];omega)] at this
   omega
  refine tq (jE f1 f2 f7 q2 l4) ?_;intro Nx aB Gx aF
  refine rt aD aT ?_
  exact⟨_,aG _,e.symm,hH.symm⟩
 have q2:=lT i b.bl.length (by omega)
 have cC:(i:Int)<b.bl.length:=by omega
 have cD:=E1 aV
 have nI:=xF hc aV
 have LW:=AY b aV
 have xC:=fun k=>(aNO (b:=b) (p:=p) (i:=i) (k:=k)).2
 obtain⟨x,tV⟩:∃x,x=b.bl[i]:=⟨_,rfl⟩
 rw[<-tV] at cD nI LW
 simp only[JI] at cD
 have w3:=wS i (by omega)
 refine tq (jE f1 f2 f7 q2 l4) ?_;intro Nx aB Gx aF
 refine(aAm b _ _ hc).mono ?_
 rintro d _ ⟨rfl,rfl⟩
 rw[hx]
 by_cases hp0:0<=p
 case neg=>
  have q3:(0<=p)=False:=aI hp0
  refine tq (jE f1 f2 f7 q3 w3) ?_;intro Nx aB Gx aF
  exact⟨aV,aT,f1,f2,rfl,hH,fun h=>absurd h hp0⟩
 have q3:(0<=p)=True:=aK hp0
 have xY:=iI hp0
 have q4:((0:Int)<=p - (cY b.g i:Int))=True:=aK (by omega)
 have w1:IntKind.i64.wrap (p - (cY b.g i:Int))=p - (cY b.g i:Int):=by rw[bF (by omega)]
 by_cases h5:p - (cY b.g i:Int)<=x.st.length
 ·have q5:(p - (cY b.g i:Int)<=(x.st.length:Int))=True:=aK h5
  have e:RR b.g p=_:=O9 (xC (p - (cY b.g i:Int)).toNat ⟨aV,by rw[<-tV];omega,by omega⟩)
  have e2:(((p - (cY b.g i:Int)).toNat:Nat):Int)=p - (cY b.g i:Int):=by omega
  rw[e2] at e
  refine tq (DH f1 f2 f7 q3 q4 q5 w1 w3 cD hx cJ aV cC l4) ?_;intro Nx aB Gx aF
  refine rt aD aT ?_
  exact⟨_,aG _,e.symm,hH.symm⟩
 ·have q5:(p - (cY b.g i:Int)<=(x.st.length:Int))=False:=aI h5
  refine tq (DH f1 f2 f7 q3 q4 q5 w1 w3 cD hx cJ aV cC l4) ?_;intro Nx aB Gx aF
  exact⟨aV,aT,f1,f2,rfl,hH,fun _=>by omega⟩
def ZD (G:Gr) (n:Nat):List Int:=(List.range n).map fun (j:Nat)=>(cY G j:Int)
theorem wT (G:Gr) (n:Nat):(ZD G n).length=n:=by unfold ZD;simp
theorem aLz (G:Gr) (n i:Nat) (h:i<n):(ZD G n)[i]'(by rw[wT];exact h)=(cY G i:Int):=by simp only[ZD,zQ,List.getElem_range]
theorem aIe (G:Gr) (n:Nat):ZD G (n+1)=ZD G n++[(cY G n:Int)]:=by unfold ZD;rw[P3,cQ];rfl
theorem KC (G:Gr) {n i:Nat} (h:i<n):((ZD G n).map iD)[i]?=some [.val (.int .i64 (cY G i))]:=by
 rw[cO (by rw[wT];exact h),aLz G n i h]
def SaI (b:sO) (H:aC) (i:Nat) (s:St):Prop:=s.df=[]/\s.fr 8=.seq 7 (b.bl.map JI)/\s.fr 9=i64 b.bl.length/\s.fr 10=i64 i/\H.le s.H/\∃c o,s.fr 3=.os c o 1 0 (i+1)/\H c=none/\s.H c=some (.row 3 o 1 ((ZD b.g (i+1)).map iD))
theorem aF8 (b:sO) (H:aC) (hc:bZ b.g<=1000000):bE prog 63 [.agg (qM b)] H fun d H'=>∃c o,d=.os c o 1 0 (b.bl.length+1)/\H c=none/\H' c=some (.row 3 o 1 ((ZD b.g (b.bl.length+1)).map iD))/\H.le H':=by
 have l4:=HG b
 have hsm:=xL hc
 refine aQ _ _ func63 rfl rfl ntmps63 results63 (by simp) fun w0 g0 Q aD=>?_
 refine tq @qM.eq_1 ?_;intro Nx aB Gx aF
 intro c1 mA
 refine aB _ ?_
 refine fZ 1 mA ?_
 refine to l4 ?_;intro Nx aB Gx aF
 intro c j5
 refine tq l4 ?_;intro Nx aB Gx aF
 refine aZ b.bl.length (SaI b H) ⟨rfl,rfl,rfl,rfl,bK (aG _) j5,c,0,rfl,j5,aO _ _ _⟩ ?_
 rintro i s hi ⟨aT,f8,f9,f10,aS,c2,o2,f3,aBu,K4⟩
 have hx:=bI i
 have cJ:=bM i
 by_cases aV:i<b.bl.length
 case neg=>
  have q1:=lF i b.bl.length (by omega)
  have e:i=b.bl.length:=by omega
  subst e
  refine tq (gQ f3 f9 f10 q1) ?_;intro Nx aB Gx aF
  refine rt aD aT ?_
  exact⟨_,aG _,c2,o2,rfl,aBu,K4,aS⟩
 have q1:=lT i b.bl.length (by omega)
 have cC:(i:Int)<b.bl.length:=by omega
 have cD:=E1 aV
 have nI:=xF hc aV
 have LW:=AY b aV
 obtain⟨x,tV⟩:∃x,x=b.bl[i]:=⟨_,rfl⟩
 rw[<-tV] at cD nI LW
 simp only[JI] at cD
 have w1:IntKind.i64.wrap ((cY b.g i:Int)+(x.st.length:Int))=((cY b.g i+x.st.length:Nat):Int):=by rw[bF (by omega)];omega
 have w2:IntKind.i64.wrap (((cY b.g i+x.st.length:Nat):Int)+1)=((cY b.g (i+1):Nat):Int):=by rw[bF (by omega)];omega
 have w3:=wS i (by omega)
 have hgc:=KC b.g (show i<i+1 by omega)
 refine tq (nN f8 f9 f10 q1 cD hx cJ aV cC l4) ?_;intro Nx aB Gx aF
 intro c5 lY
 refine aB _ ?_
 refine fZ 5 lY ?_
 have GN:Gl H 3 1 ((ZD b.g (i+1)).map iD) (.os c2 o2 1 0 (i+1)) s.H (some c2):=.inr ⟨c2,o2,rfl,by rw[bC,wT],aBu,K4⟩
 refine wE (fun _=>false) (fun _=>false) (fun _ _ _ _=>False) (fun _ _ _ _ _=>False) fun Nx aB=>?_;have fs:=And.intro f3 (And.intro K4 (And.intro hgc (And.intro hx (And.intro cJ (And.intro w1 w2)))));refine TU ?_;(first|refine aF _ ?_|refine aB _ ?_|skip);(try clear fs)
 refine⟨by omega,?_⟩
 refine dD (e:=3) kZ rfl kZ rfl PF rfl (by decide) aS GN (new:=[iD (cY b.g (i+1):Int)]) (by exact⟨rfl,rfl⟩) (by rw[bC,wT];show(_+1) * 8<=_;omega) fun d H6 oG j6 eM nJ=>?_
 rw[show[iD (cY b.g (i+1):Int)]=[(cY b.g (i+1):Int)].map iD from rfl,<-cQ,<-aIe] at j6
 have hg7:∃c o,d=.os c o 1 0 (i+1+1)/\H c=none/\H6 c=some (.row 3 o 1 ((ZD b.g (i+1+1)).map iD)):=by
  rcases j6 with⟨_,_,h⟩|⟨c,o,_,h1,h2,h3⟩
  ·have:=cS List.length h;rw[bC,wT] at this;simp at this
  ·exact⟨c,o,by rw[h1,bC,wT],h2,h3⟩
 refine tq (dG f10 w3) ?_;intro Nx aB Gx aF
 exact⟨aV,aT,f8,f9,rfl,eM,hg7⟩
theorem aBT (b:sO) (H:aC) (hc:bZ b.g<=1000000):bE prog 63 [.agg (qM b)] H fun d H'=>d=.seq 1 ((ZD b.g (b.bl.length+1)).map iD)/\H=H':=
 bO (K:=fun d=>d=.seq 1 ((ZD b.g (b.bl.length+1)).map iD)) ((aF8 b H hc).mono fun d H' ⟨c,o,h1,h2,h3,h4⟩=>⟨h4,_,qL (ob:=some c) h4 (.inr ⟨c,o,rfl,by rw[h1,bC,wT],h2,h3⟩),rfl⟩)
theorem aIG (b:sO) (H:aC) (hc:bZ b.g<=1000000):bE prog 31 [.agg (qM b)] H fun d H'=>d=i64 (bZ b.g)/\H=H':=by
 have hsm:=xL hc
 refine aQ _ _ func31 rfl rfl ntmps31 results31 (by simp) fun w0 g0 Q aD=>?_
 refine tq @qM.eq_1 ?_;intro Nx aB Gx aF
 intro c1 mA
 refine aB _ ?_
 refine fZ 1 mA ?_
 refine tq trivial ?_;intro Nx aB Gx aF
 refine(aBT b _ hc).mono ?_
 rintro d _ ⟨rfl,rfl⟩
 have jY:(List.map iD (ZD b.g (b.bl.length+1))).length=b.bl.length+1:=by rw[bC,wT]
 have w1:IntKind.i64.wrap (((b.bl.length+1:Nat):Int) - 1)=(b.bl.length:Int):=by rw[bF (by omega)];omega
 have hg:=KC b.g (show b.bl.length<b.bl.length+1 by omega)
 have e:cY b.g b.bl.length=bZ b.g:=nS (by rw[b.xV];exact dI _)
 rw[e] at hg
 have hx:(b.bl.length:Int).toNat=b.bl.length:=bI _
 have cJ:(0:Int)<=(b.bl.length:Int):=bM _
 have kL:(b.bl.length:Int)<((b.bl.length+1:Nat):Int):=by omega
 refine tq (kB jY w1 hg hx cJ kL) ?_;intro Nx aB Gx aF
 refine rt aD trivial ?_
 exact⟨_,aG _,rfl⟩
theorem aRJ (b:sO) (p:Int) (H:aC) (hc:bZ b.g<=1000000) (hp:p<=9223372036854775807):bE prog 66 [.agg (qM b),i64 p] H fun d H'=>d=RR b.g p/\H=H':=by
 have l4:=HG b
 have hsm:=xL hc
 refine aQ _ _ func66 rfl rfl ntmps66 results66 (by simp) fun w0 g0 Q aD=>?_
 refine tq @qM.eq_1 ?_;intro Nx aB Gx aF
 intro c2 lH
 refine aB _ ?_
 refine fZ 2 lH ?_
 by_cases hp0:p<0
 ·have q1:(p<0)=True:=aK hp0
  have e:RR b.g p=_:=YP fun h=>by omega
  refine tq q1 ?_;intro Nx aB Gx aF
  refine rt aD trivial ?_
  exact⟨_,aG _,e.symm,rfl⟩
 have q1:(p<0)=False:=aI hp0
 refine tq (dG q1 l4) ?_;intro Nx aB Gx aF
 refine aZ b.bl.length (fun i s=>s.df=[]/\s.fr 1=i64 (p - cY b.g i)/\s.fr 12=.seq 7 (b.bl.map JI)/\s.fr 13=i64 b.bl.length/\s.fr 14=i64 i/\s.H=H/\(cY b.g i:Int)<=p) ⟨rfl,by rw[LM];simp;rfl,rfl,rfl,rfl,rfl,by rw[LM];omega⟩ ?_
 rintro i s hi ⟨aT,f1,f12,f13,f14,hH,iI⟩
 have hx:=bI i
 have cJ:=bM i
 by_cases aV:i<b.bl.length
 case neg=>
  have q2:=lF i b.bl.length (by omega)
  have e:RR b.g p=_:=YP fun h=>by
   rw[nS (by rw[b.xV];omega)] at iI
   omega
  refine tq (eA f13 f14 q2) ?_;intro Nx aB Gx aF
  refine rt aD aT ?_
  exact⟨_,aG _,e.symm,hH.symm⟩
 have q2:=lT i b.bl.length (by omega)
 have cC:(i:Int)<b.bl.length:=by omega
 have cD:=E1 aV
 have nI:=xF hc aV
 have LW:=AY b aV
 have xC:=fun k=>(aNO (b:=b) (p:=p) (i:=i) (k:=k)).2
 obtain⟨x,tV⟩:∃x,x=b.bl[i]:=⟨_,rfl⟩
 rw[<-tV] at cD nI LW
 simp only[JI] at cD
 have w3:=wS i (by omega)
 have w1:IntKind.i64.wrap ((x.st.length:Int)+1)=(x.st.length:Int)+1:=by rw[bF (by omega)]
 have w2:IntKind.i64.wrap (p - (cY b.g i:Int) - ((x.st.length:Int)+1))=p - ((cY b.g (i+1):Nat):Int):=by rw[bF (by omega)];omega
 by_cases h5:p - (cY b.g i:Int)<=x.st.length
 ·have q5:(p - (cY b.g i:Int)<=(x.st.length:Int))=True:=aK h5
  have e:RR b.g p=_:=O9 (xC (p - (cY b.g i:Int)).toNat ⟨aV,by rw[<-tV];omega,by omega⟩)
  have e2:(((p - (cY b.g i:Int)).toNat:Nat):Int)=p - (cY b.g i:Int):=by omega
  rw[e2] at e
  refine tq (nN f12 f13 f14 q2 cD hx cJ aV cC l4) ?_;intro Nx aB Gx aF
  intro c5 lY
  refine aB _ ?_
  refine fZ 8 lY ?_
  refine tq (dG f1 q5) ?_;intro Nx aB Gx aF
  refine rt aD aT ?_
  exact⟨_,aG _,e.symm,hH.symm⟩
 ·have q5:(p - (cY b.g i:Int)<=(x.st.length:Int))=False:=aI h5
  refine tq (nN f12 f13 f14 q2 cD hx cJ aV cC l4) ?_;intro Nx aB Gx aF
  intro c5 lY
  refine aB _ ?_
  refine fZ 8 lY ?_
  refine tq (kB f1 f14 q5 w1 w2 w3) ?_;intro Nx aB Gx aF
  exact⟨aV,aT,rfl,f12,f13,rfl,hH,by omega⟩
def gBk (x:mP):aMw:=⟨x.st.map vV,i64 x.tm.k,x.tm.tg,.seq 4 (x.tm.ar.map jW),i64 x.tm.pl.lo,.seq 2 (x.tm.pl.pr.map pD),cX x.tm.nm⟩
def gB (b:cT):sO:=⟨cX b.nm,.seq 1 (b.rg.map sD),.seq 2 (b.ol.map pD),.seq 5 (b.ty.map cP),.seq 2 (b.lc.map mN),i64 b.ag,b.bl.map gBk⟩
theorem Q5 (b:cT):qM (gB b)=iS b:=by
 unfold iS
 unfold qM gB
 simp only[oZ]
 rfl
theorem TY (b:cT):(gB b).g=dK b:=by
 unfold sO.g gB dK
 simp only[oZ]
 refine zO fun x _=>?_
 show((List.map vV x.st).length,x.tm.tg)=_
 rw[bC]
theorem aCQ (b:cT) (p:Int) (x:mP) (k:Nat) (i:Nat) (xC:At (dK b) p i k) (H:aC) (hc:bZ (dK b)<=1000000):bE prog 66 [.agg (iS b),i64 p] H fun d H'=>d=.pG [i64 i,i64 k,.val (.bool true)]/\H=H':=by
 have h:=aRJ (gB b) p H (by rw[TY];exact hc) (by have:=xC.lt;omega)
 rw[Q5,TY,O9 xC] at h
 exact h
def acE (a:AcS):List D:=[.agg (acD a)]
theorem QC (l:List qV) (o:qV):TR (l++[o])=TR l++(if o.k=0\/o.k=1 then [⟨o.pl,decide (o.k=1),true⟩] else []):=by
 unfold TR Y0
 rw[tM,cQ]
 congr 1
 by_cases h:o.k=0\/o.k=1
 ·rw[aE h,FY (by simpa using h)];rfl
 ·rw[aA h,FZ (by simpa using h)];rfl
theorem aJ2 {l:List qV} {i:Nat} (h:i<=l.length):TR (l.take i)<+:TR l:=by
 have e:TR l=TR (l.take i)++TR (l.drop i):=by
  unfold TR Y0
  rw[<-cQ,<-tM,uQ]
 rw[e];exact⟨_,rfl⟩
theorem aIN (z:List qV) (hz:dO z.length):Z8 prog 166 [.rp [.seq 4 (z.map jW)]] acE (TR z) fun _=>True:=by
 have dX:=lm jW z
 unfold dO at hz
 refine aD8 _ func166 rfl rfl ntmps166 results166 (by simp) fun l J Jx H w0 g0 Q fI hJ hY aD=>?_
 refine tq (dG dX @yD.eq_1) ?_;intro Nx aB Gx aF
 refine aZ z.length (fun i s=>s.df=[]/\s.fr 0=yD l/\s.fr 5=.seq 4 (z.map jW)/\s.fr 6=i64 z.length/\s.fr 7=i64 i/\J (TR (z.take i)) s.H) ⟨rfl,rfl,rfl,rfl,rfl,hJ⟩ ?_
 rintro i s hi ⟨aT,f0,f5,f6,f7,hj⟩
 have hx:=bI i
 have cJ:=bM i
 by_cases aV:i<z.length
 case neg=>
  have q1:=lF i z.length (by omega)
  rw[cW (by omega)] at hj
  refine tq (eA f6 f7 q1) ?_;intro Nx aB Gx aF
  exact aD _ _ (.inl rfl) aT (.inl hj)
 have cC:(i:Int)<(z.length:Int):=by omega
 have q1:((i:Int)<(z.length:Int))=True:=aK cC
 have w3:=wS i (by omega)
 have cD:(z.map jW)[i]?=some (jW z[i]):=fY aV
 have pY:z.take (i+1)=z.take i++[z[i]]:=dH aV
 have lP:=aJ2 (l:=z) (i:=i+1) (by omega)
 obtain⟨u,hu⟩:∃u,u=z[i]:=⟨_,rfl⟩
 rw[<-hu] at cD pY
 rw[pY,QC] at lP
 simp only[jW] at cD
 refine tq (nN f5 f6 f7 dX q1 cD hx cJ aV cC) ?_;intro Nx aB Gx aF
 intro c4 uL
 refine aB _ ?_
 refine fZ 4 uL ?_
 by_cases hk:u.k=0\/u.k=1
 case neg=>
  have p0:(u.k=0)=False:=aI fun h=>hk (.inl h)
  have p1:(u.k=1)=False:=aI fun h=>hk (.inr h)
  refine tq (gQ f7 p0 p1 w3) ?_;intro Nx aB Gx aF
  exact⟨aV,aT,f0,f5,f6,rfl,by rw[pY,QC,aA hk,iJ];exact hj⟩
 rw[aE hk] at lP
 have key:∀B,B=decide (u.k=1)->True:=fun _ _=>trivial
 obtain⟨B,hB⟩:∃B,B=decide (u.k=1):=⟨_,rfl⟩
 rw[<-hB] at lP
 have qT:TR (z.take (i+1))=TR (z.take i)++[⟨u.pl,B,true⟩]:=by rw[pY,QC,aE hk,<-hB]
 have h4:u.k=0/\B=false\/u.k=1/\B=true:=by
  rcases hk with h|h
  ·exact .inl ⟨h,by rw[hB,h] <;> rfl⟩
  ·exact .inr ⟨h,by rw[hB,h] <;> rfl⟩
 clear hB hk key
 have fin:∀s:St,s.df=[]->(∃pre,Jx pre s.H)->Q .ret s:=fun s aT h=>aD _ _ (.inr rfl) aT (.inr h)
 rcases h4 with⟨h4,rfl⟩|⟨h4,rfl⟩
 ·have p0:(u.k=0)=True:=aK h4
  have p1:(u.k=1)=False:=aI (by omega)
  (have fs:=And.intro p0 p1;(iterate 10 (first|refine aF _ ?_|refine aB _ ?_|refine dW ?_|refine dV ?_|refine fE ?_|refine cU ?_|refine cV ?_|refine cL ?_|refine bP ?_|((first|refine tS fun Nx aB=>?_|refine mS rfl rfl (by kernel_rfl) (by kernel_rfl) fun Gx aF=>?_|refine cH (by kernel_rfl) ?_|refine mJ fun A B wL wM=>?_);refine qK ?_;(first|refine aF _ ?_|refine aB _ ?_|refine wL ?_|refine wM ?_|skip))));(try clear fs))
  (have fs:=And.intro f0 (And.intro p1 @yD.eq_1);refine QA (7) (by kernel_rfl) ?_;refine G2 ?_;(try clear fs))
  refine wJ rfl (D1 (TR (z.take i)) ⟨u.pl,false,true⟩ rfl rfl rfl (by simp [DE]) hY lP hj rfl (fun H' DR=>?_) fun H' DR=>?_)
  ·refine tq (dG f7 w3) ?_;intro Nx aB Gx aF
   exact⟨aV,aT,f0,f5,f6,rfl,by rw[qT];exact DR⟩
  ·refine tq trivial ?_;intro Nx aB Gx aF
   exact fin _ aT ⟨_,DR⟩
 ·have p0:(u.k=0)=False:=aI (by omega)
  have p1:(u.k=1)=True:=aK h4
  (have fs:=And.intro p0 p1;(iterate 10 (first|refine aF _ ?_|refine aB _ ?_|refine dW ?_|refine dV ?_|refine fE ?_|refine cU ?_|refine cV ?_|refine cL ?_|refine bP ?_|((first|refine tS fun Nx aB=>?_|refine mS rfl rfl (by kernel_rfl) (by kernel_rfl) fun Gx aF=>?_|refine cH (by kernel_rfl) ?_|refine mJ fun A B wL wM=>?_);refine qK ?_;(first|refine aF _ ?_|refine aB _ ?_|refine wL ?_|refine wM ?_|skip))));(try clear fs))
  (have fs:=And.intro f0 (And.intro p1 @yD.eq_1);refine QA (7) (by kernel_rfl) ?_;refine G2 ?_;(try clear fs))
  refine wJ rfl (D1 (TR (z.take i)) ⟨u.pl,true,true⟩ rfl rfl rfl (by simp [DE]) hY lP hj rfl (fun H' DR=>?_) fun H' DR=>?_)
  ·refine tq (dG f7 w3) ?_;intro Nx aB Gx aF
   exact⟨aV,aT,f0,f5,f6,rfl,by rw[qT];exact DR⟩
  ·refine tq trivial ?_;intro Nx aB Gx aF
   exact fin _ aT ⟨_,DR⟩
theorem aL2 (z:List qV) (H:aC):bE prog 131 [.seq 4 (z.map jW)] H fun d H'=>d=.fn 166 [.rp [.seq 4 (z.map jW)]]/\H=H':=by
 refine aQ _ _ func131 rfl rfl ntmps131 results131 (by simp) fun w0 g0 Q aD=>?_
 refine tq trivial ?_;intro Nx aB Gx aF
 intro c1 mA
 refine aB _ ?_
 refine fZ 1 mA ?_
 refine tq trivial ?_;intro Nx aB Gx aF
 refine rt aD trivial ?_
 exact⟨_,aG _,by first|rfl|exact⟨rfl,rfl⟩⟩
def rvB (x:mP) (k:Nat):G0:=match x.st[k]? with
 |some s=>s.rv
 |none=>⟨0,0,0,false,⟨0,[]⟩,[]⟩
def WZ (x:mP) (k:Nat):List qV:=match x.st[k]? with
 |some s=>s.rv.ar
 |none=>x.tm.ar
theorem aNI (x:mP) (k:Nat):acB x k=TR (WZ x k)++((if (rvB x k).k=1 then [⟨(rvB x k).pl,(rvB x k).mu,true⟩] else [])++(if (yT x k).2.1=true then [⟨(yT x k).1,true,false⟩] else [])):=by
 unfold acB WZ rvB yT
 cases x.st[k]? with
 |some s=>
  unfold acS
  simp only
  by_cases h0:s.k=0
  ·rw[aE h0,aE h0];rfl
  ·by_cases h1:s.k=1
   ·rw[aA h0,aE h1,aA h0,aE h1];rfl
   ·rw[aA h0,aA h1,aA h0,aA h1];rfl
 |none=>
  unfold acT
  simp only
  by_cases h:x.tm.k=3\/x.tm.k=4
  ·rw[aE h,bG h];rfl
  ·rw[aA h,bB h];rfl
structure AcI (x:mP) (k l c9:Nat) (H:aC) (s:St):Prop where
 df:s.df=[]
 f3:s.fr 3=.rp [yD l]
 f5:s.fr 5=i64 k
 f7:s.fr 7=.rp (jP x)
 f8:s.fr 8=.seq 4 ((WZ x k).map jW)
 f9:s.fr 9=.ep c9 0 7 0 0
 hH:∃cs,yK cs (IM (rvB x k))/\s.H=H.bH c9 (.row 42 0 7 [cs])
theorem aJ3 (b:cT) (p:Int) (i k:Nat) (hi:i<b.bl.length) (xC:At (dK b) p i k) (hc:bZ (dK b)<=1000000) (ho:dO (WZ b.bl[i] k).length):
  Z8 prog 130 [.rp (iS b),.rp [i64 p]] acE (acB b.bl[i] k) fun _=>True:=by
 have aCE:=fun H=>aCQ b p b.bl[i] k i xC H hc
 have nI:b.bl[i].st.length<=1000000:=by
  have h1:=E8 (Nat.lt_succ_self i) (show i<(dK b).length by rw[jR];exact hi)
  have h2:=AX (G:=dK b) (i:=i+1)
  rw[sW hi] at h1
  simp only[Nat.succ_eq_add_one] at *
  omega
 have aHJ:k<=b.bl[i].st.length:=by
  obtain⟨h1,h2,h3⟩:=xC
  rw[sW hi] at h2
  exact h2
 have K8:=fun H=>WH b.bl[i] k H (by unfold dO;omega) aHJ
 have LU:(b.bl.map jP)[i]?=some (jP b.bl[i]):=fY hi
 have sQ:=lm jP b.bl
 have Z3:=aNI b.bl[i] k
 have hrd:=aIN (WZ b.bl[i] k) ho
 have aV:i<b.bl.length:=hi
 have l4:=FC (dK b)
 rw[jR] at l4
 obtain⟨x,hx⟩:∃x,x=b.bl[i]:=⟨_,rfl⟩
 rw[<-hx] at nI aHJ K8 LU Z3 hrd ⊢
 obtain⟨xs,RK⟩:∃xs,xs=acB x k:=⟨_,rfl⟩
 rw[<-RK] at Z3 ⊢
 clear hx RK ho
 unfold iS at aCE ⊢
 refine aHZ _ func130 rfl rfl ntmps130 results130 (by simp) fun l J Jx H w0 g0 Q fI hJ hC hCx hY aD=>?_
 refine tq @yD.eq_1 ?_;intro Nx aB Gx aF
 intro c3 j5
 refine aB _ ?_
 refine fZ 3 j5 ?_
 refine tq trivial ?_;intro Nx aB Gx aF
 refine(aCE _).mono ?_
 rintro d _ ⟨rfl,rfl⟩
 have hx0:=bI i
 have cJ:=bM i
 have cC:(i:Int)<(b.bl.length:Int):=by omega
 have wO:=lm vV x.st
 simp only[jP] at LU
 refine tq (kB sQ LU hx0 cJ aV cC) ?_;intro Nx aB Gx aF
 intro c7 EG
 refine aB _ ?_
 refine fZ 7 EG ?_
 refine tq trivial ?_;intro Nx aB Gx aF
 intro c9 Z4
 refine aB _ ?_
 show W _ _ _ _
 refine bP ?_
 refine I0 (AcI x k l c9 H) ?_ ?_
 ·by_cases CA:k<x.st.length
  ·have aCC:(k:Int)<(x.st.length:Int):=by omega
   have q1:((k:Int)<(x.st.length:Int))=True:=aK aCC
   have hxk:=bI k
   have h0k:=bM k
   have cD:(x.st.map vV)[k]?=some (vV x.st[k]):=fY CA
   have e1:WZ x k=x.st[k].rv.ar:=by unfold WZ;rw[bX CA]
   have e2:rvB x k=x.st[k].rv:=by unfold rvB;rw[bX CA]
   obtain⟨u,hu⟩:∃u,u=x.st[k]:=⟨_,rfl⟩
   rw[<-hu] at cD e1 e2
   simp only[vV] at cD
   refine tq (nF wO q1 hxk h0k cD CA aCC) ?_;intro Nx aB Gx aF
   exact⟨rfl,rfl,rfl,rfl,by rw[e1] <;> rfl,rfl,⟨_,by rw[e2];exact L2 _,rfl⟩⟩
  ·have q1:=lF k x.st.length (by omega)
   have e1:WZ x k=x.tm.ar:=by unfold WZ;rw[uR (by omega)]
   have e2:rvB x k=⟨0,0,0,false,⟨0,[]⟩,[]⟩:=by unfold rvB;rw[uR (by omega)]
   refine tq (dG wO q1) ?_;intro Nx aB Gx aF
   exact⟨rfl,rfl,rfl,rfl,by rw[e1] <;> rfl,rfl,⟨_,by rw[e2];exact⟨dQ _,dQ _,dQ _,dQ _,dQ _,fR,fR,trivial⟩,rfl⟩⟩
 clear LU aCE wO EG cC hx0 cJ sQ
 rintro s ⟨aT,f3,f5,f7,f8,f9,cs,VH,hsH⟩
 refine aBc 9 H (.rp (IM (rvB x k))) (by rw[hsH];exact bK (aG _) Z4) (by
  rw[f9]
  exact(aNl (i:=0) (k:=0) (by rw[hsH];exact bK (aG _) Z4) (by rw[hsH];exact aO _ _ _) Z4 rfl).imp (aKe VH)) ?_
 refine tq f8 ?_;intro Nx aB Gx aF
 refine(aL2 _ _).mono ?_
 rintro d _ ⟨rfl,rfl⟩
 refine tq trivial ?_;intro Nx aB Gx aF
 refine sR (fun s2=>s2.df=[]/\s2.fr 3=.rp [yD l]/\s2.fr 5=i64 k/\s2.fr 7=.rp (jP x)/\s2.fr 9=.rp (IM (rvB x k))/\s2.fr 45=.fn 166 [.rp [.seq 4 ((WZ x k).map jW)]]/\s2.H=H) ⟨aT,f3,f5,f7,rfl,rfl,rfl⟩ ?_
 clear aT f3 f5 f7 f8 f9 VH hsH
 rintro s2 ⟨aT,f3,f5,f7,f9,f45,hH⟩
 refine sS rfl hrd f45 (fun _ _=>trivial) (by simp) (fun _=>rfl) (fun c=>H c=none) (fun c h=>by rw[hH] at h;exact h) (fun pre Hc=>J pre Hc) (fun _ _ _ _=>trivial) (fun e pre Hc=>e=.ret/\∃pr,Jx pr Hc) ?_ ?_ ?_ ?_ ?_ ?_
 ·rw[hH];exact hC
 ·rw[hH];exact fun e pre H' c o h0 hz ⟨h1,pr,h2⟩=>⟨h1,pr,hCx _ _ _ _ h0 hz h2⟩
 ·rw[hH];exact hJ
 ·rintro l2 w1 pre a Hc o g1 l4 lP hj kN xZ
  simp only[acE]
  rw[aIR]
  refine tq (kB eY eX eN bW aT @acD.eq_1) ?_;intro Nx aB Gx aF
  intro c10 HM
  refine aB _ ?_
  simp only[eQ]
  have l5:l2≠c10:=fun e=>by rw[e,HM] at xZ;cases xZ
  refine⟨rfl,fun c o' _ h=>(aN (fun e=>by rw[e,HM] at h;cases h)).trans h,fun w2 y g2 hE=>?_⟩
  refine cA 10 rfl (b:=c10) (by simp only[s5,eX,lX];rw[aN (Ne.symm l5),aO]) rfl ?_
  simp only[St.jH,s5,eX,lX,nA,bW,jN,F8 (Ne.symm l5),wC,tH HM,List.drop]
  have hj1:J pre (Hc.bH l2 (.obj y)):=hC _ _ _ _ l4 (fun z h=>⟨_,by rw[xZ] at h;injection h with h;exact h.symm⟩) hj
  have vF:∀(x:fK) (H':aC),(∀c o',H c=none->(Hc.bH l2 (.obj y)) c=some (.obj o')->H' c=some (.obj o'))->(∀o',x≠ .obj o')->uC (fun c=>H c=none) ((Hc.bH c10 x).bH l2 (.obj y)) H':=fun x H' h hx c o' hcB h2=>by
   refine h c o' hcB ?_
   by_cases e:c=l2
   ·rw[e,aO] at h2 ⊢;exact h2
   ·rw[aN e] at h2 ⊢
    by_cases e2:c=c10
    ·rw[e2,aO] at h2;injection h2 with h2;exact absurd h2 (hx o')
    ·rwa[aN e2] at h2
  (have fs:=trivial;(iterate 2 (first|refine aF _ ?_|refine aB _ ?_|refine dW ?_|refine dV ?_|refine fE ?_|refine cU ?_|refine cV ?_|refine cL ?_|refine bP ?_|((first|refine tS fun Nx aB=>?_|refine mS rfl rfl (by kernel_rfl) (by kernel_rfl) fun Gx aF=>?_|refine cH (by kernel_rfl) ?_|refine mJ fun A B wL wM=>?_);refine qK ?_;(first|refine aF _ ?_|refine aB _ ?_|refine wL ?_|refine wM ?_|skip))));(try clear fs))
  (have fs:=And.intro f3 (And.intro eY (And.intro eX (And.intro eN bW)));refine QA (2) (by kernel_rfl) ?_;refine G2 ?_;(try clear fs))
  refine wJ rfl (w8 pre a rfl rfl rfl (by simp [DE]) hY hE (lP.trans (by rw[Z3];exact List.prefix_append _ _)) hj1 rfl (fun H' DR jG=>?_) fun H' DR jG=>?_)
  ·refine tq (gQ eY eX eN bW) ?_;intro Nx aB Gx aF
   exact⟨rfl,vF _ _ jG (by simp),DR⟩
  ·refine tq (gQ eY eX eN bW) ?_;intro Nx aB Gx aF
   exact⟨rfl,vF _ _ jG (by simp),rfl,_,DR⟩
 ·rintro ys Hc M EJ hj kN hM hMn
  subst EJ
  rw[xP,fP,eQ,aT]
  obtain⟨R,hR⟩:∃R,R=rvB x k:=⟨_,rfl⟩
  rw[<-hR] at f9 Z3
  obtain⟨Ar,hA⟩:∃Ar,Ar=TR (WZ x k):=⟨_,rfl⟩
  rw[<-hA] at Z3 hj
  rw[hH] at hMn
  have hmk:∀s:St,s.df=[xO M]->s.H M=some (.obj MY)->mkO H s.df s.H:=fun s h1 h2=>by rw[h1];exact⟨M,rfl,hMn,h2,trivial⟩
  refine sR (fun s3=>s3.df=[xO M]/\s3.fr 3=.rp [yD l]/\s3.fr 5=i64 k/\s3.fr 7=.rp (jP x)/\s3.fr 9=.rp (IM R)/\s3.H=Hc) ⟨rfl,f3,f5,f7,f9,rfl⟩ ?_
  rintro s3 ⟨GG,g3,g5,g7,g9,gH⟩
  have jM:s3.H M=some (.obj MY):=by rw[gH];exact hM
  have jj:J Ar s3.H:=by rw[gH];exact hj
  obtain⟨rk,rop,rrg,rmu,⟨rlo,rpr⟩,rar⟩:=R
  simp only[IM] at g9
  simp only at Z3
  refine bP ?_
  refine D2 (fun s4=>s4.df=[xO M]/\s4.fr 3=.rp [yD l]/\s4.fr 5=i64 k/\s4.fr 7=.rp (jP x)/\s4.H M=some (.obj MY)/\J (Ar++(if rk=1 then [⟨⟨rlo,rpr⟩,rmu,true⟩] else [])) s4.H) ?_ ?_
  ·by_cases hb:rk=1
   ·have p1:(rk=1)=True:=aK hb
    rw[aE hb] at Z3 ⊢
    refine bP ?_
    (have fs:=And.intro g3 (And.intro g9 (And.intro p1 @yD.eq_1));refine QA (10) (by kernel_rfl) ?_;refine G2 ?_;(try clear fs))
    refine AP rfl rfl (t:=54) (Nat.le_of_ble_eq_true rfl) (by simp) (.inl ⟨true,rfl,fun _=>w8 Ar ⟨⟨rlo,rpr⟩,rmu,true⟩ rfl rfl rfl (by simp [DE]) hY (fT _ _) (by rw[Z3];exact⟨_,iR _ _ _⟩) jj rfl (fun H' DR jG=>?_) fun H' DR jG=>?_,fun h=>by cases h⟩)
    ·refine tq trivial ?_;intro Nx aB Gx aF
     exact⟨GG,g3,g5,g7,jG _ _ hMn jM,DR⟩
    ·refine tq trivial ?_;intro Nx aB Gx aF
     exact⟨by simp,aD _ _ (.inr rfl) (hmk _ GG (jG _ _ hMn jM)) (.inr ⟨_,DR⟩)⟩
   ·have p1:(rk=1)=False:=aI hb
    rw[aA hb]
    refine tq (dG g9 p1) ?_;intro Nx aB Gx aF
    exact⟨GG,g3,g5,g7,jM,by rw[iJ];exact jj⟩
  rintro s4 ⟨kdf,k3,k5,k7,kM,kj⟩
  obtain⟨Bw,hB⟩:∃Bw,Bw=Ar++(if rk=1 then [(⟨⟨rlo,rpr⟩,rmu,true⟩:AcS)] else []):=⟨_,rfl⟩
  rw[<-hB] at kj
  rw[<-iR,<-hB] at Z3
  clear hB
  obtain⟨Z,hZ⟩:∃Z,Z=yT x k:=⟨_,rfl⟩
  rw[<-hZ] at Z3 K8
  clear hZ
  obtain⟨⟨wl,wp⟩,ww,wa⟩:=Z
  simp only[jP] at k7 K8
  simp only at Z3
  refine tq (dG k5 k7) ?_;intro Nx aB Gx aF
  refine(K8 _).mono ?_
  rintro d _ ⟨rfl,rfl⟩
  refine tq (dG @aMX.eq_1 @lN.eq_1) ?_;intro Nx aB Gx aF
  intro c11 aBs
  refine aB _ ?_
  refine fZ 11 aBs ?_
  cases ww
  ·rw[aA (by decide),iJ] at Z3
   rw[Z3] at aD
   refine tq trivial ?_;intro Nx aB Gx aF
   exact aD _ _ (.inl rfl) (hmk _ kdf kM) (.inl kj)
  ·rw[aE rfl] at Z3
   (have fs:=k3;(iterate 3 (first|refine aF _ ?_|refine aB _ ?_|refine dW ?_|refine dV ?_|refine fE ?_|refine cU ?_|refine cV ?_|refine cL ?_|refine bP ?_|((first|refine tS fun Nx aB=>?_|refine mS rfl rfl (by kernel_rfl) (by kernel_rfl) fun Gx aF=>?_|refine cH (by kernel_rfl) ?_|refine mJ fun A B wL wM=>?_);refine qK ?_;(first|refine aF _ ?_|refine aB _ ?_|refine wL ?_|refine wM ?_|skip))));(try clear fs))
   (have fs:=And.intro k3 @yD.eq_1;refine QA (3) (by kernel_rfl) ?_;refine G2 ?_;(try clear fs))
   refine wJ rfl (w8 Bw ⟨⟨wl,wp⟩,true,false⟩ rfl rfl rfl (by simp [DE]) hY (fT _ _) (by rw[Z3];exact List.prefix_refl _) kj rfl (fun H' DR jG=>?_) fun H' DR jG=>?_)
   ·refine tq trivial ?_;intro Nx aB Gx aF
    rw[Z3] at aD
    exact aD _ _ (.inl rfl) (hmk _ kdf (jG _ _ hMn kM)) (.inl DR)
   ·refine tq trivial ?_;intro Nx aB Gx aF
    exact aD _ _ (.inl rfl) (hmk _ kdf (jG _ _ hMn kM)) (.inr ⟨_,DR⟩)
 ·rintro e c pre Hc M he ⟨rfl,pr,hj⟩ kN hM hMn
  rw[xP,jC,lD,aT]
  rw[hH] at hMn
  exact aD _ _ (.inr rfl) ⟨M,rfl,hMn,hM,trivial⟩ (.inr ⟨_,hj⟩)
theorem aNJ (b:cT) (p:Int) (H:aC):bE prog 70 [.agg (iS b),i64 p] H fun d H'=>d=.fn 130 [.rp (iS b),.rp [i64 p]]/\H=H':=by
 unfold iS
 refine aQ _ _ func70 rfl rfl ntmps70 results70 (by simp) fun w0 g0 Q aD=>?_
 refine tq trivial ?_;intro Nx aB Gx aF
 intro c2 lH c3 j5
 refine aB _ ?_
 obtain⟨lK,sH⟩:=bY.1 j5;refine cA 2 rfl ((aN lK.symm).trans (aO _ _ _)) rfl ?_;refine cA 3 rfl ((bS lK).trans (aO _ _ _)) rfl ?_;refine eV _ (kF lH sH) ?_;simp only[St.jH,List.drop]
 refine tq trivial ?_;intro Nx aB Gx aF
 refine rt aD trivial ?_
 exact⟨_,aG _,by first|rfl|exact⟨rfl,rfl⟩⟩
def aPi (x:mP) (k:Nat):Prop:=dO (WZ x k).length/\∀a∈acB x k,dO a.pl.pr.length
theorem aKi (b:cT) (p:Int) (i k:Nat) (l:uV) (H:aC) (hi:i<b.bl.length) (xC:At (dK b) p i k) (hc:bZ (dK b)<=1000000) (ho:aPi b.bl[i] k) (hl:dO l.pl.pr.length):
  bE prog 33 [.agg (iS b),i64 p,.agg (vS l)] H fun d H'=>d=.val (.bool (aKh b.bl[i] k l))/\H=H':=by
 have hit:=aJ3 b p i k hi xC hc ho.1
 have hcf:=fun a (ha:a∈acB b.bl[i] k) H1=>aN4 a l H1 (ho.2 a ha) hl
 have Z3:=fun H1=>aNJ b p H1
 obtain⟨xs,RK⟩:∃xs,xs=acB b.bl[i] k:=⟨_,rfl⟩
 have iI:aKh b.bl[i] k l=xs.any fun a=>cfB a l:=by rw[RK];rfl
 rw[iI]
 rw[<-RK] at hit hcf
 clear RK iI ho
 refine bO (K:=fun d=>d=.val (.bool (xs.any fun a=>cfB a l))) ?_
 unfold iS vS at *
 refine xR _ _ func33 rfl rfl ntmps33 results33 (by simp) fun w0 g0 Q aD=>?_
 refine tq trivial ?_;intro Nx aB Gx aF
 intro c3 j5 c5 lY c6 DJ
 refine aB _ ?_
 refine aFv 3 5 (by decide) rfl rfl rfl j5 lY DJ ?_
 have JL:=(bY.1 (bY.1 DJ).2).2
 clear j5 lY DJ
 refine tq trivial ?_;intro Nx aB Gx aF
 refine(Z3 _).mono ?_
 rintro d _ ⟨rfl,rfl⟩
 refine tq trivial ?_;intro Nx aB Gx aF
 have rT:H.le (H.bH c6 (.row 4 0 1 [[.val (.bool false)]])):=bK (aG _) JL
 refine sR (fun s=>s.df=[]/\s.fr 5=.rp [i64 l.rg,i64 l.pt,.val (.bool l.mu),i64 l.pl.lo,.seq 2 (l.pl.pr.map pD)]/\s.fr 6=.ep c6 0 1 0 0/\s.fr 10=.fn 130 [.rp [cX b.nm,.seq 1 (b.rg.map sD),.seq 2 (b.ol.map pD),.seq 5 (b.ty.map cP),.seq 2 (b.lc.map mN),i64 b.ag,.seq 7 (b.bl.map jP)],.rp [i64 p]]/\s.H=H.bH c6 (.row 4 0 1 [[.val (.bool false)]])) ⟨rfl,rfl,rfl,rfl,rfl⟩ ?_
 rintro s ⟨aT,f5,f6,f10,hsH⟩
 refine yW rfl hit f10 (fun _ _=>trivial) (by simp) (fun _=>rfl) (fun pre Hc=>(∀a∈pre,cfB a l=false)/\H.DS.le Hc/\Hc c6=some (.row 4 0 1 [[.val (.bool false)]])) (fun e pre Hc=>e=.ret/\(∃a∈xs,cfB a l=true)/\H.DS.le Hc/\Hc c6=some (.row 4 0 1 [[.val (.bool true)]])) ?_ ?_ ?_ ?_ ?_ ?_
 ·rintro pre H1 H2 hr ⟨h1,h2,h3⟩
  exact⟨h1,nU (rX H) h2 hr,hr _ _ h3 (by simp)⟩
 ·rintro e pre H1 H2 hr ⟨h1,h2,h3,h4⟩
  exact⟨h1,h2,nU (rX H) h3 hr,hr _ _ h4 (by simp)⟩
 ·exact⟨by simp,mH (L6 H) (by rw[hsH];exact rT),by rw[hsH];exact aO _ _ _⟩
 ·rintro l2 w1 pre a Hc o g1 lP ⟨h1,h2,h3⟩ kN xZ
  simp only[acE]
  rw[aIR]
  refine tq (kB eY eX eN bW aT @acD.eq_1) ?_;intro Nx aB Gx aF
  intro c7 EG
  refine aB _ ?_
  simp only[eQ]
  refine⟨rfl,lU.new (xE _) EG,fun w2 y g2=>?_⟩
  have l5:l2≠c7:=fun e=>by rw[e,EG] at xZ;cases xZ
  have n6:c6≠l2:=fun e=>by rw[e,xZ] at h3;cases h3
  refine cA 7 rfl (b:=c7) (by simp only[s5,eX,lX];rw[aN (Ne.symm l5),aO]) rfl ?_
  simp only[St.jH,s5,eX,lX,nA,bW,jN,F8 (Ne.symm l5),wC,tH EG,List.drop]
  have OC:=fun (x:fK) (hx:∀o,x≠ .obj o)=>BI (H:=Hc) (b:=c7) (l:=l2) (y:=y) hx
  have r6:(Hc.bH l2 (.obj y)) c6=some (.row 4 0 1 [[.val (.bool false)]]):=(aN n6).trans h3
  have ham:a∈xs:=lP.subset (by simp)
  have aGz:=hcf a ham
  unfold acD at aGz
  have hnl:=nU (rX H) h2 (s7 (x:=.obj y) xZ)
  by_cases hq:cfB a l=true
  ·rw[hq] at aGz
   refine tq (jE f5 eY eX eN bW) ?_;intro Nx aB Gx aF
   refine(aGz _).mono ?_
   rintro d _ ⟨rfl,rfl⟩
   refine tq (kB f6 eY eX eN bW r6) ?_;intro Nx aB Gx aF
   simp only[j9,jC,lD]
   exact⟨rfl,(OC _ (by simp)).row r6 (by simp),by first|rfl|trivial,⟨a,ham,hq⟩,bK hnl (rB JL),aO _ _ _⟩
  ·have hq2:cfB a l=false:=by cases h:cfB a l;rfl;exact absurd h hq
   rw[hq2] at aGz
   refine tq (jE f5 eY eX eN bW) ?_;intro Nx aB Gx aF
   refine(aGz _).mono ?_
   rintro d _ ⟨rfl,rfl⟩
   refine tq (jE f6 eY eX eN bW) ?_;intro Nx aB Gx aF
   refine⟨rfl,OC _ (by simp),fun z hz=>?_,hnl,r6⟩
   rcases bV.1 hz with hz|hz
   ·exact h1 z hz
   ·rw[cR.1 hz];exact hq2
 ·rintro Hc M ⟨h1,h2,h3⟩ kN hD NZ
  rw[xP,fP,eQ,aT]
  have TB:c6≠M:=fun e=>by rw[e,hD] at h3;cases h3
  have fG:(xs.any fun a=>cfB a l)=false:=List.any_eq_false.2 fun a ha=>by rw[h1 a ha];decide
  rw[fG] at aD
  refine tq (dG f6 h3) ?_;intro Nx aB Gx aF
  refine aD _ _ (.inr rfl) ?_ ?_
  ·(have fs:=f6;refine evG ?_;clear fs)
   refine mk1 ?_
   rw[aN (Ne.symm TB)];exact hD
  ·(have fs:=f6;refine evG ?_;clear fs)
   rw[J1]
   simp (maxSteps:=4000000) only[vX,vB,vT,vZ,oN,kV,mmV,O6,RT,mB,jI,kW,↓nV,OS,eG,W8,QF,U2,yQ,yM,AQ,AR,sF,qE,sE,oL,D.nilPtr,D.nK,D.mY,jK,UK,U8,K3,nH,rE,fieldsOf,l3,TW,UA,UB,UC,EP,TK,D.cells,rG,W4,WW,AS,iN,iL,TS,S8,qI,YS,DG,UI,mK,TD.kX,TD.agg,ZY,DI,yN,cpV,wP,AE,AD,UD,TV,tY,BK,gK,iV,Value.oneCell',nY,nW,mR,reduceCtorEq,sB,oA,fO,fW,↓reduceIte,Nat.reduceEqDiff,Int.reduceLE,Int.reduceLT,Int.reduceNeg,Int.reduceToNat,Nat.reduceAdd,Nat.reduceMul,Nat.reduceLeDiff,Nat.reduceMod,Nat.reduceSub,Int.reduceEq,Int.reduceNe,Int.reduceAdd,Int.reduceSub,Int.reduceMul,nX,eY,eX,eN,bW,eQ,lD,fP,jC,kY,j9,jT,jU,jS,i64,f6,aN TB]
   have g2:=vH h2 (H1:=s.H) (by rw[hsH];exact rT) kN
   exact⟨H,bK (bK g2 JL) (tJ (H':=s.H) (by rw[hsH];exact rT) NZ),aG _,_,aH (aG _),rfl⟩
 ·rintro e c pre Hc M hj ⟨rfl,⟨a,ha,hq⟩,h2,h3⟩ kN hD NZ
  rw[xP,aT]
  have TB:c6≠M:=fun e=>by rw[e,hD] at h3;cases h3
  have fG:(xs.any fun a=>cfB a l)=true:=F6.2 ⟨a,ha,hq⟩
  rw[fG] at aD
  simp only[jC,lD]
  refine aD _ _ (.inr rfl) (mk1 hD) ?_
  show BK _ {s with H:=L8 [xO M] Hc,df:=[]} _ _
  rw[J1]
  simp (maxSteps:=4000000) only[vX,vB,vT,vZ,oN,kV,mmV,O6,RT,mB,jI,kW,↓nV,OS,eG,W8,QF,U2,yQ,yM,AQ,AR,sF,qE,sE,oL,D.nilPtr,D.nK,D.mY,jK,UK,U8,K3,nH,rE,fieldsOf,l3,TW,UA,UB,UC,EP,TK,D.cells,rG,W4,WW,AS,iN,iL,TS,S8,qI,YS,DG,UI,mK,TD.kX,TD.agg,ZY,DI,yN,cpV,wP,AE,AD,UD,TV,tY,BK,gK,iV,Value.oneCell',nY,nW,mR,reduceCtorEq,sB,oA,fO,fW,↓reduceIte,Nat.reduceEqDiff,Int.reduceLE,Int.reduceLT,Int.reduceNeg,Int.reduceToNat,Nat.reduceAdd,Nat.reduceMul,Nat.reduceLeDiff,Nat.reduceMod,Nat.reduceSub,Int.reduceEq,Int.reduceNe,Int.reduceAdd,Int.reduceSub,Int.reduceMul,nX,eY,eX,eN,bW,eQ,lD,fP,jC,kY,j9,jT,jU,jS,i64,f6,aN TB,h3]
  rw[J1]
  have g2:=vH h2 (H1:=s.H) (by rw[hsH];exact rT) kN
  exact⟨H,bK g2 (tJ (H':=s.H) (by rw[hsH];exact rT) NZ),aG _,_,aH (aG _),rfl⟩
theorem aKq (x:mP) (k:Nat) (l:uV):aFP x k l=((yT x k).2.2&&(aC5 (yT x k).1 l.pl&&XE l.pl (yT x k).1.pr.length)):=by
 unfold aFP asB yT
 cases x.st[k]? with
 |some s=>
  simp only
  by_cases h0:s.k=0
  ·rw[aE h0,aE h0];rfl
  ·by_cases h1:s.k=1
   ·rw[aA h0,aA h0,aE h1];rfl
   ·rw[aA h0,aA h0,aA h1];rfl
 |none=>
  simp only
  by_cases h:x.tm.k=3
  ·rw[aE h,bG h];rfl
  ·rw[aA h,bB h];rfl
theorem aKr (b:cT) (p:Int) (i k:Nat) (l:uV) (H:aC) (hi:i<b.bl.length) (xC:At (dK b) p i k) (hc:bZ (dK b)<=1000000) (hw:dO (yT b.bl[i] k).1.pr.length) (hl:dO l.pl.pr.length):
  bE prog 32 [.agg (iS b),i64 p,.agg (vS l)] H fun d H'=>d=.val (.bool (aFP b.bl[i] k l))/\H=H':=by
 obtain⟨K0,hK0⟩:∃K0,K0=aFP b.bl[i] k l:=⟨_,rfl⟩
 rw[<-hK0]
 rw[aKq] at hK0
 refine bO (K:=fun d=>d=.val (.bool K0)) ?_
 have aS:=aG H
 have aCE:=fun H1=>aCQ b p b.bl[i] k i xC H1 hc
 have nI:b.bl[i].st.length<=1000000:=by
  have h1:=E8 (Nat.lt_succ_self i) (show i<(dK b).length by rw[jR];exact hi)
  have h2:=AX (G:=dK b) (i:=i+1)
  rw[sW hi] at h1
  simp only[Nat.succ_eq_add_one] at *
  omega
 have aHJ:k<=b.bl[i].st.length:=by
  obtain⟨h1,h2,h3⟩:=xC
  rw[sW hi] at h2
  exact h2
 have K8:=fun H1=>WH b.bl[i] k H1 (by unfold dO;omega) aHJ
 have LU:(b.bl.map jP)[i]?=some (jP b.bl[i]):=fY hi
 have sQ:=lm jP b.bl
 have l4:=FC (dK b)
 rw[jR] at l4
 obtain⟨x,hx⟩:∃x,x=b.bl[i]:=⟨_,rfl⟩
 rw[<-hx] at K8 LU hK0 hw
 obtain⟨Z,hZ⟩:∃Z,Z=yT x k:=⟨_,rfl⟩
 rw[<-hZ] at K8 hw hK0
 clear hx hZ nI aHJ
 obtain⟨wp,ww,wa⟩:=Z
 have NC:=fun H1=>aIJ wp l.pl H1 hw hl
 have K5:=fun H1=>aA5 l.pl wp.pr.length H1 hl hw
 have hmw:=lm pD wp.pr
 simp only at hK0
 obtain⟨E,hE⟩:∃E,E=aC5 wp l.pl:=⟨_,rfl⟩
 obtain⟨G,hG⟩:∃G,G=XE l.pl wp.pr.length:=⟨_,rfl⟩
 rw[<-hE] at NC hK0
 rw[<-hG] at K5 hK0
 clear hE hG
 obtain⟨wlo,wpr⟩:=wp
 obtain⟨lr,lp,lm,⟨ll,lq⟩⟩:=l
 simp only[lN] at NC K5 hmw
 simp only[jP] at LU K8
 unfold iS vS at *
 have hx0:=bI i
 have cJ:=bM i
 have cC:(i:Int)<(b.bl.length:Int):=by omega
 refine aQ _ _ func32 rfl rfl ntmps32 results32 (by simp) fun w0 g0 Q aD=>?_
 refine tq trivial ?_;intro Nx aB Gx aF
 intro c3 j5 c5 lY
 refine aB _ ?_
 obtain⟨lK,sH⟩:=bY.1 lY;refine cA 3 rfl ((aN lK.symm).trans (aO _ _ _)) rfl ?_;refine cA 5 rfl ((bS lK).trans (aO _ _ _)) rfl ?_;refine eV _ (kF j5 sH) ?_;simp only[St.jH,List.drop]
 refine tq trivial ?_;intro Nx aB Gx aF
 refine(aCE _).mono ?_
 rintro d _ ⟨rfl,rfl⟩
 refine tq (kB sQ LU hx0 cJ hi cC) ?_;intro Nx aB Gx aF
 refine(K8 _).mono ?_
 rintro d _ ⟨rfl,rfl⟩
 refine tq (dG @aMX.eq_1 @lN.eq_1) ?_;intro Nx aB Gx aF
 intro c10 HM
 refine aB _ ?_
 refine fZ 10 HM ?_
 cases wa
 ·refine tq trivial ?_;intro Nx aB Gx aF
  refine rt aD trivial ?_
  exact⟨_,aG _,aS,_,aH aS,by rw[hK0] <;> rfl⟩
 refine tq trivial ?_;intro Nx aB Gx aF
 refine(NC _).mono ?_
 rintro d _ ⟨rfl,rfl⟩
 cases E
 ·refine tq trivial ?_;intro Nx aB Gx aF
  refine rt aD trivial ?_
  exact⟨_,aG _,aS,_,aH aS,by rw[hK0] <;> rfl⟩
 refine tq hmw ?_;intro Nx aB Gx aF
 refine(K5 _).mono ?_
 rintro d _ ⟨rfl,rfl⟩
 refine tq trivial ?_;intro Nx aB Gx aF
 refine rt aD trivial ?_
 exact⟨_,aG _,aS,_,aH aS,by rw[hK0] <;> rfl⟩
def Mks (H0:aC) (Ds:List Nat) (Hs:aC):Prop:=Ds.Nodup/\∀D∈Ds,H0 D=none/\Hs D=some (.obj MY)
theorem Mks.mk {H0:aC}:∀{Ds:List Nat} {Hs:aC},Mks H0 Ds Hs->mk (Ds.map xO) Hs
 |[],_,_=>trivial
 |D::Ds,Hs,⟨h1,h2⟩=>by
  rw[zT] at h1
  exact⟨D,rfl,(h2 D (by simp)).2,Mks.mk ⟨h1.2,fun E hE=>⟨(h2 E (gY _ hE)).1,by rw[aN (fun e=>h1.1 (by rw[<-e];exact hE))];exact(h2 E (gY _ hE)).2⟩⟩⟩
theorem YY:∀{Ds:List Nat} {Hs:aC} {b:Nat},b∉Ds->L8 (Ds.map xO) Hs b=Hs b
 |[],_,_,_=>rfl
 |D::Ds,Hs,b,h=>by
  rw[dJ,not_or] at h
  show L8 (Ds.map xO) (Hs.bH D .hid) b=_
  rw[YY h.2,aN h.1]
theorem Mks.le {H0 Hs:aC} {Ds:List Nat} (h:Mks H0 Ds Hs) (aS:H0.le Hs):H0.le (L8 (Ds.map xO) Hs):=fun b x hb=>by
 rw[YY (fun hm=>by rw[(h.2 b hm).1] at hb;cases hb)];exact aS _ _ hb
theorem Mks.at {H0 Hs:aC} {Ds:List Nat} (h:Mks H0 Ds Hs) {b:Nat} {x:fK} (hb:Hs b=some x) (hx:∀o,x≠ .obj o):L8 (Ds.map xO) Hs b=some x:=by
 rw[YY (fun hm=>by have:=(h.2 b hm).2;rw[hb] at this;injection this with this;exact hx _ this)];exact hb
theorem Mks.fS {H0 Hs H':aC} {Ds:List Nat} (h:Mks H0 Ds Hs) (ho:lU Hs H'):Mks H0 Ds H':=⟨h.1,fun D hD=>⟨(h.2 D hD).1,ho _ _ (h.2 D hD).2⟩⟩
theorem Mks.more {H0 Hs H':aC} {Ds:List Nat} {D:Nat} (h:Mks H0 Ds Hs) (ho:lU Hs H') (h0:H0 D=none) (hn:Hs D=none) (hD:H' D=some (.obj MY)):Mks H0 (D::Ds) H':=
 ⟨zT.2 ⟨fun hm=>(by have:=(h.2 D hm).2;rw[hn] at this;cases this),h.1⟩,fun E hE=>by
  rcases dJ.1 hE with rfl|hE
  ·exact⟨h0,hD⟩
  ·exact(h.fS ho).2 E hE⟩
theorem Gk.SB {H0:aC} {e:TypeId} {sz:Nat} {els:List (List D)} {d:D} {H H':aC} {ob:Option Nat} (h:Gk H0 e sz els d H ob) (hr:SB H H'):Gk H0 e sz els d H' ob:=by
 rcases h with h3|⟨c,o,k,iU,g1,g2,g3,g4,g5⟩
 ·exact .inl h3
 ·exact .inr ⟨c,o,k,iU,g1,g2,g3,hr _ _ g4 (by simp),g5⟩
theorem aNm {H:aC} {e:TypeId} {sz:Nat} {els:List (List D)} {d:D} {Hc:aC} {ob:Option Nat} (h:Gk H.DS e sz els d Hc ob) (aS:H.le Hc):Gk H e sz els d Hc ob:=by
 rcases h with h3|⟨c,o,k,iU,g1,g2,g3,g4,g5⟩
 ·exact .inl h3
 ·refine .inr ⟨c,o,k,iU,g1,g2,?_,g4,g5⟩
  cases e:H c with
  |none=>rfl
  |some x=>
   have h1:=aS _ _ e
   rw[g4] at h1
   injection h1 with h1
   have:=pS e (by rw[<-h1];simp)
   rw[this] at g3;cases g3
theorem Gk.base {H0 H1:aC} {e:TypeId} {sz:Nat} {els:List (List D)} {d:D} {Hc:aC} {ob:Option Nat} (h:Gk H0 e sz els d Hc ob) (hn:∀b,H0 b=none->H1 b=none):Gk H1 e sz els d Hc ob:=by
 rcases h with h3|⟨c,o,k,iU,g1,g2,g3,g4,g5⟩
 ·exact .inl h3
 ·exact .inr ⟨c,o,k,iU,g1,g2,hn _ g3,g4,g5⟩
structure ScH (H:aC) (bm c6:Nat) (B:List (Int×Int)) (Q:List Int) (Hs:aC):Prop where
 le:H.le Hs
 mb:Hs bm=some (.map (SMI B))
 q:∃x ob,Hs c6=some (.row 32 0 1 [[x]])/\Gk H 3 1 (Q.map iD) x Hs ob/\ob≠some c6
theorem ScH.SB {H:aC} {bm c6:Nat} {B:List (Int×Int)} {Q:List Int} {Hs Hs':aC} (h:ScH H.DS bm c6 B Q Hs) (hr:SB Hs Hs'):ScH H.DS bm c6 B Q Hs':=by
 obtain⟨h1,h2,x,ob,h3,h4,h5⟩:=h
 exact⟨nU (rX H) h1 hr,hr _ _ h2 (by simp),x,ob,hr _ _ h3 (by simp),h4.SB hr,h5⟩
structure ScI (H:aC) (xD:D) (i:Nat) (bm c6:Nat) (s:St):Prop where
 df:∃Ds,s.df=Ds.map xO/\Mks H Ds s.H
 f0:s.fr 0=xD
 f1:s.fr 1=i64 i
 f5:s.fr 5=.rp [.val (.map (some bm))]
 f6:s.fr 6=.ep c6 0 1 0 0
theorem Bf.in {E K L:List (Int×Int)} {i r a:Int} {B:List (Int×Int)} (h:Bf (V8 E K L i r) a B) {q:Int} (hq:q∈tW B):∃p,(p,q)∈E:=by
 obtain⟨p,hp⟩:=rL.1 hq
 obtain⟨j,hj,e⟩:=sA hp
 have:=(h.pr j hj).1
 rw[e] at this
 exact⟨p,(JZ.1 this).2.1⟩
theorem Bf.len {E K L:List (Int×Int)} {i r a:Int} {B:List (Int×Int)} {n:Nat} (h:Bf (V8 E K L i r) a B) (hE:∀e∈E,cE n e.2):B.length<=n:=by
 have:=rC (n:=n) h.nd fun q hq=>by obtain⟨p,hp⟩:=h.in hq;exact hE _ hp
 unfold tW at this
 rwa[bC,bI] at this
theorem aEF (LN:List uV) (E K V L:List (Int×Int)) (b1 b2 b3 b4:Nat) (m1:List (Value×D)) (i n:Nat) (hi:i<LN.length) (H:aC) (B9:kP m1 fun x=>RY (jD E x)) (hn:n<=300) (hE:E.length<=1000000)
  (k64:∀y∈K,fU y.1/\fU y.2) (l64:∀y∈L,fU y.1/\fU y.2) (eR:∀y∈E,cE n y.1/\cE n y.2) (aOX:fU i) (r64:fU LN[i].rg) (aR:cE n LN[i].pt) (hIx:IxO E K V L b1 b2 b3 b4 m1 H):
  bE prog 39 [ixD LN E K V L b1 b2 b3 b4,i64 i] H fun d H'=>∃bm B,d=.val (.map (some bm))/\H bm=none/\BfQ (V8 E K L i LN[i].rg) LN[i].pt B []/\H.le H'/\H' bm=some (.map (SMI B)):=by
 have e64:∀y∈E,fU y.1/\fU y.2:=fun y hy=>by have:=eR y hy;unfold cE at this;unfold fU;omega
 have hit:=fun p (hp:fU p)=>aIg LN E K V L b1 b2 b3 b4 m1 i hi p B9 hE k64 l64 e64 hp aOX r64
 have dX:=lm vS LN
 have hx:=bI i
 have cJ:=bM i
 have cC:(i:Int)<(LN.length:Int):=by omega
 have GN:(List.map vS LN)[i]?=some (vS LN[i]):=fY hi
 obtain⟨r,hr⟩:∃r,r=LN[i]:=⟨_,rfl⟩
 rw[<-hr] at GN aR hit ⊢
 simp only[vS] at GN
 have aA2:∀B,Bf (V8 E K L i r.rg) r.pt B->∀q∈tW B,cE n q:=fun B h q hq=>by obtain⟨p,hp⟩:=h.in hq;exact(eR _ hp).2
 have hBl:∀B,Bf (V8 E K L i r.rg) r.pt B->B.length<=n:=fun B h=>h.len fun e he=>(eR e he).2
 have jQ:∀p q,q∈V8 E K L i r.rg p->cE n q:=fun p q h=>(eR _ (JZ.1 h).2.1).2
 obtain⟨f,hf⟩:∃f,f=V8 E K L i r.rg:=⟨_,rfl⟩
 rw[<-hf] at aA2 hBl jQ ⊢
 have aQ6:∀p,fU p->AN prog 138 [.rp [ixD LN E K V L b1 b2 b3 b4],.rp [i64 i],.rp [i64 p]] (fun q:Int=>[i64 q]) (·<+:f p) (·=f p) (IxO E K V L b1 b2 b3 b4 m1) (IxO E K V L b1 b2 b3 b4 m1):=fun p hp=>by rw[hf];exact hit p hp
 clear hit
 obtain⟨X,hX⟩:∃X,X=[D.seq 5 (List.map vS LN),D.seq 2 (List.map pD E),D.seq 2 (List.map pD K),D.seq 2 (List.map pD V),D.seq 2 (List.map pD L),.val (.map (some b1)),.val (.map (some b2)),.val (.map (some b3)),.val (.map (some b4))]:=⟨_,rfl⟩
 have hxD:ixD LN E K V L b1 b2 b3 b4=.rp X:=by rw[hX];rfl
 rw[hxD] at aQ6 ⊢
 have nI:=fun p H1=>aMB X i p H1
 refine xR _ _ func39 rfl rfl ntmps39 results39 (by simp) fun w0 g0 Qx aD=>?_
 refine tq trivial ?_;intro Nx aB Gx aF
 intro bm tR c5 lY
 refine aB _ ?_
 obtain⟨n5m,aA6⟩:=bY.1 lY
 refine fZ 5 lY ?_
 refine to (nF hX GN hx cJ cC hi dX) ?_;intro Nx aB Gx aF
 intro cq hcq c6 DJ
 refine aB _ ?_
 obtain⟨nqm,aQV⟩:=bY.1 hcq
 obtain⟨n6q,aYR⟩:=bY.1 DJ
 obtain⟨n6m,JL⟩:=bY.1 aYR
 refine tq trivial ?_;intro Nx aB Gx aF
 refine pZ (fun k s=>ScI H (.rp X) i bm c6 s/\∃B Q,k=Q.length+2 * (n - B.length)/\BfQ f r.pt B Q/\ScH H bm c6 B Q s.H) (1+2 * n) ⟨⟨⟨[],rfl,List.nodup_nil,by simp⟩,by rw[hX] <;> rfl,rfl,rfl,rfl⟩,[],[r.pt],rfl,BfQ.init,bK (bK (bK (aG _) tR) aQV) JL,(aN n6m.symm).trans ((aN nqm.symm).trans (aO _ _ _)),_,some cq,aO _ _ _,.inr ⟨cq,0,0,[[i64 r.pt]],rfl,rfl,aQV,(aN n6q.symm).trans (aO _ _ _),rfl,by simp⟩,fun e=>n6q (by injection e with e;exact e.symm)⟩ ?_
 rintro k s ⟨⟨⟨Ds,aT,hmk⟩,f0,f1,f5,f6⟩,B,Q,rfl,hBf,aS,sQ,x,ob,h6,hg,h6n⟩
 cases Q with
 |nil=>
  have q0:∃c o k',x=.val (.slice none 0 0)\/x=.os c o 1 k' 0:=by
   rcases hg with⟨_,h,_⟩|⟨c,o,k',_,_,h,_⟩
   ·exact⟨0,0,0,.inl h⟩
   ·exact⟨c,o,k',.inr h⟩
  obtain⟨c,o,k',q0⟩:=q0
  clear hg
  have RC:∀s':St,s'.df=Ds.map xO->s'.H=s.H->s'.fr 4=.val (.map (some bm))->Qx .ret s':=fun s' e1 e2 e3=>by
   refine aD _ _ (.inr rfl) ?_ ?_
   ·rw[e1,e2];exact hmk.mk
   ·rw[e1,e2]
    (have fs:=e3;refine evG ?_;clear fs)
    exact⟨_,aG _,bm,B,rfl,tR,hBf,hmk.le aS,hmk.at sQ (by simp)⟩
  rcases q0 with rfl|rfl
  ·refine tq (eA f5 f6 h6) ?_;intro Nx aB Gx aF
   exact RC _ aT rfl rfl
  ·refine tq (eA f5 f6 h6) ?_;intro Nx aB Gx aF
   exact RC _ aT rfl rfl
 |cons p Q=>
  obtain⟨c,o,kq,iU,rfl,rfl,AL,K4,X5,aY4,hgx,OU,aON⟩:=Gk.cons (show Gk H 3 1 (iD p::Q.map iD) x s.H ob from hg)
  have aQq:=hBf.pop
  have hpR:cE n p:=by
   rcases aQq.pk with h|h
   ·rw[h];exact aR
   ·exact aA2 B hBf.b p h
  have T4:fU p:=by unfold cE at hpR;unfold fU;omega
  have hit:=aQ6 p T4
  have q1:((0:Int)<((Q.length+1:Nat):Int))=True:=aK (by omega)
  have q2:(((Q.length+1:Nat):Int)=0)=False:=aI (by omega)
  have w1:((1:Int)<=((Q.length+1:Nat):Int))=True:=aK (by omega)
  have aK1:iU[kq]?=some [.val (.int .i64 p)]:=hgx
  have aYi:=lm iD Q
  rw[aYi] at h6
  refine tq (kB f6 h6 q1 q2 K4 aK1) ?_;intro Nx aB Gx aF
  intro c7 EG
  refine aB _ ?_
  refine fZ 7 EG ?_
  refine tq (jE f0 f1 f6 h6 w1) ?_;intro Nx aB Gx aF
  refine(nI p _).mono ?_
  rintro d _ ⟨rfl,rfl⟩
  refine tq trivial ?_;intro Nx aB Gx aF
  have e1:Q.length+1 - 1=Q.length:=by omega
  rw[e1]
  have mV:ScH H bm c6 B Q (s.H.bH c6 (.row 32 0 1 [[.os c o 1 (kq+1) Q.length]])):=⟨bK aS JL,(aN n6m.symm).trans sQ,_,some c,aO _ _ _,.inr ⟨c,o,kq+1,iU,rfl,by rw[bC],AL,(aN (fun e=>h6n (by rw[e]))).trans K4,OU,aON⟩,h6n⟩
  have TB:Mks H Ds (s.H.bH c6 (.row 32 0 1 [[.os c o 1 (kq+1) Q.length]])):=hmk.fS fun b z hz=>by rw[aN (fun e=>by rw[e,h6] at hz;cases hz)];exact hz
  refine sR (fun s2=>s2.df=Ds.map xO/\s2.fr 0=.rp X/\s2.fr 1=i64 i/\s2.fr 5=.rp [.val (.map (some bm))]/\s2.fr 6=.ep c6 0 1 0 0/\s2.fr 7=.rp [i64 p]/\s2.fr 33=.fn 138 [.rp [.rp X],.rp [i64 i],.rp [i64 p]]/\ScH H bm c6 B Q s2.H/\Mks H Ds s2.H) ⟨aT,f0,f1,f5,f6,rfl,rfl,mV,TB⟩ ?_
  clear mV TB aK1 OU X5 hgx K4 AL h6 sQ aS hmk f6 f5 f1 f0 aT hg h6n EG
  clear s
  rintro s ⟨aT,f0,f1,f5,f6,f7,f33,hSc,hmk⟩
  have a1o:=hBl B hBf.b
  have aQJ:ScH H.DS bm c6 B Q s.H:=by
   obtain⟨h1,h2,y,ob,h3,h4,h5⟩:=hSc
   exact⟨mH (L6 H) h1,h2,y,ob,h3,h4.base fun b=>rB,h5⟩
  have aYr:∀Hc,lU s.H Hc->H.DS.le Hc->H.le Hc:=fun Hc h1 h2=>vH h2 hSc.le h1
  have aQH:∀Hc,H.DS.le Hc->IxO E K V L b1 b2 b3 b4 m1 Hc:=fun Hc h=>⟨h _ _ (pS hIx.m1 (by simp)),h _ _ (pS hIx.m2 (by simp)),h _ _ (pS hIx.m3 (by simp)),h _ _ (pS hIx.m4 (by simp))⟩
  refine sS rfl hit f33 (fun H' h=>aQH H' (mH aQJ.le h)) (by simp) (fun _=>rfl) (fun _=>True) (fun _ _=>trivial) (fun pre Hc=>∃B' Q',BfP f r.pt B' Q' p pre/\(Q'.length+B.length=Q.length+B'.length/\B.length<=B'.length)/\ScH H.DS bm c6 B' Q' Hc) (fun _ Hc h _=>by obtain⟨_,_,_,_,h⟩:=h;exact aQH Hc h.le) (fun _ _ _=>False) ?_ ?_ ?_ ?_ ?_ ?_
  ·rintro pre H1 b o _ hz ⟨B',Q',h1,h2,h3⟩
   exact⟨B',Q',h1,h2,h3.SB (s6 hz)⟩
  ·exact fun _ _ _ _ _ _ _ h=>h
  ·exact⟨B,Q,aQq,⟨by omega,dI _⟩,aQJ⟩
  ·rintro l w1 pre q Hc o gk1 _ lP ⟨B',Q',hP,fJ,hS⟩ kN hl
   rw[aIR]
   refine tq (jE eY eX eN bW aT) ?_;intro Nx aB Gx aF
   simp only[eQ]
   refine⟨rfl,fun b o _ h=>h,fun w2 y gk2 _=>?_⟩
   have hqf:q∈f p:=lP.subset (by simp)
   have hqR:=jQ p q hqf
   have aFG:HC q:=by unfold cE at hqR;unfold HC;omega
   have RF:=aFr (B:=B') (fun q hq=>by have:=aA2 B' hP.b q hq;unfold cE at this;unfold HC;omega) aFG
   have aXz:=hBl B' hP.b
   have hS':=hS.SB (s7 (x:=.obj y) hl)
   clear hS
   obtain⟨g1,g2,x,ob,g3,g4,g5⟩:=hS'
   simp only[bW,jN,nA,s5,eX,lX]
   by_cases hqk:q∈tW B'
   ·obtain⟨p',hp'⟩:=rL.1 hqk
    have hgq:=aB7 hP.b.nd hp'
    refine tq (nF f5 eY eX eN bW g2 hgq) ?_;intro Nx aB Gx aF
    refine⟨RF,?_⟩
    refine aB _ ?_
    refine tq trivial ?_;intro Nx aB Gx aF
    exact⟨rfl,fun b o _ h=>h,B',Q',hP.GS hqk,fJ,g1,g2,x,ob,g3,g4,g5⟩
   ·have hgq:=aCr hqk
    have tU:=aJW (p:=p) hqk
    refine tq (nF f5 eY eX eN bW g2 hgq) ?_;intro Nx aB Gx aF
    refine⟨RF,?_⟩
    refine aB _ ?_
    have RH:ob≠some bm:=fun e=>by
     rcases g4 with⟨h,_⟩|⟨c,o,k,iU,h1,_,_,h4,_⟩
     ·rw[h] at e;cases e
     ·rw[h1] at e;injection e with e;rw[e,g2] at h4;cases h4
    have aYt:∀b o,(Hc.bH l (.obj y)) b=some (.obj o)->ob≠some b:=fun b o hb e=>by
     rcases g4 with⟨h,_⟩|⟨c,o,k,iU,h1,_,_,h4,_⟩
     ·rw[h] at e;cases e
     ·rw[h1] at e;injection e with e;rw[e,hb] at h4;cases h4
    have r6:((Hc.bH l (.obj y)).bH bm (.map (SMI (B'++[(q,p)])))) c6=some (.row 32 0 1 [[x]]):=(aN n6m).trans g3
    have r7:=bK (x:=.map (SMI (B'++[(q,p)]))) g1 (rB tR)
    have r8:=g4.fS (H':=(Hc.bH l (.obj y)).bH bm (.map (SMI (B'++[(q,p)])))) fun c hc=>aN fun e=>RH (by rw[hc,e])
    have hql:=hP.ql
    obtain⟨HB,hHB⟩:∃HB,HB=(Hc.bH l (.obj y)).bH bm (.map (SMI (B'++[(q,p)]))):=⟨_,rfl⟩
    rw[<-hHB] at r6 r7 r8
    refine tq (zY f5 f6 f7 eY eX eN bW g2 tU RF @hHB.symm r6) ?_;intro Nx aB Gx aF
    refine UU (e:=3) kZ rfl kZ rfl PF rfl (by decide) r7 r8 (new:=[iD q]) (by exact⟨rfl,rfl⟩) (by rw[bC];show(_+1) * 8<=_;omega) fun d H6 oG j6 eM nJ=>?_
    have q3:=nJ _ _ r6 g5
    have q31:=q3.1
    have q4:=(nJ bm _ (by rw[hHB,aO]) RH).1
    have hd6:∃c o n,d=.os c o 1 0 n:=by
     rcases j6 with⟨_,_,h⟩|⟨c,o,_,h,_⟩
     ·simp at h
     ·exact⟨c,o,_,h⟩
    obtain⟨c',o',n',rfl⟩:=hd6
    have e:(Q'++[q]).map iD=Q'.map iD++[iD q]:=by simp
    (have fs:=And.intro f6 q31;refine qK ?_;try clear fs);(first|refine aF _ ?_|refine aB _ ?_|skip)
    refine⟨rfl,fun b o _ hb=>?_,B'++[(q,p)],Q'++[q],hP.new hqk hqf,by rw[bN,bN];simp only[wB];omega,bK eM (rB JL),(aN n6m.symm).trans q4,_,oG,aO _ _ _,?_,q3.2⟩
    ·have nb:b≠bm:=fun e=>by rw[e] at hb;have B7:(Hc.bH l (.obj y)) bm=_:=hb;rw[g2] at B7;cases B7
     have n6:b≠c6:=fun e=>by rw[e] at hb;have B7:(Hc.bH l (.obj y)) c6=_:=hb;rw[g3] at B7;cases B7
     show(H6.bH c6 _) b=_
     rw[aN n6]
     exact(nJ b _ (by rw[hHB,aN nb];exact hb) (aYt b o hb)).1
    ·rw[e]
     exact Gk.of (j6.fS fun c h=>aN fun e=>q3.2 (by rw[h,e]))
  ·rintro ys Hc M EJ ⟨B',Q',hP,fJ,hS⟩ kN hD NZ
   rw[xP]
   simp only[fP,eQ]
   have EJ:ys=f p:=EJ
   subst EJ
   have iC:=aYr Hc (fun b o h=>kN b o trivial h) hS.le
   have aXz:=hBl B' hP.b
   refine⟨_,?_,⟨⟨M::Ds,by rw[eN,aT] <;> rfl,hmk.more (fun b o h=>kN b o trivial h) (lC hSc.le NZ) NZ hD⟩,f0,f1,f5,f6⟩,B',Q',rfl,hP.fin,iC,hS.mb,?_⟩
   ·show _<_
    rw[eO];omega
   ·obtain⟨x,ob,h1,h2,h3⟩:=hS.q
    exact⟨x,ob,h1,aNm h2 iC,h3⟩
  ·exact fun _ _ _ _ _ _ h=>h.elim
end Go.Proofs.YtfiipaodjpiooaaGreatDoor

