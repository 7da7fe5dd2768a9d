/- Lemmas and contracts of functions, several texts in one. -/
import Derived.Test.YtelbfbioomcmeaaGreatDoorQ24
set_option maxRecDepth 100000
set_option maxHeartbeats 4000000
set_option linter.all false
namespace Go.Proofs.YtelbfbioomcmeaaGreatDoor
open Go.RowKit
theorem aE6 {x:X} (h:DT.ok (.array 2 (.int .i64)) x):∃a b:Int,x=.agg [xI a,xI b]/\U9 a/\U9 b:=by
 simp only[DT.ok] at h
 obtain⟨xs,rfl,hxl,hxs⟩:=h
 match xs,hxl,hxs with
 |[y1,y2],_,hxs=>
  obtain⟨n1,rfl,k1⟩:=UP (show DT.ok (.int .i64) y1 from by simp only[DT.ok];exact hxs y1 (by simp))
  obtain⟨n2,rfl,k2⟩:=UP (show DT.ok (.int .i64) y2 from by simp only[DT.ok];exact hxs y2 (by simp))
  exact⟨n1,n2,rfl,k1,k2⟩
theorem KP {fs:List DT} {x:X} (h:DT.ok (.struct fs) x):∃xs,x=.agg xs/\DT.oks fs xs:=by simpa only[DT.ok] using h
theorem fO {f:DT} {fs:List DT} {xs:List X} (h:DT.oks (f::fs) xs):∃y ys,xs=y::ys/\DT.ok f y/\DT.oks fs ys:=by simpa only[DT.oks] using h
theorem AY {xs:List X} (h:DT.oks [] xs):xs=[]:=by simpa only[DT.oks] using h
theorem lO {x:X} (h:DT.ok (.int .i64) x):∃n,X.cs x=[i64 n]:=by
 obtain⟨n,rfl,_⟩:=UP h
 exact⟨n,rfl⟩
theorem MS {x:X} (h:DT.ok .string x):∃s,X.cs x=[bX s]:=by
 simp only[DT.ok] at h
 obtain⟨s,rfl,_⟩:=h
 exact⟨s,rfl⟩
theorem VN {x:X} (h:DT.ok .bool x):∃s,X.cs x=[.val (.bool s)]:=by
 simp only[DT.ok] at h
 obtain⟨s,rfl⟩:=h
 exact⟨s,rfl⟩
theorem WU {α:Type} {f:α->List D} {p:α->Prop} {e:DT} (h:∀x,e.ok x->∃a,X.cs x=f a/\p a):∀{xs:List X},(∀y∈xs,e.ok y)->∃l:List α,X.YH xs=l.map f/\(∀a∈l,p a)/\l.length=xs.length
 |[],_=>⟨[],by simp [X.YH],(fun a ha=>by cases ha),rfl⟩
 |x::xs,hx=>by
  obtain⟨a,ha,hp⟩:=h x (hx x wN)
  obtain⟨l,hl,hq,hn⟩:=WU h fun y hy=>hx y (jR _ hy)
  refine⟨a::l,by simp only[X.YH,fT,ha,hl],fun b hb=>?_,by simp [hn]⟩
  rcases eG.1 hb with rfl|hb
  ·exact hp
  ·exact hq b hb
theorem lP {α:Type} {f:α->List D} {p:α->Prop} {e:DT} {sz sY:Nat} {x:X} (hb:0<sY) (he:∀x,e.ok x->∃a,X.cs x=f a/\p a) (h:DT.ok (.slice sz sY e) x):∃l:List α,X.cs x=[.seq sz (l.map f)]/\(∀a∈l,p a)/\fC l.length:=by
 simp only[DT.ok] at h
 obtain⟨xs,rfl,hl,hx⟩:=h
 obtain⟨l,h1,h2,h3⟩:=WU he hx
 refine⟨l,by simp only[X.cs,h1],h2,?_⟩
 unfold fC
 have:xs.length * 1<=xs.length * sY:=Nat.mul_le_mul_left _ hb
 omega
abbrev dP:DT:=.struct [.int .i64,.int .i64]
abbrev dPl:DT:=.struct [.int .i64,.slice 2 16 dP]
abbrev dOp:DT:=.struct [.int .i64,dPl,.int .i64]
abbrev dRv:DT:=.struct [.int .i64,.int .i64,.int .i64,.bool,dPl,.slice 4 48 dOp]
abbrev dSt:DT:=.struct [.int .i64,dPl,dRv,.int .i64]
abbrev dTm:DT:=.struct [.int .i64,.slice 1 8 (.int .i64),.slice 4 48 dOp,dPl,.string]
abbrev dBk:DT:=.struct [.slice 11 136 dSt,dTm]
abbrev dTy:DT:=.struct [.int .i64,.bool,.int .i64,.int .i64,.slice 1 8 (.int .i64)]
abbrev dLc:DT:=.struct [.string,.int .i64]
abbrev dBd:DT:=.struct [.string,.slice 1 16 .string,.slice 2 16 (.array 2 (.int .i64)),.slice 5 56 dTy,.slice 2 24 dLc,.int .i64,.slice 7 128 dBk]
theorem c_i (x:X) (h:DT.ok (.int .i64) x):∃n,X.cs x=iD n/\True:=by
 obtain⟨n,h⟩:=lO h
 exact⟨n,h,trivial⟩
theorem c_s (x:X) (h:DT.ok .string x):∃n,X.cs x=sD n/\True:=by
 obtain⟨n,h⟩:=MS h
 exact⟨n,h,trivial⟩
theorem aWu (x:X) (h:DT.ok (.array 2 (.int .i64)) x):∃p:Int×Int,X.cs x=pD p/\True:=by
 obtain⟨a,b,rfl,_,_⟩:=aE6 h
 exact⟨(a,b),rfl,trivial⟩
theorem c_P (x:X) (h:DT.ok dP x):∃p:Int×Int,X.cs x=pD p/\True:=by
 obtain⟨xs,rfl,g0⟩:=KP h
 obtain⟨y1,xs0,rfl,h1,g1⟩:=fO g0
 obtain⟨y2,xs1,rfl,h2,g2⟩:=fO g1
 obtain rfl:=AY g2
 obtain⟨a,h1⟩:=lO h1
 obtain⟨b,h2⟩:=lO h2
 exact⟨(a,b),by simp only[X.cs,X.MT,h1,h2];rfl,trivial⟩
theorem aDR (x:X) (h:DT.ok dPl x):∃p,X.cs x=kT p/\RS p:=by
 obtain⟨xs,rfl,g0⟩:=KP h
 obtain⟨y1,xs0,rfl,h1,g1⟩:=fO g0
 obtain⟨y2,xs1,rfl,h2,g2⟩:=fO g1
 obtain rfl:=AY g2
 obtain⟨a,h1⟩:=lO h1
 obtain⟨b,h2,_,hb⟩:=lP (by decide) c_P h2
 exact⟨⟨a,b⟩,by simp only[X.cs,X.MT,h1,h2];rfl,hb⟩
theorem aI1 (x:X) (h:DT.ok dOp x):∃p,X.cs x=jL p/\KM p:=by
 obtain⟨xs,rfl,g0⟩:=KP h
 obtain⟨y1,xs0,rfl,h1,g1⟩:=fO g0
 obtain⟨y2,xs1,rfl,h2,g2⟩:=fO g1
 obtain⟨y3,xs2,rfl,h3,g3⟩:=fO g2
 obtain rfl:=AY g3
 obtain⟨a,h1⟩:=lO h1
 obtain⟨b,h2,hb⟩:=aDR _ h2
 obtain⟨c,h3⟩:=lO h3
 exact⟨⟨a,b,c⟩,by simp only[X.cs,X.MT,h1,h2,h3];rfl,hb⟩
theorem aWq (x:X) (h:DT.ok dRv x):∃p,X.cs x=GF p/\KN p:=by
 obtain⟨xs,rfl,g0⟩:=KP h
 obtain⟨y1,xs0,rfl,h1,g1⟩:=fO g0
 obtain⟨y2,xs1,rfl,h2,g2⟩:=fO g1
 obtain⟨y3,xs2,rfl,h3,g3⟩:=fO g2
 obtain⟨y4,xs3,rfl,h4,g4⟩:=fO g3
 obtain⟨y5,xs4,rfl,h5,g5⟩:=fO g4
 obtain⟨y6,xs5,rfl,h6,g6⟩:=fO g5
 obtain rfl:=AY g6
 obtain⟨a,h1⟩:=lO h1
 obtain⟨b,h2⟩:=lO h2
 obtain⟨c,h3⟩:=lO h3
 obtain⟨d,h4⟩:=VN h4
 obtain⟨e,h5,h5o⟩:=aDR _ h5
 obtain⟨f,h6,h6o,h6b⟩:=lP (by decide) aI1 h6
 exact⟨⟨a,b,c,d,e,f⟩,by simp only[X.cs,X.MT,h1,h2,h3,h4,h5,h6];rfl,h5o,h6b,h6o⟩
theorem aWr (x:X) (h:DT.ok dSt x):∃p,X.cs x=J4 p/\aE4 p:=by
 obtain⟨xs,rfl,g0⟩:=KP h
 obtain⟨y1,xs0,rfl,h1,g1⟩:=fO g0
 obtain⟨y2,xs1,rfl,h2,g2⟩:=fO g1
 obtain⟨y3,xs2,rfl,h3,g3⟩:=fO g2
 obtain⟨y4,xs3,rfl,h4,g4⟩:=fO g3
 obtain rfl:=AY g4
 obtain⟨a,h1⟩:=lO h1
 obtain⟨b,h2,hb⟩:=aDR _ h2
 obtain⟨c,h3,hc⟩:=aWq _ h3
 obtain⟨d,h4⟩:=lO h4
 exact⟨⟨a,b,c,d⟩,by simp only[X.cs,X.MT,h1,h2,h3,h4];rfl,hb,hc⟩
theorem aWs (x:X) (h:DT.ok dTm x):∃p,X.cs x=SI p/\ZX p:=by
 obtain⟨xs,rfl,g0⟩:=KP h
 obtain⟨y1,xs0,rfl,h1,g1⟩:=fO g0
 obtain⟨y2,xs1,rfl,h2,g2⟩:=fO g1
 obtain⟨y3,xs2,rfl,h3,g3⟩:=fO g2
 obtain⟨y4,xs3,rfl,h4,g4⟩:=fO g3
 obtain⟨y5,xs4,rfl,h5,g5⟩:=fO g4
 obtain rfl:=AY g5
 obtain⟨a,h1⟩:=lO h1
 obtain⟨b,h2,_,hb⟩:=lP (by decide) c_i h2
 obtain⟨c,h3,hco,hc⟩:=lP (by decide) aI1 h3
 obtain⟨d,h4,hd⟩:=aDR _ h4
 obtain⟨e,h5⟩:=MS h5
 exact⟨⟨a,b,c,d,e⟩,by simp only[X.cs,X.MT,h1,h2,h3,h4,h5];rfl,hb,⟨hc,hco⟩,hd⟩
theorem aWo (x:X) (h:DT.ok dBk x):∃p,X.cs x=rE p/\aJ6 p:=by
 obtain⟨xs,rfl,g0⟩:=KP h
 obtain⟨y1,xs0,rfl,h1,g1⟩:=fO g0
 obtain⟨y2,xs1,rfl,h2,g2⟩:=fO g1
 obtain rfl:=AY g2
 obtain⟨a,h1,hao,ha⟩:=lP (by decide) aWr h1
 obtain⟨b,h2,hb⟩:=aWs _ h2
 exact⟨⟨a,b⟩,by simp only[X.cs,X.MT,h1,h2];rfl,⟨ha,hao⟩,hb⟩
theorem aWt (x:X) (h:DT.ok dTy x):∃p,X.cs x=cE p/\fC p.ar.length:=by
 obtain⟨xs,rfl,g0⟩:=KP h
 obtain⟨y1,xs0,rfl,h1,g1⟩:=fO g0
 obtain⟨y2,xs1,rfl,h2,g2⟩:=fO g1
 obtain⟨y3,xs2,rfl,h3,g3⟩:=fO g2
 obtain⟨y4,xs3,rfl,h4,g4⟩:=fO g3
 obtain⟨y5,xs4,rfl,h5,g5⟩:=fO g4
 obtain rfl:=AY g5
 obtain⟨a,h1⟩:=lO h1
 obtain⟨b,h2⟩:=VN h2
 obtain⟨c,h3⟩:=lO h3
 obtain⟨d,h4⟩:=lO h4
 obtain⟨e,h5,_,he⟩:=lP (by decide) c_i h5
 exact⟨⟨a,b,c,d,e⟩,by simp only[X.cs,X.MT,h1,h2,h3,h4,h5];rfl,he⟩
theorem aWp (x:X) (h:DT.ok dLc x):∃p,X.cs x=lI p/\True:=by
 obtain⟨xs,rfl,g0⟩:=KP h
 obtain⟨y1,xs0,rfl,h1,g1⟩:=fO g0
 obtain⟨y2,xs1,rfl,h2,g2⟩:=fO g1
 obtain rfl:=AY g2
 obtain⟨a,h1⟩:=MS h1
 obtain⟨b,h2⟩:=lO h2
 exact⟨⟨a,b⟩,by simp only[X.cs,X.MT,h1,h2];rfl,trivial⟩
theorem aE5 {x:X} (h:DT.ok (DT.struct [DT.string,DT.slice 1 16 (DT.string),DT.slice 2 16 (DT.array 2 (DT.int .i64)),DT.slice 5 56 (DT.struct [DT.int .i64,DT.bool,DT.int .i64,DT.int .i64,DT.slice 1 8 (DT.int .i64)]),DT.slice 2 24 (DT.struct [DT.string,DT.int .i64]),DT.int .i64,DT.slice 7 128 (DT.struct [DT.slice 11 136 (DT.struct [DT.int .i64,DT.struct [DT.int .i64,DT.slice 2 16 (DT.struct [DT.int .i64,DT.int .i64])],DT.struct [DT.int .i64,DT.int .i64,DT.int .i64,DT.bool,DT.struct [DT.int .i64,DT.slice 2 16 (DT.struct [DT.int .i64,DT.int .i64])],DT.slice 4 48 (DT.struct [DT.int .i64,DT.struct [DT.int .i64,DT.slice 2 16 (DT.struct [DT.int .i64,DT.int .i64])],DT.int .i64])],DT.int .i64]),DT.struct [DT.int .i64,DT.slice 1 8 (DT.int .i64),DT.slice 4 48 (DT.struct [DT.int .i64,DT.struct [DT.int .i64,DT.slice 2 16 (DT.struct [DT.int .i64,DT.int .i64])],DT.int .i64]),DT.struct [DT.int .i64,DT.slice 2 16 (DT.struct [DT.int .i64,DT.int .i64])],DT.string]])]) x):∃b,x.d=.agg (iG b)/\RR b:=by
 obtain⟨xs,rfl,g0⟩:=KP (show DT.ok dBd x from h)
 obtain⟨y1,xs0,rfl,h1,g1⟩:=fO g0
 obtain⟨y2,xs1,rfl,h2,g2⟩:=fO g1
 obtain⟨y3,xs2,rfl,h3,g3⟩:=fO g2
 obtain⟨y4,xs3,rfl,h4,g4⟩:=fO g3
 obtain⟨y5,xs4,rfl,h5,g5⟩:=fO g4
 obtain⟨y6,xs5,rfl,h6,g6⟩:=fO g5
 obtain⟨y7,xs6,rfl,h7,g7⟩:=fO g6
 obtain rfl:=AY g7
 obtain⟨a1,h1⟩:=MS h1
 obtain⟨a2,h2,_,k2⟩:=lP (by decide) c_s h2
 obtain⟨a3,h3,_,k3⟩:=lP (by decide) aWu h3
 obtain⟨a4,h4,j4,k4⟩:=lP (by decide) aWt h4
 obtain⟨a5,h5,_,k5⟩:=lP (by decide) aWp h5
 obtain⟨a6,h6⟩:=lO h6
 obtain⟨a7,h7,j7,k7⟩:=lP (by decide) aWo h7
 exact⟨⟨a1,a2,a3,a4,a5,a6,a7⟩,by simp only[X.d,X.MT,h1,h2,h3,h4,h5,h6,h7];rfl,k2,k3,⟨k4,j4⟩,k5,k7,j7⟩
open Tryz
theorem LK (p:pO) (H:aA) (hp:fC p.pr.length):aT prog 295 [.agg (kT p)] H fun d H'=>d=i64 (iJ p)/\H=H':=by
 unfold fC at hp
 have cI:=lm pD p.pr
 refine bM (K:=fun d=>d=i64 (iJ p)) ?_
 refine aN _ _ func295 rfl rfl ntmps295 results295 (by simp) fun w0 g0 Q aC=>?_
 refine tq @kT.eq_1 ?_;intro Nx aB Gx aG
 intro c1 l9
 refine aB _ ?_
 refine fW 1 l9 ?_
 by_cases h0:p.lo<0
 ·have p1:(p.lo<0)=True:=aK h0
  have hd:iJ p=3:=aH h0
  refine tq p1 ?_;intro Nx aB Gx aG
  refine rt aC trivial ?_
  exact⟨_,aE _,aE _,_,aJ (aE _),by rw[hd]⟩
 have p1:(p.lo<0)=False:=aI h0
 by_cases h1:32<p.pr.length
 ·have p2:((p.pr.length:Int)>32)=True:=aK (by omega)
  have hd:iJ p=19:=by unfold iJ;rw[aD h0,aH h1]
  refine tq (dZ p1 cI p2) ?_;intro Nx aB Gx aG
  refine rt aC trivial ?_
  exact⟨_,aE _,aE _,_,aJ (aE _),by rw[hd]⟩
 have p2:((p.pr.length:Int)>32)=False:=aI (by omega)
 have hd:iJ p=pY p.pr:=by unfold iJ;rw[aD h0,aD h1]
 rw[hd] at aC
 refine tq (dZ p1 cI p2) ?_;intro Nx aB Gx aG
 refine bB p.pr.length (fun i s=>s.df=[]/\s.fr 1=.rp [i64 p.lo,.seq 2 (p.pr.map pD)]/\s.fr 3=i64 i/\H.le s.H/\pY p.pr=pY (p.pr.drop i)) ⟨rfl,rfl,rfl,aE _,rfl⟩ ?_
 rintro i s hi ⟨bG,f1,f3,aR,fF⟩
 have hx:=bL i
 have cL:=bY i
 by_cases aZ:i<p.pr.length
 case neg=>
  have q1:=lF i p.pr.length (by omega)
  rw[dX (by omega)] at fF
  refine tq (fJ f1 f3 q1 cI) ?_;intro Nx aB Gx aG
  refine rt aC bG ?_
  exact⟨_,aE _,aR,_,aJ aR,by rw[fF] <;> rfl⟩
 have cN:(i:Int)<(p.pr.length:Int):=by omega
 have q1:((i:Int)<(p.pr.length:Int))=True:=aK cN
 have w3:=wS i (by omega)
 have b8:=yU aZ
 rw[HS aZ] at fF
 rcases he:p.pr[i] with⟨k,f⟩
 rw[he] at fF b8
 simp only at b8
 refine tq (qN f1 f3 q1 cI b8 hx cL aZ) ?_;intro Nx aB Gx aG
 intro c4 wQ
 refine aB _ ?_
 have aGl:H c4=none:=by
  cases e:H c4 with
  |none=>rfl
  |some y=>rw[aR c4 y e] at wQ;cases wQ
 have mP:=bQ (x:=.row 154 0 2 [[i64 k,i64 f]]) aR aGl
 have z4:(s.H.bH c4 (.row 154 0 2 [[i64 k,i64 f]])) c4=some (.row 154 0 2 [[i64 k,i64 f]]):=aQ _ _ _
 have iQ:KA (k,f)=if k≠0/\k≠1 then 14 else if k=0/\f≠0 then 2 else if f<0 then 3 else 0:=rfl
 rcases SH (k=0) with⟨_,k0,⟨rfl,h0⟩|⟨rfl,h0⟩⟩
 ·rcases SH (f=0) with⟨_,f0,⟨rfl,h1⟩|⟨rfl,h1⟩⟩
  ·have f7:(f<0)=False:=aI (by omega)
   rw[aD (fun h=>h.1 h0),aD (fun h=>h.2 h1),aD (by omega)] at iQ
   rw[aD (fun h=>h iQ)] at fF
   refine tq (lM f1 f3 w3 k0 z4 f0 f7) ?_;intro Nx aB Gx aG;exact⟨aZ,bG,f1,rfl,mP,fF⟩
  ·rw[aD (fun h=>h.1 h0),aH ⟨h0,h1⟩] at iQ
   rw[aH (by rw[iQ];decide),iQ] at fF
   refine tq (jA f1 f3 w3 k0 z4 f0) ?_;intro Nx aB Gx aG;refine rt aC bG ?_;exact⟨_,aE _,mP,_,aJ mP,by rw[fF] <;> rfl⟩
 rcases SH (k=1) with⟨_,k1,⟨rfl,h2⟩|⟨rfl,h2⟩⟩
 case inr=>
  rw[aH ⟨h0,h2⟩] at iQ
  rw[aH (by rw[iQ];decide),iQ] at fF
  refine tq (jA f1 f3 w3 k0 z4 k1) ?_;intro Nx aB Gx aG;refine rt aC bG ?_;exact⟨_,aE _,mP,_,aJ mP,by rw[fF] <;> rfl⟩
 rcases SH (f<0) with⟨_,f7,⟨rfl,h1⟩|⟨rfl,h1⟩⟩
 ·rw[aD (fun h=>h.2 h2),aD (fun h=>h0 h.1),aH h1] at iQ
  rw[aH (by rw[iQ];decide),iQ] at fF
  refine tq (lM f1 f3 w3 k0 z4 k1 f7) ?_;intro Nx aB Gx aG;refine rt aC bG ?_;exact⟨_,aE _,mP,_,aJ mP,by rw[fF] <;> rfl⟩
 ·rw[aD (fun h=>h.2 h2),aD (fun h=>h0 h.1),aD h1] at iQ
  rw[aD (fun h=>h iQ)] at fF
  refine tq (lM f1 f3 w3 k0 z4 k1 f7) ?_;intro Nx aB Gx aG;exact⟨aZ,bG,f1,rfl,mP,fF⟩
theorem K4:∀(l m:List (Int×Int)),pY (l++m)=0->pY l=0/\pY m=0
 |[],m,h=>⟨rfl,h⟩
 |x::l,m,h=>by
  simp only[eT,pY] at h ⊢
  by_cases h1:KA x≠0
  ·rw[aH h1] at h;exact absurd h h1
  ·rw[aD h1] at h ⊢
   exact K4 l m h
theorem PY {a:Int} {l m:List (Int×Int)} (h:iJ ⟨a,l++m⟩=0):iJ ⟨a,l⟩=0:=by
 obtain⟨h1,h2,h3⟩:=pP h
 simp only[bJ] at h1 h2
 have h4:=(K4 l m h3).1
 unfold iJ
 rw[aD (by simp only;omega),aD (by simp only;omega)]
 exact h4
theorem SL {ts:List cQ} {lc:List tD} {a:Int} {l:List (Int×Int)} {x:Int×Int} (h:iJ ⟨a,l++[x]⟩=0) (h2:a<lc.length):
  bU ts lc ⟨a,l++[x]⟩=if (bU ts lc ⟨a,l⟩).2≠0 then (0,(bU ts lc ⟨a,l⟩).2) else iH ts (bU ts lc ⟨a,l⟩).1 x:=by
 have h3:=PY h
 have e1:bU ts lc ⟨a,l++[x]⟩=zH ts (sO lc a).ty (l++[x]):=by
  unfold bU;rw[aD (fun k=>k h),aD (by simp only;omega)]
 have e2:bU ts lc ⟨a,l⟩=zH ts (sO lc a).ty l:=by
  unfold bU;rw[aD (fun k=>k h3),aD (by simp only;omega)]
 rw[e1,e2]
 by_cases h4:(zH ts (sO lc a).ty l).2=0
 ·rw[aD (fun k=>k h4),JO h4]
 ·rw[aH h4,JN h4]
  have:=XI _ _ h4
  rw[<-this]
theorem y8 (ts:List cQ) (lc:List tD) (hw:vY ts) (hl:S7 ts lc) (ha:XW ts):∀(n:Nat) (p:pO) (H:aA),p.pr.length=n->fC p.pr.length->aT prog 209 [.seq 5 (ts.map cE),.seq 2 (lc.map lI),.agg (kT p)] H fun d H'=>d=.fV [i64 (bU ts lc p).1,i64 (bU ts lc p).2]/\H=H':=by
 have hmc:=lm lI lc
 have iX:=lm cE ts
 intro n
 induction n with
 |zero=>
  rintro⟨a,l⟩ H hn hp
  have CS:l=[]:=gP hn
  subst CS
  refine bM (K:=fun d=>d=.fV [i64 (bU ts lc ⟨a,[]⟩).1,i64 (bU ts lc ⟨a,[]⟩).2]) ?_
  have kL:=aE H
  have fF:=LK ⟨a,[]⟩ H hp
  obtain⟨y,hy⟩:∃y,y=bU ts lc ⟨a,[]⟩:=⟨_,rfl⟩
  rw[<-hy]
  simp only[kT,pM] at fF
  refine aN _ _ func209 rfl rfl ntmps209 results209 (by simp) fun w0 g0 Q aC=>?_
  refine tq @kT.eq_1 ?_;intro Nx aB Gx aG
  intro c5 pT
  refine aB _ ?_
  refine fW 5 pT ?_
  refine tq trivial ?_;intro Nx aB Gx aG
  refine fF.mono ?_
  rintro d _ ⟨rfl,rfl⟩
  by_cases h1:iJ ⟨a,[]⟩=0
  case neg=>
   have q1:(iJ ⟨a,[]⟩=0)=False:=aI h1
   have e:y=(0,iJ ⟨a,[]⟩):=hy.trans (aH h1)
   refine tq q1 ?_;intro Nx aB Gx aG;refine rt aC trivial ?_;exact⟨_,aE _,kL,_,aJ kL,by rw[e]⟩
  have q1:(iJ ⟨a,[]⟩=0)=True:=aK h1
  by_cases h2:(lc.length:Int)<=a
  ·have q2:(a≥(lc.length:Int))=True:=aK h2
   have e:y=(0,3):=hy.trans (by unfold bU;rw[aD (fun k=>k h1)];exact aH h2)
   refine tq (dZ q1 q2 hmc) ?_;intro Nx aB Gx aG;refine rt aC trivial ?_;exact⟨_,aE _,kL,_,aJ kL,by rw[e]⟩
  have q2:(a≥(lc.length:Int))=False:=aI h2
  have jX:0<=a/\a<lc.length:=⟨(pP h1).1,by omega⟩
  have cL:=jX.1
  have aZ:a.toNat<lc.length:=by omega
  have hgl:=V4 jX
  simp only[lI] at hgl
  have e:y=((sO lc a).ty,0):=hy.trans (by unfold bU;rw[aD (fun k=>k h1),aD h2];rfl)
  refine tq (jA q1 q2 hmc hgl aZ cL) ?_;intro Nx aB Gx aG;refine rt aC trivial ?_;exact⟨_,aE _,kL,_,aJ kL,by rw[e]⟩
 |succ n ih=>
  rintro⟨a,l0⟩ H hn hp
  obtain⟨l,x,rfl⟩:∃l x,l0=l++[x]:=by
   rcases List.eq_nil_or_concat l0 with h|⟨l,x,h⟩
   ·subst h;cases hn
   ·exact⟨l,x,by rw[h,List.concat_eq_append]⟩
  have mA:l.length=n:=by simpa using hn
  refine bM (K:=fun d=>d=.fV [i64 (bU ts lc ⟨a,l++[x]⟩).1,i64 (bU ts lc ⟨a,l++[x]⟩).2]) ?_
  have kL:=aE H
  have fF:=LK ⟨a,l++[x]⟩ H hp
  obtain⟨y,hy⟩:∃y,y=bU ts lc ⟨a,l++[x]⟩:=⟨_,rfl⟩
  rw[<-hy]
  obtain⟨L,hL⟩:∃L,L=(l++[x]).map pD:=⟨_,rfl⟩
  have hLl:L.length=l.length+1:=by rw[hL];simp
  have hLt:L.take l.length=l.map pD:=by rw[hL,fI,<-bK pD,List.take_left]
  have hLg:L[l.length]?=some (pD x):=by rw[hL,fI];simp
  simp only[kT] at fF
  rw[<-hL] at fF
  refine aN _ _ func209 rfl rfl ntmps209 results209 (by simp) fun w0 g0 Q aC=>?_
  simp only[kT]
  rw[<-hL]
  have hsm:l.length<=140737488351232:=by unfold fC at hp;simp only[bJ,nT] at hp;omega
  obtain⟨m,hm⟩:∃m,m=iJ ⟨a,l++[x]⟩:=⟨_,rfl⟩
  rw[<-hm] at fF
  refine tq trivial ?_;intro Nx aB Gx aG
  intro c5 pT
  refine aB _ ?_
  refine fW 5 pT ?_
  refine tq trivial ?_;intro Nx aB Gx aG
  refine fF.mono ?_
  rintro d _ ⟨rfl,rfl⟩
  by_cases h1:m=0
  case neg=>
   have q1:(m=0)=False:=aI h1
   have e:y=(0,m):=hy.trans (by rw[hm] at h1 ⊢;exact aH h1)
   refine tq q1 ?_;intro Nx aB Gx aG;refine rt aC trivial ?_;exact⟨_,aE _,kL,_,aJ kL,by rw[e]⟩
  have q1:(m=0)=True:=aK h1
  by_cases h2:(lc.length:Int)<=a
  ·have q2:(a≥(lc.length:Int))=True:=aK h2
   have e:y=(0,3):=hy.trans (by unfold bU;rw[aD (fun k=>k (hm.symm.trans h1))];exact aH h2)
   refine tq (dZ q1 q2 hmc) ?_;intro Nx aB Gx aG;refine rt aC trivial ?_;exact⟨_,aE _,kL,_,aJ kL,by rw[e]⟩
  have q2:(a≥(lc.length:Int))=False:=aI h2
  have CP:iJ ⟨a,l++[x]⟩=0:=hm.symm.trans h1
  have S5:=hy.trans (SL (ts:=ts) CP (by omega))
  have jX:0<=a/\a<lc.length:=⟨(pP CP).1,by omega⟩
  have hxf:0<=x.2:=(HT (pP CP).2.2 x (by simp)).2
  have q3:(((l.length+1:Nat):Int)=0)=False:=aI (by omega)
  have w3:IntKind.i64.wrap (((l.length+1:Nat):Int) - 1)=(l.length:Int):=by rw[aY (by omega)];omega
  have hx:(l.length:Int).toNat=l.length:=bL _
  have cL:(0:Int)<=(l.length:Int):=bY _
  have hlL:l.length<=L.length:=by omega
  have nX:fC (⟨a,l⟩:pO).pr.length:=by unfold fC;show l.length<=_;omega
  have dK:∀H1,dY prog 209 [.seq 5 (ts.map cE),.seq 2 (lc.map lI),.agg [i64 a,.seq 2 (l.map pD)]] H1 fun d A=>A=aA.none/\d=.fV [i64 (bU ts lc ⟨a,l⟩).1,i64 (bU ts lc ⟨a,l⟩).2]:=fun H1=>bN fun eL eO=>ih ⟨a,l⟩ eL mA nX
  obtain⟨z,hz⟩:∃z,z=bU ts lc ⟨a,l⟩:=⟨_,rfl⟩
  have hzi:z.2=0->dG ts.length z.1:=fun h=>by rw[hz] at h ⊢;exact L9 hw hl h
  rw[<-hz] at dK S5
  refine tq (gE q1 q2 hmc hLl q3) ?_;intro Nx aB Gx aG
  refine dE (fun _ _ d A=>A=.none/\d=.fV [i64 z.1,i64 z.2]) fun Nx aB=>?_;refine dst (jA w3 hx cL hLt hLl hlL) ?_;intro Nx aB Gx aG
  refine⟨by omega,dK _,?_⟩
  refine dst trivial ?_;intro Nx aB Gx aG
  by_cases h5:z.2=0
  case neg=>
   have q5:(z.2=0)=False:=aI h5
   have e:y=(0,z.2):=S5.trans (aH h5)
   refine tq q5 ?_;intro Nx aB Gx aG;refine rt aC trivial ?_;exact⟨_,aE _,kL,_,aJ kL,by rw[e]⟩
  have q5:(z.2=0)=True:=aK h5
  rw[aD (fun k=>k h5)] at S5
  have hzn:=hzi h5
  have nY:=kC hzn
  have yY:z.1.toNat<ts.length:=by unfold dG at hzn;omega
  have B4:0<=z.1:=by unfold dG at hzn;omega
  have BP:iH ts z.1 x=if x.1=0/\(cJ ts z.1).k=3 then ((cJ ts z.1).e,0) else if x.1=1/\(cJ ts z.1).k=4 then (if x.2<(cJ ts z.1).ar.length then ((cJ ts z.1).ar.getD x.2.toNat 0,0) else (0,3)) else (0,22):=rfl
  rw[BP] at S5
  obtain⟨t,ht⟩:∃t,t=cJ ts z.1:=⟨_,rfl⟩
  rw[<-ht] at nY S5
  have J2:t.ar.length<=1000000:=by rw[ht];exact ha _ (zG hzn)
  clear BP ht dK hzi
  obtain⟨tk,tm,tr,te,ta⟩:=t
  obtain⟨k,f⟩:=x
  simp only[cE] at nY
  simp only[pD] at hLg
  simp only at J2 S5 hxf
  have oV:=lm iD ta
  have aX3:l.length<L.length:=by omega
  refine tq (gE q5 nY yY B4 iX) ?_;intro Nx aB Gx aG
  intro c11 aB3
  refine aB _ ?_
  refine fW 11 aB3 ?_
  refine tq (jA w3 hLg hx cL hLl aX3) ?_;intro Nx aB Gx aG
  intro c12 aGj
  refine aB _ ?_
  refine fW 12 aGj ?_
  rcases SH (k=0) with⟨_,k0,⟨rfl,h0⟩|⟨rfl,h0⟩⟩
  ·have k1:(k=1)=False:=aI (by omega)
   rcases SH (tk=3) with⟨_,q7,⟨rfl,h3⟩|⟨rfl,h3⟩⟩
   ·have e:y=(te,0):=S5.trans (aH ⟨h0,h3⟩)
    refine tq (cZ k0 q7) ?_;intro Nx aB Gx aG;refine rt aC trivial ?_;exact⟨_,aE _,kL,_,aJ kL,by rw[e]⟩
   ·have e:y=(0,22):=S5.trans (by rw[aD (fun h=>h3 h.2),aD (fun h=>by omega)])
    refine tq (dZ k0 q7 k1) ?_;intro Nx aB Gx aG;refine rt aC trivial ?_;exact⟨_,aE _,kL,_,aJ kL,by rw[e]⟩
  rcases SH (k=1) with⟨_,k1,⟨rfl,h1⟩|⟨rfl,h1⟩⟩
  case inr=>
   have e:y=(0,22):=S5.trans (by rw[aD (fun h=>h0 h.1),aD (fun h=>h1 h.1)])
   refine tq (cZ k0 k1) ?_;intro Nx aB Gx aG;refine rt aC trivial ?_;exact⟨_,aE _,kL,_,aJ kL,by rw[e]⟩
  rcases SH (tk=4) with⟨_,q8,⟨rfl,h4⟩|⟨rfl,h4⟩⟩
  case inr=>
   have e:y=(0,22):=S5.trans (by rw[aD (fun h=>h0 h.1),aD (fun h=>h4 h.2)])
   refine tq (dZ k0 k1 q8) ?_;intro Nx aB Gx aG;refine rt aC trivial ?_;exact⟨_,aE _,kL,_,aJ kL,by rw[e]⟩
  rw[aD (fun h=>h0 h.1),aH ⟨h1,h4⟩] at S5
  by_cases h6:f<(ta.length:Int)
  ·have q9:(f≥(ta.length:Int))=False:=aI (by omega)
   have kQ:f.toNat<ta.length:=by omega
   have hgf:(ta.map iD)[f.toNat]?=some [i64 ta[f.toNat]]:=dL kQ
   have e:y=(ta[f.toNat],0):=S5.trans (by rw[aH h6,l6,cP kQ] <;> rfl)
   refine tq (qN k0 k1 q8 q9 hgf hxf kQ oV) ?_;intro Nx aB Gx aG;refine rt aC trivial ?_;exact⟨_,aE _,kL,_,aJ kL,by rw[e]⟩
  ·have q9:(f≥(ta.length:Int))=True:=aK (by omega)
   have e:y=(0,3):=S5.trans (aD h6)
   refine tq (gE k0 k1 q8 q9 oV) ?_;intro Nx aB Gx aG;refine rt aC trivial ?_;exact⟨_,aE _,kL,_,aJ kL,by rw[e]⟩
theorem XJ {ts:List cQ} {m:List (Int×Int)}:∀{l:List (Int×Int)} {i:Int},(zH ts i (l++m)).2=0->(zH ts i l).2=0
 |[],i,_=>rfl
 |y::l,i,h=>by
  rw[eT] at h
  by_cases h1:(iH ts i y).2=0
  ·rw[C9 h1] at h ⊢;exact XJ h
  ·rw[L8 h1] at h;exact absurd h h1
theorem L0 {ts:List cQ} {x:Int×Int}:∀{l:List (Int×Int)} {i:Int},(zH ts i l).2=0->vR ts i (l++[x])=vR ts i l++(if x.1=0 then [cJ ts (zH ts i l).1] else [])
 |[],i,_=>by simp [vR,zH]
 |y::l,i,h=>by
  have h1:(iH ts i y).2=0:=kF fun h1=>by rw[L8 h1] at h;exact h1 h
  rw[C9 h1] at h ⊢
  simp only[eT,vR]
  rw[L0 h,dN]
theorem U3 {ts:List cQ} {lc:List tD} {p:pO} (h:(bU ts lc p).2=0) (i:Nat):bU ts lc ⟨p.lo,p.pr.take i⟩=zH ts (sO lc p.lo).ty (p.pr.take i)/\(zH ts (sO lc p.lo).ty (p.pr.take i)).2=0:=by
 obtain⟨h1,h2,h3⟩:=rY h
 obtain⟨a,l⟩:=p
 have h4:iJ ⟨a,l.take i++l.drop i⟩=0:=by rw[kV];exact h1
 have h5:=PY h4
 refine⟨?_,XJ (m:=l.drop i) ?_⟩
 ·unfold bU
  simp only at h2 ⊢
  rw[aD (fun k=>k h5),aD (by omega)]
 ·rw[kV,<-h3];exact h
theorem WR (ts:List cQ) (lc:List tD) (p:pO) (H:aA) (hw:vY ts) (hl:S7 ts lc) (ha:XW ts) (hp:fC p.pr.length) (eX:(bU ts lc p).2=0):aT prog 296 [.seq 5 (ts.map cE),.seq 2 (lc.map lI),.agg (kT p)] H fun d H'=>d=.seq 5 ((nZ ts lc p).map cE)/\H=H':=by
 refine bM (K:=fun d=>d=.seq 5 ((nZ ts lc p).map cE)) ?_
 have hrp:nZ ts lc p=vR ts (sO lc p.lo).ty p.pr:=aD fun h=>h eX
 obtain⟨ty,lG⟩:∃ty,ty=(sO lc p.lo).ty:=⟨_,rfl⟩
 rw[hrp,<-lG]
 have oA:=fun i=>U3 eX i
 rw[<-lG] at oA
 have aXm:dG ts.length ty:=by rw[lG];exact G0 hl (rY eX).2.1
 have IP:=(pP (rY eX).1).2.1
 have cI:=lm pD p.pr
 have iX:=lm cE ts
 refine aN _ _ func296 rfl rfl ntmps296 results296 (by simp) fun w0 g0 Q aC=>?_
 refine tq @kT.eq_1 ?_;intro Nx aB Gx aG
 intro c5 pT
 refine aB _ ?_
 refine fW 5 pT ?_
 refine tq trivial ?_;intro Nx aB Gx aG
 refine bB p.pr.length (fun i s=>s.df=[]/\s.fr 0=.seq 5 (ts.map cE)/\s.fr 1=.seq 2 (lc.map lI)/\s.fr 5=.rp [i64 p.lo,.seq 2 (p.pr.map pD)]/\s.fr 8=i64 i/\H.le s.H/\∃ob,Gl H 82 5 ((vR ts ty (p.pr.take i)).map cE) (s.fr 7) s.H ob) ⟨rfl,rfl,rfl,rfl,rfl,aE _,none,nJ _ _ _ _⟩ ?_
 rintro i s hi ⟨bG,f0,f1,f5,f8,aR,ob,hg⟩
 have hx:=bL i
 have cL:=bY i
 by_cases aZ:i<p.pr.length
 case neg=>
  have q6:=lF i p.pr.length (by omega)
  rw[dQ (by omega)] at hg
  refine tq (fJ f5 f8 q6 cI) ?_;intro Nx aB Gx aG
  refine rt aC bG ?_
  exact⟨_,aE _,aR,_,sF aR hg,rfl⟩
 have q6:=lT i p.pr.length (by omega)
 have w3:=wS i (by omega)
 have b8:=yU aZ
 obtain⟨e1,e2⟩:=oA i
 have xB:vR ts ty (p.pr.take (i+1))=vR ts ty (p.pr.take i)++(if p.pr[i].1=0 then [cJ ts (zH ts ty (p.pr.take i)).1] else []):=by
  rw[dH aZ]
  exact L0 e2
 by_cases h0:p.pr[i].1=0
 case neg=>
  have q7:(p.pr[i].1=0)=False:=aI h0
  rw[aD h0,kX] at xB
  rw[<-xB] at hg
  refine tq (rF f5 f8 q6 cI b8 hx cL aZ q7 w3) ?_;intro Nx aB Gx aG
  exact⟨aZ,bG,f0,f1,f5,rfl,aR,ob,hg⟩
 have q7:(p.pr[i].1=0)=True:=aK h0
 rw[aH h0] at xB
 have jX:dG ts.length (zH ts ty (p.pr.take i)).1:=U2 hw _ _ aXm e2
 have hbt:fC (⟨p.lo,p.pr.take i⟩:pO).pr.length:=by unfold fC;show(p.pr.take i).length<=_;rw[dJ];omega
 have dK:∀H1,dY prog 209 [.seq 5 (ts.map cE),.seq 2 (lc.map lI),.agg [i64 p.lo,.seq 2 ((p.pr.take i).map pD)]] H1 fun d A=>A=aA.none/\d=.fV [i64 (bU ts lc ⟨p.lo,p.pr.take i⟩).1,i64 (bU ts lc ⟨p.lo,p.pr.take i⟩).2]:=fun H1=>bN fun eL eO=>y8 ts lc hw hl ha _ ⟨p.lo,p.pr.take i⟩ eL rfl hbt
 rw[e1,e2] at dK
 obtain⟨z,hz⟩:∃z,z=(zH ts ty (p.pr.take i)).1:=⟨_,rfl⟩
 rw[<-hz] at dK jX xB
 have nY:=kC jX
 have yY:z.toNat<ts.length:=by unfold dG at jX;omega
 have B4:0<=z:=by unfold dG at jX;omega
 obtain⟨t,ht⟩:∃t,t=cJ ts z:=⟨_,rfl⟩
 rw[<-ht] at nY xB
 have ZG:=I8 ts (p.pr.take i) ty
 rw[dJ] at ZG
 obtain⟨els,AM⟩:∃els,els=(vR ts ty (p.pr.take i)).map cE:=⟨_,rfl⟩
 have aGq:els.length<=33:=by rw[AM,bK];omega
 have aEC:(vR ts ty (p.pr.take (i+1))).map cE=els++[cE t]:=by rw[xB,fI,AM];rfl
 rw[<-AM] at hg
 clear AM xB
 have gL:i<=p.pr.length:=by omega
 have hmk:List.take i (List.map pD p.pr)=(p.pr.take i).map pD:=by rw[sW]
 simp only[cE] at nY
 refine tq (yP f5 f8 q6 cI b8 hx cL aZ q7) ?_;intro Nx aB Gx aG
 refine dE (fun _ _ d A=>A=.none/\d=.fV [i64 z,i64 0]) fun Nx aB=>?_;refine dst (yP f0 f1 f5 f8 hx cL cI hmk gL) ?_;intro Nx aB Gx aG
 refine⟨by omega,dK _,?_⟩
 refine dst (fJ f0 f1 f5 f8) ?_;intro Nx aB Gx aG
 refine tq (gE f0 nY yY B4 iX) ?_;intro Nx aB Gx aG
 refine cY (e:=82) aCo rfl aCo rfl aIE rfl (by decide) aR hg (new:=[cE t]) (by exact⟨rfl,rfl⟩) (by show(_+1) * 56<=_;omega) fun d H6 qL kK eJ uD=>?_
 rw[<-aEC] at kK
 refine tq (cZ f8 w3) ?_;intro Nx aB Gx aG
 exact⟨aZ,bG,f0,f1,f5,rfl,eJ,qL,kK⟩
theorem aHU (ts:List cQ) (lc:List tD) (p:pO) (H:aA) (hw:vY ts) (hl:S7 ts lc) (ha:XW ts) (hp:fC p.pr.length):aT prog 210 [.seq 5 (ts.map cE),.seq 2 (lc.map lI),.agg (kT p)] H fun d H'=>d=.val (.bool (sP ts lc p))/\H=H':=by
 refine bM (K:=fun d=>d=.val (.bool (sP ts lc p))) ?_
 have aR:=aE H
 have lG:=y8 ts lc hw hl ha _ p H rfl hp
 have ZG:=rX ts lc p
 have KG:=WR ts lc p H hw hl ha hp
 simp only[kT] at lG KG
 refine aN _ _ func210 rfl rfl ntmps210 results210 (by simp) fun w0 g0 Q aC=>?_
 refine tq @kT.eq_1 ?_;intro Nx aB Gx aG
 intro c5 pT
 refine aB _ ?_
 refine fW 5 pT ?_
 refine tq trivial ?_;intro Nx aB Gx aG
 refine lG.mono ?_
 rintro d _ ⟨rfl,rfl⟩
 by_cases h0:(bU ts lc p).2=0
 case neg=>
  have q1:((bU ts lc p).2=0)=False:=aI h0
  have eE:sP ts lc p=false:=by unfold sP;rw[bC h0,fS]
  refine tq q1 ?_;intro Nx aB Gx aG
  refine rt aC trivial ?_
  exact⟨_,aE _,aR,_,aJ aR,by rw[eE]⟩
 have q1:((bU ts lc p).2=0)=True:=aK h0
 have KG:=KG h0
 have eE:sP ts lc p=(nZ ts lc p).all (·.m):=by unfold sP;rw[bF h0,cT]
 obtain⟨l,hL⟩:∃l,l=nZ ts lc p:=⟨_,rfl⟩
 rw[<-hL] at ZG KG eE
 have cI:=lm cE l
 refine tq q1 ?_;intro Nx aB Gx aG
 refine KG.mono ?_
 rintro d _ ⟨rfl,rfl⟩
 refine tq trivial ?_;intro Nx aB Gx aG
 refine bB l.length (fun i s=>s.df=[]/\s.fr 9=.seq 5 (l.map cE)/\s.fr 10=i64 i/\s.H=H/\l.all (·.m)=(l.drop i).all (·.m)) ⟨rfl,rfl,rfl,rfl,rfl⟩ ?_
 rintro i s hi ⟨bG,f9,f10,hH,sH⟩
 have hx:=bL i
 have cL:=bY i
 have aX:H.le s.H:=by rw[hH];exact aE _
 by_cases aZ:i<l.length
 case neg=>
  have q6:=lF i l.length (by omega)
  rw[dX (by omega)] at sH
  refine tq (fJ f9 f10 q6 cI) ?_;intro Nx aB Gx aG
  refine rt aC bG ?_
  exact⟨_,aE _,aX,_,aJ aX,by rw[eE,sH] <;> rfl⟩
 have q6:=lT i l.length (by omega)
 have w3:=wS i (by omega)
 have b8:(l.map cE)[i]?=some (cE l[i]):=by rw[cR,cP aZ];rfl
 rw[dI aZ,l8] at sH
 obtain⟨u,hu⟩:∃u,u=l[i]:=⟨_,rfl⟩
 rw[<-hu] at b8 sH
 clear hu
 obtain⟨uk,um,ur,ue,ua⟩:=u
 simp only[cE] at b8
 simp only at sH
 cases um
 ·rw[fS] at sH
  refine tq (qN f9 f10 q6 cI b8 hx cL aZ) ?_;intro Nx aB Gx aG
  refine rt aC bG ?_
  exact⟨_,aE _,aX,_,aJ aX,by rw[eE,sH]⟩
 ·rw[cT] at sH
  refine tq (yP f9 f10 q6 cI b8 hx cL aZ w3) ?_;intro Nx aB Gx aG
  exact⟨aZ,bG,f9,rfl,hH,sH⟩
theorem aEP (ts:List cQ) (lc:List tD) (p:pO) (H:aA) (hw:vY ts) (hl:S7 ts lc) (ha:XW ts) (hp:fC p.pr.length):aT prog 297 [.seq 5 (ts.map cE),.seq 2 (lc.map lI),.agg (kT p)] H fun d H'=>d=.seq 1 ((EO ts lc p).map iD)/\H=H':=by
 refine bM (K:=fun d=>d=.seq 1 ((EO ts lc p).map iD)) ?_
 have aR:=aE H
 have lG:=y8 ts lc hw hl ha _ p H rfl hp
 have ZG:=rX ts lc p
 have KG:=WR ts lc p H hw hl ha hp
 have Q6:EO ts lc p=(nZ ts lc p).map (·.r):=rfl
 rw[Q6]
 simp only[kT] at lG KG
 refine aN _ _ func297 rfl rfl ntmps297 results297 (by simp) fun w0 g0 Q aC=>?_
 refine tq @kT.eq_1 ?_;intro Nx aB Gx aG
 intro c5 pT
 refine aB _ ?_
 refine fW 5 pT ?_
 refine tq trivial ?_;intro Nx aB Gx aG
 refine lG.mono ?_
 rintro d _ ⟨rfl,rfl⟩
 by_cases h0:(bU ts lc p).2=0
 case neg=>
  have q1:((bU ts lc p).2=0)=False:=aI h0
  have eE:nZ ts lc p=[]:=aH h0
  refine tq q1 ?_;intro Nx aB Gx aG
  refine rt aC trivial ?_
  exact⟨_,aE _,aR,_,yT,by rw[eE] <;> rfl⟩
 have q1:((bU ts lc p).2=0)=True:=aK h0
 have KG:=KG h0
 obtain⟨l,hL⟩:∃l,l=nZ ts lc p:=⟨_,rfl⟩
 rw[<-hL] at ZG KG aC
 have cI:=lm cE l
 refine tq q1 ?_;intro Nx aB Gx aG
 refine KG.mono ?_
 rintro d _ ⟨rfl,rfl⟩
 refine tq trivial ?_;intro Nx aB Gx aG
 refine bB l.length (fun i s=>s.df=[]/\s.fr 10=.seq 5 (l.map cE)/\s.fr 11=i64 i/\H.le s.H/\∃ob,Gl H 3 1 (((l.take i).map (·.r)).map iD) (s.fr 7) s.H ob) ⟨rfl,rfl,rfl,aE _,none,nJ _ _ _ _⟩ ?_
 rintro i s hi ⟨bG,f10,f11,aR,ob,hg⟩
 have hx:=bL i
 have cL:=bY i
 by_cases aZ:i<l.length
 case neg=>
  have q6:=lF i l.length (by omega)
  rw[dQ (by omega)] at hg
  refine tq (fJ f10 f11 q6 cI) ?_;intro Nx aB Gx aG
  refine rt aC bG ?_
  exact⟨_,aE _,aR,_,sF aR hg,rfl⟩
 have q6:=lT i l.length (by omega)
 have w3:=wS i (by omega)
 have b8:(l.map cE)[i]?=some (cE l[i]):=by rw[cR,cP aZ];rfl
 have xB:((l.take (i+1)).map (·.r)).map iD=((l.take i).map (·.r)).map iD++[iD l[i].r]:=by rw[dH aZ];simp only[fI,fT,pM]
 obtain⟨u,hu⟩:∃u,u=l[i]:=⟨_,rfl⟩
 rw[<-hu] at b8 xB
 simp only[cE] at b8
 refine tq (qN f10 f11 cI q6 b8 hx cL aZ) ?_;intro Nx aB Gx aG
 refine cY (e:=3) sS rfl sS rfl ty3 rfl (by decide) aR hg (new:=[iD u.r]) (by exact⟨rfl,rfl⟩) (by rw[bK,bK,dJ];show(_+1) * 8<=_;omega) fun d H6 qL kK eJ uD=>?_
 rw[<-xB] at kK
 refine tq (cZ f11 w3) ?_;intro Nx aB Gx aG
 exact⟨aZ,bG,f10,rfl,eJ,qL,kK⟩
theorem RC (p:pO) (H:aA) (hp:fC p.pr.length):aT prog 130 [.agg (kT p),i64 0] H fun d H'=>d=.val (.bool (tL p 0))/\H=H':=by
 refine bM (K:=fun d=>d=.val (.bool (tL p 0))) ?_
 have eE:tL p 0=p.pr.any fun x=>decide (x.1=0):=rfl
 have cI:=lm pD p.pr
 have aR:=aE H
 unfold fC at hp
 refine aN _ _ func130 rfl rfl ntmps130 results130 (by simp) fun w0 g0 Q aC=>?_
 refine tq @kT.eq_1 ?_;intro Nx aB Gx aG
 intro c2 pZ
 refine aB _ ?_
 refine fW 2 pZ ?_
 refine tq trivial ?_;intro Nx aB Gx aG
 refine bB p.pr.length (fun i s=>s.df=[]/\s.fr 1=i64 0/\s.fr 2=.rp [i64 p.lo,.seq 2 (p.pr.map pD)]/\s.fr 5=i64 i/\s.H=H/\(p.pr.any fun x=>decide (x.1=0))=((p.pr.drop i).any fun x=>decide (x.1=0))) ⟨rfl,rfl,rfl,rfl,rfl,rfl⟩ ?_
 rintro i s hi ⟨bG,f1,f2,f5,hH,sH⟩
 have hx:=bL i
 have cL:=bY i
 have aX:H.le s.H:=by rw[hH];exact aE _
 by_cases aZ:i<p.pr.length
 case neg=>
  have q6:=lF i p.pr.length (by omega)
  rw[dX (by omega)] at sH
  refine tq (fJ f2 f5 q6 cI) ?_;intro Nx aB Gx aG
  refine rt aC bG ?_
  exact⟨_,aE _,aX,_,aJ aX,by rw[eE,sH] <;> rfl⟩
 have q6:=lT i p.pr.length (by omega)
 have q7:((i:Int)≥0)=True:=aK (by omega)
 have w3:=wS i (by omega)
 have b8:=yU aZ
 rw[dI aZ,List.any_cons] at sH
 by_cases h0:p.pr[i].1=0
 ·have q8:(p.pr[i].1=0)=True:=aK h0
  rw[bF h0,Bool.true_or] at sH
  refine tq (pE f1 f2 f5 q6 q7 q8 cI b8 hx cL aZ) ?_;intro Nx aB Gx aG
  refine rt aC bG ?_
  exact⟨_,aE _,aX,_,aJ aX,by rw[eE,sH]⟩
 ·have q8:(p.pr[i].1=0)=False:=aI h0
  rw[bC h0,wG] at sH
  refine tq (CF f1 f2 f5 q6 q7 q8 cI b8 hx cL aZ w3) ?_;intro Nx aB Gx aG
  exact⟨aZ,bG,f1,f2,rfl,hH,sH⟩
end Go.Proofs.YtelbfbioomcmeaaGreatDoor

