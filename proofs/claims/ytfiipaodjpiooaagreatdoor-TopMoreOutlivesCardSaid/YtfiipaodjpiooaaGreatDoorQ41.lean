/- Lemmas and contracts of functions, several texts in one. -/
import Derived.Test.YtfiipaodjpiooaaGreatDoorQ38
set_option maxRecDepth 100000
set_option maxHeartbeats 4000000
set_option linter.all false
namespace Go.Proofs.YtfiipaodjpiooaaGreatDoor
open Go.RowKit
open Tryz
theorem aKa (l:List (Int×Int)) (y:Int×Int) (H:aC) (hl:l.length<=1000000000):bE prog 34 [.seq 2 (l.map pD),.agg [i64 y.1,i64 y.2]] H fun d H'=>(∃r:Int,d=i64 r/\(0<=r↔y∈l))/\H=H':=by
 have jY:=lm pD l
 have hET:=aK QX
 refine bO (K:=fun d=>∃r:Int,d=i64 r/\(0<=r↔y∈l)) ?_
 have rT:=aG H
 refine aQ _ _ func34 rfl rfl ntmps34 results34 (by simp) fun w0 g0 Q aD=>?_
 refine tq jY ?_;intro Nx aB Gx aF
 intro c3 j5
 refine aB _ ?_
 refine fZ 3 j5 ?_
 refine tq jY ?_;intro Nx aB Gx aF
 refine aZ l.length (fun i s=>s.df=[]/\s.fr 0=.seq 2 (l.map pD)/\s.fr 3=.rp [i64 y.1,i64 y.2]/\s.fr 7=i64 l.length/\s.fr 8=i64 i/\s.H=H/\y∉l.take i) ⟨rfl,rfl,rfl,rfl,rfl,rfl,by simp⟩ ?_
 rintro i s hi ⟨aT,f0,f3,f7,f8,hH,yJ⟩
 have hx:=bI i
 have cJ:=bM i
 have aY:H.le s.H:=by rw[hH];exact rT
 by_cases aV:i<l.length
 case neg=>
  have q1:=lF i l.length (by omega)
  rw[cW (by omega)] at yJ
  refine tq (eA f7 f8 q1) ?_;intro Nx aB Gx aF
  refine rt aD aT ?_
  exact⟨_,aG _,aY,_,aH aY,-1,rfl,⟨fun h=>by omega,fun h=>absurd h yJ⟩⟩
 have cC:(i:Int)<(l.length:Int):=by omega
 have q1:((i:Int)<(l.length:Int))=True:=aK cC
 have w3:=wS i (by omega)
 have cD:=mU aV
 have pY:l.take (i+1)=l.take i++[l[i]]:=dH aV
 have iI:l[i]∈l:=bU _
 obtain⟨z,hz⟩:∃z,z=l[i]:=⟨_,rfl⟩
 rw[<-hz] at cD pY iI
 have fin:y≠z->y∉l.take (i+1):=fun fM h=>by
  rw[pY] at h
  rcases bV.1 h with h|h
  ·exact yJ h
  ·exact fM (cR.1 h)
 by_cases h2:y.1=z.1
 ·have q2:(y.1=z.1)=True:=aK h2
  by_cases h3:y.2=z.2
  ·have q3:(y.2=z.2)=True:=aK h3
   have e:y=z:=tK h2 h3
   refine tq (eA f7 f8 q1) ?_;intro Nx aB Gx aF
   refine dE (fun _ _ _ _=>False) fun Nx aB=>?_;refine dst (zY f0 f3 jY cD hx cJ aV cC q2 q3 hET @lR) ?_;intro Nx aB Gx aF
   refine tq q2 ?_;intro Nx aB Gx aF
   refine rt aD aT ?_
   exact⟨_,aG _,aY,_,aH aY,i,rfl,⟨fun _=>e▸iI,fun _=>cJ⟩⟩
  ·have q3:(y.2=z.2)=False:=aI h3
   refine tq (eA f7 f8 q1) ?_;intro Nx aB Gx aF
   refine dE (fun _ _ _ _=>False) fun Nx aB=>?_;refine dst (W7 f0 f3 jY cD hx cJ aV cC q2 q3 hET @lR @kI) ?_;intro Nx aB Gx aF
   refine tq (eA f8 w3 q2) ?_;intro Nx aB Gx aF
   exact⟨aV,aT,f0,f3,f7,rfl,hH,fin fun e=>h3 (by rw[e])⟩
 ·have q2:(y.1=z.1)=False:=aI h2
  refine tq (eA f7 f8 q1) ?_;intro Nx aB Gx aF
  refine dE (fun _ _ _ _=>False) fun Nx aB=>?_;refine dst (rQ f0 f3 jY cD hx cJ aV cC q2 hET @gC) ?_;intro Nx aB Gx aF
  refine tq (eA f8 w3 q2) ?_;intro Nx aB Gx aF
  exact⟨aV,aT,f0,f3,f7,rfl,hH,fin fun e=>h2 (by rw[e])⟩
theorem aBk (l:List (Int×Int)) (y:Int×Int) (H:aC) (hl:l.length<=1000000000):bE prog 15 [.seq 2 (l.map pD),.agg [i64 y.1,i64 y.2]] H fun d H'=>d=.val (.bool (decide (y∈l)))/\H=H':=by
 have GP:=fun H1=>aKa l y H1 hl
 refine aQ _ _ func15 rfl rfl ntmps15 results15 (by simp) fun w0 g0 Q aD=>?_
 refine tq trivial ?_;intro Nx aB Gx aF
 intro c3 j5
 refine aB _ ?_
 refine fZ 3 j5 ?_
 refine tq trivial ?_;intro Nx aB Gx aF
 refine(GP _).mono ?_
 rintro d _ ⟨⟨r,rfl,hr⟩,rfl⟩
 by_cases h:y∈l
 ·have q1:((0:Int)<=r)=True:=aK (hr.2 h)
  rw[bG h] at aD
  refine tq q1 ?_;intro Nx aB Gx aF
  refine rt aD trivial ?_
  exact⟨_,aG _,by first|rfl|exact⟨rfl,rfl⟩⟩
 ·have q1:((0:Int)<=r)=False:=aI fun h2=>h (hr.1 h2)
  rw[bB h] at aD
  refine tq q1 ?_;intro Nx aB Gx aF
  refine rt aD trivial ?_
  exact⟨_,aG _,by first|rfl|exact⟨rfl,rfl⟩⟩
end Go.Proofs.YtfiipaodjpiooaaGreatDoor

