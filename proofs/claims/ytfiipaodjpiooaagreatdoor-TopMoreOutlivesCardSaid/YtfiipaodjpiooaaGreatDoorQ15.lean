/- Lemmas and contracts of functions, several texts in one. -/
import Derived.Test.YtfiipaodjpiooaaGreatDoorQ14
set_option maxRecDepth 100000
set_option maxHeartbeats 4000000
set_option linter.all false
namespace Go.Proofs.YtfiipaodjpiooaaGreatDoor
open Go.RowKit
open Tryz
theorem aGd (l m:List (Int×Int)) (hl:dO l.length):bE prog 127 [.seq 2 (l.map pD),.seq 2 (m.map pD)] .none fun d _=>d=.val (.bool (decide (l=m))):=by
 unfold dO at hl
 have jY:=lm pD l
 have dX:=lm pD m
 have hET:=aK aEt
 refine aQ _ _ func127 rfl rfl ntmps127 results127 (by simp) fun w0 g0 Q aD=>?_
 by_cases hlm:l.length=m.length
 case neg=>
  have q:((l.length:Int)=(m.length:Int))=False:=aI (by omega)
  refine tq (eA jY dX q) ?_;intro Nx aB Gx aF
  refine rt aD trivial ?_
  exact⟨_,aG _,by rw[bB fun e=>hlm (by rw[e])]⟩
 have q:((l.length:Int)=(m.length:Int))=True:=aK (by omega)
 refine tq (eA jY dX q) ?_;intro Nx aB Gx aF
 refine aZ l.length (fun i s=>s.df=[]/\s.fr 0=.seq 2 (l.map pD)/\s.fr 1=.seq 2 (m.map pD)/\s.fr 12=i64 l.length/\s.fr 13=i64 i/\s.H=aC.none/\l.take i=m.take i) ⟨rfl,rfl,rfl,rfl,rfl,rfl,by simp⟩ ?_
 rintro i s hi ⟨aT,f0,f1,f12,f13,hH,pY⟩
 have hx:=bI i
 have cJ:=bM i
 by_cases aV:i<l.length
 case neg=>
  have q1:=lF i l.length (by omega)
  rw[cW (by omega),cW (by omega)] at pY
  refine tq (eA f12 f13 q1) ?_;intro Nx aB Gx aF
  refine rt aD aT ?_
  exact⟨_,aG _,by rw[bG pY]⟩
 have q1:=lT i l.length (by omega)
 have VH:i<m.length:=by omega
 have cD:=fY (f:=pD) aV
 have OV:=fY (f:=pD) VH
 have w3:=wS i (by omega)
 have fM:l[i]≠m[i]->decide (l=m)=false:=fun h=>bB (by rintro rfl;exact h rfl)
 have hts:=aCj pY aV VH
 obtain⟨x,tV⟩:∃x,x=l[i]:=⟨_,rfl⟩
 obtain⟨y,hye⟩:∃x,x=m[i]:=⟨_,rfl⟩
 rw[<-tV] at cD fM hts
 rw[<-hye] at OV fM hts
 simp only[pD,i64] at cD OV
 refine tq (eA f12 f13 q1) ?_;intro Nx aB Gx aF
 by_cases c1:x.1=y.1
 case neg=>
  have p1:(x.1=y.1)=False:=aI c1
  refine dE (fun _ _ _ _=>False) fun Nx aB=>?_;refine dst (aJk f0 f1 jY dX cD OV hx cJ aV VH p1 hET @lR @kI @gC @rN @uU) ?_;intro Nx aB Gx aF
  refine tq (dG f13 w3) ?_;intro Nx aB Gx aF
  refine rt aD aT ?_
  exact⟨_,aG _,by rw[fM fun h=>c1 (by rw[h])]⟩
 have p1:(x.1=y.1)=True:=aK c1
 by_cases c2:x.2=y.2
 case neg=>
  have p2:(x.2=y.2)=False:=aI c2
  refine dE (fun _ _ _ _=>False) fun Nx aB=>?_;refine dst (aNW f0 f1 jY dX cD OV hx cJ aV VH p1 p2 hET @lR @kI @gC @rN @uU) ?_;intro Nx aB Gx aF
  refine tq (dG f13 w3) ?_;intro Nx aB Gx aF
  refine rt aD aT ?_
  exact⟨_,aG _,by rw[fM fun h=>c2 (by rw[h])]⟩
 have p2:(x.2=y.2)=True:=aK c2
 refine dE (fun _ _ _ _=>False) fun Nx aB=>?_;refine dst (aNW f0 f1 jY dX cD OV hx cJ aV VH p1 p2 hET @lR @kI @gC @rN @uU) ?_;intro Nx aB Gx aF
 refine tq (dG f13 w3) ?_;intro Nx aB Gx aF
 refine⟨aV,aT,f0,f1,f12,rfl,hH,?_⟩
 exact hts (tK c1 c2)
theorem VB (H:aC) (l m:List (Int×Int)) (hl:dO l.length):bE prog 127 [.seq 2 (l.map pD),.seq 2 (m.map pD)] H fun d H'=>d=.val (.bool (decide (l=m)))/\H=H':=
 MC (aGd l m hl) rfl (aJC (tE _ _) (tE _ _))
def TT (x:Int×Int):Int:=if x.1≠0/\x.1≠1 then 14 else if x.1=0/\x.2≠0 then 2 else if x.2<0 then 3 else 0
def vC:List (Int×Int)->Int
 |[]=>0
 |x::l=>if TT x≠0 then TT x else vC l
def lG (p:pA):Int:=if p.lo<0 then 3 else if 32<p.pr.length then 19 else vC p.pr
def lI (ts:List dS) (i:Int) (x:Int×Int):Int×Int:=
 if x.1=0/\(cZ ts i).k=3 then ((cZ ts i).e,0) else if x.1=1/\(cZ ts i).k=4 then (if x.2<(cZ ts i).ar.length then ((cZ ts i).ar.getD x.2.toNat 0,0) else (0,3)) else (0,22)
def FQ (ts:List dS):Int->List (Int×Int)->Int×Int
 |i,[]=>(i,0)
 |i,x::l=>if (lI ts i x).2≠0 then lI ts i x else FQ ts (lI ts i x).1 l
def CH (ts:List dS):Int->List (Int×Int)->List dS
 |_,[]=>[]
 |i,x::l=>(if x.1=0 then [cZ ts i] else [])++CH ts (lI ts i x).1 l
def x8 (lc:List AO) (a:Int):AO:=lc.getD a.toNat ⟨ByteArray.empty,0⟩
def cG (ts:List dS) (lc:List AO) (p:pA):Int×Int:=
 if lG p≠0 then (0,lG p) else if (lc.length:Int)<=p.lo then (0,3) else FQ ts (x8 lc p.lo).ty p.pr
def sK (ts:List dS) (lc:List AO) (p:pA):List dS:=if (cG ts lc p).2≠0 then [] else CH ts (x8 lc p.lo).ty p.pr
def x9 (ts:List dS) (lc:List AO) (p:pA):Bool:=decide ((cG ts lc p).2=0)&&(sK ts lc p).all (·.m)
def ME (ts:List dS) (lc:List AO) (p:pA):List Int:=(sK ts lc p).map (·.r)
def y9 (p:pA) (k:Nat):Bool:=(p.pr.drop k).any fun x=>decide (x.1=0)
def wfL (ts:List dS) (lc:List AO):Prop:=∀x∈lc,cE ts.length x.ty
theorem aL0 {ts:List dS} {i:Int} {x:Int×Int} (h:(lI ts i x).2≠0):(lI ts i x).1=0:=by
 unfold lI at h ⊢
 split
 ·rename_i h1;rw[aE h1] at h;exact absurd rfl h
 ·rename_i h1
  rw[aA h1] at h
  split
  ·rename_i h2
   rw[aE h2] at h
   split
   ·rename_i h3;rw[aE h3] at h;exact absurd rfl h
   ·rfl
  ·rfl
theorem aC6 {ts:List dS} (hw:zJ ts) {i:Int} {x:Int×Int} (hi:cE ts.length i) (h:(lI ts i x).2=0):cE ts.length (lI ts i x).1:=by
 have hwa:=CS hw hi
 have EM:=hi
 unfold cE at EM ⊢
 unfold lI at h ⊢
 split
 ·rename_i h1
  have:=hwa.1 h1.2
  simp only;omega
 ·rename_i h1
  rw[aA h1] at h
  split
  ·rename_i h2
   rw[aE h2] at h
   split
   ·rename_i h3
    have hm:∀y∈(cZ ts i).ar,0<=y/\y<i:=hwa.2
    by_cases h4:x.2.toNat<(cZ ts i).ar.length
    ·rw[oT,bX h4]
     have:=hm _ (bU h4)
     simp only[CY];omega
    ·rw[oT,uR (by omega)]
     simp only[Option.getD_none];omega
   ·rename_i h3;rw[aA h3] at h;cases h
  ·rename_i h2;rw[aA h2] at h;cases h
theorem WD {ts:List dS} {i:Int} {x:Int×Int} {l:List (Int×Int)} (h:(lI ts i x).2≠0):FQ ts i (x::l)=lI ts i x:=aE h
theorem KF {ts:List dS} {i:Int} {x:Int×Int} {l:List (Int×Int)} (h:(lI ts i x).2=0):FQ ts i (x::l)=FQ ts (lI ts i x).1 l:=aA fun k=>k h
theorem SP {ts:List dS} {x:Int×Int}:∀{l:List (Int×Int)} {i:Int},(FQ ts i l).2≠0->FQ ts i (l++[x])=FQ ts i l
 |[],i,h=>absurd rfl h
 |y::l,i,h=>by
  rw[gP]
  by_cases h1:(lI ts i y).2=0
  ·rw[KF h1] at h
   rw[KF h1,KF h1]
   exact SP h
  ·rw[WD h1,WD h1]
theorem SQ {ts:List dS} {x:Int×Int}:∀{l:List (Int×Int)} {i:Int},(FQ ts i l).2=0->FQ ts i (l++[x])=lI ts (FQ ts i l).1 x
 |[],i,h=>by
  show FQ ts i [x]=lI ts i x
  by_cases h1:(lI ts i x).2=0
  ·rw[KF h1]
   show((lI ts i x).1,(0:Int))=lI ts i x
   rw[<-h1]
  ·rw[WD h1]
 |y::l,i,h=>by
  rw[gP]
  by_cases h1:(lI ts i y).2=0
  ·rw[KF h1] at h
   rw[KF h1,KF h1]
   exact SQ h
  ·rw[WD h1] at h
   exact absurd h h1
theorem aCm {ts:List dS} (hw:zJ ts):∀(l:List (Int×Int)) (i:Int),cE ts.length i->(FQ ts i l).2=0->cE ts.length (FQ ts i l).1
 |[],i,hi,_=>hi
 |x::l,i,hi,h=>by
  simp only[FQ] at h ⊢
  by_cases h1:(lI ts i x).2≠0
  ·rw[aE h1] at h;exact absurd h h1
  ·rw[aA h1] at h ⊢
   exact aCm hw l _ (aC6 hw hi (jO h1)) h
theorem aER {ts:List dS}:∀(l:List (Int×Int)) (i:Int),(FQ ts i l).2≠0->(FQ ts i l).1=0
 |[],i,h=>absurd rfl h
 |x::l,i,h=>by
  simp only[FQ] at h ⊢
  by_cases h1:(lI ts i x).2≠0
  ·rw[aE h1];exact aL0 h1
  ·rw[aA h1] at h ⊢;exact aER l _ h
theorem aAo {lc:List AO} {a:Int} (h:0<=a/\a<lc.length):∃h',x8 lc a=lc[a.toNat]'h':=by
 refine⟨by omega,?_⟩
 unfold x8
 rw[oT,bX (by omega)];rfl
theorem uX {p:pA} (h:lG p=0):0<=p.lo/\p.pr.length<=32/\vC p.pr=0:=by
 unfold lG at h
 split at h
 ·cases h
 ·split at h
  ·cases h
  ·exact⟨by omega,by omega,h⟩
theorem QJ:∀{l:List (Int×Int)},vC l=0->∀x∈l,(x.1=0\/x.1=1)/\0<=x.2
 |x::l,h,y,hy=>by
  simp only[vC] at h
  by_cases h1:TT x≠0
  ·rw[aE h1] at h;exact absurd h h1
  ·rw[aA h1] at h
   rcases dJ.1 hy with rfl|hy
   ·have h2:TT y=0:=jO h1
    unfold TT at h2
    split at h2
    ·cases h2
    ·rename_i h3
     split at h2
     ·cases h2
     ·split at h2
      ·cases h2
      ·omega
   ·exact QJ h y hy
theorem xJ {ts:List dS} {lc:List AO} {p:pA} (h:(cG ts lc p).2=0):lG p=0/\(0<=p.lo/\p.lo<lc.length)/\cG ts lc p=FQ ts (x8 lc p.lo).ty p.pr:=by
 unfold cG at h ⊢
 by_cases h1:lG p≠0
 ·rw[aE h1] at h;exact absurd h h1
 ·have VF:lG p=0:=jO h1
  rw[aA h1] at h ⊢
  by_cases h2:(lc.length:Int)<=p.lo
  ·rw[aE h2] at h;cases h
  ·rw[aA h2] at h ⊢
   exact⟨VF,⟨(uX VF).1,by omega⟩,rfl⟩
theorem O5 {ts:List dS} {lc:List AO} (hl:wfL ts lc) {a:Int} (h:0<=a/\a<lc.length):cE ts.length (x8 lc a).ty:=by
 obtain⟨h',e⟩:=aAo h
 rw[e];exact hl _ (bU h')
theorem WE {ts:List dS} {lc:List AO} {p:pA} (hw:zJ ts) (hl:wfL ts lc) (h:(cG ts lc p).2=0):cE ts.length (cG ts lc p).1:=by
 obtain⟨_,h2,h3⟩:=xJ h
 rw[h3] at h ⊢
 exact aCm hw _ _ (O5 hl h2) h
def vL (ts:List dS):Nat->Int×Int->List (Int×Int)->List (Nat×Int×Int)
 |k,s,[]=>[(k,s)]
 |k,s,x::l=>(k,s)::(if s.2≠0 then [] else vL ts (k+1) (lI ts s.1 x) l)
def vW (ts:List dS) (lc:List AO) (p:pA):List (Nat×Int×Int):=
 if lG p≠0 then [(0,0,lG p)] else if (lc.length:Int)<=p.lo then [(0,0,3)] else vL ts 0 ((x8 lc p.lo).ty,0) p.pr
theorem V9 (ts:List dS):∀(l:List (Int×Int)) (k:Nat) (s:Int×Int),∃j,(vL ts k s l).getLast?=some (j,if s.2≠0 then s else FQ ts s.1 l)
 |[],k,s=>⟨k,by
  show some (k,s)=_
  by_cases h:s.2=0
  ·rw[aA (fun h'=>h' h)];show _=some (k,s.1,(0:Int));rw[<-h]
  ·rw[aE h]⟩
 |x::l,k,s=>by
  simp only[vL]
  by_cases h:s.2=0
  ·rw[aA (fun h'=>h' h),aA (fun h'=>h' h)]
   obtain⟨j,hj⟩:=V9 ts l (k+1) (lI ts s.1 x)
   refine⟨j,?_⟩
   cases e:vL ts (k+1) (lI ts s.1 x) l with
   |nil=>rw[e] at hj;cases hj
   |cons a m=>rw[List.getLast?_cons_cons,<-e,hj];rfl
  ·rw[aE h,aE h];exact⟨k,rfl⟩
theorem WA (ts:List dS) (lc:List AO) (p:pA):∃j,(vW ts lc p).getLast?=some (j,cG ts lc p):=by
 unfold vW cG
 by_cases h1:lG p=0
 ·have n1:¬lG p≠0:=fun h=>h h1
  rw[aA n1,aA n1]
  by_cases h2:(lc.length:Int)<=p.lo
  ·rw[aE h2,aE h2];exact⟨0,rfl⟩
  ·rw[aA h2,aA h2]
   obtain⟨j,hj⟩:=V9 ts p.pr 0 ((x8 lc p.lo).ty,0)
   exact⟨j,hj⟩
 ·rw[aE h1,aE h1];exact⟨0,rfl⟩
theorem aEK {ts:List dS} (hw:zJ ts):∀(l:List (Int×Int)) (k:Nat) (s:Int×Int),(s.2=0->cE ts.length s.1)->∀x∈vL ts k s l,x.2.2=0->cE ts.length x.2.1
 |[],k,s,hs,x,hx,h0=>by
  simp only[vL,cR] at hx
  subst hx;exact hs h0
 |y::l,k,s,hs,x,hx,h0=>by
  simp only[vL] at hx
  rcases dJ.1 hx with rfl|hx
  ·exact hs h0
  ·by_cases h:s.2=0
   ·rw[aA (fun h'=>h' h)] at hx
    exact aEK hw l _ _ (fun h2=>aC6 hw (hs h) h2) x hx h0
   ·rw[aE h] at hx;cases hx
theorem aMC {ts:List dS} {lc:List AO} {p:pA} (hw:zJ ts) (hl:wfL ts lc) {x:Nat×Int×Int} (hx:x∈vW ts lc p) (h0:x.2.2=0):cE ts.length x.2.1:=by
 unfold vW at hx
 by_cases h1:lG p=0
 ·rw[aA (fun h'=>h' h1)] at hx
  by_cases h2:(lc.length:Int)<=p.lo
  ·rw[aE h2] at hx
   rw[cR] at hx;subst hx;cases h0
  ·rw[aA h2] at hx
   exact aEK hw _ _ _ (fun _=>O5 hl ⟨(uX h1).1,by omega⟩) x hx h0
 ·rw[aE h1] at hx
  rw[cR] at hx;subst hx;exact absurd h0 h1
theorem aBU {ts:List dS}:∀(l:List (Int×Int)) (k:Nat) (s:Int×Int),∀x∈vL ts k s l,x.2.2≠0->(if s.2≠0 then s else FQ ts s.1 l)=x.2
 |[],k,s,x,hx,h0=>by
  simp only[vL,cR] at hx
  subst hx;exact aE h0
 |y::l,k,s,x,hx,h0=>by
  simp only[vL] at hx
  rcases dJ.1 hx with rfl|hx
  ·exact aE h0
  ·by_cases h:s.2=0
   ·rw[aA (fun h'=>h' h)] at hx ⊢
    exact aBU l _ _ x hx h0
   ·rw[aE h] at hx;cases hx
theorem aBW {ts:List dS} {lc:List AO} {p:pA} {x:Nat×Int×Int} (hx:x∈vW ts lc p) (h0:x.2.2≠0):(cG ts lc p).2≠0:=by
 unfold vW at hx
 unfold cG
 by_cases h1:lG p=0
 ·rw[aA (fun h'=>h' h1)] at hx ⊢
  by_cases h2:(lc.length:Int)<=p.lo
  ·rw[aE h2];simp
  ·rw[aA h2] at hx ⊢
   have:=aBU _ _ _ x hx h0
   rw[aA (fun h'=>h' rfl)] at this
   simp only at this
   rw[this];exact h0
 ·rw[aE h1];exact h1
def GU (ts:List dS) (pr:List (Int×Int)) (pre:List (Nat×Int×Int)):List dS:=pre.flatMap fun x=>if x.1<pr.length/\(pr.getD x.1 (1,0)).1=0 then [cZ ts x.2.1] else []
theorem aBM {ts:List dS} {pr:List (Int×Int)}:∀(l:List (Int×Int)) (k:Nat) (s:Int×Int),pr.drop k=l->(∀x∈vL ts k s l,x.2.2=0)->GU ts pr (vL ts k s l)=CH ts s.1 l
 |[],k,s,hd,hz=>by
  have hk:¬k<pr.length:=fun h=>by
   have:=cS List.length hd
   rw[nD,wF] at this;omega
  simp [GU,vL,CH,hk]
 |y::l,k,s,hd,hz=>by
  have hk:k<pr.length:=by
   have:=cS List.length hd
   rw[nD,eO] at this;omega
  have hy:pr.getD k (1,0)=y:=by
   rw[eH hk] at hd
   injection hd with hd _
   rw[oT,bX hk,<-hd];rfl
  have OU:pr.drop (k+1)=l:=by
   rw[eH hk] at hd
   injection hd
  have hs:s.2=0:=hz (k,s) (by simp [vL])
  have h2:∀x∈vL ts (k+1) (lI ts s.1 y) l,x.2.2=0:=fun x hx=>hz x (by
   simp only[vL]
   rw[aA (fun h'=>h' hs)]
   exact gY _ hx)
  have ih:=aBM l (k+1) (lI ts s.1 y) OU h2
  simp only[vL]
  rw[aA (fun h'=>h' hs)]
  unfold GU at ih ⊢
  rw[F5,ih,CH,hy]
  simp [hk]
theorem aIP {ts:List dS} {lc:List AO} {p:pA} (h:(cG ts lc p).2=0):GU ts p.pr (vW ts lc p)=CH ts (x8 lc p.lo).ty p.pr:=by
 have hz:∀x∈vW ts lc p,x.2.2=0:=fun x hx=>jO fun h0=>aBW hx h0 h
 obtain⟨h1,h2,_⟩:=xJ h
 unfold vW at hz ⊢
 rw[aA (fun h'=>h' h1),aA (by omega)] at hz ⊢
 exact aBM _ _ _ rfl hz
theorem aF0 (ts:List dS) (pr:List (Int×Int)) (pre:List (Nat×Int×Int)) (x:Nat×Int×Int):GU ts pr (pre++[x])=GU ts pr pre++(if x.1<pr.length/\(pr.getD x.1 (1,0)).1=0 then [cZ ts x.2.1] else []):=by
 unfold GU;rw[CU];simp
theorem aBV {ts:List dS}:∀(l:List (Int×Int)) (k:Nat) (s:Int×Int),(vL ts k s l).length<=l.length+1
 |[],k,s=>by simp [vL]
 |y::l,k,s=>by
  simp only[vL]
  split
  ·simp
  ·have:=aBV (ts:=ts) l (k+1) (lI ts s.1 y)
   simp only[eO];omega
theorem aIi {ts:List dS} {lc:List AO} {p:pA}:(vW ts lc p).length<=33:=by
 unfold vW
 by_cases h1:lG p=0
 ·rw[aA (fun h'=>h' h1)]
  split
  ·simp
  ·have:=aBV (ts:=ts) p.pr 0 ((x8 lc p.lo).ty,0)
   have:=(uX h1).2.1
   omega
 ·rw[aE h1];simp
theorem wK {l:List (Int×Int)} {i:Nat} (h:i<l.length):(l.map pD)[i]?=some [.val (.int .i64 l[i].1),.val (.int .i64 l[i].2)]:=by
 rw[dN,bX h];rfl
theorem QI {l:List (Int×Int)} {i:Nat} (h:i<l.length):vC (l.drop i)=if TT l[i]≠0 then TT l[i] else vC (l.drop (i+1)):=by
 rw[eH h];rfl
theorem aIF (p:pA) (H:aC) (hp:dO p.pr.length):bE prog 218 [.agg (lN p)] H fun d H'=>d=i64 (lG p)/\H=H':=by
 unfold dO at hp
 have dX:=lm pD p.pr
 refine bO (K:=fun d=>d=i64 (lG p)) ?_
 refine aQ _ _ func218 rfl rfl ntmps218 results218 (by simp) fun w0 g0 Q aD=>?_
 refine tq @lN.eq_1 ?_;intro Nx aB Gx aF
 intro c1 mA
 refine aB _ ?_
 refine fZ 1 mA ?_
 by_cases h0:p.lo<0
 ·have p1:(p.lo<0)=True:=aK h0
  have hd:lG p=3:=aE h0
  refine tq p1 ?_;intro Nx aB Gx aF
  refine rt aD trivial ?_
  exact⟨_,aG _,aG _,_,aH (aG _),by rw[hd]⟩
 have p1:(p.lo<0)=False:=aI h0
 by_cases h1:32<p.pr.length
 ·have p2:((p.pr.length:Int)>32)=True:=aK (by omega)
  have hd:lG p=19:=by unfold lG;rw[aA h0,aE h1]
  refine tq (eA p1 dX p2) ?_;intro Nx aB Gx aF
  refine rt aD trivial ?_
  exact⟨_,aG _,aG _,_,aH (aG _),by rw[hd]⟩
 have p2:((p.pr.length:Int)>32)=False:=aI (by omega)
 have hd:lG p=vC p.pr:=by unfold lG;rw[aA h0,aA h1]
 rw[hd] at aD
 refine tq (eA p1 dX p2) ?_;intro Nx aB Gx aF
 refine aZ p.pr.length (fun i s=>s.df=[]/\s.fr 15=.seq 2 (p.pr.map pD)/\s.fr 16=i64 p.pr.length/\s.fr 17=i64 i/\H.le s.H/\vC p.pr=vC (p.pr.drop i)) ⟨rfl,rfl,rfl,rfl,aG _,rfl⟩ ?_
 rintro i s hi ⟨aT,f15,f16,f17,aS,gV⟩
 have hx:=bI i
 have cJ:=bM i
 by_cases aV:i<p.pr.length
 case neg=>
  have q1:=lF i p.pr.length (by omega)
  rw[eT (by omega)] at gV
  refine tq (gQ f15 f16 f17 q1) ?_;intro Nx aB Gx aF
  refine rt aD aT ?_
  exact⟨_,aG _,aS,_,aH aS,by rw[gV] <;> rfl⟩
 have cC:(i:Int)<(p.pr.length:Int):=by omega
 have q1:((i:Int)<(p.pr.length:Int))=True:=aK cC
 have w3:=wS i (by omega)
 have cD:=wK aV
 rw[QI aV] at gV
 rcases he:p.pr[i] with⟨k,f⟩
 rw[he] at gV cD
 simp only at cD
 refine tq (BR f15 f16 f17 q1 dX cD hx cJ aV) ?_;intro Nx aB Gx aF
 intro c4 uL
 refine aB _ ?_
 have aBw:H c4=none:=by
  cases e:H c4 with
  |none=>rfl
  |some y=>rw[aS c4 y e] at uL;cases uL
 have nT:=bK (x:=.row 119 0 2 [[i64 k,i64 f]]) aS aBw
 have z4:(s.H.bH c4 (.row 119 0 2 [[i64 k,i64 f]])) c4=some (.row 119 0 2 [[i64 k,i64 f]]):=aO _ _ _
 have jG:TT (k,f)=if k≠0/\k≠1 then 14 else if k=0/\f≠0 then 2 else if f<0 then 3 else 0:=rfl
 rcases tfB (k=0) with⟨_,k0,⟨rfl,h0⟩|⟨rfl,h0⟩⟩
 ·rcases tfB (f=0) with⟨_,f0,⟨rfl,h1⟩|⟨rfl,h1⟩⟩
  ·have f1:(f<0)=False:=aI (by omega)
   rw[aA (fun h=>h.1 h0),aA (fun h=>h.2 h1),aA (by omega)] at jG
   rw[aA (fun h=>h jG)] at gV
   refine tq (wG f15 f16 f17 w3 k0 z4 f0 f1) ?_;intro Nx aB Gx aF;exact⟨aV,aT,f15,f16,rfl,nT,gV⟩
  ·rw[aA (fun h=>h.1 h0),aE ⟨h0,h1⟩] at jG
   rw[aE (by rw[jG];decide),jG] at gV
   refine tq (nF f15 f16 f17 w3 k0 z4 f0) ?_;intro Nx aB Gx aF;refine rt aD aT ?_;exact⟨_,aG _,nT,_,aH nT,by rw[gV] <;> rfl⟩
 rcases tfB (k=1) with⟨_,k1,⟨rfl,h2⟩|⟨rfl,h2⟩⟩
 case inr=>
  rw[aE ⟨h0,h2⟩] at jG
  rw[aE (by rw[jG];decide),jG] at gV
  refine tq (nF f15 f16 f17 w3 k0 z4 k1) ?_;intro Nx aB Gx aF;refine rt aD aT ?_;exact⟨_,aG _,nT,_,aH nT,by rw[gV] <;> rfl⟩
 rcases tfB (f<0) with⟨_,f1,⟨rfl,h1⟩|⟨rfl,h1⟩⟩
 ·rw[aA (fun h=>h.2 h2),aA (fun h=>h0 h.1),aE h1] at jG
  rw[aE (by rw[jG];decide),jG] at gV
  refine tq (wG f15 f16 f17 w3 k0 z4 k1 f1) ?_;intro Nx aB Gx aF;refine rt aD aT ?_;exact⟨_,aG _,nT,_,aH nT,by rw[gV] <;> rfl⟩
 ·rw[aA (fun h=>h.2 h2),aA (fun h=>h0 h.1),aA h1] at jG
  rw[aA (fun h=>h jG)] at gV
  refine tq (wG f15 f16 f17 w3 k0 z4 k1 f1) ?_;intro Nx aB Gx aF;exact⟨aV,aT,f15,f16,rfl,nT,gV⟩
theorem aPC (ts:List dS) (i:Int) (x:Int×Int) (H:aC) (hi:cE ts.length i) (hx:0<=x.2) (ha:(cZ ts i).ar.length<=1000000):bE prog 219 [.seq 5 (ts.map cP),i64 i,.agg [i64 x.1,i64 x.2]] H fun d H'=>d=.agg [i64 (lI ts i x).1,i64 (lI ts i x).2]/\H=H':=by
 refine bO (K:=fun d=>d=.agg [i64 (lI ts i x).1,i64 (lI ts i x).2]) ?_
 obtain⟨t,ht⟩:∃t,t=cZ ts i:=⟨_,rfl⟩
 have cD:=mD hi
 have aV:i.toNat<ts.length:=by unfold cE at hi;omega
 have cJ:0<=i:=by unfold cE at hi;omega
 have dX:=lm cP ts
 obtain⟨k,f⟩:=x
 have hp:lI ts i (k,f)=if k=0/\t.k=3 then (t.e,0) else if k=1/\t.k=4 then (if f<t.ar.length then (t.ar.getD f.toNat 0,0) else (0,3)) else (0,22):=by rw[ht];rfl
 rw[<-ht] at cD ha
 obtain⟨y,hy⟩:∃y,y=lI ts i (k,f):=⟨_,rfl⟩
 rw[<-hy] at hp ⊢
 clear hy ht
 obtain⟨tk,tm,tr,te,ta⟩:=t
 simp only[cP] at cD
 simp only at ha hx hp
 have tN:=lm iD ta
 refine aQ _ _ func219 rfl rfl ntmps219 results219 (by simp) fun w0 g0 Q aD=>?_
 refine tq (gQ cD aV cJ dX) ?_;intro Nx aB Gx aF
 intro c5 lY c6 DJ
 refine aB _ ?_
 have fM:c5≠c6:=nZ (aO _ _ _) DJ
 obtain⟨_,JL⟩:=bY.1 DJ
 refine cA 5 rfl ((aN fM).trans (aO _ _ _)) rfl ?_
 refine eV (H.bH c6 (.row 262 0 2 [[i64 0,i64 0]])) (fun x z hz=>?_) ?_
 ·show(((H.bH c5 _).bH c6 _).del c5) x=_
  by_cases e6:x=c6
  ·subst e6
   rw[aO] at hz
   rw[bS fM.symm,aO]
   exact hz
  rw[aN e6] at hz
  have e5:x≠c5:=fun e=>by rw[e,lY] at hz;cases hz
  rw[bS e5,aN e6,aN e5]
  exact hz
 simp only[St.jH,List.drop]
 have eM:H.le (H.bH c6 (.row 262 0 2 [[i64 0,i64 0]])):=bK (aG _) JL
 have z6:(H.bH c6 (.row 262 0 2 [[i64 0,i64 0]])) c6=some (.row 262 0 2 [[i64 0,i64 0]]):=aO _ _ _
 obtain⟨H6,hH6⟩:∃H6,H6=H.bH c6 (.row 262 0 2 [[i64 0,i64 0]]):=⟨_,rfl⟩
 rw[<-hH6] at eM z6 ⊢
 refine tq (gQ cD aV cJ dX) ?_;intro Nx aB Gx aF
 intro c7 EG
 refine aB _ ?_
 refine fZ 7 EG ?_
 have fin:∀(y:Int×Int),H.le (H6.bH c6 (.row 262 0 2 [[i64 y.1,i64 y.2]])):=fun y b x hb=>by
  rw[aN (fun e=>by rw[e,JL] at hb;cases hb)]
  exact eM b x hb
 rcases tfB (k=0) with⟨_,k0,⟨rfl,h0⟩|⟨rfl,h0⟩⟩
 ·have k1:(k=1)=False:=aI (by omega)
  rcases tfB (tk=3) with⟨_,q3,⟨rfl,h3⟩|⟨rfl,h3⟩⟩
  ·have e:y=(te,0):=hp.trans (aE ⟨h0,h3⟩)
   refine tq (gQ k0 z6 tN q3) ?_;intro Nx aB Gx aF;refine rt aD trivial ?_;exact⟨_,aG _,fin (_,_),_,aH (fin (_,_)),by rw[e]⟩
  ·have e:y=(0,22):=hp.trans (by rw[aA (fun h=>h3 h.2),aA (fun h=>by omega)])
   refine tq (jE k0 z6 tN q3 k1) ?_;intro Nx aB Gx aF;refine rt aD trivial ?_;exact⟨_,aG _,fin (_,_),_,aH (fin (_,_)),by rw[e]⟩
 rcases tfB (k=1) with⟨_,k1,⟨rfl,h1⟩|⟨rfl,h1⟩⟩
 case inr=>
  have e:y=(0,22):=hp.trans (by rw[aA (fun h=>h0 h.1),aA (fun h=>h1 h.1)])
  refine tq (gQ k0 z6 tN k1) ?_;intro Nx aB Gx aF;refine rt aD trivial ?_;exact⟨_,aG _,fin (_,_),_,aH (fin (_,_)),by rw[e]⟩
 rcases tfB (tk=4) with⟨_,q4,⟨rfl,h4⟩|⟨rfl,h4⟩⟩
 case inr=>
  have e:y=(0,22):=hp.trans (by rw[aA (fun h=>h0 h.1),aA (fun h=>h4 h.2)])
  refine tq (jE k0 z6 tN k1 q4) ?_;intro Nx aB Gx aF;refine rt aD trivial ?_;exact⟨_,aG _,fin (_,_),_,aH (fin (_,_)),by rw[e]⟩
 rw[aA (fun h=>h0 h.1),aE ⟨h1,h4⟩] at hp
 rcases tfB (f<(ta.length:Int)) with⟨_,f1,⟨rfl,h5⟩|⟨rfl,h5⟩⟩
 ·have mM:f.toNat<ta.length:=by omega
  have hgf:(ta.map iD)[f.toNat]?=some [i64 ta[f.toNat]]:=cO mM
  have e:y=(ta[f.toNat],0):=hp.trans (by rw[aE h5,oT,bX mM] <;> rfl)
  refine tq (BR k0 z6 tN k1 q4 f1 hgf hx mM) ?_;intro Nx aB Gx aF;refine rt aD trivial ?_;exact⟨_,aG _,fin (_,_),_,aH (fin (_,_)),by rw[e]⟩
 ·have e:y=(0,3):=hp.trans (aA h5)
  refine tq (kB k0 z6 tN k1 q4 f1) ?_;intro Nx aB Gx aF;refine rt aD trivial ?_;exact⟨_,aG _,fin (_,_),_,aH (fin (_,_)),by rw[e]⟩
def aPD (x:Nat×Int×Int):List D:=[i64 x.1,.agg [i64 x.2.1,i64 x.2.2]]
theorem aD1 {lc:List AO} {a:Int} (h:0<=a/\a<lc.length):(lc.map mN)[a.toNat]?=some (mN (x8 lc a)):=by
 obtain⟨h',e⟩:=aAo h
 rw[dN,bX h',e];rfl
def arN (ts:List dS):Prop:=∀t∈ts,t.ar.length<=1000000
theorem aDz (ts:List dS) (lc:List AO) (p:pA) (hw:zJ ts) (hl:wfL ts lc) (ha:arN ts) (hp:dO p.pr.length):Z8 prog 217 [.rp (lN p),.rp [.seq 2 (lc.map mN)],.rp [.seq 5 (ts.map cP)]] aPD (vW ts lc p) fun _=>True:=by
 have dX:=lm mN lc
 have T2:=lm pD p.pr
 refine aHY _ func217 rfl rfl ntmps217 results217 (by simp) fun l J Jx H w0 g0 Q fI hJ hC hCx hY aD=>?_
 refine tq @lN.eq_1 ?_;intro Nx aB Gx aF
 refine(aIF p _ hp).mono ?_
 rintro d _ ⟨rfl,rfl⟩
 by_cases h1:lG p=0
 case neg=>
  have q1:(lG p=0)=False:=aI h1
  have hx:vW ts lc p=[(0,0,lG p)]:=aE h1
  rw[hx] at hY aD
  (have fs:=q1;(iterate 6 (first|refine aF _ ?_|refine aB _ ?_|refine dW ?_|refine dV ?_|refine fE ?_|refine cU ?_|refine cV ?_|refine cL ?_|refine bP ?_|((first|refine tS fun Nx aB=>?_|refine mS rfl rfl (by kernel_rfl) (by kernel_rfl) fun Gx aF=>?_|refine cH (by kernel_rfl) ?_|refine mJ fun A B wL wM=>?_);refine qK ?_;(first|refine aF _ ?_|refine aB _ ?_|refine wL ?_|refine wM ?_|skip))));(try clear fs))
  refine D1 [] (0,0,lG p) rfl rfl rfl (by simp [DE]) hY (by simp) hJ rfl (fun H' hj=>?_) fun H' hj=>?_
  ·refine tq trivial ?_;intro Nx aB Gx aF
   exact aD _ _ (.inr rfl) rfl (.inl (.inl hj))
  ·refine tq trivial ?_;intro Nx aB Gx aF
   exact aD _ _ (.inr rfl) rfl (.inl (.inr ⟨_,hj⟩))
 have q1:(lG p=0)=True:=aK h1
 have hp0:=uX h1
 have q1':¬lG p≠0:=fun h=>h h1
 by_cases h2:(lc.length:Int)<=p.lo
 ·have q2:(p.lo≥(lc.length:Int))=True:=aK h2
  have hx:vW ts lc p=[(0,0,3)]:=by unfold vW;rw[aA q1',aE h2]
  rw[hx] at hY aD
  (have fs:=And.intro q1 (And.intro q2 dX);(iterate 11 (first|refine aF _ ?_|refine aB _ ?_|refine dW ?_|refine dV ?_|refine fE ?_|refine cU ?_|refine cV ?_|refine cL ?_|refine bP ?_|((first|refine tS fun Nx aB=>?_|refine mS rfl rfl (by kernel_rfl) (by kernel_rfl) fun Gx aF=>?_|refine cH (by kernel_rfl) ?_|refine mJ fun A B wL wM=>?_);refine qK ?_;(first|refine aF _ ?_|refine aB _ ?_|refine wL ?_|refine wM ?_|skip))));(try clear fs))
  refine D1 [] (0,0,3) rfl rfl rfl (by simp [DE]) hY (by simp) hJ rfl (fun H' hj=>?_) fun H' hj=>?_
  ·refine tq trivial ?_;intro Nx aB Gx aF
   exact aD _ _ (.inr rfl) rfl (.inl (.inl hj))
  ·refine tq trivial ?_;intro Nx aB Gx aF
   exact aD _ _ (.inr rfl) rfl (.inl (.inr ⟨_,hj⟩))
 have q2:(p.lo≥(lc.length:Int))=False:=aI h2
 have iI:0<=p.lo/\p.lo<lc.length:=⟨hp0.1,by omega⟩
 have cJ:=iI.1
 have aV:p.lo.toNat<lc.length:=by omega
 have GN:=aD1 iI
 have hli:=O5 hl iI
 simp only[mN] at GN
 have hx:vW ts lc p=[]++vL ts 0 ((x8 lc p.lo).ty,0) (p.pr.drop 0):=by unfold vW;rw[aA q1',aA h2];rfl
 refine tq (kB q1 q2 dX GN cJ aV) ?_;intro Nx aB Gx aF
 intro c6 DJ
 refine aB _ ?_
 refine tq trivial ?_;intro Nx aB Gx aF
 have zB:p.pr.length<=32:=hp0.2.1
 have hyj:YJ J [] c6 (.row 262 0 2 [[i64 (x8 lc p.lo).ty,i64 0]]) (H.bH c6 (.row 262 0 2 [[i64 (x8 lc p.lo).ty,i64 0]])):=⟨H,rfl,fun z hz=>by rw[DJ] at hz;(cases hz),hJ⟩
 refine aZ p.pr.length (fun i s=>s.df=[]/\s.fr 0=yD l/\s.fr 1=.rp [i64 p.lo,.seq 2 (p.pr.map pD)]/\s.fr 3=.rp [.seq 5 (ts.map cP)]/\s.fr 6=.ep c6 0 2 0 0/\s.fr 7=i64 i/\∃(y:Int×Int) (pre:List (Nat×Int×Int)),(y.2=0->cE ts.length y.1)/\vW ts lc p=pre++vL ts i y (p.pr.drop i)/\YJ J pre c6 (.row 262 0 2 [[i64 y.1,i64 y.2]]) s.H) ⟨rfl,rfl,rfl,rfl,rfl,rfl,_,_,fun _=>hli,hx,hyj⟩ ?_
 clear hx hyj
 rintro i s hi ⟨aT,f0,f1,f3,f6,f7,y,pre,hyi,hx,hyj⟩
 have OE:=bI i
 have h0i:=bM i
 have lP:(pre++[(i,y)])<+:vW ts lc p:=by
  rw[hx]
  cases p.pr.drop i with
  |nil=>exact List.prefix_rfl
  |cons a m=>exact⟨_,by rw[iR] <;> rfl⟩
 have hz6:∀{J':List (Nat×Int×Int)->aC->Prop} {aZT H'},YJ J' aZT c6 (.row 262 0 2 [[i64 y.1,i64 y.2]]) H'->H' c6=some (.row 262 0 2 [[i64 y.1,i64 y.2]]):=fun ⟨_,e,_⟩=>by rw[e,aO]
 have z6:=hz6 hyj
 (have fs:=And.intro f0 (And.intro f1 (And.intro f3 (And.intro f6 (And.intro f7 z6))));(iterate 3 (first|refine aF _ ?_|refine aB _ ?_|refine dW ?_|refine dV ?_|refine fE ?_|refine cU ?_|refine cV ?_|refine cL ?_|refine bP ?_|((first|refine tS fun Nx aB=>?_|refine mS rfl rfl (by kernel_rfl) (by kernel_rfl) fun Gx aF=>?_|refine cH (by kernel_rfl) ?_|refine mJ fun A B wL wM=>?_);refine qK ?_;(first|refine aF _ ?_|refine aB _ ?_|refine wL ?_|refine wM ?_|skip))));(try clear fs))
 refine aE3 pre (i,y) rfl rfl rfl (by simp [DE]) hY hC DJ lP hyj rfl (fun H' hj=>?_) fun H' hj=>?_
 case refine_2=>
  have z7:=hz6 hj
  refine tq (kB f0 f1 f3 f6 f7 z7) ?_;intro Nx aB Gx aF
  exact aD _ _ (.inl rfl) aT (.inr ⟨c6,_,_,_,_,DJ,.inr ⟨_,hj⟩⟩)
 have z7:=hz6 hj
 by_cases h3:y.2=0
 case neg=>
  have q3:(y.2=0)=False:=aI h3
  have hx3:vW ts lc p=pre++[(i,y)]:=by
   rw[hx]
   cases p.pr.drop i with
   |nil=>rfl
   |cons a m=>simp only[vL];rw[aE h3]
  rw[<-hx3] at hj
  refine tq (nF f0 f1 f3 f6 f7 z7 q3) ?_;intro Nx aB Gx aF
  exact aD _ _ (.inl rfl) aT (.inr ⟨c6,_,_,_,_,DJ,.inl hj⟩)
 have q3:(y.2=0)=True:=aK h3
 by_cases DK:i<p.pr.length
 case neg=>
  have q4:=lF i p.pr.length (by omega)
  have hx3:vW ts lc p=pre++[(i,y)]:=by rw[hx,eT (by omega)];rfl
  rw[<-hx3] at hj
  refine tq (BR f0 f1 f3 f6 f7 z7 q3 q4 T2) ?_;intro Nx aB Gx aF
  exact aD _ _ (.inl rfl) aT (.inr ⟨c6,_,_,_,_,DJ,.inl hj⟩)
 have q4:=lT i p.pr.length (by omega)
 have w3:=wS i (by omega)
 have cD:=wK DK
 have aOW:=hyi h3
 have eP:∀H1,eF prog 219 [.seq 5 (ts.map cP),i64 y.1,.agg [i64 p.pr[i].1,i64 p.pr[i].2]] H1 fun d A=>A=aC.none/\d=.agg [i64 (lI ts y.1 p.pr[i]).1,i64 (lI ts y.1 p.pr[i]).2]:=fun H1=>cF fun gI gX=>aPC ts y.1 p.pr[i] gI aOW (QJ hp0.2.2 _ (bU DK)).2 (ha _ (wV aOW))
 have hx3:vW ts lc p=(pre++[(i,y)])++vL ts (i+1) (lI ts y.1 p.pr[i]) (p.pr.drop (i+1)):=by
  rw[hx,eH DK,iR]
  simp only[vL]
  rw[aA (fun h=>h h3)];rfl
 refine tq (BR f0 f1 f3 f6 f7 z7 q3 q4 T2) ?_;intro Nx aB Gx aF
 refine wE (fun _=>false) (fun _=>false) (fun _ _ d A=>A=.none/\d=.agg [i64 (lI ts y.1 p.pr[i]).1,i64 (lI ts y.1 p.pr[i]).2]) (fun _ _ _ _ _=>False) fun Nx aB=>?_;have fs:=And.intro f1 (And.intro f3 (And.intro f6 (And.intro f7 (And.intro z7 (And.intro T2 (And.intro cD (And.intro OE (And.intro h0i DK))))))));refine TU ?_;(first|refine aF _ ?_|refine aB _ ?_|skip);(try clear fs)
 refine⟨eP _,?_⟩
 refine tq (dG f7 w3) ?_;intro Nx aB Gx aF
 obtain⟨Hc,e,hz,hj0⟩:=hj
 refine⟨DK,aT,f0,f1,f3,f6,rfl,lI ts y.1 p.pr[i],pre++[(i,y)],fun h=>aC6 hw aOW h,hx3,Hc,?_,hz,hj0⟩
 show H'.bH c6 _=_
 rw[e,F9];rfl
theorem aIE (ts:List dS) (lc:List AO) (p:pA) (H:aC):bE prog 195 [.seq 5 (ts.map cP),.seq 2 (lc.map mN),.agg (lN p)] H fun d H'=>d=.fn 217 [.rp (lN p),.rp [.seq 2 (lc.map mN)],.rp [.seq 5 (ts.map cP)]]/\H=H':=by
 refine aQ _ _ func195 rfl rfl ntmps195 results195 (by simp) fun w0 g0 Q aD=>?_
 refine tq @lN.eq_1 ?_;intro Nx aB Gx aF
 intro c3 j5 c4 uL c5 lY
 refine aB _ ?_
 obtain⟨n43,uL⟩:=bY.1 uL
 obtain⟨n54,lY⟩:=bY.1 lY
 obtain⟨n53,lY⟩:=bY.1 lY
 refine cA 3 rfl ((aN n53.symm).trans ((aN n43.symm).trans (aO _ _ _))) rfl ?_
 refine cA 4 rfl ((bS n43).trans ((aN n54.symm).trans (aO _ _ _))) rfl ?_
 refine cA 5 rfl ((bS n54).trans ((bS n53).trans (aO _ _ _))) rfl ?_
 refine eV H (fun x z hz=>?_) ?_
 ·have e3:x≠c3:=fun e=>by rw[e,j5] at hz;cases hz
  have e4:x≠c4:=fun e=>by rw[e,uL] at hz;cases hz
  have e5:x≠c5:=fun e=>by rw[e,lY] at hz;cases hz
  show((((((H.bH c3 _).bH c4 _).bH c5 _).del c3).del c4).del c5) x=_
  rw[bS e5,bS e4,bS e3,aN e5,aN e4,aN e3]
  exact hz
 simp only[St.jH,List.drop]
 refine tq trivial ?_;intro Nx aB Gx aF
 refine rt aD trivial ?_
 exact⟨_,aG _,rfl,rfl⟩
def aAq (pre:List (Nat×Int×Int)):Int×Int:=match pre.getLast? with
 |some x=>x.2
 |none=>(0,0)
theorem aFS (pre:List (Nat×Int×Int)) (x:Nat×Int×Int):aAq (pre++[x])=x.2:=by
 unfold aAq;rw[List.getLast?_concat]
theorem aHl (ts:List dS) (lc:List AO) (p:pA):aAq (vW ts lc p)=cG ts lc p:=by
 obtain⟨j,h⟩:=WA ts lc p
 unfold aAq;rw[h]
def ToI (c8:Nat) (pre:List (Nat×Int×Int)) (Hc:aC):Prop:=Hc c8=some (.row 262 0 2 [[i64 (aAq pre).1,i64 (aAq pre).2]])
theorem aIr (ts:List dS) (lc:List AO) (p:pA) (hw:zJ ts) (hl:wfL ts lc) (ha:arN ts) (hp:dO p.pr.length):bE prog 157 [.seq 5 (ts.map cP),.seq 2 (lc.map mN),.agg (lN p)] .none fun d _=>d=.pG [i64 (cG ts lc p).1,i64 (cG ts lc p).2]:=by
 refine xR _ _ func157 rfl rfl ntmps157 results157 (by simp) fun w0 g0 Q aD=>?_
 refine tq @lN.eq_1 ?_;intro Nx aB Gx aF
 intro c5 lY
 refine aB _ ?_
 refine fZ 5 lY ?_
 refine tq trivial ?_;intro Nx aB Gx aF
 intro c8 X1
 refine aB _ ?_
 refine tq trivial ?_;intro Nx aB Gx aF
 have aAg:=aIE ts lc p (aC.none.bH c8 (.row 262 0 2 [[i64 0,i64 0]]))
 simp only[lN] at aAg
 refine aAg.mono ?_
 rintro d _ ⟨rfl,rfl⟩
 refine tq trivial ?_;intro Nx aB Gx aF
 obtain⟨H2,mV⟩:∃H2,H2=aC.none.bH c8 (.row 262 0 2 [[i64 0,i64 0]]):=⟨_,rfl⟩
 have e80:H2 c8=some (.row 262 0 2 [[i64 0,i64 0]]):=by rw[mV];exact aO _ _ _
 have a1q:∀b,b≠c8->H2 b=none:=fun b hb=>by rw[mV,aN hb];rfl
 simp only[i64] at mV
 rw[<-mV]
 clear mV
 refine sR (fun s=>s.df=[]/\s.fr 8=.ep c8 0 2 0 0/\s.fr 14=.fn 217 [.rp (lN p),.rp [.seq 2 (lc.map mN)],.rp [.seq 5 (ts.map cP)]]/\s.H=H2) ⟨rfl,rfl,rfl,rfl⟩ ?_
 rintro s ⟨aT,f8,f14,hsH⟩
 refine yW rfl (aDz ts lc p hw hl ha hp) f14 (fun _ _=>trivial) (by simp) (fun _=>rfl) (ToI c8) (fun _ _ _=>False) ?_ ?_ ?_ ?_ ?_ ?_
 ·intro pre H1 H2 hr h
  exact hr _ _ h (by simp)
 ·intro _ _ _ _ _ h
  exact h
 ·show s.H c8=_
  rw[hsH];exact e80
 ·rintro l w1 pre x Hc o g1 lP hi kN xZ
  rw[aPD,aPH]
  refine tq (jE eY eX eN bW aT) ?_;intro Nx aB Gx aF
  intro c10 HM
  refine aB _ ?_
  simp only[eQ]
  refine⟨rfl,lU.new (xE _) HM,fun w2 y g2=>?_⟩
  have l5:l≠c10:=fun e=>by rw[e,HM] at xZ;cases xZ
  have n8:c8≠l:=fun e=>by unfold ToI at hi;rw[e,xZ] at hi;cases hi
  refine cA 10 rfl (b:=c10) (by simp only[s5,eX,lX];rw[aN (Ne.symm l5),aO]) rfl ?_
  simp only[St.jH,s5,eX,lX,nA,bW,jN,F8 (Ne.symm l5),wC,tH HM,List.drop]
  have OC:=fun (x:fK) (hx:∀o,x≠ .obj o)=>BI (H:=Hc) (b:=c10) (l:=l) (y:=y) hx
  have r8:(Hc.bH l (.obj y)) c8=some (.row 262 0 2 [[i64 (aAq pre).1,i64 (aAq pre).2]]):=(aN n8).trans hi
  refine tq (kB f8 eY eX eN bW r8) ?_;intro Nx aB Gx aF
  simp only[kY,fP]
  refine⟨rfl,(OC _ (by simp)).row r8 (by simp),?_⟩
  unfold ToI
  rw[aFS]
  exact aO _ _ _
 ·rintro Hc M hi kN hD NZ
  rw[xP,fP,eQ,aT]
  unfold ToI at hi
  rw[aHl] at hi
  refine bP ?_
  refine dE (fun _ _ _ _=>False) fun Nx aB=>?_;refine dst (kB f8 eY eX eN bW hi) ?_;intro Nx aB Gx aF
  rw[eQ]
  refine fE ?_
  refine aD _ _ (.inr rfl) ?_ ?_
  ·(have fs:=f8;refine evG ?_;clear fs)
   exact mk1 hD
  ·simp only[IC,eN,J1]
   (have fs:=f8;refine evG ?_;clear fs)
   exact⟨aC.none,iY _⟩
 ·rintro e c pre Hc M hj h2
  exact h2.elim
theorem aIs (ts:List dS) (lc:List AO) (p:pA) (H:aC) (hw:zJ ts) (hl:wfL ts lc) (ha:arN ts) (hp:dO p.pr.length):bE prog 157 [.seq 5 (ts.map cP),.seq 2 (lc.map mN),.agg (lN p)] H fun d H'=>d=.pG [i64 (cG ts lc p).1,i64 (cG ts lc p).2]/\H=H':=
 MC (aIr ts lc p hw hl ha hp) rfl (a08 (tE _ _) (tE _ _) (tE _ _))
theorem aKb (l:List (Int×Int)) (f:FuncId) (g:(Int×Int)->Bool) (H:aC) (hl:dO l.length) (hf:∀x∈l,∀H1,bE prog f [.agg (pD x)] H1 fun d H'=>d=.val (.bool (g x))/\H1=H'):
  bE prog 165 [.seq 2 (l.map pD),.fn f []] H fun d H'=>∃r,d=i64 r/\decide (0<=r)=l.any g/\H=H':=by
 have dX:=lm pD l
 unfold dO at hl
 refine aQ _ _ func165 rfl rfl ntmps165 results165 (by simp) fun w0 g0 Q aD=>?_
 refine tq dX ?_;intro Nx aB Gx aF
 refine aZ l.length (fun i s=>s.df=[]/\s.fr 0=.seq 2 (l.map pD)/\s.fr 1=.fn f []/\s.fr 7=i64 l.length/\s.fr 8=i64 i/\s.H=H/\l.any g=(l.drop i).any g) ⟨rfl,rfl,rfl,rfl,rfl,rfl,rfl⟩ ?_
 rintro i s hi ⟨aT,f0,f1,f7,f8,hH,ha⟩
 have hx:=bI i
 have cJ:=bM i
 by_cases aV:i<l.length
 case neg=>
  have q6:=lF i l.length (by omega)
  rw[eT (by omega)] at ha
  refine tq (eA f7 f8 q6) ?_;intro Nx aB Gx aF
  refine rt aD aT ?_
  exact⟨H,(by show H.le s.H;rw[hH];exact aG _),-1,rfl,by rw[ha] <;> rfl,rfl⟩
 have q6:=lT i l.length (by omega)
 have w3:=wS i (by omega)
 have cD:(l.map pD)[i]?=some (pD l[i]):=by rw[dN,bX aV];rfl
 have hq:=hf l[i] (bU aV) s.H
 rw[eH aV,List.any_cons] at ha
 obtain⟨u,hu⟩:∃u,u=l[i]:=⟨_,rfl⟩
 rw[<-hu] at cD ha hq
 obtain⟨gu,hgu⟩:∃b,b=g u:=⟨_,rfl⟩
 rw[<-hgu] at ha hq
 clear hf
 simp only[pD] at cD hq
 refine tq (nN f0 f1 f7 f8 dX q6 cD hx cJ aV) ?_;intro Nx aB Gx aF
 refine hq.mono ?_
 rintro d _ ⟨rfl,rfl⟩
 cases gu
 ·rw[C3] at ha
  refine tq (dG f8 w3) ?_;intro Nx aB Gx aF
  exact⟨aV,aT,f0,f1,f7,rfl,hH,ha⟩
 ·refine tq f8 ?_;intro Nx aB Gx aF
  refine rt aD aT ?_
  exact⟨H,(by show H.le s.H;rw[hH];exact aG _),i,rfl,by rw[ha];simp,rfl⟩
theorem aDI (l:List (Int×Int)) (f:FuncId) (g:(Int×Int)->Bool) (H:aC) (hl:dO l.length) (hf:∀x∈l,∀H1,bE prog f [.agg (pD x)] H1 fun d H'=>d=.val (.bool (g x))/\H1=H'):
  bE prog 128 [.seq 2 (l.map pD),.fn f []] H fun d H'=>d=.val (.bool (l.any g))/\H=H':=by
 have hq:=aKb l f g H hl hf
 refine aQ _ _ func128 rfl rfl ntmps128 results128 (by simp) fun w0 g0 Q aD=>?_
 refine tq trivial ?_;intro Nx aB Gx aF
 refine hq.mono ?_
 rintro d _ ⟨r,rfl,hr,rfl⟩
 refine tq trivial ?_;intro Nx aB Gx aF
 refine rt aD trivial ?_
 exact⟨_,aG _,by rw[<-hr],rfl⟩
theorem aKc (l:List dS) (f:FuncId) (g:dS->Bool) (H:aC) (hl:dO l.length) (hf:∀x∈l,∀H1,bE prog f [.agg (cP x)] H1 fun d H'=>d=.val (.bool (g x))/\H1=H'):
  bE prog 183 [.seq 5 (l.map cP),.fn f []] H fun d H'=>∃r,d=i64 r/\decide (0<=r)=l.any g/\H=H':=by
 have dX:=lm cP l
 unfold dO at hl
 refine aQ _ _ func183 rfl rfl ntmps183 results183 (by simp) fun w0 g0 Q aD=>?_
 refine tq dX ?_;intro Nx aB Gx aF
 refine aZ l.length (fun i s=>s.df=[]/\s.fr 0=.seq 5 (l.map cP)/\s.fr 1=.fn f []/\s.fr 7=i64 l.length/\s.fr 8=i64 i/\s.H=H/\l.any g=(l.drop i).any g) ⟨rfl,rfl,rfl,rfl,rfl,rfl,rfl⟩ ?_
 rintro i s hi ⟨aT,f0,f1,f7,f8,hH,ha⟩
 have hx:=bI i
 have cJ:=bM i
 by_cases aV:i<l.length
 case neg=>
  have q6:=lF i l.length (by omega)
  rw[eT (by omega)] at ha
  refine tq (eA f7 f8 q6) ?_;intro Nx aB Gx aF
  refine rt aD aT ?_
  exact⟨H,(by show H.le s.H;rw[hH];exact aG _),-1,rfl,by rw[ha] <;> rfl,rfl⟩
 have q6:=lT i l.length (by omega)
 have w3:=wS i (by omega)
 have cD:(l.map cP)[i]?=some (cP l[i]):=by rw[dN,bX aV];rfl
 have hq:=hf l[i] (bU aV) s.H
 rw[eH aV,List.any_cons] at ha
 obtain⟨u,hu⟩:∃u,u=l[i]:=⟨_,rfl⟩
 rw[<-hu] at cD ha hq
 obtain⟨gu,hgu⟩:∃b,b=g u:=⟨_,rfl⟩
 rw[<-hgu] at ha hq
 clear hf
 simp only[cP] at cD hq
 refine tq (nN f0 f1 f7 f8 dX q6 cD hx cJ aV) ?_;intro Nx aB Gx aF
 refine hq.mono ?_
 rintro d _ ⟨rfl,rfl⟩
 cases gu
 ·rw[C3] at ha
  refine tq (dG f8 w3) ?_;intro Nx aB Gx aF
  exact⟨aV,aT,f0,f1,f7,rfl,hH,ha⟩
 ·refine tq f8 ?_;intro Nx aB Gx aF
  refine rt aD aT ?_
  exact⟨H,(by show H.le s.H;rw[hH];exact aG _),i,rfl,by rw[ha];simp,rfl⟩
theorem aJn (l:List dS) (f:FuncId) (g:dS->Bool) (H:aC) (hl:dO l.length) (hf:∀x∈l,∀H1,bE prog f [.agg (cP x)] H1 fun d H'=>d=.val (.bool (g x))/\H1=H'):
  bE prog 187 [.seq 5 (l.map cP),.fn f []] H fun d H'=>d=.val (.bool (l.any g))/\H=H':=by
 have hq:=aKc l f g H hl hf
 refine aQ _ _ func187 rfl rfl ntmps187 results187 (by simp) fun w0 g0 Q aD=>?_
 refine tq trivial ?_;intro Nx aB Gx aF
 refine hq.mono ?_
 rintro d _ ⟨r,rfl,hr,rfl⟩
 refine tq trivial ?_;intro Nx aB Gx aF
 refine rt aD trivial ?_
 exact⟨_,aG _,by rw[<-hr],rfl⟩
theorem aM7 (x:Int×Int) (H:aC):bE prog 129 [.agg (pD x)] H fun d H'=>d=.val (.bool (decide (x.1=0)))/\H=H':=by
 refine bO (K:=fun d=>d=.val (.bool (decide (x.1=0)))) ?_
 have aS:=aG H
 refine aQ _ _ func129 rfl rfl ntmps129 results129 (by simp) fun w0 g0 Q aD=>?_
 refine tq @pD.eq_1 ?_;intro Nx aB Gx aF
 intro c1 mA
 refine aB _ ?_
 refine fZ 1 mA ?_
 refine tq trivial ?_;intro Nx aB Gx aF
 refine rt aD trivial ?_
 exact⟨_,aG _,aS,_,aH aS,rfl⟩
theorem aRN (x:dS) (H:aC):bE prog 188 [.agg (cP x)] H fun d H'=>d=.val (.bool (!x.m))/\H=H':=by
 refine bO (K:=fun d=>d=.val (.bool (!x.m))) ?_
 have aS:=aG H
 refine aQ _ _ func188 rfl rfl ntmps188 results188 (by simp) fun w0 g0 Q aD=>?_
 refine tq @cP.eq_1 ?_;intro Nx aB Gx aF
 intro c1 mA
 refine aB _ ?_
 refine fZ 1 mA ?_
 refine tq trivial ?_;intro Nx aB Gx aF
 refine rt aD trivial ?_
 exact⟨_,aG _,aS,_,aH aS,rfl⟩
theorem aD2 (p:pA) (H:aC) (hp:dO p.pr.length):bE prog 69 [.agg (lN p),i64 0] H fun d H'=>d=.val (.bool (y9 p 0))/\H=H':=by
 refine bO (K:=fun d=>d=.val (.bool (y9 p 0))) ?_
 have aS:=aG H
 have dX:=lm pD p.pr
 have N7:=aDI p.pr 129 (fun x=>decide (x.1=0)) H hp (fun x _ H1=>aM7 x H1)
 unfold dO at hp
 refine aQ _ _ func69 rfl rfl ntmps69 results69 (by simp) fun w0 g0 Q aD=>?_
 refine tq @lN.eq_1 ?_;intro Nx aB Gx aF
 intro c2 lH
 refine aB _ ?_
 refine fZ 2 lH ?_
 have m0:max (0:Int) 0=0:=rfl
 have m1:min (0:Int) (p.pr.length:Int)=0:=by omega
 refine tq (eA dX m0 m1) ?_;intro Nx aB Gx aF
 refine⟨by omega,N7.mono ?_⟩
 rintro d _ ⟨rfl,rfl⟩
 refine tq trivial ?_;intro Nx aB Gx aF
 refine rt aD trivial ?_
 exact⟨_,aG _,aS,_,aH aS,by unfold y9;rfl⟩
end Go.Proofs.YtfiipaodjpiooaaGreatDoor

