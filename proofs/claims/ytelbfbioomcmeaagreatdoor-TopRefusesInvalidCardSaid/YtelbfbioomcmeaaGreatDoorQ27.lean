/- Lemmas and contracts of functions, several texts in one. -/
import Derived.Test.YtelbfbioomcmeaaGreatDoorQ26
import Derived.Test.YtelbfbioomcmeaaGreatDoorQ25
import Derived.Test.YtelbfbioomcmeaaGreatDoorQ20
set_option maxRecDepth 100000
set_option maxHeartbeats 4000000
set_option linter.all false
namespace Go.Proofs.YtelbfbioomcmeaaGreatDoor
open Go.RowKit
open Tryz
theorem CK.start {H0:aA} {b:Nat} (n:Int) (h:H0 b=none):CK H0 b n (gX []) (H0.bH b (.row 354 0 2 [[i64 n,.val (.slice none 0 0)]])):=
 ⟨_,none,aQ _ _ _,nJ _ _ _ _,h,fun x z hz=>by rw[aP (fun e=>by rw[e,h] at hz;cases hz)];exact hz,by simp⟩
theorem CK.le {H0 H:aA} {b:Nat} {n:Int} {ds:List Int} (h:CK H0 b n ds H):H0.le H:=by obtain⟨_,_,_,_,_,h,_⟩:=h;exact h
theorem aDV (ts:List cQ) (n:Int) (H:aA) (sM:ts.length<=140737488351232) (nM:∀u∈ts,u.ar.length<=140737488351232):
  aT prog 159 [.seq 5 (ts.map cE),i64 n] H fun d H'=>d=i64 (wV ts n)/\H=H':=by
 refine bM (K:=fun d=>d=i64 (wV ts n)) ?_
 have aR:=aE H
 have fB:=lm cE ts
 have O9:wV ts n=if 65535<ts.length then 15 else tW n [] ts:=rfl
 refine aN _ _ func159 rfl rfl ntmps159 results159 (by simp) fun w0 g0 Q aC=>?_
 by_cases h1:65535<ts.length
 ·have q1:((65535:Int)<(ts.length:Int))=True:=aK (by omega)
  rw[aH h1] at O9
  refine tq (cZ fB q1) ?_;intro Nx aB Gx aG
  refine rt aC trivial ?_
  exact⟨_,aE _,aR,_,aJ aR,by rw[O9] <;> rfl⟩
 have q1:((65535:Int)<(ts.length:Int))=False:=aI (by omega)
 rw[aD h1] at O9
 refine tq (cZ fB q1) ?_;intro Nx aB Gx aG
 intro b hb
 refine aB _ ?_
 refine tq fB ?_;intro Nx aB Gx aG
 refine bB ts.length (fun i s=>s.df=[]/\s.fr 0=.seq 5 (ts.map cE)/\s.fr 5=.ep b 0 2 0 0/\s.fr 17=.seq 5 (ts.map cE)/\s.fr 18=i64 ts.length/\s.fr 19=i64 i/\CK H b n (gX (ts.take i)) s.H/\tW n [] (ts.take i)=0) ⟨rfl,rfl,rfl,rfl,rfl,rfl,CK.start n hb,rfl⟩ ?_
 rintro i s hi ⟨bG,f0,f5,f17,f18,f19,fF,eX⟩
 have aX:H.le s.H:=fF.le
 by_cases aZ:i<ts.length
 case neg=>
  have q2:=lF i ts.length (by omega)
  rw[dQ (by omega)] at eX
  refine tq (dZ f18 f19 q2) ?_;intro Nx aB Gx aG
  refine rt aC bG ?_
  exact⟨_,aE _,aX,_,aJ aX,by rw[O9,eX] <;> rfl⟩
 have q2:=lT i ts.length (by omega)
 have hx:=bL i
 have cL:=bY i
 have w3:=wS i (by omega)
 have xB:=DZ (t:=ts[i]) eX
 rw[<-dH aZ,fR] at xB
 have AK:vI (ts.take i) n ts[i]≠0->tW n [] ts=vI (ts.take i) n ts[i]:=fun h=>by
  have AK:=HU (us:=ts.drop (i+1)) (by rw[xB];exact h)
  rw[kV] at AK
  rw[AK,xB]
 have hA:=aGP (ps:=ts.take i) (n:=n) (t:=ts[i])
 have b8:(ts.map cE)[i]?=some (cE ts[i]):=by rw[cR,cP aZ];rfl
 have LF:=nM ts[i] (bZ aZ)
 have yY:ts.take (i+1)=ts.take i++[ts[i]]:=dH aZ
 obtain⟨u,hu⟩:∃u,u=ts[i]:=⟨_,rfl⟩
 rw[<-hu] at b8 LF xB AK hA yY
 have Q5:(ts.take i).length=i:=by rw[dJ];omega
 have aDl:=fun H' (h:CK H b n (gX (ts.take i)) H')=>aIX (ts.take i) u n b H H' h (by omega) LF
 have aF8:=fun eL=>aG8 (ts.take i) u eL (by omega) (fun v hv=>nM v (DI hv))
 obtain⟨uk,um,ur,ue,ua⟩:=u
 simp only[cE] at b8 aDl aF8
 refine tq (yP f17 f18 f19 fB q2 b8 hx cL aZ) ?_;intro Nx aB Gx aG
 intro c7 NR
 refine aB _ ?_
 refine fW 7 NR ?_
 refine tq f5 ?_;intro Nx aB Gx aG
 refine(aDl s.H fF).mono ?_
 rintro d H1 ⟨rfl,j9,aDr⟩
 by_cases hca:MO (ts.take i) n ⟨uk,um,ur,ue,ua⟩=0
 case neg=>
  have q3:((MO (ts.take i) n ⟨uk,um,ur,ue,ua⟩:Int)=0)=False:=aI (by omega)
  rw[aD hca] at hA
  have:=AK (by rw[hA];exact hca)
  refine tq q3 ?_;intro Nx aB Gx aG
  refine rt aC bG ?_
  exact⟨_,aE _,j9,_,aJ j9,by rw[O9,this,hA] <;> rfl⟩
 rw[hca]
 rw[aH hca] at hA
 have aDr:=aDr hca
 rw[<-yY] at aDr
 refine tq trivial ?_;intro Nx aB Gx aG
 have dK:dY prog 249 [.seq 5 ((ts.take i).map cE),.agg [i64 uk,.val (.bool um),i64 ur,i64 ue,.seq 1 (ua.map iD)]] H1 fun d A=>A=aA.none/\d=.fV [i64 (max (sE ⟨uk,um,ur,ue,ua⟩ (ts.take i) 0) 0),.val (.bool (decide ((⟨uk,um,ur,ue,ua⟩:cQ)∈ts.take i)))]:=bN fun eL eO=>aF8 eL
 obtain⟨r,hr⟩:∃r,r=max (sE ⟨uk,um,ur,ue,ua⟩ (ts.take i) 0) 0:=⟨_,rfl⟩
 rw[<-hr] at dK
 rw[sW] at dK
 have cN:i<=ts.length:=by omega
 have CR:((i:Int)<=(ts.length:Int))=True:=aK (by omega)
 simp only[i64] at dK
 by_cases hm:(⟨uk,um,ur,ue,ua⟩:cQ)∈ts.take i
 ·rw[bF hm] at dK
  rw[aH hm] at hA
  have:=AK (by rw[hA];decide)
  refine dE (fun _ _ d A=>A=.none/\d=.fV [.val (.int .i64 r),.val (.bool true)]) fun Nx aB=>?_;refine dst (jA f0 fB hx cL cN CR) ?_;intro Nx aB Gx aG
  refine⟨dK,?_⟩
  (first|refine aG _ ?_|refine aB _ ?_|skip)
  refine dst trivial ?_;intro Nx aB Gx aG
  refine tq trivial ?_;intro Nx aB Gx aG
  refine rt aC bG ?_
  exact⟨_,aE _,j9,_,aJ j9,by rw[O9,this,hA] <;> rfl⟩
 ·rw[bC hm] at dK
  rw[aD hm] at hA
  refine dE (fun _ _ d A=>A=.none/\d=.fV [.val (.int .i64 r),.val (.bool false)]) fun Nx aB=>?_;refine dst (jA f0 fB hx cL cN CR) ?_;intro Nx aB Gx aG
  refine⟨dK,?_⟩
  (first|refine aG _ ?_|refine aB _ ?_|skip)
  refine dst trivial ?_;intro Nx aB Gx aG
  refine tq (cZ f19 w3) ?_;intro Nx aB Gx aG
  exact⟨aZ,bG,f0,f5,f17,f18,rfl,aDr,xB.trans hA⟩
structure Sb (b:iF):Prop where
 ok:RR b
 nm:fC b.nm.size
 rs:∀s∈b.rg,fC s.size
 ls:∀x∈b.lc,fC x.nm.size
 ts:∀x∈b.bl,fC x.tm.nm.size
theorem aF3 (n r t l:Int):D5 [n,r,t,l]=if n≠0 then n else if r≠0 then r else if t≠0 then t else if l≠0 then l else 0:=rfl
theorem aWy (I:Bool) (n:Int) (r t:Nat) (l c:Int):(if I=false then 12 else if n≠0 then n else if r≠0 then (r:Int) else if t≠0 then (t:Int) else if l≠0 then l else c)=if I=false then 12 else if D5 [n,r,t,l]≠0 then D5 [n,r,t,l] else c:=by
 rw[aF3]
 have e1:((r:Int)≠0)↔r≠0:=by omega
 have e2:((t:Int)≠0)↔t≠0:=by omega
 simp only[e1,e2]
 cases I
 ·rfl
 ·by_cases h1:n=0
  ·by_cases h2:r=0
   ·by_cases h3:t=0
    ·by_cases h4:l=0
     ·simp [h1,h2,h3,h4]
     ·simp [h1,h2,h3,h4]
    ·simp [h1,h2,h3]
   ·simp [h1,h2]
  ·simp [h1]
theorem aG1 (b:iF) (H:aA) (sb:Sb b):aT prog 71 [.agg (iG b)] H fun d H'=>d=i64 (tY b)/\H=H':=by
 refine bM (K:=fun d=>d=i64 (tY b)) ?_
 have aR:=aE H
 obtain⟨o1,o2,⟨o3,o4⟩,o5,o6,o7⟩:=sb.ok
 have hid:=EH b.nm H sb.nm
 have h1:∀H1,dY prog 157 [.seq 1 (b.rg.map sD)] H1 fun d A=>A=aA.none/\d=i64 (qR b.rg):=fun H1=>bN fun eL eO=>aEY b.rg eL o1 sb.rs
 have h2:∀H1,dY prog 158 [.seq 2 (b.ol.map pD),i64 b.rg.length] H1 fun d A=>A=aA.none/\d=i64 (iI b.ol b.rg.length):=fun H1=>bN fun eL eO=>R4 b.ol _ eL o2
 have h3:∀H1,dY prog 159 [.seq 5 (b.ty.map cE),i64 b.rg.length] H1 fun d A=>A=aA.none/\d=i64 (wV b.ty b.rg.length):=fun H1=>bN fun eL eO=>aDV b.ty _ eL o3 o4
 have h4:∀H1,dY prog 160 [.agg (iG b)] H1 fun d A=>A=aA.none/\d=i64 (EJ b):=fun H1=>bN fun eL eO=>aCD b eL o5 sb.ls
 have h5:∀l H1,fC l.length->dY prog 156 [.seq 1 (l.map iD)] H1 fun d A=>A=aA.none/\d=i64 (D5 l):=fun l H1 hl=>bN fun eL eO=>VY l eL hl
 have BN:=lm sD b.rg
 have CT:=lm rE b.bl
 unfold fC at o6
 obtain⟨y,hy⟩:∃y,y=tY b:=⟨_,rfl⟩
 rw[<-hy]
 unfold tY at hy
 obtain⟨I,hI⟩:∃I,I=qO b.nm:=⟨_,rfl⟩
 obtain⟨n,hn⟩:∃n,n=qR b.rg:=⟨_,rfl⟩
 obtain⟨r,hr⟩:∃r,r=iI b.ol b.rg.length:=⟨_,rfl⟩
 obtain⟨t,ht⟩:∃t,t=wV b.ty b.rg.length:=⟨_,rfl⟩
 obtain⟨l,hl⟩:∃l,l=EJ b:=⟨_,rfl⟩
 rw[<-hI] at hy hid
 rw[<-hn] at hy h1
 rw[<-hr] at hy h2
 rw[<-ht] at hy h3
 rw[<-hl] at hy h4
 clear hI hn hr ht hl
 have h6:=fun H1=>h5 [n,r,t,l] H1 (by unfold fC;simp)
 have hf:=aF3 n r t l
 obtain⟨F,hF⟩:∃F,F=D5 [n,r,t,l]:=⟨_,rfl⟩
 simp only[<-hF] at h6 hf
 simp only[fT,pM,iD] at h6
 have lU:y=if I=false then 12 else if F≠0 then F else if b.bl.length=0\/65535<b.bl.length then 15 else 0:=by
  rw[hy,hF];exact aWy I n r t l _
 clear hy hf hF h5
 rw[lK] at h4 ⊢
 refine aN _ _ func71 rfl rfl ntmps71 results71 (by simp) fun w0 g0 Q aC=>?_
 refine tq trivial ?_;intro Nx aB Gx aG
 intro c1 l9
 refine aB _ ?_
 refine fW 1 l9 ?_
 refine tq trivial ?_;intro Nx aB Gx aG
 refine hid.mono ?_
 rintro d _ ⟨rfl,rfl⟩
 cases I
 ·have e:y=12:=lU
  exact oz aC trivial aR e
 rw[aD (fun h=>by cases h)] at lU
 refine tq BN ?_;intro Nx aB Gx aG
 refine dE (fun t0 _ d A=>A=.none/\d=(if t0=some 14 then i64 n else if t0=some 18 then i64 r else if t0=some 22 then i64 t else if t0=some 24 then i64 l else i64 F)) fun Nx aB=>?_;refine dst trivial ?_;intro Nx aB Gx aG
 refine⟨h1 _,h2 _,h3 _,h4 _,h6 _,?_⟩
 (first|refine aG _ ?_|refine aB _ ?_|skip)
 by_cases q:F=0
 case neg=>
  have q1:(F=0)=False:=aI q
  have e:y=F:=lU.trans (aH q)
  exact oz aC q1 aR e
 have q1:(F=0)=True:=aK q
 rw[aD (fun h=>h q)] at lU
 by_cases p:b.bl.length=0
 ·have p1:((b.bl.length:Int)=0)=True:=aK (by omega)
  have e:y=15:=lU.trans (aH (.inl p))
  exact oz aC (dZ q1 p1 CT) aR e
 have p1:((b.bl.length:Int)=0)=False:=aI (by omega)
 by_cases p2:65535<b.bl.length
 ·have p3:((65535:Int)<(b.bl.length:Int))=True:=aK (by omega)
  have e:y=15:=lU.trans (aH (.inr p2))
  exact oz aC (fJ q1 p1 p3 CT) aR e
 have p3:((65535:Int)<(b.bl.length:Int))=False:=aI (by omega)
 have e:y=0:=lU.trans (aD (by omega))
 exact oz aC (fJ q1 p1 p3 CT) aR e
def Ab (T n:Nat):Prop:=n<=T/\min T 9000<=n
theorem Ab.add {T n X v:Nat} (h:Ab T n) (h2:Ab X v):Ab (T+X) (n+v):=by unfold Ab at *;omega
theorem Ab.same (X:Nat):Ab X X:=by unfold Ab;omega
theorem Ab.cut (X:Nat):Ab X (min X 9000):=by unfold Ab;omega
def opz (l:List tE):Nat:=l.length+sm (fun o=>o.pl.pr.length) l
def KT {α:Type} (f:α->Nat):List α->Nat->Nat
 |[],n=>n
 |x::l,n=>if 9000<n+f x then n+f x else KT f l (n+f x)
theorem XM {α:Type} (f:α->Nat) (hf:∀x,f x<=9000):∀(l:List α) (n:Nat),n<=9000->KT f l n<=n+sm f l/\min (n+sm f l) 9000<=KT f l n/\KT f l n<=18000
 |[],n,h=>by simp only[KT,sm];omega
 |x::l,n,h=>by
  have hx:=hf x
  simp only[KT,sm]
  by_cases hb:9000<n+f x
  ·rw[aH hb];omega
  ·rw[aD hb]
   have:=XM f hf l (n+f x) (by omega)
   omega
def W3 (l:List tE):Nat:=KT (fun o:tE=>min o.pl.pr.length 9000) (l.take (min l.length 9000)) (min l.length 9000)
theorem aCM (l:List tE):Ab (opz l) (W3 l)/\W3 l<=18000:=by
 have h0:=XM (fun o:tE=>min o.pl.pr.length 9000) (fun x=>Nat.min_le_right _ _) (l.take (min l.length 9000)) (min l.length 9000) (Nat.min_le_right _ _)
 have e1:∀m:List tE,Ab (sm (fun o:tE=>o.pl.pr.length) m) (sm (fun o:tE=>min o.pl.pr.length 9000) m):=fun m=>by
  induction m with
  |nil=>exact Ab.same 0
  |cons x m ih=>exact(Ab.cut _).add ih
 have h1:=(Ab.cut l.length).add (e1 (l.take (min l.length 9000)))
 have h3:sm (fun o:tE=>o.pl.pr.length) (l.take (min l.length 9000))<=sm (fun o:tE=>o.pl.pr.length) l:=aCf _ _ _
 refine⟨?_,h0.2.2⟩
 by_cases h:l.length<=9000
 ·have e:l.take (min l.length 9000)=l:=dQ (by omega)
  unfold W3
  rw[e] at h1 h0 ⊢
  unfold Ab opz at *
  omega
 ·unfold W3
  unfold Ab opz at *
  omega
theorem aCE (l:List tE) (H:aA) (hl:l.length<=140737488351232) (TZ:∀o∈l,o.pl.pr.length<=140737488351232):aT prog 116 [.seq 4 (l.map jL)] H fun d H'=>d=i64 (W3 l)/\H=H':=by
 have mA:=lm jL l
 obtain⟨a,ha⟩:∃a,a=min l.length 9000:=⟨_,rfl⟩
 have hm:min (l.length:Int) 9000=(a:Int):=by omega
 obtain⟨l',hl'⟩:∃l',l'=l.take a:=⟨_,rfl⟩
 have oV:l'.length=a:=by rw[hl',dJ];omega
 have yX:(List.map jL l').length=a:=by rw[bK,oV]
 have ht:List.take a (List.map jL l)=List.map jL l':=by rw[hl',sW]
 have g1:((0:Int)<=(a:Int))=True:=aK (by omega)
 have g2:((a:Int)<=(l.length:Int))=True:=aK (by omega)
 have aX6:∀o∈l',o.pl.pr.length<=140737488351232:=fun o ho=>TZ o (by rw[hl'] at ho;exact DI ho)
 refine aN _ _ func116 rfl rfl ntmps116 results116 (by simp) fun w0 g0 Q aC=>?_
 refine tq (jA mA hm ht g1 g2 yX) ?_;intro Nx aB Gx aG
 refine bB a (fun i s=>s.df=[]/\s.fr 11=.seq 4 (l'.map jL)/\s.fr 12=i64 a/\s.fr 13=i64 i/\s.fr 3=i64 ((a+sm (fun o:tE=>min o.pl.pr.length 9000) (l'.take i):Nat):Int)/\a+sm (fun o:tE=>min o.pl.pr.length 9000) (l'.take i)<=9000/\W3 l=KT (fun o:tE=>min o.pl.pr.length 9000) (l'.drop i) (a+sm (fun o:tE=>min o.pl.pr.length 9000) (l'.take i))/\s.H=H) ⟨rfl,rfl,rfl,rfl,rfl,by simp only[pL,sm];omega,by simp only[pL,sm,iY,z8];unfold W3;rw[<-ha,<-hl'],rfl⟩ ?_
 rintro i s hi ⟨bG,f11,f12,f13,f3,hb,hV,hH⟩
 have hx:=bL i
 have cL:=bY i
 by_cases aZ:i<a
 case neg=>
  have p1:((i:Int)<(a:Int))=False:=aI (by omega)
  rw[dQ (by omega)] at f3 hb hV
  rw[dX (by omega)] at hV
  simp only[KT] at hV
  rw[<-hV] at f3
  refine tq (gE f3 f11 f12 f13 p1) ?_;intro Nx aB Gx aG
  refine rt aC bG ?_
  exact⟨_,aE _,hH.symm⟩
 have p1:((i:Int)<(a:Int))=True:=aK (by omega)
 have cN:i<l'.length:=by omega
 have b8:=mB (f:=jL) cN
 have uX:sm (fun o:tE=>min o.pl.pr.length 9000) (l'.take (i+1))=sm (fun o:tE=>min o.pl.pr.length 9000) (l'.take i)+min l'[i].pl.pr.length 9000:=zE cN
 rw[dI cN] at hV
 have hxp:=aX6 l'[i] (bZ cN)
 obtain⟨x,CW⟩:∃x,x=l'[i]:=⟨_,rfl⟩
 rw[<-CW] at b8 uX hxp hV
 simp only[jL] at b8
 have hlp:=lm pD x.pl.pr
 have F9:min (x.pl.pr.length:Int) 9000=((min x.pl.pr.length 9000:Nat):Int):=by omega
 obtain⟨n,hn⟩:∃n,n=a+sm (fun o:tE=>min o.pl.pr.length 9000) (l'.take (i+1)):=⟨_,rfl⟩
 have w3:=wS i (by omega)
 have w4:IntKind.i64.wrap (((a+sm (fun o:tE=>min o.pl.pr.length 9000) (l'.take i):Nat):Int)+((min x.pl.pr.length 9000:Nat):Int))=(n:Int):=by rw[aY (by omega)];omega
 refine tq (rF f3 f11 f12 f13 p1 b8 hx cL aZ yX) ?_;intro Nx aB Gx aG
 intro c5 pT
 refine aB _ ?_
 refine fW 5 pT ?_
 simp only[KT] at hV
 have hnn:a+sm (fun o:tE=>min o.pl.pr.length 9000) (l'.take i)+min x.pl.pr.length 9000=n:=by omega
 rw[hnn] at hV
 by_cases F6:9000<n
 ·have p2:((9000:Int)<(n:Int))=True:=aK (by omega)
  refine tq (jA f3 f13 hlp F9 w4 p2) ?_;intro Nx aB Gx aG
  refine rt aC bG ?_
  rw[aH F6] at hV
  exact⟨_,aE _,by rw[hV] <;> rfl,hH.symm⟩
 ·have p2:((9000:Int)<(n:Int))=False:=aI (by omega)
  refine tq (lM f3 f13 hlp F9 w3 w4 p2) ?_;intro Nx aB Gx aG
  rw[aD F6] at hV
  exact⟨aZ,bG,f11,f12,rfl,by rw[<-hn] <;> rfl,by omega,by rw[<-hn];exact hV,hH⟩
def szS (s:StS):Nat:=s.pl.pr.length+s.rv.pl.pr.length+opz s.rv.ar
def szB (x:BkS):Nat:=1+x.st.length+x.tm.tg.length+x.tm.pl.pr.length+x.tm.nm.size+sm szS x.st+opz x.tm.ar
def t1 (b:iF) (i:Nat):Nat:=b.nm.size+b.ol.length+sm (fun s:ByteArray=>1+s.size) (b.rg.take i)
def t2 (b:iF) (i:Nat):Nat:=t1 b b.rg.length+sm (fun t:cQ=>1+t.ar.length) (b.ty.take i)
def t3 (b:iF) (i:Nat):Nat:=t2 b b.ty.length+sm (fun l:tD=>1+l.nm.size) (b.lc.take i)
def t4 (b:iF) (i:Nat):Nat:=t3 b b.lc.length+sm szB (b.bl.take i)
def tot (b:iF):Nat:=t4 b b.bl.length
def lg (b:iF):Int:=if 3000<tot b then 1 else 0
theorem aFm (b:iF) (i:Nat):t4 b i<=tot b:=by
 have:=aCf szB b.bl i
 unfold tot t4;rw[kW];omega
theorem aFK {b:iF} {i:Nat} (h:i<b.bl.length):t4 b (i+1)=t4 b i+szB b.bl[i]:=by
 have:=zE (f:=szB) h
 unfold t4;omega
theorem aET (b:iF) (H:aA) (ok:RR b):aT prog 51 [.agg (iG b)] H fun d H'=>d=i64 (lg b)/\H=H':=by
 refine bM (K:=fun d=>d=i64 (lg b)) ?_
 obtain⟨Q6,hol,⟨lG,htx⟩,QX,nX,hbx⟩:=ok
 unfold fC at Q6 hol lG QX nX
 have lrg:=lm sD b.rg
 have lol:=lm pD b.ol
 have llc:=lm lI b.lc
 have lty:=lm cE b.ty
 have lbl:=lm rE b.bl
 have mq:min (b.nm.size:Int) 9000=((min b.nm.size 9000:Nat):Int):=by omega
 have wq:IntKind.i64.wrap (((min b.nm.size 9000:Nat):Int)+(b.ol.length:Int))=((min b.nm.size 9000+b.ol.length:Nat):Int):=by rw[aY (by omega)];omega
 have a0:Ab (t1 b 0) (min b.nm.size 9000+b.ol.length):=by have:=(Ab.cut b.nm.size).add (Ab.same b.ol.length);exact this
 refine aN _ _ func51 rfl rfl ntmps51 results51 (by simp) fun w0 g0 Q aC=>?_
 refine tq (cZ @iG.eq_1 @bX.eq_1) ?_;intro Nx aB Gx aG
 intro c1 l9
 refine aB _ ?_
 refine fW 1 l9 ?_
 refine tq (lM lrg lol llc lty lbl mq wq) ?_;intro Nx aB Gx aG
 refine bB b.rg.length (fun i s=>s.df=[]/\s.fr 1=.rp (iG b)/\s.fr 23=.seq 1 (b.rg.map sD)/\s.fr 24=i64 b.rg.length/\s.fr 25=i64 i/\(∃n,s.fr 3=i64 (n:Nat)/\Ab (t1 b i) n/\n<=(9000+140737488351232)+9001 * i)/\H.le s.H) ⟨rfl,rfl,rfl,rfl,rfl,⟨_,rfl,a0,by omega⟩,aE _⟩ ?_
 rintro i s hi ⟨bG,f1,f23,f24,f25,⟨n,f3,hA,hn⟩,aR⟩
 have hx:=bL i
 have cL:=bY i
 have w3:=wS i (by omega)
 by_cases aZ:i<b.rg.length
 case pos=>
  have p1:=lT i b.rg.length (by omega)
  have b8:=mB (f:=sD) aZ
  have IQ:t1 b (i+1)=t1 b i+(1+b.rg[i].size):=by have:=zE (f:=fun x=>1+x.size) aZ;unfold t1;omega
  obtain⟨x,CW⟩:∃x,x=b.rg[i]:=⟨_,rfl⟩
  rw[<-CW] at b8 IQ
  simp only[sD,bX] at b8
  have m1:min (x.size:Int) 9000=((min (x.size) 9000:Nat):Int):=by omega
  have w4:IntKind.i64.wrap (1+((min (x.size) 9000:Nat):Int))=((1+min (x.size) 9000:Nat):Int):=by rw[aY (by omega)];omega
  have w5:IntKind.i64.wrap ((n:Int)+((1+min (x.size) 9000:Nat):Int))=((n+(1+min (x.size) 9000):Nat):Int):=by rw[aY (by omega)];omega
  refine tq (F0 f3 f23 f24 f25 p1 b8 hx cL aZ lrg m1 w3 w4 w5) ?_;intro Nx aB Gx aG
  exact⟨aZ,bG,f1,f23,f24,rfl,⟨_,rfl,by rw[IQ];exact hA.add ((Ab.same 1).add (Ab.cut _)),by omega⟩,aR⟩
 have p1:=lF i b.rg.length (by omega)
 have ei:i=b.rg.length:=by omega
 subst ei
 have f1':=f1
 simp only[iG] at f1
 have a1:Ab (t2 b 0) n:=hA
 clear hx cL w3 hi aZ
 refine tq (lM f1 f3 f23 f24 f25 p1 lty) ?_;intro Nx aB Gx aG
 refine bB b.ty.length (fun i s=>s.df=[]/\s.fr 1=.rp (iG b)/\s.fr 37=.seq 5 (b.ty.map cE)/\s.fr 38=i64 b.ty.length/\s.fr 39=i64 i/\(∃n,s.fr 3=i64 (n:Nat)/\Ab (t2 b i) n/\n<=(9000+9002 * 140737488351232)+9001 * i)/\H.le s.H) ⟨bG,f1',rfl,rfl,rfl,⟨_,f3,a1,by omega⟩,aR⟩ ?_
 clear bG f1 f1' f23 f24 f25 f3 hA a1 hn aR p1
 rintro i s hi ⟨bG,f1,f37,f38,f39,⟨n,f3,hA,hn⟩,aR⟩
 have hx:=bL i
 have cL:=bY i
 have w3:=wS i (by omega)
 by_cases aZ:i<b.ty.length
 case pos=>
  have p1:=lT i b.ty.length (by omega)
  have b8:=mB (f:=cE) aZ
  have IQ:t2 b (i+1)=t2 b i+(1+b.ty[i].ar.length):=by have:=zE (f:=fun x=>1+x.ar.length) aZ;unfold t2;omega
  obtain⟨x,CW⟩:∃x,x=b.ty[i]:=⟨_,rfl⟩
  rw[<-CW] at b8 IQ
  simp only[cE,bX] at b8
  have m1:min (x.ar.length:Int) 9000=((min (x.ar.length) 9000:Nat):Int):=by omega
  have w4:IntKind.i64.wrap (1+((min (x.ar.length) 9000:Nat):Int))=((1+min (x.ar.length) 9000:Nat):Int):=by rw[aY (by omega)];omega
  have w5:IntKind.i64.wrap ((n:Int)+((1+min (x.ar.length) 9000:Nat):Int))=((n+(1+min (x.ar.length) 9000):Nat):Int):=by rw[aY (by omega)];omega
  have TZ:=lm iD x.ar
  refine tq (rF f3 f37 f38 f39 p1 b8 hx cL aZ lty) ?_;intro Nx aB Gx aG
  intro c5 pT
  refine aB _ ?_
  refine fW 7 pT ?_
  refine tq (lM f3 f39 m1 w3 w4 w5 TZ) ?_;intro Nx aB Gx aG
  exact⟨aZ,bG,f1,f37,f38,rfl,⟨_,rfl,by rw[IQ];exact hA.add ((Ab.same 1).add (Ab.cut _)),by omega⟩,aR⟩
 have p1:=lF i b.ty.length (by omega)
 have ei:i=b.ty.length:=by omega
 subst ei
 have f1':=f1
 simp only[iG] at f1
 have a1:Ab (t3 b 0) n:=hA
 clear hx cL w3 hi aZ
 refine tq (lM f1 f3 f37 f38 f39 p1 llc) ?_;intro Nx aB Gx aG
 refine bB b.lc.length (fun i s=>s.df=[]/\s.fr 1=.rp (iG b)/\s.fr 52=.seq 2 (b.lc.map lI)/\s.fr 53=i64 b.lc.length/\s.fr 54=i64 i/\(∃n,s.fr 3=i64 (n:Nat)/\Ab (t3 b i) n/\n<=(9000+18003 * 140737488351232)+9001 * i)/\H.le s.H) ⟨bG,f1',rfl,rfl,rfl,⟨_,f3,a1,by omega⟩,aR⟩ ?_
 clear bG f1 f1' f37 f38 f39 f3 hA a1 hn aR p1
 rintro i s hi ⟨bG,f1,f52,f53,f54,⟨n,f3,hA,hn⟩,aR⟩
 have hx:=bL i
 have cL:=bY i
 have w3:=wS i (by omega)
 by_cases aZ:i<b.lc.length
 case pos=>
  have p1:=lT i b.lc.length (by omega)
  have b8:=mB (f:=lI) aZ
  have IQ:t3 b (i+1)=t3 b i+(1+b.lc[i].nm.size):=by have:=zE (f:=fun x=>1+x.nm.size) aZ;unfold t3;omega
  obtain⟨x,CW⟩:∃x,x=b.lc[i]:=⟨_,rfl⟩
  rw[<-CW] at b8 IQ
  simp only[lI,bX] at b8
  have m1:min (x.nm.size:Int) 9000=((min (x.nm.size) 9000:Nat):Int):=by omega
  have w4:IntKind.i64.wrap (1+((min (x.nm.size) 9000:Nat):Int))=((1+min (x.nm.size) 9000:Nat):Int):=by rw[aY (by omega)];omega
  have w5:IntKind.i64.wrap ((n:Int)+((1+min (x.nm.size) 9000:Nat):Int))=((n+(1+min (x.nm.size) 9000):Nat):Int):=by rw[aY (by omega)];omega
  refine tq (rF f3 f52 f53 f54 p1 b8 hx cL aZ llc) ?_;intro Nx aB Gx aG
  intro c5 pT
  refine aB _ ?_
  refine fW 9 pT ?_
  refine tq (jA f3 f54 m1 w3 w4 w5) ?_;intro Nx aB Gx aG
  exact⟨aZ,bG,f1,f52,f53,rfl,⟨_,rfl,by rw[IQ];exact hA.add ((Ab.same 1).add (Ab.cut _)),by omega⟩,aR⟩
 have p1:=lF i b.lc.length (by omega)
 have ei:i=b.lc.length:=by omega
 subst ei
 have f1':=f1
 simp only[iG] at f1
 have a1:Ab (t4 b 0) n:=hA
 clear hx cL w3 hi aZ
 by_cases F6:3000<n
 ·have p2:((3000:Int)<(n:Int))=True:=aK (by omega)
  have e:lg b=1:=by
   have:=aFm b 0
   unfold lg;rw[aH (by unfold Ab at a1;omega)]
  rw[e] at aC
  refine tq (lM f1 f3 f52 f53 f54 p1 p2) ?_;intro Nx aB Gx aG
  refine rt aC bG ?_
  exact⟨_,aE _,aR,_,aJ aR,rfl⟩
 have p2:((3000:Int)<(n:Int))=False:=aI (by omega)
 refine tq (qN f1 f3 f52 f53 f54 p1 p2 lbl) ?_;intro Nx aB Gx aG
 refine bB b.bl.length (fun i s=>s.df=[]/\s.fr 69=.seq 7 (b.bl.map rE)/\s.fr 70=i64 b.bl.length/\s.fr 71=i64 i/\(∃n,s.fr 3=i64 (n:Nat)/\Ab (t4 b i) n/\n<=23000)/\H.le s.H) ⟨bG,rfl,rfl,rfl,⟨_,f3,a1,by omega⟩,aR⟩ ?_
 clear bG f1 f1' f52 f53 f54 f3 hA a1 hn aR p1 p2 F6
 rintro i s hi ⟨bG,f69,f70,f71,⟨n,f3,hA,hn⟩,aR⟩
 have hx:=bL i
 have cL:=bY i
 have w3:=wS i (by omega)
 have one:3000<tot b->lg b=1:=fun h=>aH h
 by_cases aZ:i<b.bl.length
 case neg=>
  have p1:=lF i b.bl.length (by omega)
  have ei:i=b.bl.length:=by omega
  subst ei
  by_cases F6:3000<n
  ·have p2:((3000:Int)<(n:Int))=True:=aK (by omega)
   have e:lg b=1:=one (by unfold tot;unfold Ab at hA;omega)
   rw[e] at aC
   refine tq (jA f3 f69 f70 f71 p1 p2) ?_;intro Nx aB Gx aG
   refine rt aC bG ?_
   exact⟨_,aE _,aR,_,aJ aR,rfl⟩
  ·have p2:((3000:Int)<(n:Int))=False:=aI (by omega)
   have e:lg b=0:=aD (by unfold tot;unfold Ab at hA;omega)
   rw[e] at aC
   refine tq (jA f3 f69 f70 f71 p1 p2) ?_;intro Nx aB Gx aG
   refine rt aC bG ?_
   exact⟨_,aE _,aR,_,aJ aR,rfl⟩
 have p1:=lT i b.bl.length (by omega)
 have b8:=mB (f:=rE) aZ
 have IQ:=aFK aZ
 have PB:=aFm b (i+1)
 obtain⟨⟨o9,hsx⟩,htg,⟨nM,aIg⟩,IP⟩:=hbx b.bl[i] (bZ aZ)
 unfold RS at IP
 unfold fC at o9 htg nM IP
 obtain⟨x,CW⟩:∃x,x=b.bl[i]:=⟨_,rfl⟩
 rw[<-CW] at b8 IQ o9 hsx htg nM aIg IP
 simp only[rE,bX] at b8
 have ls:=lm J4 x.st
 have lt:=lm iD x.tm.tg
 have lp:=lm pD x.tm.pl.pr
 have mx:min (x.tm.nm.size:Int) 9000=((min x.tm.nm.size 9000:Nat):Int):=by omega
 have v1:IntKind.i64.wrap (1+(x.st.length:Int))=((1+x.st.length:Nat):Int):=by rw[aY (by omega)];omega
 have v2:IntKind.i64.wrap (((1+x.st.length:Nat):Int)+(x.tm.tg.length:Int))=((1+x.st.length+x.tm.tg.length:Nat):Int):=by rw[aY (by omega)];omega
 have v3:IntKind.i64.wrap (((1+x.st.length+x.tm.tg.length:Nat):Int)+(x.tm.pl.pr.length:Int))=((1+x.st.length+x.tm.tg.length+x.tm.pl.pr.length:Nat):Int):=by rw[aY (by omega)];omega
 have v4:IntKind.i64.wrap (((1+x.st.length+x.tm.tg.length+x.tm.pl.pr.length:Nat):Int)+((min x.tm.nm.size 9000:Nat):Int))=((1+x.st.length+x.tm.tg.length+x.tm.pl.pr.length+min x.tm.nm.size 9000:Nat):Int):=by rw[aY (by omega)];omega
 obtain⟨m,hm⟩:∃m,m=n+(1+x.st.length+x.tm.tg.length+x.tm.pl.pr.length+min x.tm.nm.size 9000):=⟨_,rfl⟩
 have v5:IntKind.i64.wrap ((n:Int)+((1+x.st.length+x.tm.tg.length+x.tm.pl.pr.length+min x.tm.nm.size 9000:Nat):Int))=(m:Int):=by rw[aY (by omega)];omega
 obtain⟨T5,hT5⟩:∃T5,T5=t4 b i+(1+x.st.length+x.tm.tg.length+x.tm.pl.pr.length+x.tm.nm.size):=⟨_,rfl⟩
 have hAm:Ab T5 m:=by rw[hT5,hm];exact hA.add ((Ab.same _).add (Ab.cut _))
 have hT:T5+sm szS x.st+opz x.tm.ar<=tot b:=by unfold szB at IQ;omega
 have hTe:T5+sm szS x.st+opz x.tm.ar=t4 b (i+1):=by unfold szB at IQ;omega
 refine tq (rF f3 f69 f70 f71 p1 b8 hx cL aZ lbl) ?_;intro Nx aB Gx aG
 intro c11 aB3
 refine aB _ ?_
 refine fW 11 aB3 ?_
 by_cases F6:3000<m
 ·have p2:((3000:Int)<(m:Int))=True:=aK (by omega)
  have e:lg b=1:=one (by unfold Ab at hAm;omega)
  rw[e] at aC
  refine tq (pE f3 ls lt lp mx v1 v2 v3 v4 v5 p2) ?_;intro Nx aB Gx aG
  refine rt aC bG ?_
  exact⟨_,aE _,aR,_,aJ aR,rfl⟩
 have p2:((3000:Int)<(m:Int))=False:=aI (by omega)
 refine tq (pE f3 ls lt lp mx v1 v2 v3 v4 v5 p2) ?_;intro Nx aB Gx aG
 refine bB x.st.length (fun j s=>s.df=[]/\s.fr 69=.seq 7 (b.bl.map rE)/\s.fr 70=i64 b.bl.length/\s.fr 71=i64 i/\s.fr 11=.rp (rE x)/\s.fr 101=.seq 11 (x.st.map J4)/\s.fr 102=i64 x.st.length/\s.fr 103=i64 j/\(∃n,s.fr 3=i64 (n:Nat)/\Ab (T5+sm szS (x.st.take j)) n/\n<=3000)/\H.le s.H) ⟨bG,f69,f70,f71,rfl,rfl,rfl,rfl,⟨_,rfl,hAm,by omega⟩,aR⟩ ?_
 clear bG f69 f70 f71 f3 hA hAm hn aR hm v5 F6 p2
 rintro j s hj ⟨bG,f69,f70,f71,f11,f101,f102,f103,⟨n,f3,hA,hn⟩,aR⟩
 have PC:=bL j
 have aXB:=bY j
 have v6:=wS j (by omega)
 by_cases kR:j<x.st.length
 case neg=>
  have p2:=lF j x.st.length (by omega)
  rw[dQ (by omega)] at hA
  obtain⟨hoA,rU⟩:=aCM x.tm.ar
  have u1:IntKind.i64.wrap ((n:Int)+(W3 x.tm.ar:Int))=((n+W3 x.tm.ar:Nat):Int):=by rw[aY (by omega)];omega
  simp only[rE] at f11
  refine tq (jA f3 f11 f101 f102 f103 p2) ?_;intro Nx aB Gx aG
  refine(aCE x.tm.ar _ nM aIg).mono ?_
  rintro d _ ⟨rfl,rfl⟩
  refine tq (dZ f71 u1 w3) ?_;intro Nx aB Gx aG
  exact⟨aZ,bG,f69,f70,rfl,⟨_,rfl,by rw[<-hTe];exact hA.add hoA,by omega⟩,aR⟩
 have p2:=lT j x.st.length (by omega)
 have AX:=mB (f:=J4) kR
 have uX:sm szS (x.st.take (j+1))=sm szS (x.st.take j)+szS x.st[j]:=zE kR
 have sM:=aCf szS x.st (j+1)
 obtain⟨hyp,hyq,hya,aJR⟩:=hsx x.st[j] (bZ kR)
 unfold RS at hyp hyq
 unfold fC at hyp hyq hya
 obtain⟨y,ZJ⟩:∃y,y=x.st[j]:=⟨_,rfl⟩
 rw[<-ZJ] at AX uX hyp hyq hya aJR
 simp only[J4] at AX
 have lq:=lm pD y.pl.pr
 have lr:=lm pD y.rv.pl.pr
 obtain⟨hoA,rU⟩:=aCM y.rv.ar
 have u1:IntKind.i64.wrap ((y.pl.pr.length:Int)+(y.rv.pl.pr.length:Int))=((y.pl.pr.length+y.rv.pl.pr.length:Nat):Int):=by rw[aY (by omega)];omega
 have u2:IntKind.i64.wrap (((y.pl.pr.length+y.rv.pl.pr.length:Nat):Int)+(W3 y.rv.ar:Int))=((y.pl.pr.length+y.rv.pl.pr.length+W3 y.rv.ar:Nat):Int):=by rw[aY (by omega)];omega
 obtain⟨k,hk⟩:∃k,k=n+(y.pl.pr.length+y.rv.pl.pr.length+W3 y.rv.ar):=⟨_,rfl⟩
 have u3:IntKind.i64.wrap ((n:Int)+((y.pl.pr.length+y.rv.pl.pr.length+W3 y.rv.ar:Nat):Int))=(k:Int):=by rw[aY (by omega)];omega
 have hAk:Ab (T5+sm szS (x.st.take (j+1))) k:=by
  have h:=hA.add ((Ab.same (y.pl.pr.length+y.rv.pl.pr.length)).add hoA)
  rw[uX,hk]
  unfold szS
  rw[<-zY]
  exact h
 refine tq (rF f3 f101 f102 f103 p2 AX PC aXB kR ls) ?_;intro Nx aB Gx aG
 intro c13 aXL
 refine aB _ ?_
 refine fW 13 aXL ?_
 refine tq trivial ?_;intro Nx aB Gx aG
 refine dE (fun t _ d A=>A=.none/\d=(if t=some 121 then i64 (W3 y.rv.ar) else d)) fun Nx aB=>?_;refine dst (jA f3 lq lr u1 u2 u3) ?_;intro Nx aB Gx aG
 refine⟨bN fun eL eO=>(aCE y.rv.ar _ hya aJR).mono fun d H' h=>h,?_⟩
 (first|refine aG _ ?_|refine aB _ ?_|skip)
 by_cases F6:3000<k
 ·have p3:((3000:Int)<(k:Int))=True:=aK (by omega)
  have e:lg b=1:=one (by unfold Ab at hAk;omega)
  rw[e] at aC
  refine tq (dZ f103 p3 v6) ?_;intro Nx aB Gx aG
  refine rt aC bG ?_
  exact⟨_,aE _,aR,_,aJ aR,rfl⟩
 have p3:((3000:Int)<(k:Int))=False:=aI (by omega)
 refine tq (dZ f103 p3 v6) ?_;intro Nx aB Gx aG
 exact⟨kR,bG,f69,f70,f71,f11,f101,f102,rfl,⟨_,rfl,hAk,by omega⟩,aR⟩
end Go.Proofs.YtelbfbioomcmeaaGreatDoor

