/- Lemmas and contracts of functions, several texts in one. -/
import Derived.Test.YtfiipaodjpiooaaGreatDoorQ31
set_option maxRecDepth 100000
set_option maxHeartbeats 4000000
set_option linter.all false
namespace Go.Proofs.YtfiipaodjpiooaaGreatDoor
open Go.RowKit
def YV:EZ:=⟨2,⟨0,[]⟩,⟨0,0,0,false,⟨0,[]⟩,[]⟩,0⟩
def yR (x:mP):mP:=⟨YV::x.st,x.tm⟩
def FT (b:cT) (l:List mP):cT:=⟨b.nm,b.rg,b.ol,b.ty,b.lc,b.ag,l⟩
def oR (b:cT):cT:=FT b (b.bl.map yR)
theorem yC (b:cT) (m:List mP):∀(l:List qV) (fs:List Int),gA (FT b m) l fs=gA b l fs
 |[],_=>rfl
 |o::l,[]=>by
  have h1:gA (FT b m) (o::l) []=if qU b o≠0 then qU b o else gA (FT b m) l []:=rfl
  have h2:gA b (o::l) []=if qU b o≠0 then qU b o else gA b l []:=rfl
  rw[h1,h2,yC b m l []]
 |o::l,f::fs=>by
  have h1:gA (FT b m) (o::l) (f::fs)=if qU b o≠0 then qU b o else if uI b o f=false then 22 else gA (FT b m) l fs:=rfl
  have h2:gA b (o::l) (f::fs)=if qU b o≠0 then qU b o else if uI b o f=false then 22 else gA b l fs:=rfl
  rw[h1,h2,yC b m l fs]
theorem aBC (b:cT) (m:List mP) (r:G0) (t n:Int) (x:Int×Int):vU (FT b m) r t n x=vU b r t n x:=by
 unfold vU
 rw[yC]
 rfl
theorem aLu (b:cT) (m:List mP) (r:G0) (t:Int):SG (FT b m) r t=SG b r t:=by
 unfold SG
 rw[yC,aBC,aBC,yC]
 rfl
theorem aEH (b:cT) (m:List mP) (s:EZ):IN (FT b m) s=IN b s:=by
 unfold IN
 rw[aLu]
 rfl
theorem KD (b:cT) (m:List mP):∀l:List EZ,tB (FT b m) l=tB b l
 |[]=>rfl
 |s::l=>by rw[tB,tB,aEH,KD b m l]
theorem aMG (b:cT) (m:List mP) (hm:m.length=b.bl.length) (t:HF):BU (FT b m) t=BU b t:=by
 unfold BU
 have h:(FT b m).bl.length=b.bl.length:=hm
 rw[h,yC]
 rfl
theorem aIk (b:cT) (m:List mP) (hm:b.bl.length<=m.length) (t:HF) (h:BU b t=0):BU (FT b m) t=0:=by
 unfold BU at h ⊢
 have hl:(FT b m).bl.length=m.length:=rfl
 rw[yC]
 by_cases h1:t.k<0\/5<t.k
 ·rw[aE h1] at h;cases h
 rw[aA h1] at h ⊢
 by_cases h2:yO t=false
 ·rw[aE h2] at h;cases h
 rw[aA h2] at h ⊢
 by_cases h3:(t.tg.all fun x=>decide (cE b.bl.length x))=false
 ·rw[aE h3] at h;cases h
 rw[aA h3] at h
 have h4:¬(t.tg.all fun x=>decide (cE (FT b m).bl.length x))=false:=fun h5=>h3 (by
  have h6:(t.tg.all fun x=>decide (cE b.bl.length x))=true->(t.tg.all fun x=>decide (cE (FT b m).bl.length x))=true:=fun h7=>by
   rw[eZ] at h7 ⊢
   intro x hx
   have h8:=CV (h7 x hx)
   refine bG ?_
   rw[hl]
   unfold cE at h8 ⊢;omega
  cases h8:(t.tg.all fun x=>decide (cE b.bl.length x))
  ·rfl
  ·rw[h6 h8] at h5;cases h5)
 rw[aA h4]
 exact h
theorem aPP (b:cT):IN b YV=0:=by
 unfold IN
 rw[aA (by decide),aA (by decide),aE (by decide),aA (by decide)]
theorem aDE (b:cT) (m:List mP) (hm:m.length=b.bl.length):∀l:List mP,(∀x∈l,x.st.length<=60000)->uG (FT b m) (l.map yR)=uG b l
 |[],_=>rfl
 |x::l,h=>by
  have h1:=h x (by simp)
  have e:(yR x).st.length=x.st.length+1:=rfl
  have e2:tB (FT b m) (yR x).st=tB b x.st:=by
   show tB (FT b m) (YV::x.st)=_
   rw[tB,aEH,aPP,aA (fun k=>k rfl),KD]
  have e3:(yR x).tm=x.tm:=rfl
  rw[eU,uG,uG,aA (by omega:¬65535<(yR x).st.length),aA (by omega:¬65535<x.st.length),e2,e3,aMG b m hm,aDE b m hm l fun y hy=>h y (gY _ hy)]
theorem aJp (b:cT) (m:List mP) (hm:m.length=b.bl.length):oI (FT b m)=oI b:=by
 unfold oI
 have h:(FT b m).bl.length=b.bl.length:=hm
 rw[h]
 rfl
theorem aJj (b:cT) (h:∀x∈b.bl,x.st.length<=60000):qJ (oR b)=qJ b:=by
 unfold qJ
 have e:oI (oR b)=oI b:=aJp b _ (by rw[bC])
 have e2:uG (oR b) (oR b).bl=uG b b.bl:=aDE b _ (by rw[bC]) b.bl h
 rw[e,e2]
theorem aDD (b:cT) (x:mP) (hs:tB b x.st=0) (hx:x.st.length<=60000) (ht:BU (FT b (b.bl++[x])) x.tm=0):∀l:List mP,uG b l=0->uG (FT b (b.bl++[x])) (l++[x])=0
 |[],_=>by
  rw[gZ,uG,aA (by omega),KD,hs,aA (fun k=>k rfl),ht,aA (fun k=>k rfl)]
  rfl
 |y::l,h=>by
  rw[uG] at h
  rw[gP,uG,KD]
  by_cases h1:65535<y.st.length
  ·rw[aE h1] at h;cases h
  rw[aA h1] at h ⊢
  by_cases h2:tB b y.st=0
  ·rw[aA (fun k=>k h2)] at h ⊢
   by_cases h3:BU b y.tm=0
   ·rw[aA (fun k=>k h3)] at h
    rw[aIk b _ (by rw[bN];omega) y.tm h3,aA (fun k=>k rfl)]
    exact aDD b x hs hx ht l h
   ·rw[aE h3] at h;exact absurd h h3
  ·rw[aE h2] at h;exact absurd h h2
theorem aJi (b:cT) (x:mP) (hs:tB b x.st=0) (hx:x.st.length<=60000) (ht:BU (FT b (b.bl++[x])) x.tm=0) (hl:b.bl.length+1<=65535) (h:qJ b=0):qJ (FT b (b.bl++[x]))=0:=by
 unfold qJ at h ⊢
 by_cases h1:oI b=0
 case neg=>rw[aE h1] at h;exact absurd h h1
 rw[aA (fun k=>k h1)] at h
 obtain⟨a1,a2,a3,a4,a5,a6,a7⟩:=JC h1
 have h2:oI (FT b (b.bl++[x]))=0:=by
  unfold oI
  have e:(FT b (b.bl++[x])).bl.length=b.bl.length+1:=by show(b.bl++[x]).length=_;rw[bN];rfl
  rw[aA (by show ¬x7 b.nm=false;rw[a1];decide),aA (by show ¬uO b.rg≠0;rw[a2];decide),aA (by show ¬jA b.ol b.rg.length≠0;rw[a3];decide),aA (by show ¬B4 b.ty b.rg.length≠0;rw[a4];decide),aA (by show ¬JX b≠0;rw[a5];decide),aA (by omega)]
 rw[h2,aA (fun k=>k rfl)]
 exact aDD b x hs hx ht b.bl h
def aOw:List D:=[i64 2,i64 0,.val (.slice none 0 0),i64 0,i64 0,i64 0,.val (.bool false),i64 0,.val (.slice none 0 0),.val (.slice none 0 0),i64 0]
theorem aHs:yK aOw (vV YV):=⟨dQ _,dQ _,fR,dQ _,dQ _,dQ _,dQ _,dQ _,fR,fR,dQ _,trivial⟩
def bkN (x:mP):List D:=[.seq 11 (aOw::x.st.map vV),i64 x.tm.k,.seq 1 (x.tm.tg.map iD),.seq 4 (x.tm.ar.map jW),i64 x.tm.pl.lo,.seq 2 (x.tm.pl.pr.map pD),cX x.tm.nm]
theorem aJa (x:mP):yK (bkN x) (jP (yR x)):=⟨YI ⟨aHs,L1 _⟩,dQ _,dQ _,dQ _,dQ _,dQ _,dQ _,trivial⟩
theorem aAF:∀l:List mP,IQ (l.map bkN) ((l.map yR).map jP)
 |[]=>trivial
 |x::l=>⟨aJa x,aAF l⟩
theorem aLU:aHw YV:=by
 refine⟨by unfold L9 dO;decide,by unfold L9 dO;decide,by unfold dO;decide,fun o ho=>by simp [YV] at ho⟩
theorem aOz {b:cT} (ok:AG b) (sm:Sm b):AG (oR b):=by
 obtain⟨o1,o2,o3,o5,o6,o7⟩:=ok
 refine⟨o1,o2,o3,o5,by show dO (b.bl.map yR).length;rw[bC];exact o6,fun x hx=>?_⟩
 obtain⟨y,hy,rfl⟩:=eW.1 (show x∈b.bl.map yR from hx)
 have hs:=aBS sm y hy
 obtain⟨⟨h1,h2⟩,h3⟩:=o7 y hy
 refine⟨⟨by show dO (y.st.length+1);unfold dO;omega,fun s hs=>?_⟩,h3⟩
 rcases dJ.1 (show s∈YV::y.st from hs) with rfl|h
 ·exact aLU
 ·exact h2 s h
theorem aI2 {b:cT} {l:List mP} (sb:Sb b) (ok:AG (FT b l)) (h:∀x∈l,dO x.tm.nm.size):Sb (FT b l):=⟨ok,sb.nm,sb.rs,sb.ls,h⟩
theorem aGR {b:cT} {l:List mP} (ck:Ck b) (hl:dO l.length):Ck (FT b l):=⟨ck.wt,ck.rf,ck.wl,ck.ar,ck.tl,ck.ol,ck.oll,ck.rgl,ck.lcl,hl⟩
theorem aDZ {H H':aC} {b o sz i:Nat} {ty:TypeId} {els:List (List D)} {el el':List D} (hd:Dom H H') (hb:H' b=some (.row ty o sz els)) (h0:H b=none) (hi:els[i]?=some el) (hr:BV H (H'.del b) el el'):GB H H' (.ep b o sz i 0) (.rp el'):=fun w v hH hv=>by
 have h1:=XX (k:=0) hH hb hi hv
 rw[jB] at h1
 have mV:iK w (H'.del b):=hH.less (fun c x hc=>by
  by_cases e:c=b
  ·rw[e,tG] at hc;cases hc
  ·rwa[bS e] at hc)
 simp only[D.is] at h1 ⊢
 obtain⟨b2,o2,e3,e4,e5,e6⟩:=h1
 refine⟨b2,o2,e3,?_,e5,hr.at mV e6⟩
 by_cases e:b2=b
 ·rw[e];exact h0
 ·refine hd b2 ?_
  have:(H'.del b) b2=none:=e4
  rwa[bS e] at this
theorem aGk {b:cT} {l:List mP} {H:aC} {c:Nat} {T:TypeId} {d6:D} {els:List (List D)} {ob:Option Nat} (hc:H c=some (.row T 0 7 [[cX b.nm,.seq 1 (b.rg.map sD),.seq 2 (b.ol.map pD),.seq 5 (b.ty.map cP),.seq 2 (b.lc.map mN),i64 b.ag,d6]])) (kN:ob≠some c) (hg:Gl aC.none 40 7 els d6 H ob) (hi:IQ els (l.map jP)):GB aC.none H (.ep c 0 7 0 0) (.rp (iS (FT b l))):=
 aDZ (fun _ _=>rfl) hc rfl rfl ⟨aH (iY _),aH (iY _),aH (iY _),aH (iY _),aH (iY _),aH (iY _),(qL (iY _) (hg.fS fun c' e=>bS fun e2=>kN (by rw[e,e2]))).imp (YI hi),trivial⟩
theorem aNk {b:cT} {m:List (Int×Int)} {H:aC} {c:Nat} {T:TypeId} {d2:D} {ob:Option Nat} (hc:H c=some (.row T 0 7 [[cX b.nm,.seq 1 (b.rg.map sD),d2,.seq 5 (b.ty.map cP),.seq 2 (b.lc.map mN),i64 b.ag,.seq 7 (b.bl.map jP)]])) (kN:ob≠some c) (hg:Gl aC.none 48 2 (m.map pD) d2 H ob):GB aC.none H (.ep c 0 7 0 0) (.rp (iS ⟨b.nm,b.rg,m,b.ty,b.lc,b.ag,b.bl⟩)):=
 aDZ (fun _ _=>rfl) hc rfl rfl ⟨aH (iY _),aH (iY _),qL (iY _) (hg.fS fun c' e=>bS fun e2=>kN (by rw[e,e2])),aH (iY _),aH (iY _),aH (iY _),aH (iY _),trivial⟩
end Go.Proofs.YtfiipaodjpiooaaGreatDoor

