/- Lemmas and contracts of functions, several texts in one. -/
import Derived.Test.YtelbfbioomcmeaaGreatDoorQ13
import Derived.Test.YtelbfbioomcmeaaGreatDoorQ22
set_option maxRecDepth 100000
set_option maxHeartbeats 4000000
set_option linter.all false
namespace Go.Proofs.YtelbfbioomcmeaaGreatDoor
open Go.RowKit
def BU (t:cQ):List Int:=if t.k=3 then [t.e] else t.ar
def aE9 (t:cQ):List Int:=t.ar
inductive VB (RX:cQ->List Int) (ts:List cQ):Int->Int->Prop
 |refl (a:Int):VB RX ts a a
 |step {a p b:Int} (h:p∈RX (cJ ts a)) (h2:VB RX ts p b):VB RX ts a b
theorem VB.iff {RX:cQ->List Int} {ts:List cQ} {a b:Int}:VB RX ts a b↔a=b\/∃p∈RX (cJ ts a),VB RX ts p b:=by
 constructor
 ·intro h
  cases h with
  |refl=>exact .inl rfl
  |step h h2=>exact .inr ⟨_,h,h2⟩
 ·rintro(rfl|⟨p,hp,h⟩)
  ·exact .refl _
  ·exact .step hp h
theorem VB.trans {RX:cQ->List Int} {ts:List cQ} {a b c:Int} (h:VB RX ts a b):VB RX ts b c->VB RX ts a c:=by
 induction h with
 |refl=>exact id
 |step h _ ih=>exact fun h3=>.step h (ih h3)
def Dn (RX:cQ->List Int) (ts:List cQ):Prop:=∀a,dG ts.length a->∀p∈RX (cJ ts a),0<=p/\p<a
theorem Dn.A {ts:List cQ} (hw:vY ts):Dn BU ts:=fun a ha p hp=>by
 have:=v7 hw ha
 unfold BU at hp
 split at hp
 ·rename_i h3
  rw[eS] at hp
  rw[hp]
  exact this.1 h3
 ·exact this.2 p hp
theorem Dn.F {ts:List cQ} (hw:vY ts):Dn aE9 ts:=fun a ha p hp=>(v7 hw ha).2 p hp
theorem VB.le {RX:cQ->List Int} {ts:List cQ} (hd:Dn RX ts) {a b:Int} (h:VB RX ts a b):dG ts.length a->0<=b/\b<=a:=by
 induction h with
 |refl=>exact fun ha=>⟨ha.1,pU _⟩
 |step hp _ ih=>
  intro ha
  have h1:=hd _ ha _ hp
  have h2:=ih ⟨h1.1,Int.lt_trans h1.2 ha.2⟩
  exact⟨h2.1,by omega⟩
def Cop (ts:List cQ) (i:Int):Prop:=dG ts.length i/\∀b,VB aE9 ts i b->¬((cJ ts b).k=3/\(cJ ts b).m=true)
open Classical in
noncomputable def lN (ts:List cQ) (i:Int):Bool:=decide (Cop ts i)
theorem xO {ts:List cQ} {i:Int}:lN ts i=true↔Cop ts i:=by simp [lN]
theorem tX {ts:List cQ} {i:Int}:lN ts i=false↔¬Cop ts i:=by simp [lN]
theorem VM {ts:List cQ} (hw:vY ts) {i:Int} (hi:dG ts.length i):Cop ts i↔¬((cJ ts i).k=3/\(cJ ts i).m=true)/\∀p∈(cJ ts i).ar,Cop ts p:=by
 have hd:=Dn.F hw
 constructor
 ·rintro⟨_,h⟩
  refine⟨h i (.refl _),fun p hp=>?_⟩
  have:=hd i hi p hp
  exact⟨⟨this.1,Int.lt_trans this.2 hi.2⟩,fun b hb=>h b (.step hp hb)⟩
 ·rintro⟨h1,h2⟩
  refine⟨hi,fun b hb=>?_⟩
  rcases VB.iff.1 hb with rfl|⟨p,hp,h⟩
  ·exact h1
  ·exact(h2 p hp).2 b h
def eV (p:pO):Bool:=decide (p.lo=0)&&decide (p.pr.length=0)
def qI (b:iF) (p:pO):Int×Int:=bU b.ty b.lc p
noncomputable def qS (b:iF) (o:tE):Int:=
 if o.k<0\/4<o.k then 14
 else if (o.n≠0/\o.k≠2/\o.k≠3)\/(1<o.k/\eV o.pl=false) then 2
 else if o.k=3/\o.n≠0/\o.n≠1 then 3
 else if 1<o.k then 0
 else if (qI b o.pl).2≠0 then (qI b o.pl).2
 else if (o.k=0/\lN b.ty (qI b o.pl).1=false)\/(o.k=1/\tL o.pl 0=true) then 22 else 0
def B6 (b:iF) (o:tE):Int:=if o.k=2 then 2 else if o.k=3 then 1 else if o.k=4 then 0 else (cJ b.ty (qI b o.pl).1).k
noncomputable def uB (b:iF) (o:tE) (t:Int):Bool:=if 1<o.k then decide (B6 b o=(cJ b.ty t).k) else GH b.ol b.rg.length b.ty (qI b o.pl).1 t
noncomputable def fX (b:iF):List tE->List Int->Int
 |[],_=>0
 |o::l,fs=>if qS b o≠0 then qS b o else match fs with
  |[]=>fX b l []
  |f::fs=>if uB b o f=false then 22 else fX b l fs
def unE (op:Int):Int×Int:=if op=0 then (2,2) else (1,1)
def TH (op:Int):Int×Int:=if op=5 then (1,1) else if 3<=op then (2,1) else (2,2)
noncomputable def yC (b:iF) (r:HN) (t:Int) (n:Int) (x:Int×Int):Int:=
 if r.op<0\/n<=r.op then 14
 else if fX b r.ar []≠0 then fX b r.ar []
 else if (r.ar.all fun o=>decide (B6 b o=x.1))=false then 22
 else if (cJ b.ty t).k≠x.2 then 22 else 0
noncomputable def J9 (b:iF) (r:HN) (t:Int):Int:=
 if (qI b r.pl).2≠0 then (qI b r.pl).2
 else if r.rg<0\/(b.rg.length:Int)<=r.rg then 3
 else if (cJ b.ty t).k≠3\/(cJ b.ty t).r≠r.rg\/(cJ b.ty t).m≠r.mu\/(cJ b.ty t).e≠(qI b r.pl).1\/(r.mu=true/\sP b.ty b.lc r.pl=false) then 22
 else if ((EO b.ty b.lc r.pl).all fun q=>j5 b.ol b.rg.length q r.rg)=false then 22 else 0
def KQ (r:HN):Bool:=
 if r.k=1 then decide (r.op=0)&&decide (r.ar.length=0)
 else (decide (r.rg=0)&& !r.mu&&eV r.pl)&&(if r.k=0 then decide (r.op=0)&&decide (r.ar.length=1) else if r.k=2 then decide (r.ar.length=1) else if r.k=3 then decide (r.ar.length=2) else decide (r.op=0))
noncomputable def rvE (b:iF) (r:HN) (t:Int):Int:=
 if r.k<0\/4<r.k then 14
 else if KQ r=false then 2
 else if r.k=0 then fX b r.ar [t]
 else if r.k=1 then J9 b r t
 else if r.k=2 then yC b r t 2 (unE r.op)
 else if r.k=3 then yC b r t 6 (TH r.op)
 else if (cJ b.ty t).k≠4\/(cJ b.ty t).ar.length≠r.ar.length then 22 else fX b r.ar (cJ b.ty t).ar
def DC (b:iF) (p:pO):Int:=if (qI b p).2≠0 then (qI b p).2 else if sP b.ty b.lc p=false then 22 else 0
def PS (s:StS):Bool:=eV s.pl&&(decide (s.rv.k=0)&&decide (s.rv.op=0)&&decide (s.rv.ar.length=0)&&decide (s.rv.rg=0)&& !s.rv.mu&&eV s.rv.pl)
noncomputable def stE (b:iF) (s:StS):Int:=
 if s.k=0 then (if s.lo≠0 then 2 else if DC b s.pl≠0 then DC b s.pl else rvE b s.rv (qI b s.pl).1)
 else if s.k=1 then (if PS s=false then 2 else if s.lo<0\/(b.lc.length:Int)<=s.lo then 3 else 0)
 else if s.k=2 then (if PS s=false\/s.lo≠0 then 2 else 0)
 else 14
def xU (t:PM):Bool:=
 if t.k=0 then (decide (t.tg.length=1)&&decide (t.ar.length=0))&&eV t.pl&&decide (t.nm=ByteArray.empty)
 else if t.k=1 then (decide (t.tg.length=2)&&decide (t.ar.length=1))&&eV t.pl&&decide (t.nm=ByteArray.empty)
 else if t.k=3 then decide (t.tg.length=1)
 else if t.k=4 then (decide (t.tg.length=1)&&decide (t.ar.length=0))&&decide (t.nm=ByteArray.empty)
 else (decide (t.tg.length=0)&&decide (t.ar.length=0))&&eV t.pl&&decide (t.nm=ByteArray.empty)
def LU (t:PM):tE:=t.ar.getD 0 ⟨0,⟨0,[]⟩,0⟩
noncomputable def tmE (b:iF) (t:PM):Int:=
 if t.k<0\/5<t.k then 14
 else if xU t=false then 2
 else if (t.tg.all fun x=>decide (dG b.bl.length x))=false then 3
 else if t.k=1 then (if qS b (LU t)≠0 then qS b (LU t) else if B6 b (LU t)≠1 then 22 else 0)
 else if t.k=3 then (if qO t.nm=false then 12 else if 65535<t.ar.length then 15 else if fX b t.ar []≠0 then fX b t.ar [] else DC b t.pl)
 else if t.k=4 then (if (qI b t.pl).2≠0 then (qI b t.pl).2 else if tL t.pl 0=true then 22 else 0)
 else 0
def GC (seen:List ByteArray):List ByteArray->Int
 |[]=>0
 |s::l=>if qO s=false then 12 else if FM seen s<seen.length then 21 else GC (seen++[s]) l
def qR (l:List ByteArray):Int:=if 65535<l.length then 15 else GC [] l
def xZ (n:Nat) (seen:List ByteArray):List tD->Int
 |[]=>0
 |x::l=>if qO x.nm=false then 12 else if FM seen x.nm<seen.length then 21 else if ¬dG n x.ty then 3 else xZ n (seen++[x.nm]) l
def EJ (b:iF):Int:=if 65535<b.lc.length then 15 else if xZ b.ty.length [] b.lc≠0 then xZ b.ty.length [] b.lc else if b.ag<0\/(b.lc.length:Int)<b.ag then 3 else 0
noncomputable def tY (b:iF):Int:=
 if qO b.nm=false then 12
 else if qR b.rg≠0 then qR b.rg
 else if iI b.ol b.rg.length≠0 then iI b.ol b.rg.length
 else if wV b.ty b.rg.length≠0 then wV b.ty b.rg.length
 else if EJ b≠0 then EJ b
 else if b.bl.length=0\/65535<b.bl.length then 15 else 0
noncomputable def GG (b:iF):List StS->Int
 |[]=>0
 |s::l=>if stE b s≠0 then stE b s else GG b l
noncomputable def J8 (b:iF):List BkS->Int
 |[]=>0
 |x::l=>if 65535<x.st.length then 15 else if GG b x.st≠0 then GG b x.st else if tmE b x.tm≠0 then tmE b x.tm else J8 b l
noncomputable def DY (b:iF):Int:=if tY b≠0 then tY b else J8 b b.bl
structure a0L (b:iF):Prop where
 wt:vY b.ty
 wl:S7 b.ty b.lc
 ol:∀p∈b.ol,dG b.rg.length p.1/\dG b.rg.length p.2
 cr:iI b.ol b.rg.length=0
theorem aCB {ts:List cQ}:∀{l:List tD} {seen:List ByteArray},xZ ts.length seen l=0->S7 ts l
 |[],_,_=>fun x h=>by cases h
 |y::l,seen,h=>fun x hx=>by
  simp only[xZ] at h
  split at h
  ·cases h
  ·split at h
   ·cases h
   ·split at h
    ·cases h
    ·rename_i h3
     rcases eG.1 hx with rfl|hx
     ·exact kF h3
     ·exact aCB h x hx
structure AE (m:List (Value×D)) (f:ByteArray->Option D):Prop where
 keys:∀p∈m,∃s:ByteArray,fC s.size/\p.1=.string s
 get:∀s:ByteArray,mQ m (.string s)=f s
theorem AE.nil:AE [] fun _=>Option.none:=⟨(fun p hp=>by cases hp),(fun x=>rfl)⟩
theorem AE.set {m:List (Value×D)} {f:ByteArray->Option D} (h:AE m f) {x:ByteArray} (hx:fC x.size) (d:D):AE (gI m (.string x) d) fun y=>if y=x then some d else f y where
 keys:=fun p hp=>by
  rcases CZ hp with rfl|hp
  ·exact⟨x,hx,rfl⟩
  ·exact h.keys p hp
 get:=fun y=>by
  by_cases e:y=x
  ·subst e;rw[lX,aH rfl]
  ·rw[rI _ _ (fun he=>e (by injection he with he;exact he.symm)),aD e];exact h.get y
theorem LI {P:Program} {k:TypeId} (hk:P.underlying k=some .string) {x:ByteArray} (hx:fC x.size):∃l,keyOf P k (.string x)=some l:=by
 unfold keyOf
 rw[hk]
 simp only[mapKey,hk]
 unfold fC at hx
 rw[aH (by unfold maxLen;omega)]
 exact⟨_,rfl⟩
theorem AE.ok {P:Program} {k:TypeId} (hk:P.underlying k=some .string) {m:List (Value×D)} {f:ByteArray->Option D} (h:AE m f) {x:ByteArray} (hx:fC x.size):kOK P k m (.string x):=
 ⟨Go.Maps.string_keyed hk,LI hk hx,fun p hp=>by obtain⟨y,hy,e⟩:=h.keys p hp;rw[e];exact LI hk hy⟩
theorem AE.congr {m:List (Value×D)} {f g:ByteArray->Option D} (h:AE m f) (he:∀x,f x=g x):AE m g:=⟨h.keys,fun x=>(h.get x).trans (he x)⟩
open Classical in
noncomputable def u4 (S:List ByteArray) (x:ByteArray):Option D:=if x∈S then some (.val (.bool true)) else none
theorem L2 (x:ByteArray):none=u4 [] x:=by unfold u4;rw[aD (by simp)]
theorem JE (y:ByteArray) (S:List ByteArray) (x:ByteArray):(if x=y then some (D.val (.bool true)) else u4 S x)=u4 (S++[y]) x:=by
 unfold u4
 by_cases h:x=y
 ·rw[aH h,aH (by rw[h];simp)]
 ·rw[aD h]
  by_cases h2:x∈S
  ·rw[aH h2,aH (by simp [h2])]
  ·rw[aD h2,aD (by simp [h,h2])]
open Tryz
theorem aEY (l:List ByteArray) (H:aA) (hl:fC l.length) (hs:∀s∈l,fC s.size):aT prog 157 [.seq 1 (l.map sD)] H fun d H'=>d=i64 (qR l)/\H=H':=by
 refine bM (K:=fun d=>d=i64 (qR l)) ?_
 have aR:=aE H
 have cI:=lm sD l
 unfold fC at hl
 refine aN _ _ func157 rfl rfl ntmps157 results157 (by simp) fun w0 g0 Q aC=>?_
 by_cases h1:65535<l.length
 ·have q1:((65535:Int)<(l.length:Int))=True:=aK (by omega)
  have e:qR l=15:=aH h1
  refine tq (cZ cI q1) ?_;intro Nx aB Gx aG
  refine rt aC trivial ?_
  exact⟨_,aE _,aR,_,aJ aR,by rw[e]⟩
 have q1:((65535:Int)<(l.length:Int))=False:=aI (by omega)
 have e:qR l=GC [] l:=aD h1
 refine tq (cZ cI q1) ?_;intro Nx aB Gx aG
 intro c3 mH
 refine aB _ ?_
 have aGk:(H.bH c3 (.map [])) c3=some (.map []):=aQ _ _ _
 refine tq cI ?_;intro Nx aB Gx aG
 refine bB l.length (fun i s=>s.df=[]/\s.fr 3=.val (.map (some c3))/\s.fr 10=.seq 1 (l.map sD)/\s.fr 11=i64 l.length/\s.fr 12=i64 i/\H.le s.H/\∃M,s.H c3=some (.map M)/\AE M (u4 (l.take i))/\GC [] l=GC (l.take i) (l.drop i)) ⟨rfl,rfl,rfl,rfl,rfl,nH aR mH,[],aGk,AE.nil.congr L2,rfl⟩ ?_
 rintro i s hi ⟨bG,f3,f10,f11,f12,aX,M,hM,hS,ha⟩
 have hx:=bL i
 have cL:=bY i
 by_cases aZ:i<l.length
 case neg=>
  have q6:=lF i l.length (by omega)
  rw[dX (by omega)] at ha
  refine tq (dZ f11 f12 q6) ?_;intro Nx aB Gx aG
  refine rt aC bG ?_
  exact⟨_,aE _,aX,_,aJ aX,by rw[e,ha] <;> rfl⟩
 have cN:(i:Int)<(l.length:Int):=by omega
 have q6:((i:Int)<(l.length:Int))=True:=aK cN
 have w3:=wS i (by omega)
 have b8:=jG aZ
 have QK:=hs l[i] (bZ aZ)
 rw[dI aZ,GC] at ha
 have uX:=dH aZ
 obtain⟨x,T9⟩:∃x,x=l[i]:=⟨_,rfl⟩
 rw[<-T9] at b8 QK ha uX
 have hid:=EH x s.H QK
 simp only[bX] at hid
 obtain⟨v,hv⟩:∃v,v=qO x:=⟨_,rfl⟩
 rw[<-hv] at hid ha
 refine tq (pE f3 f10 f11 f12 cI q6 b8 hx cL aZ cN) ?_;intro Nx aB Gx aG
 refine hid.mono ?_
 rintro d _ ⟨rfl,rfl⟩
 cases v
 ·rw[aH rfl] at ha
  refine tq trivial ?_;intro Nx aB Gx aG
  refine rt aC bG ?_
  exact⟨_,aE _,aX,_,aJ aX,by rw[e,ha] <;> rfl⟩
 rw[aD (fun h=>by cases h)] at ha
 have hk:=hS.ok (P:=prog) underlying9 QK
 have PA:=hS.get x
 by_cases hm:x∈l.take i
 ·rw[show u4 (l.take i) x=some (.val (.bool true)) from aH hm] at PA
  rw[aH (qP.2 hm)] at ha
  refine tq (dZ f3 hM PA) ?_;intro Nx aB Gx aG
  refine⟨hk,?_⟩
  refine tq trivial ?_;intro Nx aB Gx aG
  refine rt aC bG ?_
  exact⟨_,aE _,aX,_,aJ aX,by rw[e,ha] <;> rfl⟩
 rw[show u4 (l.take i) x=none from aD hm] at PA
 rw[aD (fun h=>hm (qP.1 h))] at ha
 refine tq (dZ f3 hM PA) ?_;intro Nx aB Gx aG
 refine⟨hk,?_⟩
 refine tq (cZ f3 hM) ?_;intro Nx aB Gx aG
 refine⟨hk,?_⟩
 have hMy:AE (gI M (.string x) (.val (.bool true))) (u4 (l.take i++[x])):=(hS.set QK (.val (.bool true))).congr (JE x _)
 obtain⟨M4,hM4⟩:∃M4,M4=gI M (.string x) (.val (.bool true)):=⟨_,rfl⟩
 rw[<-hM4] at hMy ⊢
 have hm4:(s.H.bH c3 (.map M4)) c3=some (.map M4):=aQ _ _ _
 have mP:H.le (s.H.bH c3 (.map M4)):=bQ aX mH
 refine tq (cZ f12 w3) ?_;intro Nx aB Gx aG
 exact⟨aZ,bG,f3,f10,f11,rfl,mP,M4,hm4,by rw[uX];exact hMy,by rw[ha,uX]⟩
theorem aCA {l:List tD} {i:Nat} (h:i<l.length):(l.map lI)[i]?=some (lI l[i]):=by
 rw[cR,cP h];rfl
theorem lK (b:iF):iG b=[bX b.nm,.seq 1 (b.rg.map sD),.seq 2 (b.ol.map pD),.seq 5 (b.ty.map cE),.seq 2 (b.lc.map lI),i64 b.ag,.seq 7 (b.bl.map rE)]:=rfl
theorem aCD (b:iF) (H:aA) (hl:fC b.lc.length) (hs:∀x∈b.lc,fC x.nm.size):aT prog 160 [.agg (iG b)] H fun d H'=>d=i64 (EJ b)/\H=H':=by
 refine bM (K:=fun d=>d=i64 (EJ b)) ?_
 have aR:=aE H
 have cI:=lm lI b.lc
 have iX:=lm cE b.ty
 unfold fC at hl
 obtain⟨y,hy⟩:∃y,y=EJ b:=⟨_,rfl⟩
 rw[<-hy]
 unfold EJ at hy
 rw[lK]
 refine aN _ _ func160 rfl rfl ntmps160 results160 (by simp) fun w0 g0 Q aC=>?_
 refine tq trivial ?_;intro Nx aB Gx aG
 intro c1 l9
 refine aB _ ?_
 refine fW 1 l9 ?_
 by_cases h1:65535<b.lc.length
 ·have q1:((65535:Int)<(b.lc.length:Int))=True:=aK (by omega)
  have e:y=15:=hy.trans (aH h1)
  refine tq (cZ cI q1) ?_;intro Nx aB Gx aG
  refine rt aC trivial ?_
  exact⟨_,aE _,aR,_,aJ aR,by rw[e]⟩
 have q1:((65535:Int)<(b.lc.length:Int))=False:=aI (by omega)
 rw[aD h1] at hy
 refine tq (cZ cI q1) ?_;intro Nx aB Gx aG
 intro c3 mH
 refine aB _ ?_
 have aGk:(H.bH c3 (.map [])) c3=some (.map []):=aQ _ _ _
 refine tq cI ?_;intro Nx aB Gx aG
 refine bB b.lc.length (fun i s=>s.df=[]/\s.fr 1=.rp [bX b.nm,.seq 1 (b.rg.map sD),.seq 2 (b.ol.map pD),.seq 5 (b.ty.map cE),.seq 2 (b.lc.map lI),i64 b.ag,.seq 7 (b.bl.map rE)]/\s.fr 3=.val (.map (some c3))/\s.fr 12=.seq 2 (b.lc.map lI)/\s.fr 13=i64 b.lc.length/\s.fr 14=i64 i/\H.le s.H/\∃M S,s.H c3=some (.map M)/\AE M (u4 S)/\xZ b.ty.length [] b.lc=xZ b.ty.length S (b.lc.drop i)) ⟨rfl,rfl,rfl,rfl,rfl,rfl,nH aR mH,[],[],aGk,AE.nil.congr L2,rfl⟩ ?_
 rintro i s hi ⟨bG,f1,f3,f12,f13,f14,aX,M,S,hM,hS,ha⟩
 have hx:=bL i
 have cL:=bY i
 by_cases aZ:i<b.lc.length
 case neg=>
  have q6:=lF i b.lc.length (by omega)
  rw[dX (by omega),xZ] at ha
  rw[ha,aD (fun h=>h rfl)] at hy
  by_cases h2:b.ag<0
  ·have q2:(b.ag<0)=True:=aK h2
   have e:y=3:=hy.trans (aH (.inl h2))
   refine tq (gE f1 f13 f14 q6 q2) ?_;intro Nx aB Gx aG
   refine rt aC bG ?_
   exact⟨_,aE _,aX,_,aJ aX,by rw[e] <;> rfl⟩
  have q2:(b.ag<0)=False:=aI h2
  by_cases h3:(b.lc.length:Int)<b.ag
  ·have q3:((b.lc.length:Int)<b.ag)=True:=aK h3
   have e:y=3:=hy.trans (aH (.inr h3))
   refine tq (lM f1 f13 f14 q6 q2 q3 cI) ?_;intro Nx aB Gx aG
   refine rt aC bG ?_
   exact⟨_,aE _,aX,_,aJ aX,by rw[e] <;> rfl⟩
  have q3:((b.lc.length:Int)<b.ag)=False:=aI h3
  have e:y=0:=hy.trans (aD (by omega))
  refine tq (lM f1 f13 f14 q6 q2 q3 cI) ?_;intro Nx aB Gx aG
  refine rt aC bG ?_
  exact⟨_,aE _,aX,_,aJ aX,by rw[e] <;> rfl⟩
 have cN:(i:Int)<(b.lc.length:Int):=by omega
 have q6:((i:Int)<(b.lc.length:Int))=True:=aK cN
 have w3:=wS i (by omega)
 have b8:=aCA aZ
 have QK:=hs b.lc[i] (bZ aZ)
 rw[dI aZ,xZ] at ha
 obtain⟨x,T9⟩:∃x,x=b.lc[i]:=⟨_,rfl⟩
 rw[<-T9] at b8 QK ha
 clear T9
 obtain⟨x,xt⟩:=x
 simp only at QK ha
 simp only[lI,bX] at b8
 have hid:=EH x s.H QK
 simp only[bX] at hid
 obtain⟨v,hv⟩:∃v,v=qO x:=⟨_,rfl⟩
 rw[<-hv] at hid ha
 have bad:∀z:Int,z≠0->xZ b.ty.length [] b.lc=z->y=z:=fun z hz h=>by rw[h,aH hz] at hy;exact hy
 refine tq (pE f3 f12 f13 f14 cI q6 b8 hx cL aZ cN) ?_;intro Nx aB Gx aG
 intro c5 pT
 refine aB _ ?_
 refine fW 5 pT ?_
 refine tq trivial ?_;intro Nx aB Gx aG
 refine hid.mono ?_
 rintro d _ ⟨rfl,rfl⟩
 cases v
 ·rw[aH rfl] at ha
  have e:=bad 12 (by decide) ha
  refine tq trivial ?_;intro Nx aB Gx aG
  refine rt aC bG ?_
  exact⟨_,aE _,aX,_,aJ aX,by rw[e] <;> rfl⟩
 rw[aD (fun h=>by cases h)] at ha
 have hk:=hS.ok (P:=prog) underlying9 QK
 have PA:=hS.get x
 by_cases hm:x∈S
 ·rw[show u4 S x=some (.val (.bool true)) from aH hm] at PA
  rw[aH (qP.2 hm)] at ha
  have e:=bad 21 (by decide) ha
  refine tq (dZ f3 hM PA) ?_;intro Nx aB Gx aG
  refine⟨hk,?_⟩
  refine tq trivial ?_;intro Nx aB Gx aG
  refine rt aC bG ?_
  exact⟨_,aE _,aX,_,aJ aX,by rw[e] <;> rfl⟩
 rw[show u4 S x=none from aD hm] at PA
 rw[aD (fun h=>hm (qP.1 h))] at ha
 by_cases h2:xt<0
 ·have q2:(xt<0)=True:=aK h2
  rw[aH (by unfold dG;omega)] at ha
  have e:=bad 3 (by decide) ha
  refine tq (dZ f3 hM PA) ?_;intro Nx aB Gx aG
  refine⟨hk,?_⟩
  refine tq (cZ f1 q2) ?_;intro Nx aB Gx aG
  refine rt aC bG ?_
  exact⟨_,aE _,aX,_,aJ aX,by rw[e] <;> rfl⟩
 have q2:(xt<0)=False:=aI h2
 by_cases h3:(b.ty.length:Int)<=xt
 ·have q3:(xt≥(b.ty.length:Int))=True:=aK h3
  rw[aH (by unfold dG;omega)] at ha
  have e:=bad 3 (by decide) ha
  refine tq (dZ f3 hM PA) ?_;intro Nx aB Gx aG
  refine⟨hk,?_⟩
  refine tq (fJ f1 q2 q3 iX) ?_;intro Nx aB Gx aG
  refine rt aC bG ?_
  exact⟨_,aE _,aX,_,aJ aX,by rw[e] <;> rfl⟩
 have q3:(xt≥(b.ty.length:Int))=False:=aI h3
 rw[aD (by unfold dG;omega)] at ha
 refine tq (dZ f3 hM PA) ?_;intro Nx aB Gx aG
 refine⟨hk,?_⟩
 refine tq (jA f1 f3 hM q2 q3 iX) ?_;intro Nx aB Gx aG
 refine⟨hk,?_⟩
 have hMy:AE (gI M (.string x) (.val (.bool true))) (u4 (S++[x])):=(hS.set QK (.val (.bool true))).congr (JE x _)
 obtain⟨M4,hM4⟩:∃M4,M4=gI M (.string x) (.val (.bool true)):=⟨_,rfl⟩
 rw[<-hM4] at hMy ⊢
 have hm4:(s.H.bH c3 (.map M4)) c3=some (.map M4):=aQ _ _ _
 have mP:H.le (s.H.bH c3 (.map M4)):=bQ aX mH
 refine tq (cZ f14 w3) ?_;intro Nx aB Gx aG
 exact⟨aZ,bG,f1,f3,f12,f13,rfl,mP,M4,_,hm4,hMy,ha⟩
theorem yU {l:List (Int×Int)} {i:Nat} (h:i<l.length):(l.map pD)[i]?=some [.val (.int .i64 l[i].1),.val (.int .i64 l[i].2)]:=by
 rw[cR,cP h];rfl
theorem HS {l:List (Int×Int)} {i:Nat} (h:i<l.length):pY (l.drop i)=if KA l[i]≠0 then KA l[i] else pY (l.drop (i+1)):=by
 rw[dI h];rfl
theorem aCR (p:pO) (H:aA) (hp:fC p.pr.length):aT prog 150 [.agg (kT p)] H fun d H'=>d=i64 (iJ p)/\H=H':=by
 unfold fC at hp
 have cI:=lm pD p.pr
 refine bM (K:=fun d=>d=i64 (iJ p)) ?_
 refine aN _ _ func150 rfl rfl ntmps150 results150 (by simp) fun w0 g0 Q aC=>?_
 refine tq @kT.eq_1 ?_;intro Nx aB Gx aG
 intro c1 l9
 refine aB _ ?_
 refine fW 1 l9 ?_
 by_cases h0:p.lo<0
 ·have p1:(p.lo<0)=True:=aK h0
  have hd:iJ p=3:=aH h0
  refine tq p1 ?_;intro Nx aB Gx aG
  refine rt aC trivial ?_
  exact⟨_,aE _,aE _,_,aJ (aE _),by rw[hd]⟩
 have p1:(p.lo<0)=False:=aI h0
 by_cases h1:32<p.pr.length
 ·have p2:((p.pr.length:Int)>32)=True:=aK (by omega)
  have hd:iJ p=19:=by unfold iJ;rw[aD h0,aH h1]
  refine tq (dZ p1 cI p2) ?_;intro Nx aB Gx aG
  refine rt aC trivial ?_
  exact⟨_,aE _,aE _,_,aJ (aE _),by rw[hd]⟩
 have p2:((p.pr.length:Int)>32)=False:=aI (by omega)
 have hd:iJ p=pY p.pr:=by unfold iJ;rw[aD h0,aD h1]
 rw[hd] at aC
 refine tq (dZ p1 cI p2) ?_;intro Nx aB Gx aG
 refine bB p.pr.length (fun i s=>s.df=[]/\s.fr 15=.seq 2 (p.pr.map pD)/\s.fr 16=i64 p.pr.length/\s.fr 17=i64 i/\H.le s.H/\pY p.pr=pY (p.pr.drop i)) ⟨rfl,rfl,rfl,rfl,aE _,rfl⟩ ?_
 rintro i s hi ⟨bG,f15,f16,f17,aR,fF⟩
 have hx:=bL i
 have cL:=bY i
 by_cases aZ:i<p.pr.length
 case neg=>
  have q1:=lF i p.pr.length (by omega)
  rw[dX (by omega)] at fF
  refine tq (fJ f15 f16 f17 q1) ?_;intro Nx aB Gx aG
  refine rt aC bG ?_
  exact⟨_,aE _,aR,_,aJ aR,by rw[fF] <;> rfl⟩
 have cN:(i:Int)<(p.pr.length:Int):=by omega
 have q1:((i:Int)<(p.pr.length:Int))=True:=aK cN
 have w3:=wS i (by omega)
 have b8:=yU aZ
 rw[HS aZ] at fF
 rcases he:p.pr[i] with⟨k,f⟩
 rw[he] at fF b8
 simp only at b8
 refine tq (yP f15 f16 f17 q1 cI b8 hx cL aZ) ?_;intro Nx aB Gx aG
 intro c4 wQ
 refine aB _ ?_
 have aGl:H c4=none:=by
  cases e:H c4 with
  |none=>rfl
  |some y=>rw[aR c4 y e] at wQ;cases wQ
 have mP:=bQ (x:=.row 154 0 2 [[i64 k,i64 f]]) aR aGl
 have z4:(s.H.bH c4 (.row 154 0 2 [[i64 k,i64 f]])) c4=some (.row 154 0 2 [[i64 k,i64 f]]):=aQ _ _ _
 have iQ:KA (k,f)=if k≠0/\k≠1 then 14 else if k=0/\f≠0 then 2 else if f<0 then 3 else 0:=rfl
 rcases SH (k=0) with⟨_,k0,⟨rfl,h0⟩|⟨rfl,h0⟩⟩
 ·rcases SH (f=0) with⟨_,f0,⟨rfl,h1⟩|⟨rfl,h1⟩⟩
  ·have f1:(f<0)=False:=aI (by omega)
   rw[aD (fun h=>h.1 h0),aD (fun h=>h.2 h1),aD (by omega)] at iQ
   rw[aD (fun h=>h iQ)] at fF
   refine tq (qN f15 f16 f17 w3 k0 z4 f0 f1) ?_;intro Nx aB Gx aG;exact⟨aZ,bG,f15,f16,rfl,mP,fF⟩
  ·rw[aD (fun h=>h.1 h0),aH ⟨h0,h1⟩] at iQ
   rw[aH (by rw[iQ];decide),iQ] at fF
   refine tq (lM f15 f16 f17 w3 k0 z4 f0) ?_;intro Nx aB Gx aG;refine rt aC bG ?_;exact⟨_,aE _,mP,_,aJ mP,by rw[fF] <;> rfl⟩
 rcases SH (k=1) with⟨_,k1,⟨rfl,h2⟩|⟨rfl,h2⟩⟩
 case inr=>
  rw[aH ⟨h0,h2⟩] at iQ
  rw[aH (by rw[iQ];decide),iQ] at fF
  refine tq (lM f15 f16 f17 w3 k0 z4 k1) ?_;intro Nx aB Gx aG;refine rt aC bG ?_;exact⟨_,aE _,mP,_,aJ mP,by rw[fF] <;> rfl⟩
 rcases SH (f<0) with⟨_,f1,⟨rfl,h1⟩|⟨rfl,h1⟩⟩
 ·rw[aD (fun h=>h.2 h2),aD (fun h=>h0 h.1),aH h1] at iQ
  rw[aH (by rw[iQ];decide),iQ] at fF
  refine tq (qN f15 f16 f17 w3 k0 z4 k1 f1) ?_;intro Nx aB Gx aG;refine rt aC bG ?_;exact⟨_,aE _,mP,_,aJ mP,by rw[fF] <;> rfl⟩
 ·rw[aD (fun h=>h.2 h2),aD (fun h=>h0 h.1),aD h1] at iQ
  rw[aD (fun h=>h iQ)] at fF
  refine tq (qN f15 f16 f17 w3 k0 z4 k1 f1) ?_;intro Nx aB Gx aG;exact⟨aZ,bG,f15,f16,rfl,mP,fF⟩
end Go.Proofs.YtelbfbioomcmeaaGreatDoor

