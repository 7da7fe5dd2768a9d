/- Lemmas and contracts of functions, several texts in one. -/
import Derived.Test.YtfiipaodjpiooaaGreatDoorQ25
set_option maxRecDepth 100000
set_option maxHeartbeats 4000000
set_option linter.all false
namespace Go.Proofs.YtfiipaodjpiooaaGreatDoor
open Go.RowKit
structure GC (m:List (Value×D)) (f:ByteArray->Option D):Prop where
 keys:∀p∈m,∃s:ByteArray,dO s.size/\p.1=.string s
 get:∀s:ByteArray,mX m (.string s)=f s
theorem GC.nil:GC [] fun _=>Option.none:=⟨(fun p hp=>by cases hp),(fun x=>rfl)⟩
theorem GC.set {m:List (Value×D)} {f:ByteArray->Option D} (h:GC m f) {x:ByteArray} (hx:dO x.size) (d:D):GC (iM m (.string x) d) fun y=>if y=x then some d else f y where
 keys:=fun p hp=>by
  rcases J0 hp with rfl|hp
  ·exact⟨x,hx,rfl⟩
  ·exact h.keys p hp
 get:=fun y=>by
  by_cases e:y=x
  ·subst e;rw[pR,aE rfl]
  ·rw[wQ _ _ (fun he=>e (by injection he with he;exact he.symm)),aA e];exact h.get y
theorem VM {P:Program} {k:TypeId} (hk:P.underlying k=some .string) {x:ByteArray} (hx:dO x.size):∃l,keyOf P k (.string x)=some l:=by
 unfold keyOf
 rw[hk]
 simp only[mapKey,hk]
 unfold dO at hx
 rw[aE (by unfold maxLen;omega)]
 exact⟨_,rfl⟩
theorem GC.ok {P:Program} {k:TypeId} (hk:P.underlying k=some .string) {m:List (Value×D)} {f:ByteArray->Option D} (h:GC m f) {x:ByteArray} (hx:dO x.size):kOK P k m (.string x):=
 ⟨Go.Maps.string_keyed hk,VM hk hx,fun p hp=>by obtain⟨y,hy,e⟩:=h.keys p hp;rw[e];exact VM hk hy⟩
theorem GC.congr {m:List (Value×D)} {f g:ByteArray->Option D} (h:GC m f) (he:∀x,f x=g x):GC m g:=⟨h.keys,fun x=>(h.get x).trans (he x)⟩
open Classical in
noncomputable def BL (S:List ByteArray) (x:ByteArray):Option D:=if x∈S then some (.val (.bool true)) else none
theorem V6 (x:ByteArray):none=BL [] x:=by unfold BL;rw[aA (by simp)]
theorem SH (y:ByteArray) (S:List ByteArray) (x:ByteArray):(if x=y then some (D.val (.bool true)) else BL S x)=BL (S++[y]) x:=by
 unfold BL
 by_cases h:x=y
 ·rw[aE h,aE (by rw[h];simp)]
 ·rw[aA h]
  by_cases h2:x∈S
  ·rw[aE h2,aE (by simp [h2])]
  ·rw[aA h2,aA (by simp [h,h2])]
open Tryz
theorem aLL (l:List ByteArray) (H:aC) (hl:dO l.length) (hs:∀s∈l,dO s.size):bE prog 104 [.seq 1 (l.map sD)] H fun d H'=>d=i64 (uO l)/\H=H':=by
 refine bO (K:=fun d=>d=i64 (uO l)) ?_
 have aS:=aG H
 have dX:=lm sD l
 unfold dO at hl
 refine aQ _ _ func104 rfl rfl ntmps104 results104 (by simp) fun w0 g0 Q aD=>?_
 by_cases h1:65535<l.length
 ·have q1:((65535:Int)<(l.length:Int))=True:=aK (by omega)
  have e:uO l=15:=aE h1
  refine tq (dG dX q1) ?_;intro Nx aB Gx aF
  refine rt aD trivial ?_
  exact⟨_,aG _,aS,_,aH aS,by rw[e]⟩
 have q1:((65535:Int)<(l.length:Int))=False:=aI (by omega)
 have e:uO l=OG [] l:=aA h1
 refine tq (dG dX q1) ?_;intro Nx aB Gx aF
 intro c3 j5
 refine aB _ ?_
 have aBv:(H.bH c3 (.map [])) c3=some (.map []):=aO _ _ _
 refine tq dX ?_;intro Nx aB Gx aF
 refine aZ l.length (fun i s=>s.df=[]/\s.fr 3=.val (.map (some c3))/\s.fr 10=.seq 1 (l.map sD)/\s.fr 11=i64 l.length/\s.fr 12=i64 i/\H.le s.H/\∃M,s.H c3=some (.map M)/\GC M (BL (l.take i))/\OG [] l=OG (l.take i) (l.drop i)) ⟨rfl,rfl,rfl,rfl,rfl,o8 aS j5,[],aBv,GC.nil.congr V6,rfl⟩ ?_
 rintro i s hi ⟨aT,f3,f10,f11,f12,aY,M,hM,hS,ha⟩
 have hx:=bI i
 have cJ:=bM i
 by_cases aV:i<l.length
 case neg=>
  have q6:=lF i l.length (by omega)
  rw[eT (by omega)] at ha
  refine tq (eA f11 f12 q6) ?_;intro Nx aB Gx aF
  refine rt aD aT ?_
  exact⟨_,aG _,aY,_,aH aY,by rw[e,ha] <;> rfl⟩
 have cC:(i:Int)<(l.length:Int):=by omega
 have q6:((i:Int)<(l.length:Int))=True:=aK cC
 have w3:=wS i (by omega)
 have cD:=Q6 aV
 have TC:=hs l[i] (bU aV)
 rw[eH aV,OG] at ha
 have pY:=dH aV
 obtain⟨x,T7⟩:∃x,x=l[i]:=⟨_,rfl⟩
 rw[<-T7] at cD TC ha pY
 have hid:=YK x s.H TC
 simp only[cX] at hid
 obtain⟨v,hv⟩:∃v,v=x7 x:=⟨_,rfl⟩
 rw[<-hv] at hid ha
 refine tq (rQ f3 f10 f11 f12 dX q6 cD hx cJ aV cC) ?_;intro Nx aB Gx aF
 refine hid.mono ?_
 rintro d _ ⟨rfl,rfl⟩
 cases v
 ·rw[aE rfl] at ha
  refine tq trivial ?_;intro Nx aB Gx aF
  refine rt aD aT ?_
  exact⟨_,aG _,aY,_,aH aY,by rw[e,ha] <;> rfl⟩
 rw[aA (fun h=>by cases h)] at ha
 have hk:=hS.ok (P:=prog) underlying9 TC
 have RG:=hS.get x
 by_cases hm:x∈l.take i
 ·rw[show BL (l.take i) x=some (.val (.bool true)) from aE hm] at RG
  rw[aE (CE.2 hm)] at ha
  refine tq (eA f3 hM RG) ?_;intro Nx aB Gx aF
  refine⟨hk,?_⟩
  refine tq trivial ?_;intro Nx aB Gx aF
  refine rt aD aT ?_
  exact⟨_,aG _,aY,_,aH aY,by rw[e,ha] <;> rfl⟩
 rw[show BL (l.take i) x=none from aA hm] at RG
 rw[aA (fun h=>hm (CE.1 h))] at ha
 refine tq (eA f3 hM RG) ?_;intro Nx aB Gx aF
 refine⟨hk,?_⟩
 refine tq (dG f3 hM) ?_;intro Nx aB Gx aF
 refine⟨hk,?_⟩
 have hMy:GC (iM M (.string x) (.val (.bool true))) (BL (l.take i++[x])):=(hS.set TC (.val (.bool true))).congr (SH x _)
 obtain⟨M4,hM4⟩:∃M4,M4=iM M (.string x) (.val (.bool true)):=⟨_,rfl⟩
 rw[<-hM4] at hMy ⊢
 have hm4:(s.H.bH c3 (.map M4)) c3=some (.map M4):=aO _ _ _
 have nT:H.le (s.H.bH c3 (.map M4)):=bK aY j5
 refine tq (dG f12 w3) ?_;intro Nx aB Gx aF
 exact⟨aV,aT,f3,f10,f11,rfl,nT,M4,hm4,by rw[pY];exact hMy,by rw[ha,pY]⟩
theorem aHa {l:List AO} {i:Nat} (h:i<l.length):(l.map mN)[i]?=some (mN l[i]):=by
 rw[dN,bX h];rfl
theorem pI (b:cT):iS b=[cX b.nm,.seq 1 (b.rg.map sD),.seq 2 (b.ol.map pD),.seq 5 (b.ty.map cP),.seq 2 (b.lc.map mN),i64 b.ag,.seq 7 (b.bl.map jP)]:=rfl
theorem aHj (b:cT) (H:aC) (hl:dO b.lc.length) (hs:∀x∈b.lc,dO x.nm.size):bE prog 107 [.agg (iS b)] H fun d H'=>d=i64 (JX b)/\H=H':=by
 refine bO (K:=fun d=>d=i64 (JX b)) ?_
 have aS:=aG H
 have dX:=lm mN b.lc
 have lJ:=lm cP b.ty
 unfold dO at hl
 obtain⟨y,hy⟩:∃y,y=JX b:=⟨_,rfl⟩
 rw[<-hy]
 unfold JX at hy
 rw[pI]
 refine aQ _ _ func107 rfl rfl ntmps107 results107 (by simp) fun w0 g0 Q aD=>?_
 refine tq trivial ?_;intro Nx aB Gx aF
 intro c1 mA
 refine aB _ ?_
 refine fZ 1 mA ?_
 by_cases h1:65535<b.lc.length
 ·have q1:((65535:Int)<(b.lc.length:Int))=True:=aK (by omega)
  have e:y=15:=hy.trans (aE h1)
  refine tq (dG dX q1) ?_;intro Nx aB Gx aF
  refine rt aD trivial ?_
  exact⟨_,aG _,aS,_,aH aS,by rw[e]⟩
 have q1:((65535:Int)<(b.lc.length:Int))=False:=aI (by omega)
 rw[aA h1] at hy
 refine tq (dG dX q1) ?_;intro Nx aB Gx aF
 intro c3 j5
 refine aB _ ?_
 have aBv:(H.bH c3 (.map [])) c3=some (.map []):=aO _ _ _
 refine tq dX ?_;intro Nx aB Gx aF
 refine aZ b.lc.length (fun i s=>s.df=[]/\s.fr 1=.rp [cX b.nm,.seq 1 (b.rg.map sD),.seq 2 (b.ol.map pD),.seq 5 (b.ty.map cP),.seq 2 (b.lc.map mN),i64 b.ag,.seq 7 (b.bl.map jP)]/\s.fr 3=.val (.map (some c3))/\s.fr 12=.seq 2 (b.lc.map mN)/\s.fr 13=i64 b.lc.length/\s.fr 14=i64 i/\H.le s.H/\∃M S,s.H c3=some (.map M)/\GC M (BL S)/\EO b.ty.length [] b.lc=EO b.ty.length S (b.lc.drop i)) ⟨rfl,rfl,rfl,rfl,rfl,rfl,o8 aS j5,[],[],aBv,GC.nil.congr V6,rfl⟩ ?_
 rintro i s hi ⟨aT,f1,f3,f12,f13,f14,aY,M,S,hM,hS,ha⟩
 have hx:=bI i
 have cJ:=bM i
 by_cases aV:i<b.lc.length
 case neg=>
  have q6:=lF i b.lc.length (by omega)
  rw[eT (by omega),EO] at ha
  rw[ha,aA (fun h=>h rfl)] at hy
  by_cases h2:b.ag<0
  ·have q2:(b.ag<0)=True:=aK h2
   have e:y=3:=hy.trans (aE (.inl h2))
   refine tq (jE f1 f13 f14 q6 q2) ?_;intro Nx aB Gx aF
   refine rt aD aT ?_
   exact⟨_,aG _,aY,_,aH aY,by rw[e] <;> rfl⟩
  have q2:(b.ag<0)=False:=aI h2
  by_cases h3:(b.lc.length:Int)<b.ag
  ·have q3:((b.lc.length:Int)<b.ag)=True:=aK h3
   have e:y=3:=hy.trans (aE (.inr h3))
   refine tq (nF f1 f13 f14 q6 q2 q3 dX) ?_;intro Nx aB Gx aF
   refine rt aD aT ?_
   exact⟨_,aG _,aY,_,aH aY,by rw[e] <;> rfl⟩
  have q3:((b.lc.length:Int)<b.ag)=False:=aI h3
  have e:y=0:=hy.trans (aA (by omega))
  refine tq (nF f1 f13 f14 q6 q2 q3 dX) ?_;intro Nx aB Gx aF
  refine rt aD aT ?_
  exact⟨_,aG _,aY,_,aH aY,by rw[e] <;> rfl⟩
 have cC:(i:Int)<(b.lc.length:Int):=by omega
 have q6:((i:Int)<(b.lc.length:Int))=True:=aK cC
 have w3:=wS i (by omega)
 have cD:=aHa aV
 have TC:=hs b.lc[i] (bU aV)
 rw[eH aV,EO] at ha
 obtain⟨x,T7⟩:∃x,x=b.lc[i]:=⟨_,rfl⟩
 rw[<-T7] at cD TC ha
 clear T7
 obtain⟨x,xt⟩:=x
 simp only at TC ha
 simp only[mN,cX] at cD
 have hid:=YK x s.H TC
 simp only[cX] at hid
 obtain⟨v,hv⟩:∃v,v=x7 x:=⟨_,rfl⟩
 rw[<-hv] at hid ha
 have bad:∀z:Int,z≠0->EO b.ty.length [] b.lc=z->y=z:=fun z hz h=>by rw[h,aE hz] at hy;exact hy
 refine tq (rQ f3 f12 f13 f14 dX q6 cD hx cJ aV cC) ?_;intro Nx aB Gx aF
 intro c5 lY
 refine aB _ ?_
 refine fZ 5 lY ?_
 refine tq trivial ?_;intro Nx aB Gx aF
 refine hid.mono ?_
 rintro d _ ⟨rfl,rfl⟩
 cases v
 ·rw[aE rfl] at ha
  have e:=bad 12 (by decide) ha
  refine tq trivial ?_;intro Nx aB Gx aF
  refine rt aD aT ?_
  exact⟨_,aG _,aY,_,aH aY,by rw[e] <;> rfl⟩
 rw[aA (fun h=>by cases h)] at ha
 have hk:=hS.ok (P:=prog) underlying9 TC
 have RG:=hS.get x
 by_cases hm:x∈S
 ·rw[show BL S x=some (.val (.bool true)) from aE hm] at RG
  rw[aE (CE.2 hm)] at ha
  have e:=bad 21 (by decide) ha
  refine tq (eA f3 hM RG) ?_;intro Nx aB Gx aF
  refine⟨hk,?_⟩
  refine tq trivial ?_;intro Nx aB Gx aF
  refine rt aD aT ?_
  exact⟨_,aG _,aY,_,aH aY,by rw[e] <;> rfl⟩
 rw[show BL S x=none from aA hm] at RG
 rw[aA (fun h=>hm (CE.1 h))] at ha
 by_cases h2:xt<0
 ·have q2:(xt<0)=True:=aK h2
  rw[aE (by unfold cE;omega)] at ha
  have e:=bad 3 (by decide) ha
  refine tq (eA f3 hM RG) ?_;intro Nx aB Gx aF
  refine⟨hk,?_⟩
  refine tq (dG f1 q2) ?_;intro Nx aB Gx aF
  refine rt aD aT ?_
  exact⟨_,aG _,aY,_,aH aY,by rw[e] <;> rfl⟩
 have q2:(xt<0)=False:=aI h2
 by_cases h3:(b.ty.length:Int)<=xt
 ·have q3:(xt≥(b.ty.length:Int))=True:=aK h3
  rw[aE (by unfold cE;omega)] at ha
  have e:=bad 3 (by decide) ha
  refine tq (eA f3 hM RG) ?_;intro Nx aB Gx aF
  refine⟨hk,?_⟩
  refine tq (gQ f1 q2 q3 lJ) ?_;intro Nx aB Gx aF
  refine rt aD aT ?_
  exact⟨_,aG _,aY,_,aH aY,by rw[e] <;> rfl⟩
 have q3:(xt≥(b.ty.length:Int))=False:=aI h3
 rw[aA (by unfold cE;omega)] at ha
 refine tq (eA f3 hM RG) ?_;intro Nx aB Gx aF
 refine⟨hk,?_⟩
 refine tq (kB f1 f3 hM q2 q3 lJ) ?_;intro Nx aB Gx aF
 refine⟨hk,?_⟩
 have hMy:GC (iM M (.string x) (.val (.bool true))) (BL (S++[x])):=(hS.set TC (.val (.bool true))).congr (SH x _)
 obtain⟨M4,hM4⟩:∃M4,M4=iM M (.string x) (.val (.bool true)):=⟨_,rfl⟩
 rw[<-hM4] at hMy ⊢
 have hm4:(s.H.bH c3 (.map M4)) c3=some (.map M4):=aO _ _ _
 have nT:H.le (s.H.bH c3 (.map M4)):=bK aY j5
 refine tq (dG f14 w3) ?_;intro Nx aB Gx aF
 exact⟨aV,aT,f1,f3,f12,f13,rfl,nT,M4,_,hm4,hMy,ha⟩
theorem aII {l:List (Int×Int)} {k:Nat} (h:k<l.length):(l.map pD)[k]?=some [i64 (l.getD k (1,0)).1,i64 (l.getD k (1,0)).2]:=by
 rw[oT,bX h];exact wK h
theorem aIQ (ts:List dS) (pr:List (Int×Int)) (pre:List (Nat×Int×Int)):(GU ts pr pre).length<=pre.length:=by
 unfold GU
 induction pre with
 |nil=>simp
 |cons x l ih=>
  rw[F5,bN,eO]
  have:(if x.1<pr.length/\(pr.getD x.1 (1,0)).1=0 then [cZ ts x.2.1] else []).length<=1:=by split <;> simp
  omega
def RfI (H:aC) (ts:List dS) (pr:List (Int×Int)) (c6 c7 c8:Nat) (pre:List (Nat×Int×Int)) (Hc:aC):Prop:=
 (∀x∈pre,x.2.2=0)/\H.le Hc/\Hc c6=some (.row 24 0 1 [[.val (.slice none 0 0)]])/\Hc c7=some (.row 4 0 1 [[.val (.bool false)]])/\∃x ob,Hc c8=some (.row 24 0 1 [[x]])/\Gl H 154 5 ((GU ts pr pre).map cP) x Hc ob/\ob≠some c6/\ob≠some c7/\ob≠some c8
def RfX (H:aC) (c6 c7:Nat) (er:Int) (e:Exit) (Hc:aC):Prop:=
 e=.ret/\er≠0/\H.le Hc/\Hc c6=some (.row 24 0 1 [[.val (.slice none 0 0)]])/\Hc c7=some (.row 4 0 1 [[.val (.bool false)]])
theorem aIO (ts:List dS) (lc:List AO) (p:pA) (H:aC) (hw:zJ ts) (hl:wfL ts lc) (ha:arN ts) (hp:dO p.pr.length):bE prog 186 [.seq 5 (ts.map cP),.seq 2 (lc.map mN),.agg (lN p)] H fun d H'=>d=.pG [.seq 5 ((sK ts lc p).map cP),.val (.bool (decide ((cG ts lc p).2=0)))]/\H=H':=by
 have T2:=lm pD p.pr
 have lJ:=lm cP ts
 refine bO (K:=fun d=>d=.pG [.seq 5 ((sK ts lc p).map cP),.val (.bool (decide ((cG ts lc p).2=0)))]) ?_
 refine xR _ _ func186 rfl rfl ntmps186 results186 (by simp) fun w0 g0 Q aD=>?_
 refine tq @lN.eq_1 ?_;intro Nx aB Gx aF
 intro c3 j5 c5 lY c6 DJ c7 EG
 refine aB _ ?_
 obtain⟨n53,lY⟩:=bY.1 lY
 obtain⟨n65,DJ⟩:=bY.1 DJ
 obtain⟨n63,DJ⟩:=bY.1 DJ
 obtain⟨n76,EG⟩:=bY.1 EG
 obtain⟨n75,EG⟩:=bY.1 EG
 obtain⟨n73,EG⟩:=bY.1 EG
 refine cA 3 rfl ((aN n73.symm).trans ((aN n63.symm).trans ((aN n53.symm).trans (aO _ _ _)))) rfl ?_
 refine cA 5 rfl ((bS n53).trans ((aN n75.symm).trans ((aN n65.symm).trans (aO _ _ _)))) rfl ?_
 refine eV ((H.bH c6 (.row 24 0 1 [[.val (.slice none 0 0)]])).bH c7 (.row 4 0 1 [[.val (.bool false)]])) (fun x z hz=>?_) ?_
 ·show((((((H.bH c3 _).bH c5 _).bH c6 _).bH c7 _).del c3).del c5) x=_
  by_cases e7:x=c7
  ·subst e7
   rw[aO] at hz
   rw[bS n75,bS n73,aO]
   exact hz
  rw[aN e7] at hz
  by_cases e6:x=c6
  ·subst e6
   rw[aO] at hz
   rw[bS n65,bS n63,aN n76.symm,aO]
   exact hz
  rw[aN e6] at hz
  have e3:x≠c3:=fun e=>by rw[e,j5] at hz;cases hz
  have e5:x≠c5:=fun e=>by rw[e,lY] at hz;cases hz
  rw[bS e5,bS e3,aN e7,aN e6,aN e5,aN e3]
  exact hz
 have rT:H.le ((H.bH c6 (.row 24 0 1 [[.val (.slice none 0 0)]])).bH c7 (.row 4 0 1 [[.val (.bool false)]])):=bK (bK (aG _) DJ) EG
 have e60:((H.bH c6 (.row 24 0 1 [[.val (.slice none 0 0)]])).bH c7 (.row 4 0 1 [[.val (.bool false)]])) c6=some (.row 24 0 1 [[.val (.slice none 0 0)]]):=(aN n76.symm).trans (aO _ _ _)
 have e70:((H.bH c6 (.row 24 0 1 [[.val (.slice none 0 0)]])).bH c7 (.row 4 0 1 [[.val (.bool false)]])) c7=some (.row 4 0 1 [[.val (.bool false)]]):=aO _ _ _
 obtain⟨H2,mV⟩:∃H2,H2=(H.bH c6 (.row 24 0 1 [[.val (.slice none 0 0)]])).bH c7 (.row 4 0 1 [[.val (.bool false)]]):=⟨_,rfl⟩
 rw[<-mV] at rT e60 e70 ⊢
 clear mV
 simp only[St.jH,List.drop]
 refine tq trivial ?_;intro Nx aB Gx aF
 intro c8 X1
 refine aB _ ?_
 have n86:c8≠c6:=fun e=>by rw[e,e60] at X1;cases X1
 have n87:c8≠c7:=fun e=>by rw[e,e70] at X1;cases X1
 have aBx:H c8=none:=tJ rT X1
 refine tq trivial ?_;intro Nx aB Gx aF
 have aAg:=aIE ts lc p (H2.bH c8 (.row 24 0 1 [[.val (.slice none 0 0)]]))
 simp only[lN] at aAg
 refine aAg.mono ?_
 rintro d _ ⟨rfl,rfl⟩
 refine tq trivial ?_;intro Nx aB Gx aF
 refine sR (fun s=>s.df=[]/\s.fr 3=.rp [.seq 5 (ts.map cP)]/\s.fr 5=.rp [i64 p.lo,.seq 2 (p.pr.map pD)]/\s.fr 6=.ep c6 0 1 0 0/\s.fr 7=.ep c7 0 1 0 0/\s.fr 8=.ep c8 0 1 0 0/\s.fr 14=.fn 217 [.rp (lN p),.rp [.seq 2 (lc.map mN)],.rp [.seq 5 (ts.map cP)]]/\H.le s.H/\RfI H.DS ts p.pr c6 c7 c8 [] s.H) ⟨rfl,rfl,rfl,rfl,rfl,rfl,rfl,bK rT aBx,fun x h=>by(cases h),mH (L6 H) (bK rT aBx),(aN n86.symm).trans e60,(aN n87.symm).trans e70,_,none,aO _ _ _,iW _ _ _ _,by simp,by simp,by simp⟩ ?_
 rintro s ⟨aT,f3,f5,f6,f7,f8,f14,aY,hI0⟩
 refine yW rfl (aDz ts lc p hw hl ha hp) f14 (fun _ _=>trivial) (by simp) (fun _=>rfl) (RfI H.DS ts p.pr c6 c7 c8) (fun e _=>RfX H.DS c6 c7 (cG ts lc p).2 e) ?_ ?_ ?_ ?_ ?_ ?_
 ·rintro pre H1 H2 hr ⟨h0,h1,h6,h7,x,ob,h2,h3,h4⟩
  refine⟨h0,nU (rX H) h1 hr,hr _ _ h6 (by simp),hr _ _ h7 (by simp),x,ob,hr _ _ h2 (by simp),?_,h4⟩
  rcases h3 with h3|⟨c,o,g1,g2,g3,g4⟩
  ·exact .inl h3
  ·exact .inr ⟨c,o,g1,g2,g3,hr _ _ g4 (by simp)⟩
 ·rintro e pre H1 H2 hr ⟨h1,h2,h3,h4,h5⟩
  exact⟨h1,h2,nU (rX H) h3 hr,hr _ _ h4 (by simp),hr _ _ h5 (by simp)⟩
 ·exact hI0
 ·rintro l w1 pre x Hc o g9 lP ⟨g1,g2,g3,g4,xs,ob,g5,g6,k6,k7,k8⟩ kN xZ
  rw[aPD,aPH]
  refine tq (jE eY eX eN bW aT) ?_;intro Nx aB Gx aF
  intro c10 HM
  refine aB _ ?_
  simp only[eQ]
  refine⟨rfl,lU.new (xE _) HM,fun w2 y Z0=>?_⟩
  have l5:l≠c10:=fun e=>by rw[e,HM] at xZ;cases xZ
  have nl:∀c t o sz els,Hc c=some (.row t o sz els)->c≠l:=fun c t o sz els h e=>by rw[e,xZ] at h;cases h
  have n6:=nl _ _ _ _ _ g3
  have n7:=nl _ _ _ _ _ g4
  have n8:=nl _ _ _ _ _ g5
  have hxm:x∈vW ts lc p:=lP.subset (by simp)
  refine cA 10 rfl (b:=c10) (by simp only[s5,eX,lX];rw[aN (Ne.symm l5),aO]) rfl ?_
  simp only[St.jH,s5,eX,lX,nA,bW,jN,F8 (Ne.symm l5),wC,tH HM,List.drop]
  have OC:=fun (x:fK) (hx:∀o,x≠ .obj o)=>BI (H:=Hc) (b:=c10) (l:=l) (y:=y) hx
  have r6:(Hc.bH l (.obj y)) c6=_:=(aN n6).trans g3
  have r7:(Hc.bH l (.obj y)) c7=_:=(aN n7).trans g4
  have r8:(Hc.bH l (.obj y)) c8=_:=(aN n8).trans g5
  have r7':∀z,((Hc.bH l (.obj y)).bH c6 z) c7=_:=fun z=>(aN n76).trans r7
  by_cases h0:x.2.2=0
  case neg=>
   have q1:(x.2.2=0)=False:=aI h0
   refine tq (BR f6 f7 eY eX eN bW q1 r6 r7') ?_;intro Nx aB Gx aF
   simp only[j9,jC,lD]
   refine⟨rfl,((OC _ (by simp)).row r6 (by simp)).row (r7' _) (by simp),rfl,aBW hxm h0,bK (bK (nU (rX H) g2 (s7 xZ)) (rB DJ)) (rB EG),(aN n76.symm).trans (aO _ _ _),aO _ _ _⟩
  have q1:(x.2.2=0)=True:=aK h0
  have hx:(x.1:Int).toNat=x.1:=bI _
  have cJ:(0:Int)<=(x.1:Int):=bM _
  have fF:∀z∈pre++[x],z.2.2=0:=fun z hz=>by
   rcases bV.1 hz with hz|hz
   ·exact g1 z hz
   ·rw[cR] at hz;subst hz;exact h0
  have iI:=aMC hw hl hxm h0
  have hg8:Gl H.DS 154 5 ((GU ts p.pr pre).map cP) xs (Hc.bH l (.obj y)) ob:=g6.obj xZ
  have qT:=aF0 ts p.pr pre x
  have RC:GU ts p.pr (pre++[x])=GU ts p.pr pre->lU (((Hc.bH c10 (.row 262 0 2 [[i64 x.2.1,i64 x.2.2]])).bH l (.obj y))) (Hc.bH l (.obj y))/\RfI H.DS ts p.pr c6 c7 c8 (pre++[x]) (Hc.bH l (.obj y)):=fun e=>⟨OC _ (by simp),fF,nU (rX H) g2 (s7 xZ),r6,r7,xs,ob,r8,by rw[e];exact hg8,k6,k7,k8⟩
  by_cases hk:x.1<p.pr.length
  case neg=>
   have q2:((x.1:Int)<(p.pr.length:Int))=False:=aI (by omega)
   rw[aA (fun h=>hk h.1),iJ] at qT
   have jQ:=RC qT
   refine tq (wG f5 eY eX eN bW q1 q2 T2) ?_;intro Nx aB Gx aF
   exact⟨rfl,jQ⟩
  have q2:((x.1:Int)<(p.pr.length:Int))=True:=aK (by omega)
  have hgx:=aII hk
  by_cases HP:(p.pr.getD x.1 (1,0)).1=0
  case neg=>
   rw[aA (fun h=>HP h.2),iJ] at qT
   have jQ:=RC qT
   have q3:((p.pr.getD x.1 (1,0)).1=0)=False:=aI HP
   refine tq (W7 f5 eY eX eN bW q1 q2 q3 T2 hgx hx cJ hk) ?_;intro Nx aB Gx aF
   exact⟨rfl,jQ⟩
  have q3:((p.pr.getD x.1 (1,0)).1=0)=True:=aK HP
  rw[aE ⟨hk,HP⟩] at qT
  have zB:pre.length<=33:=by
   have h1:=lP.length_le
   have h2:=aIi (ts:=ts) (lc:=lc) (p:=p)
   rw[bN,wB] at h1
   omega
  have hrl:=aIQ ts p.pr pre
  have rK:=mD iI
  have FA:x.2.1.toNat<ts.length:=by unfold cE at iI;omega
  have AM:0<=x.2.1:=by unfold cE at iI;omega
  obtain⟨t,ht⟩:∃t,t=cZ ts x.2.1:=⟨_,rfl⟩
  rw[<-ht] at qT rK
  obtain⟨els,GI⟩:∃els,els=(GU ts p.pr pre).map cP:=⟨_,rfl⟩
  have aOE:els.length<=33:=by rw[GI,bC];omega
  have aK9:(GU ts p.pr (pre++[x])).map cP=els++[cP t]:=by rw[qT,cQ,GI];rfl
  rw[<-GI] at hg8
  clear GI
  simp only[cP] at rK aK9
  refine tq (W7 f5 eY eX eN bW q1 q2 q3 T2 hgx hx cJ hk) ?_;intro Nx aB Gx aF
  refine wE (fun _=>false) (fun _=>false) (fun _ _ _ _=>False) (fun _ _ _ _ _=>False) fun Nx aB=>?_;have fs:=And.intro f3 (And.intro f8 (And.intro eY (And.intro eX (And.intro eN (And.intro bW (And.intro r8 (And.intro rK (And.intro lJ (And.intro FA AM)))))))));refine TU ?_;(first|refine aF _ ?_|refine aB _ ?_|skip);(try clear fs)
  refine dD (e:=154) aIq rfl aIq rfl aIp rfl (by decide) (nU (rX H) g2 (s7 xZ)) hg8 (new:=[cP t]) (by exact⟨rfl,rfl⟩) (by show(_+1) * 56<=_;omega) fun d H6 oG j6 eM nJ=>?_
  have p6:=nJ _ _ r6 k6
  have p7:=nJ _ _ r7 k7
  have p8:=nJ _ _ r8 k8
  have p81:=p8.1
  have hd6:∃c o n,d=.os c o 5 0 n:=by
   rcases j6 with⟨_,_,h⟩|⟨c,o,_,h,_⟩
   ·simp at h
   ·exact⟨c,o,_,h⟩
  obtain⟨c',o',n',rfl⟩:=hd6
  (have fs:=p81;refine qK ?_;try clear fs);(first|refine aF _ ?_|refine aB _ ?_|skip)
  exact⟨rfl,(FF (OC _ (by simp)) hg8 nJ).row p81 (by simp),fF,bK eM (rB aBx),(aN n86.symm).trans p6.1,(aN n87.symm).trans p7.1,_,oG,aO _ _ _,by rw[aK9];exact j6.fS fun c h=>aN fun e=>p8.2 (by rw[h,e]),p6.2,p7.2,p8.2⟩
 ·rintro Hc M ⟨g1,g2,g3,g4,xs,ob,g5,g6,k6,k7,k8⟩ kN hD NZ
  rw[xP,fP,eQ,aT]
  have hM6:c6≠M:=fun e=>by rw[e,hD] at g3;cases g3
  have hM7:c7≠M:=fun e=>by rw[e,hD] at g4;cases g4
  have hM8:c8≠M:=fun e=>by rw[e,hD] at g5;cases g5
  have g2:=vH g2 aY kN
  have g6:=XY g6 g2
  have NA:=g6.cells
  simp only[D.cells] at NA
  have g4':∀z,(Hc.bH c6 z) c7=_:=fun z=>(aN n76).trans g4
  refine tq (nF f6 f7 f8 g3 g4' g5 NA) ?_;intro Nx aB Gx aF
  have fI:(cG ts lc p).2=0:=by
   obtain⟨j,hj⟩:=WA ts lc p
   exact g1 _ (List.mem_of_getLast? hj)
  have hre:GU ts p.pr (vW ts lc p)=sK ts lc p:=by
   rw[aIP fI];unfold sK;rw[aA (fun h=>h fI)]
  rw[hre] at g6
  refine aD _ _ (.inr rfl) ?_ ?_
  ·(have fs:=f6;refine evG ?_;clear fs)
   refine mk1 ?_
   rw[aN hM7.symm,aN hM6.symm];exact hD
  ·(have fs:=f6;refine evG ?_;clear fs)
   rw[J1]
   have hMo:∀c,ob=some c->c≠M:=fun c h e=>by
    rcases g6 with⟨g,_⟩|⟨c2,o2,h1,_,_,h4⟩
    ·rw[g] at h;cases h
    ·rw[h] at h1;injection h1 with h1;rw[<-h1,e,hD] at h4;cases h4
   have iC:H.le (((Hc.bH c6 (.row 24 0 1 [[xs]])).bH c7 (.row 4 0 1 [[.val (.bool true)]])).bH M .hid):=bK (bK (bK g2 DJ) EG) (tJ aY NZ)
   simp (maxSteps:=4000000) only[vX,vB,vT,vZ,oN,kV,mmV,O6,RT,mB,jI,kW,↓nV,OS,eG,W8,QF,U2,yQ,yM,AQ,AR,sF,qE,sE,oL,D.nilPtr,D.nK,D.mY,jK,UK,U8,K3,nH,rE,fieldsOf,l3,TW,UA,UB,UC,EP,TK,D.cells,rG,W4,WW,AS,iN,iL,TS,S8,qI,YS,DG,UI,mK,TD.kX,TD.agg,ZY,DI,yN,cpV,wP,AE,AD,UD,TV,tY,BK,gK,iV,Value.oneCell',nY,nW,mR,reduceCtorEq,sB,oA,fO,fW,↓reduceIte,Nat.reduceEqDiff,Int.reduceLE,Int.reduceLT,Int.reduceNeg,Int.reduceToNat,Nat.reduceAdd,Nat.reduceMul,Nat.reduceLeDiff,Nat.reduceMod,Nat.reduceSub,Int.reduceEq,Int.reduceNe,Int.reduceAdd,Int.reduceSub,Int.reduceMul,nX,eY,eX,eN,bW,eQ,lD,fP,jC,kY,j9,jT,jU,jS,i64,f6,f7,aN hM6,aN hM7,aN n76.symm]
   exact⟨_,aG _,iC,_,JH (aKJ (qL iC (g6.fS fun c h=>by
    rw[aN (hMo c h),aN (fun e=>k7 (by rw[h,e])),aN (fun e=>k6 (by rw[h,e]))])) (aH iC)),by rw[bG fI]⟩
 ·rintro e c pre Hc M hj ⟨rfl,h2,h3,h4,h5⟩ kN hD NZ
  rw[xP,aT]
  have hD6:c6≠M:=fun e=>by rw[e,hD] at h4;cases h4
  have hD7:c7≠M:=fun e=>by rw[e,hD] at h5;cases h5
  (have fs:=f6;refine evG ?_;clear fs)
  refine aD _ _ (.inr rfl) ?_ ?_
  ·(have fs:=f6;refine evG ?_;clear fs)
   exact mk1 hD
  ·rw[eN,J1]
   have h3:=vH h3 aY kN
   have iC:H.le (Hc.bH M .hid):=bK h3 (tJ aY NZ)
   have hre:sK ts lc p=[]:=aE h2
   simp (maxSteps:=4000000) only[vX,vB,vT,vZ,oN,kV,mmV,O6,RT,mB,jI,kW,↓nV,OS,eG,W8,QF,U2,yQ,yM,AQ,AR,sF,qE,sE,oL,D.nilPtr,D.nK,D.mY,jK,UK,U8,K3,nH,rE,fieldsOf,l3,TW,UA,UB,UC,EP,TK,D.cells,rG,W4,WW,AS,iN,iL,TS,S8,qI,YS,DG,UI,mK,TD.kX,TD.agg,ZY,DI,yN,cpV,wP,AE,AD,UD,TV,tY,BK,gK,iV,Value.oneCell',nY,nW,mR,reduceCtorEq,sB,oA,fO,fW,↓reduceIte,Nat.reduceEqDiff,Int.reduceLE,Int.reduceLT,Int.reduceNeg,Int.reduceToNat,Nat.reduceAdd,Nat.reduceMul,Nat.reduceLeDiff,Nat.reduceMod,Nat.reduceSub,Int.reduceEq,Int.reduceNe,Int.reduceAdd,Int.reduceSub,Int.reduceMul,nX,eY,eX,eN,bW,eQ,lD,fP,jC,kY,j9,jT,jU,jS,i64,f6,f7,aN hD6,aN hD7,h4,h5,i64]
   exact⟨_,aG _,iC,_,JH (aKJ qA (aH iC)),by rw[hre,bB h2] <;> rfl⟩
theorem R9 (ts:List dS):∀(l:List (Int×Int)) (i:Int),(CH ts i l).length<=l.length
 |[],_=>by simp [CH]
 |x::l,i=>by
  have:=R9 ts l (lI ts i x).1
  simp only[CH,bN,eO]
  split <;> simp <;> omega
theorem xH (ts:List dS) (lc:List AO) (p:pA):(sK ts lc p).length<=32:=by
 unfold sK
 by_cases h:(cG ts lc p).2=0
 ·rw[aA (fun h'=>h' h)]
  obtain⟨h1,_,_⟩:=xJ h
  have h2:=(uX h1).2.1
  have:=R9 ts p.pr (x8 lc p.lo).ty
  omega
 ·rw[aE h];simp
theorem aJ6 (l:List dS):(!l.any fun x=> !x.m)=l.all (·.m):=by
 induction l with
 |nil=>rfl
 |cons x l ih=>rw[List.any_cons,pX,<-ih];cases x.m <;> simp
theorem aMl (ts:List dS) (lc:List AO) (p:pA) (H:aC) (hw:zJ ts) (hl:wfL ts lc) (ha:arN ts) (hp:dO p.pr.length):bE prog 150 [.seq 5 (ts.map cP),.seq 2 (lc.map mN),.agg (lN p)] H fun d H'=>d=.val (.bool (x9 ts lc p))/\H=H':=by
 refine bO (K:=fun d=>d=.val (.bool (x9 ts lc p))) ?_
 have aS:=aG H
 have hrl:=xH ts lc p
 have N7:=aJn (sK ts lc p) 188 (fun x=> !x.m) H (by unfold dO;omega) (fun x _ H1=>aRN x H1)
 have hq:=aIO ts lc p H hw hl ha hp
 simp only[lN] at hq
 refine aQ _ _ func150 rfl rfl ntmps150 results150 (by simp) fun w0 g0 Q aD=>?_
 refine tq @lN.eq_1 ?_;intro Nx aB Gx aF
 intro c5 lY
 refine aB _ ?_
 refine fZ 5 lY ?_
 refine tq trivial ?_;intro Nx aB Gx aF
 refine hq.mono ?_
 rintro d _ ⟨rfl,rfl⟩
 by_cases h0:(cG ts lc p).2=0
 ·rw[bG h0]
  have fG:x9 ts lc p=(!(sK ts lc p).any fun x=> !x.m):=by unfold x9;rw[bG h0,eI,aJ6]
  refine tq trivial ?_;intro Nx aB Gx aF
  refine N7.mono ?_
  rintro d _ ⟨rfl,rfl⟩
  refine tq trivial ?_;intro Nx aB Gx aF
  refine rt aD trivial ?_
  exact⟨_,aG _,aS,_,aH aS,by rw[fG]⟩
 ·rw[bB h0]
  have fG:x9 ts lc p=false:=by unfold x9;rw[bB h0,gC]
  refine tq trivial ?_;intro Nx aB Gx aF
  refine rt aD trivial ?_
  exact⟨_,aG _,aS,_,aH aS,by rw[fG]⟩
theorem aPF (ts:List dS) (lc:List AO) (p:pA) (H:aC) (hw:zJ ts) (hl:wfL ts lc) (ha:arN ts) (hp:dO p.pr.length):bE prog 189 [.seq 5 (ts.map cP),.seq 2 (lc.map mN),.agg (lN p)] H fun d H'=>d=.seq 1 ((ME ts lc p).map iD)/\H=H':=by
 refine bO (K:=fun d=>d=.seq 1 ((ME ts lc p).map iD)) ?_
 have hrl:=xH ts lc p
 have hq:=aIO ts lc p H hw hl ha hp
 simp only[lN] at hq
 obtain⟨l,hL⟩:∃l,l=sK ts lc p:=⟨_,rfl⟩
 have fG:ME ts lc p=l.map (·.r):=by rw[hL];rfl
 rw[<-hL] at hrl hq
 rw[fG]
 clear hL fG
 have dX:=lm cP l
 refine aQ _ _ func189 rfl rfl ntmps189 results189 (by simp) fun w0 g0 Q aD=>?_
 refine tq @lN.eq_1 ?_;intro Nx aB Gx aF
 intro c5 lY
 refine aB _ ?_
 refine fZ 5 lY ?_
 refine tq trivial ?_;intro Nx aB Gx aF
 refine hq.mono ?_
 rintro d _ ⟨rfl,rfl⟩
 refine tq dX ?_;intro Nx aB Gx aF
 refine aZ l.length (fun i s=>s.df=[]/\s.fr 19=.seq 5 (l.map cP)/\s.fr 20=i64 l.length/\s.fr 21=i64 i/\H.le s.H/\∃ob,Gl H 3 1 (((l.take i).map (·.r)).map iD) (s.fr 7) s.H ob) ⟨rfl,rfl,rfl,rfl,aG _,none,iW _ _ _ _⟩ ?_
 rintro i s hi ⟨aT,f19,f20,f21,aS,ob,hg⟩
 have hx:=bI i
 have cJ:=bM i
 by_cases aV:i<l.length
 case neg=>
  have q6:=lF i l.length (by omega)
  rw[cW (by omega)] at hg
  refine tq (eA f20 f21 q6) ?_;intro Nx aB Gx aF
  refine rt aD aT ?_
  exact⟨_,aG _,aS,_,qL aS hg,rfl⟩
 have q6:=lT i l.length (by omega)
 have w3:=wS i (by omega)
 have cD:(l.map cP)[i]?=some (cP l[i]):=by rw[dN,bX aV];rfl
 have qT:((l.take (i+1)).map (·.r)).map iD=((l.take i).map (·.r)).map iD++[iD l[i].r]:=by rw[dH aV];simp only[cQ,eU,nE]
 obtain⟨u,hu⟩:∃u,u=l[i]:=⟨_,rfl⟩
 rw[<-hu] at cD qT
 simp only[cP] at cD
 refine tq (BR f19 f20 f21 dX q6 cD hx cJ aV) ?_;intro Nx aB Gx aF
 intro c11 aBs
 refine aB _ ?_
 refine fZ 11 aBs ?_
 refine tq trivial ?_;intro Nx aB Gx aF
 refine dD (e:=3) kZ rfl kZ rfl PF rfl (by decide) aS hg (new:=[iD u.r]) (by exact⟨rfl,rfl⟩) (by rw[bC,bC,dU];show(_+1) * 8<=_;omega) fun d H6 oG j6 eM nJ=>?_
 rw[<-qT] at j6
 refine tq (dG f21 w3) ?_;intro Nx aB Gx aF
 exact⟨aV,aT,f19,f20,rfl,eM,oG,j6⟩
end Go.Proofs.YtfiipaodjpiooaaGreatDoor

