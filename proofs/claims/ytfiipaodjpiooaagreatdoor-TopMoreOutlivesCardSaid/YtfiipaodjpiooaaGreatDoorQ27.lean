/- Lemmas and contracts of functions, several texts in one. -/
import Derived.Test.YtfiipaodjpiooaaGreatDoorQ19
import Derived.Test.YtfiipaodjpiooaaGreatDoorQ26
set_option maxRecDepth 100000
set_option maxHeartbeats 4000000
set_option linter.all false
namespace Go.Proofs.YtfiipaodjpiooaaGreatDoor
open Go.RowKit
open Tryz
theorem aN6 (ts:List dS) (bm bf:Nat) (x:Int) (b:Bool) (H:aC) (K:aC->Prop) (hHf:H bf=some (.row 148 0 1 [[.fn 191 [.rp [.seq 5 (ts.map cP)],.rp [.val (.map (some bm))],.ep bf 0 1 0 0]]])) (h:bE prog 191 [i64 x,.rp [.seq 5 (ts.map cP)],.rp [.val (.map (some bm))],.ep bf 0 1 0 0] H fun d H'=>d=.val (.bool b)/\K H'):
  bE prog 193 [i64 x,.ep bf 0 1 0 0] H fun d H'=>d=.val (.bool (!b))/\K H':=by
 refine aQ _ _ func193 rfl rfl ntmps193 results193 (by simp) fun w0 g0 Q aD=>?_
 refine tq hHf ?_;intro Nx aB Gx aF
 refine h.mono ?_
 rintro d H1 ⟨rfl,hK⟩
 refine tq trivial ?_;intro Nx aB Gx aF
 refine rt aD trivial ?_
 exact⟨_,aG _,by first|exact hK|exact⟨rfl,hK⟩⟩
theorem aOZ (ts:List dS) (bm bf:Nat) (l:List Int) (G:List Int->Prop) (H0:aC) (z8:bm≠bf) (hl:l.length<=140737488351232) (hf:H0 bf=some (.row 148 0 1 [[.fn 191 [.rp [.seq 5 (ts.map cP)],.rp [.val (.map (some bm))],.ep bf 0 1 0 0]]]))
  (hc:∀x∈l,∀S,G S->bE prog 191 [i64 x,.rp [.seq 5 (ts.map cP)],.rp [.val (.map (some bm))],.ep bf 0 1 0 0] (H0.bH bm (.map (SM S))) fun d H'=>d=.val (.bool (pK ts x))/\∃S',H'=(H0.bH bm (.map (SM S))).bH bm (.map (SM S'))/\(pK ts x=true->G S'))
  (S0:List Int) (hG:G S0):
  bE prog 215 [.seq 1 (l.map iD),.fn 193 [.ep bf 0 1 0 0]] (H0.bH bm (.map (SM S0))) fun d H'=>∃r S',d=i64 r/\H'=H0.bH bm (.map (SM S'))/\((0<=r/\∃x∈l,pK ts x=false)\/(r= -1/\(∀x∈l,pK ts x=true)/\G S')):=by
 have jY:=lm iD l
 refine aQ _ _ func215 rfl rfl ntmps215 results215 (by simp) fun w0 g0 Q aD=>?_
 refine tq jY ?_;intro Nx aB Gx aF
 refine aZ l.length (fun i s=>s.df=[]/\s.fr 0=.seq 1 (l.map iD)/\s.fr 1=.fn 193 [.ep bf 0 1 0 0]/\s.fr 7=i64 l.length/\s.fr 8=i64 i/\(∃S,s.H=H0.bH bm (.map (SM S))/\G S)/\∀x∈l.take i,pK ts x=true) ⟨rfl,rfl,rfl,rfl,rfl,⟨_,rfl,hG⟩,by simp⟩ ?_
 rintro i s hi ⟨aT,f0,f1,f7,f8,⟨S,hH,hGS⟩,fF⟩
 have hx:=bI i
 have cJ:=bM i
 by_cases aV:i<l.length
 case neg=>
  have q6:=lF i l.length (by omega)
  rw[cW (by omega)] at fF
  refine tq (eA f7 f8 q6) ?_;intro Nx aB Gx aF
  refine rt aD aT ?_
  exact⟨_,aG _,-1,S,rfl,hH,.inr ⟨rfl,fF,hGS⟩⟩
 have q6:=lT i l.length (by omega)
 have w3:=wS i (by omega)
 have cD:(l.map iD)[i]?=some (iD l[i]):=by rw[dN,bX aV];rfl
 have hxl:l[i]∈l:=bU aV
 have hHf:s.H bf=some (.row 148 0 1 [[.fn 191 [.rp [.seq 5 (ts.map cP)],.rp [.val (.map (some bm))],.ep bf 0 1 0 0]]]):=by rw[hH,aN (Ne.symm z8)];exact hf
 have hq:=aN6 ts bm bf l[i] _ s.H _ hHf (by rw[hH];exact hc l[i] hxl S hGS)
 refine tq (nN f0 f1 f7 f8 jY q6 cD hx cJ aV) ?_;intro Nx aB Gx aF
 refine hq.mono ?_
 rintro d H1 ⟨rfl,S',uK,hS'⟩
 rw[oW] at uK
 subst uK
 by_cases hb:pK ts l[i]=true
 ·rw[hb]
  refine tq (dG f8 w3) ?_;intro Nx aB Gx aF
  refine⟨aV,aT,f0,f1,f7,rfl,⟨S',rfl,hS' hb⟩,fun x hx=>?_⟩
  rw[dH aV] at hx
  rcases bV.1 hx with hx|hx
  ·exact fF x hx
  ·rw[cR] at hx;rw[hx];exact hb
 ·rw[Bool.not_eq_true] at hb
  rw[hb]
  refine tq f8 ?_;intro Nx aB Gx aF
  refine rt aD aT ?_
  exact⟨_,aG _,i,S',rfl,rfl,.inl ⟨by omega,l[i],hxl,hb⟩⟩
theorem aJo (l:List Int) (f:D) (H:aC) (K:Int->aC->Prop) (h:bE prog 215 [.seq 1 (l.map iD),f] H fun d H'=>∃r,d=i64 r/\K r H'):
  bE prog 192 [.seq 1 (l.map iD),f] H fun d H'=>∃r,d=.val (.bool (decide (0<=r)))/\K r H':=by
 refine aQ _ _ func192 rfl rfl ntmps192 results192 (by simp) fun w0 g0 Q aD=>?_
 refine tq trivial ?_;intro Nx aB Gx aF
 refine h.mono ?_
 rintro d H1 ⟨r,rfl,hK⟩
 refine tq trivial ?_;intro Nx aB Gx aF
 refine rt aD trivial ?_
 exact⟨_,aG _,r,rfl,hK⟩
theorem aN5 (ts:List dS) (bm bf:Nat) (hw:zJ ts) (hr:rfN ts) (wI:ts.length<=1000000) (oF:∀t∈ts,t.ar.length<=140737488351232) (z8:bm≠bf):
  ∀(kk:Nat) (a:Int) (S:List Int) (H:aC),cE ts.length a->a<kk->H bf=some (.row 148 0 1 [[.fn 191 [.rp [.seq 5 (ts.map cP)],.rp [.val (.map (some bm))],.ep bf 0 1 0 0]]])->H bm=some (.map (SM S))->(∀x∈S,cE ts.length x)->(∀k∈S,k<=a->Cop ts k)->
   bE prog 191 [i64 a,.rp [.seq 5 (ts.map cP)],.rp [.val (.map (some bm))],.ep bf 0 1 0 0] H fun d H'=>d=.val (.bool (pK ts a))/\∃S',H'=H.bH bm (.map (SM S'))/\(pK ts a=true->(∀x∈S',cE ts.length x)/\∀x∈S',x∈S\/Cop ts x):=by
 intro kk
 induction kk using Nat.strongRecOn with
 |ind kk ih=>
  intro a S H ha hak hHf JJ hSi hSc
  have fN:=lm cP ts
  have Q9:HC a:=by unfold cE at ha;unfold HC;omega
  have zA:=aMY (by omega) hSi Q9
  have EK:=mD ha
  have hci:=aDJ hw ha
  have hdn:=Dn.F hw a ha
  have JK:(cZ ts a).ar.length<=140737488351232:=oF _ (wV ha)
  have hra:=hr _ (wV ha)
  obtain⟨t,ht⟩:∃t,t=cZ ts a:=⟨_,rfl⟩
  unfold aLY at hdn
  rw[<-ht] at EK hdn JK hci hra
  obtain⟨tk,tm,tr,te,ta⟩:=t
  simp only[cP] at EK
  have h0a:0<=a:=ha.1
  have rJ:a.toNat<ts.length:=by unfold cE at ha;omega
  have BA:a<(ts.length:Int):=ha.2
  refine aQ _ _ func191 rfl rfl ntmps191 results191 (by simp) fun w0 g0 Q aD=>?_
  by_cases h3:tk=3
  ·have q3:(tk=3)=True:=aK h3
   have OT:pK ts a= !tm:=by
    cases tm with
    |true=>exact zZ.2 fun h=>(hci.1 h).1 ⟨h3,rfl⟩
    |false=>exact EA.2 (hci.2 ⟨(fun h=>by cases h.2),by rw[hra h3];simp⟩)
   refine tq (kB EK h0a rJ BA fN q3) ?_;intro Nx aB Gx aF
   refine rt aD trivial ?_
   exact⟨_,aG _,by rw[OT],S,(tD JJ).symm,fun _=>⟨hSi,fun x hx=>.inl hx⟩⟩
  have q3:(tk=3)=False:=aI h3
  by_cases iI:a∈S
  ·have hmg:=aFs iI
   refine tq (wG EK h0a rJ BA fN q3 JJ hmg) ?_;intro Nx aB Gx aF
   refine⟨zA,?_⟩
   refine tq trivial ?_;intro Nx aB Gx aF
   refine rt aD trivial ?_
   exact⟨_,aG _,by rw[EA.2 (hSc a iI (rO _))],S,(tD JJ).symm,fun _=>⟨hSi,fun x hx=>.inl hx⟩⟩
  have hmg:=aBa iI
  have tU:=WN iI
  refine tq (wG EK h0a rJ BA fN q3 JJ hmg) ?_;intro Nx aB Gx aF
  refine⟨zA,?_⟩
  refine tq (dG JJ hmg) ?_;intro Nx aB Gx aF
  refine⟨zA,?_⟩
  rw[tU]
  refine tq (jE EK h0a rJ BA fN) ?_;intro Nx aB Gx aF
  have hf2:(H.bH bm (.map (SM (S++[a])))) bf=some (.row 148 0 1 [[.fn 191 [.rp [.seq 5 (ts.map cP)],.rp [.val (.map (some bm))],.ep bf 0 1 0 0]]]):=by rw[aN (Ne.symm z8)];exact hHf
  refine(aJo ta _ _ (fun r H'=>∃S',H'=H.bH bm (.map (SM S'))/\((0<=r/\∃x∈ta,pK ts x=false)\/(r= -1/\(∀x∈ta,pK ts x=true)/\((∀x∈S',cE ts.length x)/\∀x∈S',x∈S\/x=a\/Cop ts x)))) ((aOZ ts bm bf ta (fun S'=>(∀x∈S',cE ts.length x)/\∀x∈S',x∈S\/x=a\/Cop ts x) H z8 JK hHf (fun x hx S1 hG=>?_) (S++[a]) ⟨?_,?_⟩).mono fun d H' ⟨r,S',h1,h2,h3⟩=>⟨r,h1,S',h2,h3⟩)).mono ?_
  ·have hxa:=hdn x hx
   refine(ih (x+1).toNat (by omega) x S1 _ ⟨by omega,by omega⟩ (by omega) (by rw[aN (Ne.symm z8)];exact hHf) (aO _ _ _) hG.1 fun k hk X9=>?_).mono ?_
   ·rcases hG.2 k hk with h|h|h
    ·exact hSc k h (by omega)
    ·omega
    ·exact h
   ·rintro d H' ⟨h1,S',h2,h4⟩
    refine⟨h1,S',h2,fun hc=>⟨(h4 hc).1,fun y hy=>?_⟩⟩
    rcases(h4 hc).2 y hy with h|h
    ·exact hG.2 y h
    ·exact .inr (.inr h)
  ·intro x hx
   rcases bV.1 hx with hx|hx
   ·exact hSi x hx
   ·rw[cR] at hx;rw[hx];exact ha
  ·intro x hx
   rcases bV.1 hx with hx|hx
   ·exact .inl hx
   ·rw[cR] at hx;exact .inr (.inl hx)
  rintro d _ ⟨r,rfl,S',rfl,fG⟩
  rcases fG with⟨h0,x,hx,hxb⟩|⟨rfl,fF,hi,hm⟩
  ·have q0:(0<=r)=True:=aK h0
   have OT:pK ts a=false:=zZ.2 fun h=>zZ.1 hxb ((hci.1 h).2 x hx)
   refine tq q0 ?_;intro Nx aB Gx aF
   refine rt aD trivial ?_
   exact⟨_,aG _,by simp [OT],S',rfl,fun h=>by rw[OT] at h;cases h⟩
  ·have TE:Cop ts a:=hci.2 ⟨fun h=>h3 h.1,fun p hp=>EA.1 (fF p hp)⟩
   have OT:pK ts a=true:=EA.2 TE
   refine tq trivial ?_;intro Nx aB Gx aF
   refine rt aD trivial ?_
   exact⟨_,aG _,by simp [OT],S',rfl,fun _=>⟨hi,fun x hx=>by
    rcases hm x hx with h|h|h
    ·exact .inl h
    ·rw[h];exact .inr TE
    ·exact .inr h⟩⟩
theorem aPu (ts:List dS) (a:Int) (H:aC) (hw:zJ ts) (hr:rfN ts) (wI:ts.length<=1000000) (oF:∀t∈ts,t.ar.length<=140737488351232):
  bE prog 155 [.seq 5 (ts.map cP),i64 a] H fun d H'=>d=.val (.bool (pK ts a))/\H=H':=by
 refine bO (K:=fun d=>d=.val (.bool (pK ts a))) ?_
 have fN:=lm cP ts
 have aS:=aG H
 refine aQ _ _ func155 rfl rfl ntmps155 results155 (by simp) fun w0 g0 Q aD=>?_
 refine tq trivial ?_;intro Nx aB Gx aF
 intro c2 lH
 refine aB _ ?_
 refine fZ 2 lH ?_
 by_cases h1:0<=a
 case neg=>
  have OT:pK ts a=false:=zZ.2 fun h=>h1 h.1.1
  have q1:(a<0)=True:=aK (by omega)
  refine tq (dG fN q1) ?_;intro Nx aB Gx aF
  refine rt aD trivial ?_
  exact⟨_,aG _,aS,_,aH aS,by rw[OT]⟩
 have q1:(a<0)=False:=aI (by omega)
 by_cases h2:a<ts.length
 case neg=>
  have OT:pK ts a=false:=zZ.2 fun h=>h2 h.1.2
  have q2:((ts.length:Int)<=a)=True:=aK (by omega)
  refine tq (eA q1 q2 fN) ?_;intro Nx aB Gx aF
  refine rt aD trivial ?_
  exact⟨_,aG _,aS,_,aH aS,by rw[OT]⟩
 have q2:((ts.length:Int)<=a)=False:=aI (by omega)
 refine tq (eA q1 q2 fN) ?_;intro Nx aB Gx aF
 intro bm tR b5 hb5
 have aNv:(H.bH bm (.map [])) b5=none:=hb5
 refine aB _ ?_
 refine cA 5 rfl (aO _ _ _) rfl ?_
 refine eV (H.bH bm (.map [])) (fun x z hz=>?_) ?_
 ·have e1:x≠b5:=fun e=>by rw[e,aNv] at hz;cases hz
  show(((H.bH bm _).bH b5 _).del b5) x=_
  rw[bS e1,aN e1]
  exact hz
 simp only[St.jH,List.drop]
 refine tq trivial ?_;intro Nx aB Gx aF
 intro bf hbf
 have z8:bm≠bf:=nZ (aO _ _ _) hbf
 have RA:H bf=none:=(bY.1 hbf).2
 refine aB _ ?_
 refine tq trivial ?_;intro Nx aB Gx aF
 refine(aN5 ts bm bf hw hr wI oF z8 ts.length a [] _ ⟨by omega,by omega⟩ (by omega) (aO _ _ _) ((aN z8).trans (aO _ _ _)) (by simp) (by simp)).mono ?_
 rintro d _ ⟨rfl,S,rfl,_⟩
 refine tq trivial ?_;intro Nx aB Gx aF
 refine rt aD trivial ?_
 have YB:H.le (((H.bH bm (.map [])).bH bf (.row 148 0 1 [[.fn 191 [.rp [.seq 5 (ts.map cP)],.rp [.val (.map (some bm))],.ep bf 0 1 0 0]]])).bH bm (.map (SM S))):=bK (bK (bK (aG _) tR) RA) tR
 exact⟨_,aG _,YB,_,aH YB,rfl⟩
structure LB (M:List (Value×D)) (f:Int->Int->Bool):Prop where
 keys:∀p∈M,∃a b,fU a/\fU b/\p.1=pk a b
 val:∀a b d,mX M (pk a b)=some d->d=.val (.bool (f a b))
theorem LB.nil (f:Int->Int->Bool):LB [] f:=⟨(fun p hp=>by cases hp),fun a b d h=>by cases h⟩
theorem LB.ok {M:List (Value×D)} {f:Int->Int->Bool} (h:LB M f) {a b:Int} (ha:fU a) (hb:fU b):kOK prog 48 M (pk a b):=
 ⟨Go.Maps.Keyed.of_law R1.law,JU ha hb,fun p hp=>by obtain⟨x,y,hx,hy,e⟩:=h.keys p hp;rw[e];exact JU hx hy⟩
theorem LB.set {M:List (Value×D)} {f:Int->Int->Bool} (h:LB M f) {a b:Int} (ha:fU a) (hb:fU b):LB (iM M (pk a b) (.val (.bool (f a b)))) f where
 keys:=fun p hp=>by
  rcases J0 hp with rfl|hp
  ·exact⟨a,b,ha,hb,rfl⟩
  ·exact h.keys p hp
 val:=fun x y d hd=>by
  by_cases e:pk a b=pk x y
  ·have e':a=x/\b=y:=by simpa [pk] using e
   obtain⟨rfl,rfl⟩:=e'
   rw[pR] at hd
   injection hd with hd
   exact hd.symm
  ·rw[wQ _ _ e] at hd
   exact h.val x y d hd
theorem aBf {α:Type} {p:α->Bool} {l:List α} {i:Nat} (h:(l.take i).all p=false):l.all p=false:=by
 rw[Bool.eq_false_iff] at h ⊢
 intro hc
 apply h
 rw[eZ] at hc ⊢
 exact fun x hx=>hc x (zN hx)
theorem J7 {l:List (Int×Int)} {b1 b2 bm:Nat} {H:aC} {x:fK} (hR:yL l b1 b2 H) (h1:bm≠b1) (h2:bm≠b2):yL l b1 b2 (H.bH bm x):=by
 obtain⟨m1,m2,e1,e2,e3,e4⟩:=hR
 exact⟨m1,m2,(aN h1.symm).trans e1,e2,(aN h2.symm).trans e3,e4⟩
theorem aPR (l:List (Int×Int)) (n:Int) (ts:List dS) (b1 b2 bm bf:Nat) (hw:zJ ts) (iI:∀p∈l,cE n p.1/\cE n p.2) (hn:n<=1000000) (hl:l.length<=1000000) (wI:ts.length<=1000000) (oF:∀t∈ts,t.ar.length<=140737488351232) (aBr:bm≠b1) (aGu:bm≠b2) (z8:bm≠bf):
  ∀(kk:Nat) (a b:Int) (M:List (Value×D)) (H:aC),cE ts.length a->cE ts.length b->a<kk->b<kk->yL l b1 b2 H->H bf=some (.row 229 0 1 [[.fn 216 [.rp [.val (.map (some bm))],.rp [.seq 5 (ts.map cP)],.rp [jL n b1 b2],.ep bf 0 1 0 0]]])->H bm=some (.map M)->LB M (sP l n ts)->
   bE prog 216 [i64 a,i64 b,.rp [.val (.map (some bm))],.rp [.seq 5 (ts.map cP)],.rp [jL n b1 b2],.ep bf 0 1 0 0] H fun d H'=>d=.val (.bool (sP l n ts a b))/\∃M',H'=H.bH bm (.map M')/\LB M' (sP l n ts):=by
 intro kk
 induction kk using Nat.strongRecOn with
 |ind kk ih=>
  intro a b M H ha hb hak hbk hR hHf JJ hM
  have fN:=lm cP ts
  have Q9:fU a:=by unfold cE at ha;unfold fU;omega
  have X0:fU b:=by unfold cE at hb;unfold fU;omega
  have zA:=hM.ok Q9 X0
  have E9:H.bH bm (.map M)=H:=by
   funext x
   by_cases e:x=bm
   ·rw[e,aO,JJ]
   ·rw[aN e]
  refine aQ _ _ func216 rfl rfl ntmps216 results216 (by simp) fun w0 g0 Q aD=>?_
  simp only[pk] at zA
  cases hmg:mX M (pk a b) with
  |some d=>
   have hv:=hM.val a b d hmg
   subst hv
   simp only[pk] at hmg
   refine tq (dG JJ hmg) ?_;intro Nx aB Gx aF
   refine⟨zA,?_⟩
   refine tq trivial ?_;intro Nx aB Gx aF
   refine rt aD trivial ?_
   exact⟨_,aG _,M,E9.symm,hM⟩
  |none=>
   simp only[pk] at hmg
   refine tq (dG JJ hmg) ?_;intro Nx aB Gx aF
   refine⟨zA,?_⟩
   have EK:=mD ha
   have LU:=mD hb
   have wa:=CS hw ha
   have wb:=CS hw hb
   have JK:(cZ ts a).ar.length<=140737488351232:=by obtain⟨h',he⟩:=BP ha;rw[he];exact oF _ (bU h')
   have fG:=aEN (l:=l) (n:=n) hw ha hb
   obtain⟨t,ht⟩:∃t,t=cZ ts a:=⟨_,rfl⟩
   obtain⟨u,hu⟩:∃u,u=cZ ts b:=⟨_,rfl⟩
   rw[<-ht] at EK fG wa JK
   rw[<-hu] at LU fG wb
   obtain⟨tk,tm,tr,te,ta⟩:=t
   obtain⟨uk,um,ur,ue,ua⟩:=u
   simp only[cP] at EK LU fG wa wb JK
   have h0a:0<=a:=ha.1
   have h0b:0<=b:=hb.1
   have rJ:a.toNat<ts.length:=by unfold cE at ha;omega
   have l4:b.toNat<ts.length:=by unfold cE at hb;omega
   have BA:a<(ts.length:Int):=ha.2
   have aKQ:b<(ts.length:Int):=hb.2
   refine tq (dG JJ hmg) ?_;intro Nx aB Gx aF
   refine wE (fun t=>t==some 24||t==some 26||t==some 27||t==some 28||t==some 30||t==some 31) (fun _=>false) (fun _ _ _ _=>False) (fun _ _ _ _ _=>False) fun Nx aB=>?_;have fs:=And.intro fN (And.intro EK (And.intro LU (And.intro h0a (And.intro h0b (And.intro rJ (And.intro l4 (And.intro BA aKQ)))))));refine TU ?_;(first|refine aF _ ?_|refine aB _ ?_|skip);(try clear fs)
   intro b11 aNu b12 aGt
   have fM:b11≠b12:=nZ (aO _ _ _) aGt
   have aQO:H b12=none:=(bY.1 aGt).2
   simp only[aN fM,aN fM.symm,aO,qO,List.set_cons_zero,List.drop]
   refine⟨trivial,trivial,by decide,trivial,trivial,by decide,aB _ ?_⟩
   refine cA 11 rfl ((aN fM).trans (aO _ _ _)) rfl ?_
   refine cA 12 rfl ((bS fM.symm).trans (aO _ _ _)) rfl ?_
   refine eV H (fun x z hz=>?_) ?_
   ·have e1:x≠b11:=fun e=>by rw[e,aNu] at hz;cases hz
    have e2:x≠b12:=fun e=>by rw[e,aQO] at hz;cases hz
    show((((((H.bH b11 _).bH b12 _).bH b11 _).bH b12 _).del b11).del b12) x=_
    rw[bS e2,bS e1,aN e2,aN e1,aN e2,aN e1]
    exact hz
   obtain⟨P1,hP1⟩:∃P1,P1=(decide (tk=uk)&&(decide (tm=um)&&decide (ta.length=ua.length))):=⟨_,rfl⟩
   obtain⟨Kp,hKp⟩:∃Kp,Kp=(if tk=3 then lL l n tr ur&&(sP l n ts te ue&&(!tm||sP l n ts ue te)) else true):=⟨_,rfl⟩
   rw[<-hKp] at fG
   have aMd:sP l n ts a b=((P1&&Kp)&&(ta.zip ua).all fun p=>sP l n ts p.1 p.2):=by rw[fG,hP1];simp only[Bool.and_assoc]
   have NF:=lm iD ta
   have hua:=lm iD ua
   refine aCv (fun s=>s.df=[]/\s.fr 0=i64 a/\s.fr 1=i64 b/\s.fr 2=.rp [.val (.map (some bm))]/\s.fr 3=.rp [.seq 5 (ts.map cP)]/\s.fr 4=.rp [jL n b1 b2]/\s.fr 5=.ep bf 0 1 0 0/\s.fr 9=.val (.bool P1)/\s.fr 11=.rp [i64 tk,.val (.bool tm),i64 tr,i64 te,.seq 1 (ta.map iD)]/\s.fr 12=.rp [i64 uk,.val (.bool um),i64 ur,i64 ue,.seq 1 (ua.map iD)]/\s.H=H) ?_ ?_
   ·simp only[St.jH,List.drop]
    by_cases g1:tk=uk
    case neg=>
     have q1:(tk=uk)=False:=aI g1
     refine tq q1 ?_;intro Nx aB Gx aF
     exact⟨rfl,rfl,rfl,rfl,rfl,rfl,rfl,by rw[hP1,bB g1] <;> rfl,rfl,rfl,rfl⟩
    have q1:(tk=uk)=True:=aK g1
    by_cases g2:tm=um
    case neg=>
     have q2:(tm=um)=False:=aI g2
     refine tq (dG q1 q2) ?_;intro Nx aB Gx aF
     exact⟨rfl,rfl,rfl,rfl,rfl,rfl,rfl,by rw[hP1,bG g1,bB g2] <;> rfl,rfl,rfl,rfl⟩
    have q2:(tm=um)=True:=aK g2
    by_cases g3:ta.length=ua.length
    ·have q3:((ta.length:Int)=(ua.length:Int))=True:=aK (by omega)
     refine tq (jE q1 q2 q3 NF hua) ?_;intro Nx aB Gx aF
     exact⟨rfl,rfl,rfl,rfl,rfl,rfl,rfl,by rw[hP1,bG g1,bG g2,bG g3] <;> rfl,rfl,rfl,rfl⟩
    ·have q3:((ta.length:Int)=(ua.length:Int))=False:=aI (by omega)
     refine tq (jE q1 q2 q3 NF hua) ?_;intro Nx aB Gx aF
     exact⟨rfl,rfl,rfl,rfl,rfl,rfl,rfl,by rw[hP1,bG g1,bG g2,bB g3] <;> rfl,rfl,rfl,rfl⟩
   rintro s ⟨aT,f0,f1,f2,f3,f4,f5,f9,f11,f12,hH⟩
   refine aCv (fun s=>s.df=[]/\s.fr 0=i64 a/\s.fr 1=i64 b/\s.fr 2=.rp [.val (.map (some bm))]/\s.fr 3=.rp [.seq 5 (ts.map cP)]/\s.fr 4=.rp [jL n b1 b2]/\s.fr 5=.ep bf 0 1 0 0/\s.fr 9=.val (.bool (P1&&Kp))/\s.fr 11=.rp [i64 tk,.val (.bool tm),i64 tr,i64 te,.seq 1 (ta.map iD)]/\s.fr 12=.rp [i64 uk,.val (.bool um),i64 ur,i64 ue,.seq 1 (ua.map iD)]/\∃M,s.H=H.bH bm (.map M)/\LB M (sP l n ts)) ?_ ?_
   ·cases hp1:P1 with
    |false=>
     rw[hp1] at f9
     refine tq (dG f9 f11) ?_;intro Nx aB Gx aF
     exact⟨aT,f0,f1,f2,f3,f4,f5,f9,f11,f12,M,hH.trans E9.symm,hM⟩
    |true=>
     rw[hp1] at f9 hP1
     have g1:tk=uk:=by
      have:=hP1.symm
      simp only[eK,fV] at this
      exact this.1
     by_cases h5:tk=3
     case neg=>
      have q5:(tk=3)=False:=aI h5
      rw[aA h5] at hKp
      refine tq (eA f9 f11 q5) ?_;intro Nx aB Gx aF
      exact⟨aT,f0,f1,f2,f3,f4,f5,by rw[hKp];exact f9,f11,f12,M,hH.trans E9.symm,hM⟩
     have q5:(tk=3)=True:=aK h5
     rw[aE h5] at hKp
     have hea:=wa.1 h5
     have heb:=wb.1 (g1▸h5)
     have hie:cE ts.length te:=⟨hea.1,by omega⟩
     have hiu:cE ts.length ue:=⟨heb.1,by omega⟩
     refine tq (kB f4 f9 f11 f12 q5 hH) ?_;intro Nx aB Gx aF
     refine(aID l n tr ur b1 b2 H hR iI hn hl).mono ?_
     rintro d _ ⟨rfl,rfl⟩
     cases ho:lL l n tr ur with
     |false=>
      rw[ho,gC] at hKp
      refine tq (eA f9 f11 f12) ?_;intro Nx aB Gx aF
      exact⟨aT,f0,f1,f2,f3,f4,f5,by rw[hKp] <;> rfl,f11,f12,M,E9.symm,hM⟩
     |true=>
      rw[ho,eI] at hKp
      refine tq (jE f5 f9 f11 f12 hHf) ?_;intro Nx aB Gx aF
      refine(ih (kk - 1) (by omega) te ue M H hie hiu (by omega) (by omega) hR hHf JJ hM).mono ?_
      rintro d _ ⟨rfl,M2,rfl,TB⟩
      cases hs1:sP l n ts te ue with
      |false=>
       rw[hs1,gC] at hKp
       refine tq (gQ f5 f9 f11 f12) ?_;intro Nx aB Gx aF
       exact⟨aT,f0,f1,f2,f3,f4,f5,by rw[hKp] <;> rfl,f11,f12,M2,rfl,TB⟩
      |true=>
       rw[hs1,eI] at hKp
       by_cases K6:tm=true
       case neg=>
        have aFI:tm=false:=by simpa using K6
        rw[aFI] at hKp
        rw[aFI] at f11
        refine tq (gQ f5 f9 f11 f12) ?_;intro Nx aB Gx aF
        exact⟨aT,f0,f1,f2,f3,f4,f5,by rw[hKp] <;> rfl,by rw[aFI];exact f11,f12,M2,rfl,TB⟩
       rw[K6] at hKp
       rw[K6] at f11
       have aA4:(H.bH bm (.map M2)) bf=some (.row 229 0 1 [[.fn 216 [.rp [.val (.map (some bm))],.rp [.seq 5 (ts.map cP)],.rp [jL n b1 b2],.ep bf 0 1 0 0]]]):=(aN z8.symm).trans hHf
       refine tq (jE f5 f9 f11 f12 aA4) ?_;intro Nx aB Gx aF
       refine(ih (kk - 1) (by omega) ue te M2 _ hiu hie (by omega) (by omega) (J7 hR aBr aGu) aA4 (aO _ _ _) TB).mono ?_
       rintro d _ ⟨rfl,M3,rfl,hM3⟩
       refine tq (gQ f5 f9 f11 f12) ?_;intro Nx aB Gx aF
       exact⟨aT,f0,f1,f2,f3,f4,f5,by rw[hKp] <;> rfl,by rw[K6];exact f11,f12,M3,rfl,hM3⟩
   rintro s ⟨aT,f0,f1,f2,f3,f4,f5,f9,f11,f12,hM'⟩
   refine tq trivial ?_;intro Nx aB Gx aF
   refine aZ ta.length (fun i s=>s.df=[]/\s.fr 0=i64 a/\s.fr 1=i64 b/\s.fr 2=.rp [.val (.map (some bm))]/\s.fr 3=.rp [.seq 5 (ts.map cP)]/\s.fr 4=.rp [jL n b1 b2]/\s.fr 5=.ep bf 0 1 0 0/\s.fr 9=.val (.bool ((P1&&Kp)&&((ta.zip ua).take i).all fun p=>sP l n ts p.1 p.2))/\s.fr 11=.rp [i64 tk,.val (.bool tm),i64 tr,i64 te,.seq 1 (ta.map iD)]/\s.fr 12=.rp [i64 uk,.val (.bool um),i64 ur,i64 ue,.seq 1 (ua.map iD)]/\s.fr 13=i64 i/\∃M,s.H=H.bH bm (.map M)/\LB M (sP l n ts)) ⟨aT,f0,f1,f2,f3,f4,f5,by rw[wZ,tI,lR];exact f9,f11,f12,rfl,hM'⟩ ?_
   rintro i s2 hi ⟨qX,f0,f1,f2,f3,f4,f5,f9,f11,f12,f13,M2,mV,TB⟩
   have hx:=bI i
   have cJ:=bM i
   have aOO:=TB.ok Q9 X0
   simp only[pk] at aOO
   have aGq:(H.bH bm (.map M2)) bm=some (.map M2):=aO _ _ _
   cases hv:((P1&&Kp)&&((ta.zip ua).take i).all fun p=>sP l n ts p.1 p.2) with
   |false=>
    rw[hv] at f9
    have jQ:sP l n ts a b=false:=by
     rw[aMd]
     cases hpk:(P1&&Kp) with
     |false=>rfl
     |true=>rw[hpk,eI] at hv;rw[aBf hv];rfl
    refine tq (nN f0 f1 f2 f9 f11 f13 NF mV jQ aGq) ?_;intro Nx aB Gx aF;refine⟨aOO,?_⟩;refine tq f9 ?_;intro Nx aB Gx aF;refine rt aD qX ?_;have tU:=TB.set Q9 X0;rw[jQ] at tU;simp only[pk] at tU;exact⟨_,aG _,(by first|rfl|trivial|rw[jQ]),_,(by first|rfl|exact oW _ _ _ _),tU⟩
   |true=>
    rw[hv] at f9
    have hvb:=hv
    rw[eK] at hvb
    have hpk:=hvb.1
    rw[eK] at hpk
    have fJ:ta.length=ua.length:=by
     have:=hpk.1
     rw[hP1] at this
     simp only[eK,fV] at this
     exact this.2.2
    have NH:(ta.zip ua).length=ta.length:=by rw[List.length_zip];omega
    by_cases aV:i<ta.length
    case neg=>
     have q4:=lF i ta.length (by omega)
     have jQ:sP l n ts a b=true:=by
      rw[cW (by omega)] at hv
      rw[aMd,hv]
     refine tq (rQ f0 f1 f2 f9 f11 f13 NF mV jQ aGq q4) ?_;intro Nx aB Gx aF;refine⟨aOO,?_⟩;refine tq f9 ?_;intro Nx aB Gx aF;refine rt aD qX ?_;have tU:=TB.set Q9 X0;rw[jQ] at tU;simp only[pk] at tU;exact⟨_,aG _,(by first|rfl|trivial|rw[jQ]),_,(by first|rfl|exact oW _ _ _ _),tU⟩
    have q4:=lT i ta.length (by omega)
    have hiu:i<ua.length:=by omega
    have cD:=cO aV
    have hgu:=cO hiu
    have w3:=wS i (by omega)
    have hxa:=wa.2 ta[i] (bU aV)
    have hya:=wb.2 ua[i] (bU hiu)
    have aA4:(H.bH bm (.map M2)) bf=some (.row 229 0 1 [[.fn 216 [.rp [.val (.map (some bm))],.rp [.seq 5 (ts.map cP)],.rp [jL n b1 b2],.ep bf 0 1 0 0]]]):=(aN z8.symm).trans hHf
    have eP:=ih (kk - 1) (by omega) ta[i] ua[i] M2 _ ⟨hxa.1,by unfold cE at ha;omega⟩ ⟨hya.1,by unfold cE at hb;omega⟩ (by omega) (by omega) (J7 hR aBr aGu) aA4 aGq TB
    have EN:((P1&&Kp)&&((ta.zip ua).take (i+1)).all fun p=>sP l n ts p.1 p.2)=sP l n ts ta[i] ua[i]:=by
     rw[dH (by omega),P4,<-Bool.and_assoc,hv,eI,List.getElem_zip]
     simp
    refine tq (jE f9 f11 f13 NF q4) ?_;intro Nx aB Gx aF
    obtain⟨x,tV⟩:∃x,x=ta[i]:=⟨_,rfl⟩
    obtain⟨y,hye⟩:∃y,y=ua[i]:=⟨_,rfl⟩
    rw[<-tV] at cD
    rw[<-hye] at hgu
    rw[<-tV,<-hye] at eP EN
    refine wE (fun _=>false) (fun t=>decide (t=some 107)) (fun _ _ _ _=>False) (fun _ _ H0 d H'=>d=.val (.bool (sP l n ts x y))/\∃M',H'=H0.bH bm (.map M')/\LB M' (sP l n ts)) fun Nx aB=>?_;have fs:=And.intro f5 (And.intro f9 (And.intro f11 (And.intro f12 (And.intro f13 (And.intro NF (And.intro hua (And.intro cD (And.intro hgu (And.intro hx (And.intro cJ (And.intro aV (And.intro hiu (And.intro mV aA4)))))))))))));refine TU ?_;(first|refine aF _ ?_|refine aB _ ?_|skip);(try clear fs)
    refine⟨eP.mono (fun d H' ⟨e1,M',e2,e3⟩=>⟨e1,M',e2.trans (oW _ _ _ _),e3⟩),?_⟩
    rintro d _ ⟨rfl,M3,rfl,hM3⟩
    refine aB _ ?_
    refine tq (dG f13 w3) ?_;intro Nx aB Gx aF
    exact⟨aV,qX,f0,f1,f2,f3,f4,f5,by rw[EN] <;> rfl,f11,f12,rfl,M3,rfl,hM3⟩
theorem aR4 (l:List (Int×Int)) (n:Int) (ts:List dS) (b1 b2:Nat) (H:aC) (hw:zJ ts) (iI:∀p∈l,cE n p.1/\cE n p.2) (hn:n<=1000000) (hl:l.length<=1000000) (wI:ts.length<=1000000) (oF:∀t∈ts,t.ar.length<=140737488351232) (hR:yL l b1 b2 H) (a b:Int):
  bE prog 194 [jL n b1 b2,.seq 5 (ts.map cP),i64 a,i64 b] H fun d H'=>d=.val (.bool (IF l n ts a b))/\H=H':=by
 refine bO (K:=fun d=>d=.val (.bool (IF l n ts a b))) ?_
 have fN:=lm cP ts
 refine aQ _ _ func194 rfl rfl ntmps194 results194 (by simp) fun w0 g0 Q aD=>?_
 refine tq fN ?_;intro Nx aB Gx aF
 intro c4 uL c5 lY
 have fM:c4≠c5:=nZ (aO _ _ _) lY
 have aA6:H c5=none:=(bY.1 lY).2
 refine aB _ ?_
 refine cA 4 rfl ((aN fM).trans (aO _ _ _)) rfl ?_
 refine cA 5 rfl ((bS fM.symm).trans (aO _ _ _)) rfl ?_
 refine eV H (fun x z hz=>?_) ?_
 ·have e1:x≠c4:=fun e=>by rw[e,uL] at hz;cases hz
  have e2:x≠c5:=fun e=>by rw[e,aA6] at hz;cases hz
  show((((H.bH c4 _).bH c5 _).del c4).del c5) x=_
  rw[bS e2,bS e1,aN e2,aN e1]
  exact hz
 simp only[St.jH,List.drop]
 by_cases h1:min a b<0
 ·have p1:(min a b<0)=True:=aK h1
  refine tq (dG @jL.eq_1 p1) ?_;intro Nx aB Gx aF
  refine rt aD trivial ?_
  exact⟨_,aG _,aG _,_,aH (aG _),by rw[MJ fun h=>by have:=h.1.1;have:=h.2.1;omega]⟩
 have p1:(min a b<0)=False:=aI h1
 by_cases h2:(ts.length:Int)<=max a b
 ·have p2:((ts.length:Int)<=max a b)=True:=aK h2
  refine tq (gQ @jL.eq_1 p1 p2 fN) ?_;intro Nx aB Gx aF
  refine rt aD trivial ?_
  exact⟨_,aG _,aG _,_,aH (aG _),by rw[MJ fun h=>by have:=h.1.2;have:=h.2.2;omega]⟩
 have p2:((ts.length:Int)<=max a b)=False:=aI h2
 have ha:cE ts.length a:=⟨by omega,by omega⟩
 have hb:cE ts.length b:=⟨by omega,by omega⟩
 refine to (gQ @jL.eq_1 p1 p2 fN) ?_;intro Nx aB Gx aF
 intro bm tR b9 hb9
 obtain⟨m1,m2,e1,e2,e3,e4⟩:=hR
 have aBr:bm≠b1:=fun e=>by rw[e,e1] at tR;cases tR
 have aGu:bm≠b2:=fun e=>by rw[e,e3] at tR;cases tR
 have aYJ:(H.bH bm (.map [])) b9=none:=hb9
 refine aB _ ?_
 refine cA 9 rfl (aO _ _ _) rfl ?_
 refine eV (H.bH bm (.map [])) (fun x z hz=>?_) ?_
 ·have e1:x≠b9:=fun e=>by rw[e,aYJ] at hz;cases hz
  show(((H.bH bm _).bH b9 _).del b9) x=_
  rw[bS e1,aN e1]
  exact hz
 simp only[St.jH,List.drop]
 refine tq trivial ?_;intro Nx aB Gx aF
 intro bf hbf
 refine tq trivial ?_;intro Nx aB Gx aF
 have z8:bm≠bf:=nZ (aO _ _ _) hbf
 have RA:H bf=none:=(bY.1 hbf).2
 have hR':∀x,yL l b1 b2 ((H.bH bm (.map [])).bH bf (.row 229 0 1 x)):=fun x=>by
  have f1:bf≠b1:=fun e=>by rw[e,e1] at RA;cases RA
  have f2:bf≠b2:=fun e=>by rw[e,e3] at RA;cases RA
  exact J7 (J7 ⟨m1,m2,e1,e2,e3,e4⟩ aBr aGu) f1 f2
 refine(aPR l n ts b1 b2 bm bf hw iI hn hl wI oF aBr aGu z8 ts.length a b [] _ ha hb (by unfold cE at ha;omega) (by unfold cE at hb;omega) (hR' _) (aO _ _ _) ((aN z8).trans (aO _ _ _)) (LB.nil _)).mono ?_
 rintro d _ ⟨rfl,M',rfl,hM'⟩
 refine tq trivial ?_;intro Nx aB Gx aF
 refine rt aD trivial ?_
 have aS:H.le (((H.bH bm (.map [])).bH bf (.row 229 0 1 [[.fn 216 [.rp [.val (.map (some bm))],.rp [.seq 5 (ts.map cP)],.rp [jL n b1 b2],.ep bf 0 1 0 0]]])).bH bm (.map M')):=bK (bK (bK (aG _) tR) RA) tR
 exact⟨_,aG _,aS,_,aH aS,by rw[SL ha hb]⟩
def D7 (b:cT) (n:Int) (b1 b2:Nat):List D:=iS b++[jL n b1 b2]
structure Ck (b:cT):Prop where
 wt:zJ b.ty
 rf:rfN b.ty
 wl:wfL b.ty b.lc
 ar:arN b.ty
 tl:b.ty.length<=1000000
 ol:∀p∈b.ol,cE b.rg.length p.1/\cE b.rg.length p.2
 oll:b.ol.length<=1000000
 rgl:b.rg.length<=1000000
 lcl:dO b.lc.length
 bll:dO b.bl.length
theorem arN.dO {ts:List dS} (h:arN ts):∀t∈ts,t.ar.length<=140737488351232:=fun t ht=>by have:=h t ht;omega
theorem S6 (p:pA) (H:aC) (hp:dO p.pr.length):bE prog 108 [.agg (lN p)] H fun d H'=>d=.val (.bool (gL p))/\H=H':=by
 refine bO (K:=fun d=>d=.val (.bool (gL p))) ?_
 have aS:=aG H
 have dX:=lm pD p.pr
 refine aQ _ _ func108 rfl rfl ntmps108 results108 (by simp) fun w0 g0 Q aD=>?_
 refine tq @lN.eq_1 ?_;intro Nx aB Gx aF
 intro c1 mA
 refine aB _ ?_
 refine fZ 1 mA ?_
 by_cases h1:p.lo=0
 case neg=>
  have q1:(p.lo=0)=False:=aI h1
  have e:gL p=false:=by unfold gL;rw[bB h1,gC]
  refine tq q1 ?_;intro Nx aB Gx aF
  refine rt aD trivial ?_
  exact⟨_,aG _,aS,_,aH aS,by rw[e]⟩
 have q1:(p.lo=0)=True:=aK h1
 by_cases h2:p.pr.length=0
 ·have q2:((p.pr.length:Int)=0)=True:=aK (by omega)
  have e:gL p=true:=by unfold gL;rw[bG h1,bG h2];rfl
  refine tq (eA q1 q2 dX) ?_;intro Nx aB Gx aF
  refine rt aD trivial ?_
  exact⟨_,aG _,aS,_,aH aS,by rw[e]⟩
 ·have q2:((p.pr.length:Int)=0)=False:=aI (by omega)
  have e:gL p=false:=by unfold gL;rw[bB h2,kI]
  refine tq (eA q1 q2 dX) ?_;intro Nx aB Gx aF
  refine rt aD trivial ?_
  exact⟨_,aG _,aS,_,aH aS,by rw[e]⟩
theorem AW (x:Bool) (H:aC):bE prog 113 [.val (.bool x)] H fun d H'=>d=i64 (if x=true then 22 else 0)/\H=H':=by
 refine bO (K:=fun d=>d=i64 (if x=true then 22 else 0)) ?_
 have aS:=aG H
 refine aQ _ _ func113 rfl rfl ntmps113 results113 (by simp) fun w0 g0 Q aD=>?_
 cases x
 ·refine tq trivial ?_;intro Nx aB Gx aF
  refine rt aD trivial ?_
  exact⟨_,aG _,aS,_,aH aS,rfl⟩
 ·refine tq trivial ?_;intro Nx aB Gx aF
  refine rt aD trivial ?_
  exact⟨_,aG _,aS,_,aH aS,rfl⟩
def LK:List Int->Int
 |[]=>0
 |e::l=>if e≠0 then e else LK l
theorem aDU (l:List Int) (H:aC) (hl:dO l.length):bE prog 103 [.seq 1 (l.map iD)] H fun d H'=>d=i64 (LK l)/\H=H':=by
 refine bO (K:=fun d=>d=i64 (LK l)) ?_
 have dX:=lm iD l
 unfold dO at hl
 refine aQ _ _ func103 rfl rfl ntmps103 results103 (by simp) fun w0 g0 Q aD=>?_
 refine tq dX ?_;intro Nx aB Gx aF
 refine aZ l.length (fun i s=>s.df=[]/\s.fr 5=.seq 1 (l.map iD)/\s.fr 6=i64 l.length/\s.fr 7=i64 i/\s.H=H/\LK l=LK (l.drop i)) ⟨rfl,rfl,rfl,rfl,rfl,rfl⟩ ?_
 rintro i s hi ⟨aT,f5,f6,f7,hH,ha⟩
 have hx:=bI i
 have cJ:=bM i
 have aY:H.le s.H:=by rw[hH];exact aG _
 by_cases aV:i<l.length
 case neg=>
  have q6:=lF i l.length (by omega)
  rw[eT (by omega)] at ha
  refine tq (eA f6 f7 q6) ?_;intro Nx aB Gx aF
  refine rt aD aT ?_
  exact⟨_,aG _,aY,_,aH aY,by rw[ha] <;> rfl⟩
 have cC:(i:Int)<(l.length:Int):=by omega
 have q6:((i:Int)<(l.length:Int))=True:=aK cC
 have w3:=wS i (by omega)
 have cD:=cO aV
 rw[eH aV,LK] at ha
 by_cases h0:l[i]=0
 ·have q7:(l[i]=0)=True:=aK h0
  rw[aA (fun h=>h h0)] at ha
  refine tq (zY f5 f6 f7 dX q6 cD hx cJ aV cC q7 w3) ?_;intro Nx aB Gx aF
  exact⟨aV,aT,f5,f6,rfl,hH,ha⟩
 ·have q7:(l[i]=0)=False:=aI h0
  rw[aE h0] at ha
  refine tq (rQ f5 f6 f7 dX q6 cD hx cJ aV cC q7) ?_;intro Nx aB Gx aF
  refine rt aD aT ?_
  exact⟨_,aG _,aY,_,aH aY,by rw[ha] <;> rfl⟩
theorem xA (b:cT) (n:Int) (b1 b2:Nat) (p:pA) (H:aC) (ck:Ck b) (hp:dO p.pr.length):bE prog 116 [.agg (D7 b n b1 b2),.agg (lN p)] H fun d H'=>d=.pG [i64 (uE b p).1,i64 (uE b p).2]/\H=H':=by
 refine bO (K:=fun d=>d=.pG [i64 (uE b p).1,i64 (uE b p).2]) ?_
 have aS:=aG H
 have hq:=aIs b.ty b.lc p H ck.wt ck.wl ck.ar hp
 simp only[lN] at hq
 unfold uE
 refine aQ _ _ func116 rfl rfl ntmps116 results116 (by simp) fun w0 g0 Q aD=>?_
 simp only[D7,iS,gP,gZ]
 refine tq @lN.eq_1 ?_;intro Nx aB Gx aF
 intro c2 lH c3 j5
 refine aB _ ?_
 obtain⟨lK,sH⟩:=bY.1 j5;refine cA 2 rfl ((aN lK.symm).trans (aO _ _ _)) rfl ?_;refine cA 3 rfl ((bS lK).trans (aO _ _ _)) rfl ?_;refine eV _ (kF lH sH) ?_;simp only[St.jH,List.drop]
 refine tq trivial ?_;intro Nx aB Gx aF
 refine hq.mono ?_
 rintro d _ ⟨rfl,rfl⟩
 refine tq trivial ?_;intro Nx aB Gx aF
 refine rt aD trivial ?_
 exact⟨_,aG _,aS,_,aH aS,rfl⟩
theorem VU (b:cT) (n:Int) (b1 b2:Nat) (o:qV) (H:aC) (ck:Ck b) (hp:RW o):bE prog 112 [.agg (D7 b n b1 b2),.agg (jW o)] H fun d H'=>d=i64 (qU b o)/\H=H':=by
 refine bO (K:=fun d=>d=i64 (qU b o)) ?_
 have aS:=aG H
 have pE:=xA b n b1 b2 o.pl H ck hp
 have O0:=S6 o.pl H hp
 have K5:=aD2 o.pl H hp
 have TE:=fun a=>aPu b.ty a H ck.wt ck.rf ck.tl ck.ar.dO
 have hfa:=fun x=>AW x H
 obtain⟨y,hy⟩:∃y,y=qU b o:=⟨_,rfl⟩
 rw[<-hy]
 unfold qU at hy
 obtain⟨T,hT⟩:∃T,T=uE b o.pl:=⟨_,rfl⟩
 rw[<-hT] at hy pE
 clear hT
 obtain⟨k,p,v⟩:=o
 simp only at hy
 simp only[D7,iS,gP,gZ,lN] at pE
 simp only[lN] at O0 K5
 refine aQ _ _ func112 rfl rfl ntmps112 results112 (by simp) fun w0 g0 Q aD=>?_
 simp only[D7,iS,gP,gZ]
 refine tq @jW.eq_1 ?_;intro Nx aB Gx aF
 intro c2 lH c3 j5
 refine aB _ ?_
 obtain⟨lK,sH⟩:=bY.1 j5;refine cA 2 rfl ((aN lK.symm).trans (aO _ _ _)) rfl ?_;refine cA 3 rfl ((bS lK).trans (aO _ _ _)) rfl ?_;refine eV _ (kF lH sH) ?_;simp only[St.jH,List.drop]
 by_cases hk:k=2
 ·have k0:(k=0)=False:=aI (by omega)
  have k1:(k=1)=False:=aI (by omega)
  have k2:(k=2)=True:=aK hk
  have k3:(k=3)=False:=aI (by omega)
  have k4:(k=4)=False:=aI (by omega)
  rw[aA (by omega)] at hy
  refine tq (jE k0 k1 k3 k4 k2) ?_;intro Nx aB Gx aF
  refine O0.mono ?_
  rintro d _ ⟨rfl,rfl⟩
  cases hz:gL p
  ·have e:y=2:=hy.trans (aE (.inr ⟨by omega,hz⟩))
   exact oz aD (jE k0 k1 k2 k3 k4) aS e
  ·have e:y=0:=hy.trans (by rw[aA (by rw[hz];rintro(⟨_,h,_⟩|⟨_,h⟩);exact h hk;cases h),aA (by omega),aE (by omega)])
   exact oz aD (jE k0 k1 k2 k3 k4) aS e
 by_cases hk:k=3
 ·have k0:(k=0)=False:=aI (by omega)
  have k1:(k=1)=False:=aI (by omega)
  have k2:(k=2)=False:=aI (by omega)
  have k3:(k=3)=True:=aK hk
  have k4:(k=4)=False:=aI (by omega)
  rw[aA (by omega)] at hy
  refine tq (jE k0 k1 k3 k4 k2) ?_;intro Nx aB Gx aF
  refine O0.mono ?_
  rintro d _ ⟨rfl,rfl⟩
  cases hz:gL p
  ·have e:y=2:=hy.trans (aE (.inr ⟨by omega,hz⟩))
   exact oz aD (jE k0 k1 k2 k3 k4) aS e
  rw[aA (by rw[hz];rintro(⟨_,_,h⟩|⟨_,h⟩);exact h hk;cases h)] at hy
  by_cases h0:v=0
  ·have q0:(v=0)=True:=aK h0
   have e:y=0:=hy.trans (by rw[aA (by omega),aE (by omega)])
   exact oz aD (kB k0 k1 k2 k3 k4 q0) aS e
  have q0:(v=0)=False:=aI h0
  by_cases h1:v=1
  ·have q1:(v=1)=True:=aK h1
   have e:y=0:=hy.trans (by rw[aA (by omega),aE (by omega)])
   exact oz aD (nF k0 k1 k2 k3 k4 q0 q1) aS e
  ·have q1:(v=1)=False:=aI h1
   have e:y=3:=hy.trans (aE ⟨hk,h0,h1⟩)
   exact oz aD (nF k0 k1 k2 k3 k4 q0 q1) aS e
 by_cases hk:k=4
 ·have k0:(k=0)=False:=aI (by omega)
  have k1:(k=1)=False:=aI (by omega)
  have k2:(k=2)=False:=aI (by omega)
  have k3:(k=3)=False:=aI (by omega)
  have k4:(k=4)=True:=aK hk
  rw[aA (by omega)] at hy
  by_cases h0:v=0
  case neg=>
   have q0:(v=0)=False:=aI h0
   have e:y=2:=hy.trans (aE (.inl ⟨h0,by omega,by omega⟩))
   exact oz aD (kB k0 k1 k2 k3 k4 q0) aS e
  have q0:(v=0)=True:=aK h0
  refine tq (kB k0 k1 k2 k3 k4 q0) ?_;intro Nx aB Gx aF
  refine O0.mono ?_
  rintro d _ ⟨rfl,rfl⟩
  cases hz:gL p
  ·have e:y=2:=hy.trans (aE (.inr ⟨by omega,hz⟩))
   exact oz aD (jE k0 k1 k2 k3 k4) aS e
  ·have e:y=0:=hy.trans (by rw[aA (by rw[hz];rintro(⟨h,_⟩|⟨_,h⟩);exact h h0;cases h),aA (by omega),aE (by omega)])
   exact oz aD (jE k0 k1 k2 k3 k4) aS e
 by_cases hk:k=0
 ·have k0:(k=0)=True:=aK hk
  have k1:(k=1)=False:=aI (by omega)
  have k2:(k=2)=False:=aI (by omega)
  have k3:(k=3)=False:=aI (by omega)
  have k4:(k=4)=False:=aI (by omega)
  rw[aA (by omega)] at hy
  by_cases h0:v=0
  case neg=>
   have q0:(v=0)=False:=aI h0
   have e:y=2:=hy.trans (aE (.inl ⟨h0,by omega,by omega⟩))
   exact oz aD (kB k0 k1 k2 k3 k4 q0) aS e
  have q0:(v=0)=True:=aK h0
  rw[aA (by omega),aA (by omega),aA (by omega)] at hy
  refine tq (kB k0 k1 k2 k3 k4 q0) ?_;intro Nx aB Gx aF
  refine pE.mono ?_
  rintro d _ ⟨rfl,rfl⟩
  by_cases h2:T.2=0
  case neg=>
   have q2:(T.2=0)=False:=aI h2
   have e:y=T.2:=hy.trans (aE h2)
   exact oz aD q2 aS e
  have q2:(T.2=0)=True:=aK h2
  rw[aA (fun h=>h h2)] at hy
  refine tq (dG k0 q2) ?_;intro Nx aB Gx aF
  refine(TE _).mono ?_
  rintro d _ ⟨rfl,rfl⟩
  have e:y=if pK b.ty T.1=false then 22 else 0:=by
   rw[hy]
   cases pK b.ty T.1 <;> simp [hk]
  refine tq trivial ?_;intro Nx aB Gx aF
  refine(hfa _).mono ?_
  rintro d _ ⟨rfl,rfl⟩
  exact oz aD k0 aS e
 by_cases hk:k=1
 ·have k0:(k=0)=False:=aI (by omega)
  have k1:(k=1)=True:=aK hk
  have k2:(k=2)=False:=aI (by omega)
  have k3:(k=3)=False:=aI (by omega)
  have k4:(k=4)=False:=aI (by omega)
  rw[aA (by omega)] at hy
  by_cases h0:v=0
  case neg=>
   have q0:(v=0)=False:=aI h0
   have e:y=2:=hy.trans (aE (.inl ⟨h0,by omega,by omega⟩))
   exact oz aD (kB k0 k1 k2 k3 k4 q0) aS e
  have q0:(v=0)=True:=aK h0
  rw[aA (by omega),aA (by omega),aA (by omega)] at hy
  refine tq (kB k0 k1 k2 k3 k4 q0) ?_;intro Nx aB Gx aF
  refine pE.mono ?_
  rintro d _ ⟨rfl,rfl⟩
  by_cases h2:T.2=0
  case neg=>
   have q2:(T.2=0)=False:=aI h2
   have e:y=T.2:=hy.trans (aE h2)
   exact oz aD q2 aS e
  have q2:(T.2=0)=True:=aK h2
  rw[aA (fun h=>h h2)] at hy
  refine tq (dG k0 q2) ?_;intro Nx aB Gx aF
  refine K5.mono ?_
  rintro d _ ⟨rfl,rfl⟩
  have e:y=if y9 p 0=true then 22 else 0:=by
   rw[hy]
   cases y9 p 0 <;> simp [hk]
  refine tq trivial ?_;intro Nx aB Gx aF
  refine(hfa _).mono ?_
  rintro d _ ⟨rfl,rfl⟩
  exact oz aD k0 aS e
 have k0:(k=0)=False:=aI (by omega)
 have k1:(k=1)=False:=aI (by omega)
 have k2:(k=2)=False:=aI (by omega)
 have k3:(k=3)=False:=aI (by omega)
 have k4:(k=4)=False:=aI (by omega)
 have e:y=14:=hy.trans (aE (by omega))
 exact oz aD (jE k0 k1 k2 k3 k4) aS e
end Go.Proofs.YtfiipaodjpiooaaGreatDoor

