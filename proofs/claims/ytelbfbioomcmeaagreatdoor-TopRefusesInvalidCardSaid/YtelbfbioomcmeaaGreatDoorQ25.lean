/- Lemmas and contracts of functions, several texts in one. -/
import Derived.Test.YtelbfbioomcmeaaGreatDoorQ24
import Derived.WideKeyPair
set_option maxRecDepth 100000
set_option maxHeartbeats 4000000
set_option linter.all false
namespace Go.Proofs.YtelbfbioomcmeaaGreatDoor
open Go.RowKit
open Tryz
theorem SP {H:aA} {b:Nat} {x:gB} (h:H b=some x):H.bH b x=H:=by
 funext c
 by_cases e:c=b
 ·rw[e,aQ,h]
 ·rw[aP e]
def aFp (x:Int):Prop:= -9223372036854775808<=x/\x<=9223372036854775807
def SV (S:List Int):List (Value×Value):=S.map fun k=>(.int .i64 k,.bool true)
def SM (S:List Int):List (Value×D):=(SV S).map fun p=>(p.1,.val p.2)
theorem GI (a:Int) (S:List Int):SM (a::S)=(.int .i64 a,.val (.bool true))::SM S:=rfl
theorem aIQ {S:List Int} {x:Int}:x∈S->mQ (SM S) (.int .i64 x)=some (.val (.bool true)):=by
 induction S with
 |nil=>intro h;cases h
 |cons a S ih=>
  intro h
  rw[GI]
  by_cases e:a=x
  ·subst e;simp [mQ]
  ·have h2:x∈S:=by rcases eG.1 h with h|h;exact absurd h.symm e;exact h
   simp only[mQ]
   rw[aD (by simpa using e)]
   exact ih h2
theorem aFs {S:List Int} {x:Int}:x∉S->mQ (SM S) (.int .i64 x)=none:=by
 induction S with
 |nil=>intro _;rfl
 |cons a S ih=>
  intro h
  rw[GI]
  have e:¬a=x:=fun e=>h (by simp [e])
  simp only[mQ]
  rw[aD (by simpa using e)]
  exact ih fun h2=>h (jR _ h2)
theorem aFt {S:List Int} {x:Int}:x∉S->gI (SM S) (.int .i64 x) (.val (.bool true))=SM (S++[x]):=by
 induction S with
 |nil=>intro _;rfl
 |cons a S ih=>
  intro h
  rw[eT,GI,GI]
  have e:¬a=x:=fun e=>h (by simp [e])
  simp only[gI]
  rw[aD (by simpa using e),ih fun h2=>h (jR _ h2)]
theorem aIR {S:List Int} {n:Int} (hn:n<=1000000) (h:∀x∈S,dG n x) {x:Int} (hx:aFp x):kOK prog 3 (SM S) (.int .i64 x):=
 ⟨Go.Maps.int_keyed underlying3,yZ underlying3 hx,fun p hp=>by
  unfold SM SV at hp
  rw[List.map_map,mT] at hp
  obtain⟨y,hy,rfl⟩:=hp
  have:=h y hy
  exact yZ underlying3 (by unfold dG at this;omega)⟩
theorem zJ (H:aA) (b:Nat) (x y:gB):(H.bH b x).bH b y=H.bH b y:=by
 funext c
 by_cases e:c=b
 ·rw[e,aQ,aQ]
 ·rw[aP e,aP e,aP e]
theorem aGY (ts:List cQ) (bm bf:Nat) (x:Int) (b:Bool) (H:aA) (K:aA->Prop) (hHf:H bf=some (.row 339 0 1 [[.fn 334 [.rp [.seq 5 (ts.map cE)],.rp [.val (.map (some bm))],.ep bf 0 1 0 0]]])) (h:aT prog 334 [i64 x,.rp [.seq 5 (ts.map cE)],.rp [.val (.map (some bm))],.ep bf 0 1 0 0] H fun d H'=>d=.val (.bool b)/\K H'):
  aT prog 336 [i64 x,.ep bf 0 1 0 0] H fun d H'=>d=.val (.bool (!b))/\K H':=by
 refine aN _ _ func336 rfl rfl ntmps336 results336 (by simp) fun w0 g0 Q aC=>?_
 refine tq hHf ?_;intro Nx aB Gx aG
 refine h.mono ?_
 rintro d H1 ⟨rfl,hK⟩
 refine tq trivial ?_;intro Nx aB Gx aG
 refine rt aC trivial ?_
 exact⟨_,aE _,by first|exact hK|exact⟨rfl,hK⟩⟩
theorem aHM (ts:List cQ) (bm bf:Nat) (l:List Int) (G:List Int->Prop) (H0:aA) (CO:bm≠bf) (hl:l.length<=140737488351232) (hf:H0 bf=some (.row 339 0 1 [[.fn 334 [.rp [.seq 5 (ts.map cE)],.rp [.val (.map (some bm))],.ep bf 0 1 0 0]]]))
  (hc:∀x∈l,∀S,G S->aT prog 334 [i64 x,.rp [.seq 5 (ts.map cE)],.rp [.val (.map (some bm))],.ep bf 0 1 0 0] (H0.bH bm (.map (SM S))) fun d H'=>d=.val (.bool (lN ts x))/\∃S',H'=(H0.bH bm (.map (SM S))).bH bm (.map (SM S'))/\(lN ts x=true->G S'))
  (S0:List Int) (hG:G S0):
  aT prog 404 [.seq 1 (l.map iD),.fn 336 [.ep bf 0 1 0 0]] (H0.bH bm (.map (SM S0))) fun d H'=>∃r S',d=i64 r/\H'=H0.bH bm (.map (SM S'))/\((0<=r/\∃x∈l,lN ts x=false)\/(r= -1/\(∀x∈l,lN ts x=true)/\G S')):=by
 have mA:=lm iD l
 refine aN _ _ func404 rfl rfl ntmps404 results404 (by simp) fun w0 g0 Q aC=>?_
 refine tq mA ?_;intro Nx aB Gx aG
 refine bB l.length (fun i s=>s.df=[]/\s.fr 0=.seq 1 (l.map iD)/\s.fr 1=.fn 336 [.ep bf 0 1 0 0]/\s.fr 7=i64 l.length/\s.fr 8=i64 i/\(∃S,s.H=H0.bH bm (.map (SM S))/\G S)/\∀x∈l.take i,lN ts x=true) ⟨rfl,rfl,rfl,rfl,rfl,⟨_,rfl,hG⟩,by simp⟩ ?_
 rintro i s hi ⟨bG,f0,f1,f7,f8,⟨S,hH,hGS⟩,eW⟩
 have hx:=bL i
 have cL:=bY i
 by_cases aZ:i<l.length
 case neg=>
  have q6:=lF i l.length (by omega)
  rw[dQ (by omega)] at eW
  refine tq (dZ f7 f8 q6) ?_;intro Nx aB Gx aG
  refine rt aC bG ?_
  exact⟨_,aE _,-1,S,rfl,hH,.inr ⟨rfl,eW,hGS⟩⟩
 have q6:=lT i l.length (by omega)
 have w3:=wS i (by omega)
 have b8:(l.map iD)[i]?=some (iD l[i]):=by rw[cR,cP aZ];rfl
 have hxl:l[i]∈l:=bZ aZ
 have hHf:s.H bf=some (.row 339 0 1 [[.fn 334 [.rp [.seq 5 (ts.map cE)],.rp [.val (.map (some bm))],.ep bf 0 1 0 0]]]):=by rw[hH,aP (Ne.symm CO)];exact hf
 have hq:=aGY ts bm bf l[i] _ s.H _ hHf (by rw[hH];exact hc l[i] hxl S hGS)
 refine tq (rF f0 f1 f7 f8 mA q6 b8 hx cL aZ) ?_;intro Nx aB Gx aG
 refine hq.mono ?_
 rintro d H1 ⟨rfl,S',s6,hS'⟩
 rw[zJ] at s6
 subst s6
 by_cases hb:lN ts l[i]=true
 ·rw[hb]
  refine tq (cZ f8 w3) ?_;intro Nx aB Gx aG
  refine⟨aZ,bG,f0,f1,f7,rfl,⟨S',rfl,hS' hb⟩,fun x hx=>?_⟩
  rw[dH aZ] at hx
  rcases cS.1 hx with hx|hx
  ·exact eW x hx
  ·rw[eS] at hx;rw[hx];exact hb
 ·rw[Bool.not_eq_true] at hb
  rw[hb]
  refine tq f8 ?_;intro Nx aB Gx aG
  refine rt aC bG ?_
  exact⟨_,aE _,i,S',rfl,rfl,.inl ⟨by omega,l[i],hxl,hb⟩⟩
theorem aD4 (l:List Int) (f:D) (H:aA) (K:Int->aA->Prop) (h:aT prog 404 [.seq 1 (l.map iD),f] H fun d H'=>∃r,d=i64 r/\K r H'):
  aT prog 335 [.seq 1 (l.map iD),f] H fun d H'=>∃r,d=.val (.bool (decide (0<=r)))/\K r H':=by
 refine aN _ _ func335 rfl rfl ntmps335 results335 (by simp) fun w0 g0 Q aC=>?_
 refine tq trivial ?_;intro Nx aB Gx aG
 refine h.mono ?_
 rintro d H1 ⟨r,rfl,hK⟩
 refine tq trivial ?_;intro Nx aB Gx aG
 refine rt aC trivial ?_
 exact⟨_,aE _,r,rfl,hK⟩
theorem aGX (ts:List cQ) (bm bf:Nat) (hw:vY ts) (hr:rfN ts) (sM:ts.length<=1000000) (nM:∀t∈ts,t.ar.length<=140737488351232) (CO:bm≠bf):
  ∀(kk:Nat) (a:Int) (S:List Int) (H:aA),dG ts.length a->a<kk->H bf=some (.row 339 0 1 [[.fn 334 [.rp [.seq 5 (ts.map cE)],.rp [.val (.map (some bm))],.ep bf 0 1 0 0]]])->H bm=some (.map (SM S))->(∀x∈S,dG ts.length x)->(∀k∈S,k<=a->Cop ts k)->
   aT prog 334 [i64 a,.rp [.seq 5 (ts.map cE)],.rp [.val (.map (some bm))],.ep bf 0 1 0 0] H fun d H'=>d=.val (.bool (lN ts a))/\∃S',H'=H.bH bm (.map (SM S'))/\(lN ts a=true->(∀x∈S',dG ts.length x)/\∀x∈S',x∈S\/Cop ts x):=by
 intro kk
 induction kk using Nat.strongRecOn with
 |ind kk ih=>
  intro a S H ha hak hHf QI hSi hSc
  have fB:=lm cE ts
  have NN:aFp a:=by unfold dG at ha;unfold aFp;omega
  have QW:=aIR (by omega) hSi NN
  have GR:=kC ha
  have hci:=VM hw ha
  have hdn:=Dn.F hw a ha
  have IL:(cJ ts a).ar.length<=140737488351232:=nM _ (zG ha)
  have hra:=hr _ (zG ha)
  obtain⟨t,ht⟩:∃t,t=cJ ts a:=⟨_,rfl⟩
  unfold aE9 at hdn
  rw[<-ht] at GR hdn IL hci hra
  obtain⟨tk,tm,tr,te,ta⟩:=t
  simp only[cE] at GR
  have h0a:0<=a:=ha.1
  have sH:a.toNat<ts.length:=by unfold dG at ha;omega
  have D8:a<(ts.length:Int):=ha.2
  refine aN _ _ func334 rfl rfl ntmps334 results334 (by simp) fun w0 g0 Q aC=>?_
  by_cases h3:tk=3
  ·have q3:(tk=3)=True:=aK h3
   have LC:lN ts a= !tm:=by
    cases tm with
    |true=>exact tX.2 fun h=>(hci.1 h).1 ⟨h3,rfl⟩
    |false=>exact xO.2 (hci.2 ⟨(fun h=>by cases h.2),by rw[hra h3];simp⟩)
   refine tq (jA GR h0a sH D8 fB q3) ?_;intro Nx aB Gx aG
   refine rt aC trivial ?_
   exact⟨_,aE _,by rw[LC],S,(SP QI).symm,fun _=>⟨hSi,fun x hx=>.inl hx⟩⟩
  have q3:(tk=3)=False:=aI h3
  by_cases jX:a∈S
  ·have hmg:=aIQ jX
   refine tq (qN GR h0a sH D8 fB q3 QI hmg) ?_;intro Nx aB Gx aG
   refine⟨QW,?_⟩
   refine tq trivial ?_;intro Nx aB Gx aG
   refine rt aC trivial ?_
   exact⟨_,aE _,by rw[xO.2 (hSc a jX (pU _))],S,(SP QI).symm,fun _=>⟨hSi,fun x hx=>.inl hx⟩⟩
  have hmg:=aFs jX
  have AP:=aFt jX
  refine tq (qN GR h0a sH D8 fB q3 QI hmg) ?_;intro Nx aB Gx aG
  refine⟨QW,?_⟩
  refine tq (cZ QI hmg) ?_;intro Nx aB Gx aG
  refine⟨QW,?_⟩
  rw[AP]
  refine tq (gE GR h0a sH D8 fB) ?_;intro Nx aB Gx aG
  have hf2:(H.bH bm (.map (SM (S++[a])))) bf=some (.row 339 0 1 [[.fn 334 [.rp [.seq 5 (ts.map cE)],.rp [.val (.map (some bm))],.ep bf 0 1 0 0]]]):=by rw[aP (Ne.symm CO)];exact hHf
  refine(aD4 ta _ _ (fun r H'=>∃S',H'=H.bH bm (.map (SM S'))/\((0<=r/\∃x∈ta,lN ts x=false)\/(r= -1/\(∀x∈ta,lN ts x=true)/\((∀x∈S',dG ts.length x)/\∀x∈S',x∈S\/x=a\/Cop ts x)))) ((aHM ts bm bf ta (fun S'=>(∀x∈S',dG ts.length x)/\∀x∈S',x∈S\/x=a\/Cop ts x) H CO IL hHf (fun x hx S1 hG=>?_) (S++[a]) ⟨?_,?_⟩).mono fun d H' ⟨r,S',h1,h2,h3⟩=>⟨r,h1,S',h2,h3⟩)).mono ?_
  ·have hxa:=hdn x hx
   refine(ih (x+1).toNat (by omega) x S1 _ ⟨by omega,by omega⟩ (by omega) (by rw[aP (Ne.symm CO)];exact hHf) (aQ _ _ _) hG.1 fun k hk hkx=>?_).mono ?_
   ·rcases hG.2 k hk with h|h|h
    ·exact hSc k h (by omega)
    ·omega
    ·exact h
   ·rintro d H' ⟨h1,S',h2,h4⟩
    refine⟨h1,S',h2,fun hc=>⟨(h4 hc).1,fun y hy=>?_⟩⟩
    rcases(h4 hc).2 y hy with h|h
    ·exact hG.2 y h
    ·exact .inr (.inr h)
  ·intro x hx
   rcases cS.1 hx with hx|hx
   ·exact hSi x hx
   ·rw[eS] at hx;rw[hx];exact ha
  ·intro x hx
   rcases cS.1 hx with hx|hx
   ·exact .inl hx
   ·rw[eS] at hx;exact .inr (.inl hx)
  rintro d _ ⟨r,rfl,S',rfl,eE⟩
  rcases eE with⟨h0,x,hx,hxb⟩|⟨rfl,eW,hi,hm⟩
  ·have q0:(0<=r)=True:=aK h0
   have LC:lN ts a=false:=tX.2 fun h=>tX.1 hxb ((hci.1 h).2 x hx)
   refine tq q0 ?_;intro Nx aB Gx aG
   refine rt aC trivial ?_
   exact⟨_,aE _,by simp [LC],S',rfl,fun h=>by rw[LC] at h;cases h⟩
  ·have hcp:Cop ts a:=hci.2 ⟨fun h=>h3 h.1,fun p hp=>xO.1 (eW p hp)⟩
   have LC:lN ts a=true:=xO.2 hcp
   refine tq trivial ?_;intro Nx aB Gx aG
   refine rt aC trivial ?_
   exact⟨_,aE _,by simp [LC],S',rfl,fun _=>⟨hi,fun x hx=>by
    rcases hm x hx with h|h|h
    ·exact .inl h
    ·rw[h];exact .inr hcp
    ·exact .inr h⟩⟩
theorem aI7 (ts:List cQ) (a:Int) (H:aA) (hw:vY ts) (hr:rfN ts) (sM:ts.length<=1000000) (nM:∀t∈ts,t.ar.length<=140737488351232):
  aT prog 255 [.seq 5 (ts.map cE),i64 a] H fun d H'=>d=.val (.bool (lN ts a))/\H=H':=by
 refine bM (K:=fun d=>d=.val (.bool (lN ts a))) ?_
 have fB:=lm cE ts
 have aR:=aE H
 refine aN _ _ func255 rfl rfl ntmps255 results255 (by simp) fun w0 g0 Q aC=>?_
 refine tq trivial ?_;intro Nx aB Gx aG
 intro c2 pZ
 refine aB _ ?_
 refine fW 2 pZ ?_
 by_cases h1:0<=a
 case neg=>
  have LC:lN ts a=false:=tX.2 fun h=>h1 h.1.1
  have q1:(a<0)=True:=aK (by omega)
  refine tq (cZ fB q1) ?_;intro Nx aB Gx aG
  refine rt aC trivial ?_
  exact⟨_,aE _,aR,_,aJ aR,by rw[LC]⟩
 have q1:(a<0)=False:=aI (by omega)
 by_cases h2:a<ts.length
 case neg=>
  have LC:lN ts a=false:=tX.2 fun h=>h2 h.1.2
  have q2:((ts.length:Int)<=a)=True:=aK (by omega)
  refine tq (dZ q1 q2 fB) ?_;intro Nx aB Gx aG
  refine rt aC trivial ?_
  exact⟨_,aE _,aR,_,aJ aR,by rw[LC]⟩
 have q2:((ts.length:Int)<=a)=False:=aI (by omega)
 refine tq (dZ q1 q2 fB) ?_;intro Nx aB Gx aG
 intro bm ZA b5 O8
 have aXF:(H.bH bm (.map [])) b5=none:=O8
 refine aB _ ?_
 refine bS 5 rfl (aQ _ _ _) rfl ?_
 refine eZ (H.bH bm (.map [])) (fun x z hz=>?_) ?_
 ·have e1:x≠b5:=fun e=>by rw[e,aXF] at hz;cases hz
  show(((H.bH bm _).bH b5 _).del b5) x=_
  rw[bP e1,aP e1]
  exact hz
 simp only[St.gU,List.drop]
 refine tq trivial ?_;intro Nx aB Gx aG
 intro bf hbf
 have CO:bm≠bf:=rP (aQ _ _ _) hbf
 have TW:H bf=none:=(bT.1 hbf).2
 refine aB _ ?_
 refine tq trivial ?_;intro Nx aB Gx aG
 refine(aGX ts bm bf hw hr sM nM CO ts.length a [] _ ⟨by omega,by omega⟩ (by omega) (aQ _ _ _) ((aP CO).trans (aQ _ _ _)) (by simp) (by simp)).mono ?_
 rintro d _ ⟨rfl,S,rfl,_⟩
 refine tq trivial ?_;intro Nx aB Gx aG
 refine rt aC trivial ?_
 have aIx:H.le (((H.bH bm (.map [])).bH bf (.row 339 0 1 [[.fn 334 [.rp [.seq 5 (ts.map cE)],.rp [.val (.map (some bm))],.ep bf 0 1 0 0]]])).bH bm (.map (SM S))):=bQ (bQ (bQ (aE _) ZA) TW) ZA
 exact⟨_,aE _,aIx,_,aJ aIx,rfl⟩
def pk (a b:Int):Value:=.agg #[.int .i64 a,.int .i64 b]
theorem RW:Go.WideMaps.ArrKey prog 60 3 2:=⟨underlying60,by kernel_rfl,by kernel_rfl,by kernel_rfl⟩
theorem UT:∃m,(prog).types.size=m+1:=⟨(prog).types.size - 1,by kernel_rfl⟩
theorem aCy {a:Int} (h: -9223372036854775808<=a/\a<=9223372036854775807):(Lit.int .i64 a).wf=true:=by simp [Lit.wf,IntKind.min,IntKind.max,IntKind.signed,IntKind.bits];omega
theorem RB {a b:Int} (ha:U9 a) (hb:U9 b):∃l,keyOf prog 60 (pk a b)=some l:=
 ⟨_,Go.WideMaps.keyOf_pair RW underlying3 UT (aCy ha) (aCy hb)⟩
structure DW (M:List (Value×D)) (f:Int->Int->Bool):Prop where
 keys:∀p∈M,∃a b,U9 a/\U9 b/\p.1=pk a b
 val:∀a b d,mQ M (pk a b)=some d->d=.val (.bool (f a b))
theorem DW.nil (f:Int->Int->Bool):DW [] f:=⟨(fun p hp=>by cases hp),fun a b d h=>by cases h⟩
theorem DW.ok {M:List (Value×D)} {f:Int->Int->Bool} (h:DW M f) {a b:Int} (ha:U9 a) (hb:U9 b):kOK prog 60 M (pk a b):=
 ⟨Go.Maps.Keyed.of_law RW.law,RB ha hb,fun p hp=>by obtain⟨x,y,hx,hy,e⟩:=h.keys p hp;rw[e];exact RB hx hy⟩
theorem DW.set {M:List (Value×D)} {f:Int->Int->Bool} (h:DW M f) {a b:Int} (ha:U9 a) (hb:U9 b):DW (gI M (pk a b) (.val (.bool (f a b)))) f where
 keys:=fun p hp=>by
  rcases CZ hp with rfl|hp
  ·exact⟨a,b,ha,hb,rfl⟩
  ·exact h.keys p hp
 val:=fun x y d hd=>by
  by_cases e:pk a b=pk x y
  ·have e':a=x/\b=y:=by simpa [pk] using e
   obtain⟨rfl,rfl⟩:=e'
   rw[lX] at hd
   injection hd with hd
   exact hd.symm
  ·rw[rI _ _ e] at hd
   exact h.val x y d hd
theorem TG {α:Type} {p:α->Bool} {l:List α} {i:Nat} (h:(l.take i).all p=false):l.all p=false:=by
 rw[Bool.eq_false_iff] at h ⊢
 intro hc
 apply h
 rw[eD] at hc ⊢
 exact fun x hx=>hc x (DI hx)
theorem C5 {l:List (Int×Int)} {b1 b2 bm:Nat} {H:aA} {x:gB} (hR:uJ l b1 b2 H) (h1:bm≠b1) (h2:bm≠b2):uJ l b1 b2 (H.bH bm x):=by
 obtain⟨m1,m2,e1,e2,e3,e4⟩:=hR
 exact⟨m1,m2,(aP h1.symm).trans e1,e2,(aP h2.symm).trans e3,e4⟩
theorem aHw (l:List (Int×Int)) (n:Int) (ts:List cQ) (b1 b2 bm bf:Nat) (hw:vY ts) (jX:∀p∈l,dG n p.1/\dG n p.2) (hn:n<=1000000) (hl:l.length<=1000000) (sM:ts.length<=1000000) (nM:∀t∈ts,t.ar.length<=140737488351232) (aB0:bm≠b1) (aB1:bm≠b2) (CO:bm≠bf):
  ∀(kk:Nat) (a b:Int) (M:List (Value×D)) (H:aA),dG ts.length a->dG ts.length b->a<kk->b<kk->uJ l b1 b2 H->H bf=some (.row 363 0 1 [[.fn 405 [.rp [.val (.map (some bm))],.rp [.seq 5 (ts.map cE)],.rp [iM n b1 b2],.ep bf 0 1 0 0]]])->H bm=some (.map M)->DW M (oB l n ts)->
   aT prog 405 [i64 a,i64 b,.rp [.val (.map (some bm))],.rp [.seq 5 (ts.map cE)],.rp [iM n b1 b2],.ep bf 0 1 0 0] H fun d H'=>d=.val (.bool (oB l n ts a b))/\∃M',H'=H.bH bm (.map M')/\DW M' (oB l n ts):=by
 intro kk
 induction kk using Nat.strongRecOn with
 |ind kk ih=>
  intro a b M H ha hb hak hbk hR hHf QI hM
  have fB:=lm cE ts
  have NN:U9 a:=by unfold dG at ha;unfold U9;omega
  have NO:U9 b:=by unfold dG at hb;unfold U9;omega
  have QW:=hM.ok NN NO
  have yV:H.bH bm (.map M)=H:=by
   funext x
   by_cases e:x=bm
   ·rw[e,aQ,QI]
   ·rw[aP e]
  refine aN _ _ func405 rfl rfl ntmps405 results405 (by simp) fun w0 g0 Q aC=>?_
  simp only[pk] at QW
  cases hmg:mQ M (pk a b) with
  |some d=>
   have hv:=hM.val a b d hmg
   subst hv
   simp only[pk] at hmg
   refine tq (cZ QI hmg) ?_;intro Nx aB Gx aG
   refine⟨QW,?_⟩
   refine tq trivial ?_;intro Nx aB Gx aG
   refine rt aC trivial ?_
   exact⟨_,aE _,M,yV.symm,hM⟩
  |none=>
   simp only[pk] at hmg
   refine tq (cZ QI hmg) ?_;intro Nx aB Gx aG
   refine⟨QW,?_⟩
   have GR:=kC ha
   have WC:=kC hb
   have wa:=v7 hw ha
   have wb:=v7 hw hb
   have IL:(cJ ts a).ar.length<=140737488351232:=by obtain⟨h',he⟩:=vA ha;rw[he];exact nM _ (bZ h')
   have eE:=XF (l:=l) (n:=n) hw ha hb
   obtain⟨t,ht⟩:∃t,t=cJ ts a:=⟨_,rfl⟩
   obtain⟨u,hu⟩:∃u,u=cJ ts b:=⟨_,rfl⟩
   rw[<-ht] at GR eE wa IL
   rw[<-hu] at WC eE wb
   obtain⟨tk,tm,tr,te,ta⟩:=t
   obtain⟨uk,um,ur,ue,ua⟩:=u
   simp only[cE] at GR WC eE wa wb IL
   have h0a:0<=a:=ha.1
   have h0b:0<=b:=hb.1
   have sH:a.toNat<ts.length:=by unfold dG at ha;omega
   have nX:b.toNat<ts.length:=by unfold dG at hb;omega
   have D8:a<(ts.length:Int):=ha.2
   have aDo:b<(ts.length:Int):=hb.2
   refine tq (cZ QI hmg) ?_;intro Nx aB Gx aG
   refine wE (fun t=>t==some 24||t==some 26||t==some 27||t==some 28||t==some 30||t==some 31) (fun _=>false) (fun _ _ _ _=>False) (fun _ _ _ _ _=>False) fun Nx aB=>?_;have fs:=And.intro fB (And.intro GR (And.intro WC (And.intro h0a (And.intro h0b (And.intro sH (And.intro nX (And.intro D8 aDo)))))));refine VV ?_;(first|refine aG _ ?_|refine aB _ ?_|skip);(try clear fs)
   intro b11 aGh b12 aDm
   have fP:b11≠b12:=rP (aQ _ _ _) aDm
   have aIh:H b12=none:=(bT.1 aDm).2
   simp only[aP fP,aP fP.symm,aQ,l7,List.set_cons_zero,List.drop]
   refine⟨trivial,trivial,by decide,trivial,trivial,by decide,aB _ ?_⟩
   refine bS 11 rfl ((aP fP).trans (aQ _ _ _)) rfl ?_
   refine bS 12 rfl ((bP fP.symm).trans (aQ _ _ _)) rfl ?_
   refine eZ H (fun x z hz=>?_) ?_
   ·have e1:x≠b11:=fun e=>by rw[e,aGh] at hz;cases hz
    have e2:x≠b12:=fun e=>by rw[e,aIh] at hz;cases hz
    show((((((H.bH b11 _).bH b12 _).bH b11 _).bH b12 _).del b11).del b12) x=_
    rw[bP e2,bP e1,aP e2,aP e1,aP e2,aP e1]
    exact hz
   obtain⟨P1,hP1⟩:∃P1,P1=(decide (tk=uk)&&(decide (tm=um)&&decide (ta.length=ua.length))):=⟨_,rfl⟩
   obtain⟨Kp,V6⟩:∃Kp,Kp=(if tk=3 then j5 l n tr ur&&(oB l n ts te ue&&(!tm||oB l n ts ue te)) else true):=⟨_,rfl⟩
   rw[<-V6] at eE
   have aFb:oB l n ts a b=((P1&&Kp)&&(ta.zip ua).all fun p=>oB l n ts p.1 p.2):=by rw[eE,hP1];simp only[Bool.and_assoc]
   have J2:=lm iD ta
   have hua:=lm iD ua
   refine VE (fun s=>s.df=[]/\s.fr 0=i64 a/\s.fr 1=i64 b/\s.fr 2=.rp [.val (.map (some bm))]/\s.fr 3=.rp [.seq 5 (ts.map cE)]/\s.fr 4=.rp [iM n b1 b2]/\s.fr 5=.ep bf 0 1 0 0/\s.fr 9=.val (.bool P1)/\s.fr 11=.rp [i64 tk,.val (.bool tm),i64 tr,i64 te,.seq 1 (ta.map iD)]/\s.fr 12=.rp [i64 uk,.val (.bool um),i64 ur,i64 ue,.seq 1 (ua.map iD)]/\s.H=H) ?_ ?_
   ·simp only[St.gU,List.drop]
    by_cases g1:tk=uk
    case neg=>
     have q1:(tk=uk)=False:=aI g1
     refine tq q1 ?_;intro Nx aB Gx aG
     exact⟨rfl,rfl,rfl,rfl,rfl,rfl,rfl,by rw[hP1,bC g1] <;> rfl,rfl,rfl,rfl⟩
    have q1:(tk=uk)=True:=aK g1
    by_cases g2:tm=um
    case neg=>
     have q2:(tm=um)=False:=aI g2
     refine tq (cZ q1 q2) ?_;intro Nx aB Gx aG
     exact⟨rfl,rfl,rfl,rfl,rfl,rfl,rfl,by rw[hP1,bF g1,bC g2] <;> rfl,rfl,rfl,rfl⟩
    have q2:(tm=um)=True:=aK g2
    by_cases g3:ta.length=ua.length
    ·have q3:((ta.length:Int)=(ua.length:Int))=True:=aK (by omega)
     refine tq (gE q1 q2 q3 J2 hua) ?_;intro Nx aB Gx aG
     exact⟨rfl,rfl,rfl,rfl,rfl,rfl,rfl,by rw[hP1,bF g1,bF g2,bF g3] <;> rfl,rfl,rfl,rfl⟩
    ·have q3:((ta.length:Int)=(ua.length:Int))=False:=aI (by omega)
     refine tq (gE q1 q2 q3 J2 hua) ?_;intro Nx aB Gx aG
     exact⟨rfl,rfl,rfl,rfl,rfl,rfl,rfl,by rw[hP1,bF g1,bF g2,bC g3] <;> rfl,rfl,rfl,rfl⟩
   rintro s ⟨bG,f0,f1,f2,f3,f4,f5,f9,f11,f12,hH⟩
   refine VE (fun s=>s.df=[]/\s.fr 0=i64 a/\s.fr 1=i64 b/\s.fr 2=.rp [.val (.map (some bm))]/\s.fr 3=.rp [.seq 5 (ts.map cE)]/\s.fr 4=.rp [iM n b1 b2]/\s.fr 5=.ep bf 0 1 0 0/\s.fr 9=.val (.bool (P1&&Kp))/\s.fr 11=.rp [i64 tk,.val (.bool tm),i64 tr,i64 te,.seq 1 (ta.map iD)]/\s.fr 12=.rp [i64 uk,.val (.bool um),i64 ur,i64 ue,.seq 1 (ua.map iD)]/\∃M,s.H=H.bH bm (.map M)/\DW M (oB l n ts)) ?_ ?_
   ·cases hp1:P1 with
    |false=>
     rw[hp1] at f9
     refine tq (cZ f9 f11) ?_;intro Nx aB Gx aG
     exact⟨bG,f0,f1,f2,f3,f4,f5,f9,f11,f12,M,hH.trans yV.symm,hM⟩
    |true=>
     rw[hp1] at f9 hP1
     have g1:tk=uk:=by
      have:=hP1.symm
      simp only[eF,jU] at this
      exact this.1
     by_cases h5:tk=3
     case neg=>
      have q5:(tk=3)=False:=aI h5
      rw[aD h5] at V6
      refine tq (dZ f9 f11 q5) ?_;intro Nx aB Gx aG
      exact⟨bG,f0,f1,f2,f3,f4,f5,by rw[V6];exact f9,f11,f12,M,hH.trans yV.symm,hM⟩
     have q5:(tk=3)=True:=aK h5
     rw[aH h5] at V6
     have hea:=wa.1 h5
     have heb:=wb.1 (g1▸h5)
     have hie:dG ts.length te:=⟨hea.1,by omega⟩
     have QU:dG ts.length ue:=⟨heb.1,by omega⟩
     refine tq (jA f4 f9 f11 f12 q5 hH) ?_;intro Nx aB Gx aG
     refine(aCP l n tr ur b1 b2 H hR jX hn hl).mono ?_
     rintro d _ ⟨rfl,rfl⟩
     cases ho:j5 l n tr ur with
     |false=>
      rw[ho,fS] at V6
      refine tq (dZ f9 f11 f12) ?_;intro Nx aB Gx aG
      exact⟨bG,f0,f1,f2,f3,f4,f5,by rw[V6] <;> rfl,f11,f12,M,yV.symm,hM⟩
     |true=>
      rw[ho,cT] at V6
      refine tq (gE f5 f9 f11 f12 hHf) ?_;intro Nx aB Gx aG
      refine(ih (kk - 1) (by omega) te ue M H hie QU (by omega) (by omega) hR hHf QI hM).mono ?_
      rintro d _ ⟨rfl,M2,rfl,hM2⟩
      cases N0:oB l n ts te ue with
      |false=>
       rw[N0,fS] at V6
       refine tq (fJ f5 f9 f11 f12) ?_;intro Nx aB Gx aG
       exact⟨bG,f0,f1,f2,f3,f4,f5,by rw[V6] <;> rfl,f11,f12,M2,rfl,hM2⟩
      |true=>
       rw[N0,cT] at V6
       by_cases B5:tm=true
       case neg=>
        have ZI:tm=false:=by simpa using B5
        rw[ZI] at V6
        rw[ZI] at f11
        refine tq (fJ f5 f9 f11 f12) ?_;intro Nx aB Gx aG
        exact⟨bG,f0,f1,f2,f3,f4,f5,by rw[V6] <;> rfl,by rw[ZI];exact f11,f12,M2,rfl,hM2⟩
       rw[B5] at V6
       rw[B5] at f11
       have aBY:(H.bH bm (.map M2)) bf=some (.row 363 0 1 [[.fn 405 [.rp [.val (.map (some bm))],.rp [.seq 5 (ts.map cE)],.rp [iM n b1 b2],.ep bf 0 1 0 0]]]):=(aP CO.symm).trans hHf
       refine tq (gE f5 f9 f11 f12 aBY) ?_;intro Nx aB Gx aG
       refine(ih (kk - 1) (by omega) ue te M2 _ QU hie (by omega) (by omega) (C5 hR aB0 aB1) aBY (aQ _ _ _) hM2).mono ?_
       rintro d _ ⟨rfl,M3,rfl,hM3⟩
       refine tq (fJ f5 f9 f11 f12) ?_;intro Nx aB Gx aG
       exact⟨bG,f0,f1,f2,f3,f4,f5,by rw[V6] <;> rfl,by rw[B5];exact f11,f12,M3,rfl,hM3⟩
   rintro s ⟨bG,f0,f1,f2,f3,f4,f5,f9,f11,f12,hM'⟩
   refine tq trivial ?_;intro Nx aB Gx aG
   refine bB ta.length (fun i s=>s.df=[]/\s.fr 0=i64 a/\s.fr 1=i64 b/\s.fr 2=.rp [.val (.map (some bm))]/\s.fr 3=.rp [.seq 5 (ts.map cE)]/\s.fr 4=.rp [iM n b1 b2]/\s.fr 5=.ep bf 0 1 0 0/\s.fr 9=.val (.bool ((P1&&Kp)&&((ta.zip ua).take i).all fun p=>oB l n ts p.1 p.2))/\s.fr 11=.rp [i64 tk,.val (.bool tm),i64 tr,i64 te,.seq 1 (ta.map iD)]/\s.fr 12=.rp [i64 uk,.val (.bool um),i64 ur,i64 ue,.seq 1 (ua.map iD)]/\s.fr 13=i64 i/\∃M,s.H=H.bH bm (.map M)/\DW M (oB l n ts)) ⟨bG,f0,f1,f2,f3,f4,f5,by rw[pL,oS,nW];exact f9,f11,f12,rfl,hM'⟩ ?_
   rintro i s2 hi ⟨mY,f0,f1,f2,f3,f4,f5,f9,f11,f12,f13,M2,iW,hM2⟩
   have hx:=bL i
   have cL:=bY i
   have aGx:=hM2.ok NN NO
   simp only[pk] at aGx
   have aGd:(H.bH bm (.map M2)) bm=some (.map M2):=aQ _ _ _
   cases hv:((P1&&Kp)&&((ta.zip ua).take i).all fun p=>oB l n ts p.1 p.2) with
   |false=>
    rw[hv] at f9
    have uT:oB l n ts a b=false:=by
     rw[aFb]
     cases S4:(P1&&Kp) with
     |false=>rfl
     |true=>rw[S4,cT] at hv;rw[TG hv];rfl
    refine tq (rF f0 f1 f2 f9 f11 f13 J2 iW uT aGd) ?_;intro Nx aB Gx aG;refine⟨aGx,?_⟩;refine tq f9 ?_;intro Nx aB Gx aG;refine rt aC mY ?_;have AP:=hM2.set NN NO;rw[uT] at AP;simp only[pk] at AP;exact⟨_,aE _,(by first|rfl|trivial|rw[uT]),_,(by first|rfl|exact zJ _ _ _ _),AP⟩
   |true=>
    rw[hv] at f9
    have hvb:=hv
    rw[eF] at hvb
    have S4:=hvb.1
    rw[eF] at S4
    have eB:ta.length=ua.length:=by
     have:=S4.1
     rw[hP1] at this
     simp only[eF,jU] at this
     exact this.2.2
    have FJ:(ta.zip ua).length=ta.length:=by rw[List.length_zip];omega
    by_cases aZ:i<ta.length
    case neg=>
     have q4:=lF i ta.length (by omega)
     have uT:oB l n ts a b=true:=by
      rw[dQ (by omega)] at hv
      rw[aFb,hv]
     refine tq (pE f0 f1 f2 f9 f11 f13 J2 iW uT aGd q4) ?_;intro Nx aB Gx aG;refine⟨aGx,?_⟩;refine tq f9 ?_;intro Nx aB Gx aG;refine rt aC mY ?_;have AP:=hM2.set NN NO;rw[uT] at AP;simp only[pk] at AP;exact⟨_,aE _,(by first|rfl|trivial|rw[uT]),_,(by first|rfl|exact zJ _ _ _ _),AP⟩
    have q4:=lT i ta.length (by omega)
    have QU:i<ua.length:=by omega
    have b8:=dL aZ
    have ZD:=dL QU
    have w3:=wS i (by omega)
    have hxa:=wa.2 ta[i] (bZ aZ)
    have hya:=wb.2 ua[i] (bZ QU)
    have aBY:(H.bH bm (.map M2)) bf=some (.row 363 0 1 [[.fn 405 [.rp [.val (.map (some bm))],.rp [.seq 5 (ts.map cE)],.rp [iM n b1 b2],.ep bf 0 1 0 0]]]):=(aP CO.symm).trans hHf
    have dK:=ih (kk - 1) (by omega) ta[i] ua[i] M2 _ ⟨hxa.1,by unfold dG at ha;omega⟩ ⟨hya.1,by unfold dG at hb;omega⟩ (by omega) (by omega) (C5 hR aB0 aB1) aBY aGd hM2
    have CV:((P1&&Kp)&&((ta.zip ua).take (i+1)).all fun p=>oB l n ts p.1 p.2)=oB l n ts ta[i] ua[i]:=by
     rw[dH (by omega),HJ,<-Bool.and_assoc,hv,cT,List.getElem_zip]
     simp
    refine tq (gE f9 f11 f13 J2 q4) ?_;intro Nx aB Gx aG
    obtain⟨x,CW⟩:∃x,x=ta[i]:=⟨_,rfl⟩
    obtain⟨y,ZJ⟩:∃y,y=ua[i]:=⟨_,rfl⟩
    rw[<-CW] at b8
    rw[<-ZJ] at ZD
    rw[<-CW,<-ZJ] at dK CV
    refine wE (fun _=>false) (fun t=>decide (t=some 107)) (fun _ _ _ _=>False) (fun _ _ H0 d H'=>d=.val (.bool (oB l n ts x y))/\∃M',H'=H0.bH bm (.map M')/\DW M' (oB l n ts)) fun Nx aB=>?_;have fs:=And.intro f5 (And.intro f9 (And.intro f11 (And.intro f12 (And.intro f13 (And.intro J2 (And.intro hua (And.intro b8 (And.intro ZD (And.intro hx (And.intro cL (And.intro aZ (And.intro QU (And.intro iW aBY)))))))))))));refine VV ?_;(first|refine aG _ ?_|refine aB _ ?_|skip);(try clear fs)
    refine⟨dK.mono (fun d H' ⟨e1,M',e2,e3⟩=>⟨e1,M',e2.trans (zJ _ _ _ _),e3⟩),?_⟩
    rintro d _ ⟨rfl,M3,rfl,hM3⟩
    refine aB _ ?_
    refine tq (cZ f13 w3) ?_;intro Nx aB Gx aG
    exact⟨aZ,mY,f0,f1,f2,f3,f4,f5,by rw[CV] <;> rfl,f11,f12,rfl,M3,rfl,hM3⟩
theorem aJf (l:List (Int×Int)) (n:Int) (ts:List cQ) (b1 b2:Nat) (H:aA) (hw:vY ts) (jX:∀p∈l,dG n p.1/\dG n p.2) (hn:n<=1000000) (hl:l.length<=1000000) (sM:ts.length<=1000000) (nM:∀t∈ts,t.ar.length<=140737488351232) (hR:uJ l b1 b2 H) (a b:Int):
  aT prog 337 [iM n b1 b2,.seq 5 (ts.map cE),i64 a,i64 b] H fun d H'=>d=.val (.bool (GH l n ts a b))/\H=H':=by
 refine bM (K:=fun d=>d=.val (.bool (GH l n ts a b))) ?_
 have fB:=lm cE ts
 refine aN _ _ func337 rfl rfl ntmps337 results337 (by simp) fun w0 g0 Q aC=>?_
 refine tq fB ?_;intro Nx aB Gx aG
 intro c4 wQ c5 pT
 have fP:c4≠c5:=rP (aQ _ _ _) pT
 have TX:H c5=none:=(bT.1 pT).2
 refine aB _ ?_
 refine bS 4 rfl ((aP fP).trans (aQ _ _ _)) rfl ?_
 refine bS 5 rfl ((bP fP.symm).trans (aQ _ _ _)) rfl ?_
 refine eZ H (fun x z hz=>?_) ?_
 ·have e1:x≠c4:=fun e=>by rw[e,wQ] at hz;cases hz
  have e2:x≠c5:=fun e=>by rw[e,TX] at hz;cases hz
  show((((H.bH c4 _).bH c5 _).del c4).del c5) x=_
  rw[bP e2,bP e1,aP e2,aP e1]
  exact hz
 simp only[St.gU,List.drop]
 by_cases h1:min a b<0
 ·have p1:(min a b<0)=True:=aK h1
  refine tq (cZ @iM.eq_1 p1) ?_;intro Nx aB Gx aG
  refine rt aC trivial ?_
  exact⟨_,aE _,aE _,_,aJ (aE _),by rw[ET fun h=>by have:=h.1.1;have:=h.2.1;omega]⟩
 have p1:(min a b<0)=False:=aI h1
 by_cases h2:(ts.length:Int)<=max a b
 ·have p2:((ts.length:Int)<=max a b)=True:=aK h2
  refine tq (fJ @iM.eq_1 p1 p2 fB) ?_;intro Nx aB Gx aG
  refine rt aC trivial ?_
  exact⟨_,aE _,aE _,_,aJ (aE _),by rw[ET fun h=>by have:=h.1.2;have:=h.2.2;omega]⟩
 have p2:((ts.length:Int)<=max a b)=False:=aI h2
 have ha:dG ts.length a:=⟨by omega,by omega⟩
 have hb:dG ts.length b:=⟨by omega,by omega⟩
 refine to (fJ @iM.eq_1 p1 p2 fB) ?_;intro Nx aB Gx aG
 intro bm ZA b9 hb9
 obtain⟨m1,m2,e1,e2,e3,e4⟩:=hR
 have aB0:bm≠b1:=fun e=>by rw[e,e1] at ZA;cases ZA
 have aB1:bm≠b2:=fun e=>by rw[e,e3] at ZA;cases ZA
 have aXH:(H.bH bm (.map [])) b9=none:=hb9
 refine aB _ ?_
 refine bS 9 rfl (aQ _ _ _) rfl ?_
 refine eZ (H.bH bm (.map [])) (fun x z hz=>?_) ?_
 ·have e1:x≠b9:=fun e=>by rw[e,aXH] at hz;cases hz
  show(((H.bH bm _).bH b9 _).del b9) x=_
  rw[bP e1,aP e1]
  exact hz
 simp only[St.gU,List.drop]
 refine tq trivial ?_;intro Nx aB Gx aG
 intro bf hbf
 refine tq trivial ?_;intro Nx aB Gx aG
 have CO:bm≠bf:=rP (aQ _ _ _) hbf
 have TW:H bf=none:=(bT.1 hbf).2
 have hR':∀x,uJ l b1 b2 ((H.bH bm (.map [])).bH bf (.row 363 0 1 x)):=fun x=>by
  have f1:bf≠b1:=fun e=>by rw[e,e1] at TW;cases TW
  have f2:bf≠b2:=fun e=>by rw[e,e3] at TW;cases TW
  exact C5 (C5 ⟨m1,m2,e1,e2,e3,e4⟩ aB0 aB1) f1 f2
 refine(aHw l n ts b1 b2 bm bf hw jX hn hl sM nM aB0 aB1 CO ts.length a b [] _ ha hb (by unfold dG at ha;omega) (by unfold dG at hb;omega) (hR' _) (aQ _ _ _) ((aP CO).trans (aQ _ _ _)) (DW.nil _)).mono ?_
 rintro d _ ⟨rfl,M',rfl,hM'⟩
 refine tq trivial ?_;intro Nx aB Gx aG
 refine rt aC trivial ?_
 have aR:H.le (((H.bH bm (.map [])).bH bf (.row 363 0 1 [[.fn 405 [.rp [.val (.map (some bm))],.rp [.seq 5 (ts.map cE)],.rp [iM n b1 b2],.ep bf 0 1 0 0]]])).bH bm (.map M')):=bQ (bQ (bQ (aE _) ZA) TW) ZA
 exact⟨_,aE _,aR,_,aJ aR,by rw[JK ha hb]⟩
def xL (b:iF) (n:Int) (b1 b2:Nat):List D:=iG b++[iM n b1 b2]
structure Ck (b:iF):Prop where
 wt:vY b.ty
 rf:rfN b.ty
 wl:S7 b.ty b.lc
 ar:XW b.ty
 tl:b.ty.length<=1000000
 ol:∀p∈b.ol,dG b.rg.length p.1/\dG b.rg.length p.2
 oll:b.ol.length<=1000000
 rgl:b.rg.length<=1000000
 lcl:fC b.lc.length
 bll:fC b.bl.length
theorem XW.fC {ts:List cQ} (h:XW ts):∀t∈ts,t.ar.length<=140737488351232:=fun t ht=>by have:=h t ht;omega
theorem JV (p:pO) (H:aA) (hp:fC p.pr.length):aT prog 161 [.agg (kT p)] H fun d H'=>d=.val (.bool (eV p))/\H=H':=by
 refine bM (K:=fun d=>d=.val (.bool (eV p))) ?_
 have aR:=aE H
 have cI:=lm pD p.pr
 refine aN _ _ func161 rfl rfl ntmps161 results161 (by simp) fun w0 g0 Q aC=>?_
 refine tq @kT.eq_1 ?_;intro Nx aB Gx aG
 intro c1 l9
 refine aB _ ?_
 refine fW 1 l9 ?_
 by_cases h1:p.lo=0
 case neg=>
  have q1:(p.lo=0)=False:=aI h1
  have e:eV p=false:=by unfold eV;rw[bC h1,fS]
  refine tq q1 ?_;intro Nx aB Gx aG
  refine rt aC trivial ?_
  exact⟨_,aE _,aR,_,aJ aR,by rw[e]⟩
 have q1:(p.lo=0)=True:=aK h1
 by_cases h2:p.pr.length=0
 ·have q2:((p.pr.length:Int)=0)=True:=aK (by omega)
  have e:eV p=true:=by unfold eV;rw[bF h1,bF h2];rfl
  refine tq (dZ q1 q2 cI) ?_;intro Nx aB Gx aG
  refine rt aC trivial ?_
  exact⟨_,aE _,aR,_,aJ aR,by rw[e]⟩
 ·have q2:((p.pr.length:Int)=0)=False:=aI (by omega)
  have e:eV p=false:=by unfold eV;rw[bC h2,kH]
  refine tq (dZ q1 q2 cI) ?_;intro Nx aB Gx aG
  refine rt aC trivial ?_
  exact⟨_,aE _,aR,_,aJ aR,by rw[e]⟩
theorem uP (x:Bool) (H:aA):aT prog 166 [.val (.bool x)] H fun d H'=>d=i64 (if x=true then 22 else 0)/\H=H':=by
 refine bM (K:=fun d=>d=i64 (if x=true then 22 else 0)) ?_
 have aR:=aE H
 refine aN _ _ func166 rfl rfl ntmps166 results166 (by simp) fun w0 g0 Q aC=>?_
 cases x
 ·refine tq trivial ?_;intro Nx aB Gx aG
  refine rt aC trivial ?_
  exact⟨_,aE _,aR,_,aJ aR,rfl⟩
 ·refine tq trivial ?_;intro Nx aB Gx aG
  refine rt aC trivial ?_
  exact⟨_,aE _,aR,_,aJ aR,rfl⟩
def D5:List Int->Int
 |[]=>0
 |e::l=>if e≠0 then e else D5 l
theorem VY (l:List Int) (H:aA) (hl:fC l.length):aT prog 156 [.seq 1 (l.map iD)] H fun d H'=>d=i64 (D5 l)/\H=H':=by
 refine bM (K:=fun d=>d=i64 (D5 l)) ?_
 have cI:=lm iD l
 unfold fC at hl
 refine aN _ _ func156 rfl rfl ntmps156 results156 (by simp) fun w0 g0 Q aC=>?_
 refine tq cI ?_;intro Nx aB Gx aG
 refine bB l.length (fun i s=>s.df=[]/\s.fr 5=.seq 1 (l.map iD)/\s.fr 6=i64 l.length/\s.fr 7=i64 i/\s.H=H/\D5 l=D5 (l.drop i)) ⟨rfl,rfl,rfl,rfl,rfl,rfl⟩ ?_
 rintro i s hi ⟨bG,f5,f6,f7,hH,ha⟩
 have hx:=bL i
 have cL:=bY i
 have aX:H.le s.H:=by rw[hH];exact aE _
 by_cases aZ:i<l.length
 case neg=>
  have q6:=lF i l.length (by omega)
  rw[dX (by omega)] at ha
  refine tq (dZ f6 f7 q6) ?_;intro Nx aB Gx aG
  refine rt aC bG ?_
  exact⟨_,aE _,aX,_,aJ aX,by rw[ha] <;> rfl⟩
 have cN:(i:Int)<(l.length:Int):=by omega
 have q6:((i:Int)<(l.length:Int))=True:=aK cN
 have w3:=wS i (by omega)
 have b8:=dL aZ
 rw[dI aZ,D5] at ha
 by_cases h0:l[i]=0
 ·have q7:(l[i]=0)=True:=aK h0
  rw[aD (fun h=>h h0)] at ha
  refine tq (CF f5 f6 f7 cI q6 b8 hx cL aZ cN q7 w3) ?_;intro Nx aB Gx aG
  exact⟨aZ,bG,f5,f6,rfl,hH,ha⟩
 ·have q7:(l[i]=0)=False:=aI h0
  rw[aH h0] at ha
  refine tq (pE f5 f6 f7 cI q6 b8 hx cL aZ cN q7) ?_;intro Nx aB Gx aG
  refine rt aC bG ?_
  exact⟨_,aE _,aX,_,aJ aX,by rw[ha] <;> rfl⟩
theorem rS (b:iF) (n:Int) (b1 b2:Nat) (p:pO) (H:aA) (ck:Ck b) (hp:fC p.pr.length):aT prog 169 [.agg (xL b n b1 b2),.agg (kT p)] H fun d H'=>d=.fV [i64 (qI b p).1,i64 (qI b p).2]/\H=H':=by
 refine bM (K:=fun d=>d=.fV [i64 (qI b p).1,i64 (qI b p).2]) ?_
 have aR:=aE H
 have hq:=aCq b.ty b.lc p H ck.wt ck.wl ck.ar hp
 simp only[kT] at hq
 unfold qI
 refine aN _ _ func169 rfl rfl ntmps169 results169 (by simp) fun w0 g0 Q aC=>?_
 simp only[xL,iG,eT,fR]
 refine tq @kT.eq_1 ?_;intro Nx aB Gx aG
 intro c2 pZ c3 mH
 refine aB _ ?_
 obtain⟨mJ,s5⟩:=bT.1 mH;refine bS 2 rfl ((aP mJ.symm).trans (aQ _ _ _)) rfl ?_;refine bS 3 rfl ((bP mJ).trans (aQ _ _ _)) rfl ?_;refine eZ _ (iL pZ s5) ?_;simp only[St.gU,List.drop]
 refine tq trivial ?_;intro Nx aB Gx aG
 refine hq.mono ?_
 rintro d _ ⟨rfl,rfl⟩
 refine tq trivial ?_;intro Nx aB Gx aG
 refine rt aC trivial ?_
 exact⟨_,aE _,aR,_,aJ aR,rfl⟩
theorem LV (b:iF) (n:Int) (b1 b2:Nat) (o:tE) (H:aA) (ck:Ck b) (hp:KM o):aT prog 165 [.agg (xL b n b1 b2),.agg (jL o)] H fun d H'=>d=i64 (qS b o)/\H=H':=by
 refine bM (K:=fun d=>d=i64 (qS b o)) ?_
 have aR:=aE H
 have lG:=rS b n b1 b2 o.pl H ck hp
 have GS:=JV o.pl H hp
 have KE:=V8 o.pl H hp
 have hcp:=fun a=>aI7 b.ty a H ck.wt ck.rf ck.tl ck.ar.fC
 have SX:=fun x=>uP x H
 obtain⟨y,hy⟩:∃y,y=qS b o:=⟨_,rfl⟩
 rw[<-hy]
 unfold qS at hy
 obtain⟨T,hT⟩:∃T,T=qI b o.pl:=⟨_,rfl⟩
 rw[<-hT] at hy lG
 clear hT
 obtain⟨k,p,v⟩:=o
 simp only at hy
 simp only[xL,iG,eT,fR,kT] at lG
 simp only[kT] at GS KE
 refine aN _ _ func165 rfl rfl ntmps165 results165 (by simp) fun w0 g0 Q aC=>?_
 simp only[xL,iG,eT,fR]
 refine tq @jL.eq_1 ?_;intro Nx aB Gx aG
 intro c2 pZ c3 mH
 refine aB _ ?_
 obtain⟨mJ,s5⟩:=bT.1 mH;refine bS 2 rfl ((aP mJ.symm).trans (aQ _ _ _)) rfl ?_;refine bS 3 rfl ((bP mJ).trans (aQ _ _ _)) rfl ?_;refine eZ _ (iL pZ s5) ?_;simp only[St.gU,List.drop]
 by_cases hk:k=2
 ·have k0:(k=0)=False:=aI (by omega)
  have k1:(k=1)=False:=aI (by omega)
  have k2:(k=2)=True:=aK hk
  have k3:(k=3)=False:=aI (by omega)
  have k4:(k=4)=False:=aI (by omega)
  rw[aD (by omega)] at hy
  refine tq (gE k0 k1 k3 k4 k2) ?_;intro Nx aB Gx aG
  refine GS.mono ?_
  rintro d _ ⟨rfl,rfl⟩
  cases hz:eV p
  ·have e:y=2:=hy.trans (aH (.inr ⟨by omega,hz⟩))
   exact oz aC (gE k0 k1 k2 k3 k4) aR e
  ·have e:y=0:=hy.trans (by rw[aD (by rw[hz];rintro(⟨_,h,_⟩|⟨_,h⟩);exact h hk;cases h),aD (by omega),aH (by omega)])
   exact oz aC (gE k0 k1 k2 k3 k4) aR e
 by_cases hk:k=3
 ·have k0:(k=0)=False:=aI (by omega)
  have k1:(k=1)=False:=aI (by omega)
  have k2:(k=2)=False:=aI (by omega)
  have k3:(k=3)=True:=aK hk
  have k4:(k=4)=False:=aI (by omega)
  rw[aD (by omega)] at hy
  refine tq (gE k0 k1 k3 k4 k2) ?_;intro Nx aB Gx aG
  refine GS.mono ?_
  rintro d _ ⟨rfl,rfl⟩
  cases hz:eV p
  ·have e:y=2:=hy.trans (aH (.inr ⟨by omega,hz⟩))
   exact oz aC (gE k0 k1 k2 k3 k4) aR e
  rw[aD (by rw[hz];rintro(⟨_,_,h⟩|⟨_,h⟩);exact h hk;cases h)] at hy
  by_cases h0:v=0
  ·have q0:(v=0)=True:=aK h0
   have e:y=0:=hy.trans (by rw[aD (by omega),aH (by omega)])
   exact oz aC (jA k0 k1 k2 k3 k4 q0) aR e
  have q0:(v=0)=False:=aI h0
  by_cases h1:v=1
  ·have q1:(v=1)=True:=aK h1
   have e:y=0:=hy.trans (by rw[aD (by omega),aH (by omega)])
   exact oz aC (lM k0 k1 k2 k3 k4 q0 q1) aR e
  ·have q1:(v=1)=False:=aI h1
   have e:y=3:=hy.trans (aH ⟨hk,h0,h1⟩)
   exact oz aC (lM k0 k1 k2 k3 k4 q0 q1) aR e
 by_cases hk:k=4
 ·have k0:(k=0)=False:=aI (by omega)
  have k1:(k=1)=False:=aI (by omega)
  have k2:(k=2)=False:=aI (by omega)
  have k3:(k=3)=False:=aI (by omega)
  have k4:(k=4)=True:=aK hk
  rw[aD (by omega)] at hy
  by_cases h0:v=0
  case neg=>
   have q0:(v=0)=False:=aI h0
   have e:y=2:=hy.trans (aH (.inl ⟨h0,by omega,by omega⟩))
   exact oz aC (jA k0 k1 k2 k3 k4 q0) aR e
  have q0:(v=0)=True:=aK h0
  refine tq (jA k0 k1 k2 k3 k4 q0) ?_;intro Nx aB Gx aG
  refine GS.mono ?_
  rintro d _ ⟨rfl,rfl⟩
  cases hz:eV p
  ·have e:y=2:=hy.trans (aH (.inr ⟨by omega,hz⟩))
   exact oz aC (gE k0 k1 k2 k3 k4) aR e
  ·have e:y=0:=hy.trans (by rw[aD (by rw[hz];rintro(⟨h,_⟩|⟨_,h⟩);exact h h0;cases h),aD (by omega),aH (by omega)])
   exact oz aC (gE k0 k1 k2 k3 k4) aR e
 by_cases hk:k=0
 ·have k0:(k=0)=True:=aK hk
  have k1:(k=1)=False:=aI (by omega)
  have k2:(k=2)=False:=aI (by omega)
  have k3:(k=3)=False:=aI (by omega)
  have k4:(k=4)=False:=aI (by omega)
  rw[aD (by omega)] at hy
  by_cases h0:v=0
  case neg=>
   have q0:(v=0)=False:=aI h0
   have e:y=2:=hy.trans (aH (.inl ⟨h0,by omega,by omega⟩))
   exact oz aC (jA k0 k1 k2 k3 k4 q0) aR e
  have q0:(v=0)=True:=aK h0
  rw[aD (by omega),aD (by omega),aD (by omega)] at hy
  refine tq (jA k0 k1 k2 k3 k4 q0) ?_;intro Nx aB Gx aG
  refine lG.mono ?_
  rintro d _ ⟨rfl,rfl⟩
  by_cases h2:T.2=0
  case neg=>
   have q2:(T.2=0)=False:=aI h2
   have e:y=T.2:=hy.trans (aH h2)
   exact oz aC q2 aR e
  have q2:(T.2=0)=True:=aK h2
  rw[aD (fun h=>h h2)] at hy
  refine tq (cZ k0 q2) ?_;intro Nx aB Gx aG
  refine(hcp _).mono ?_
  rintro d _ ⟨rfl,rfl⟩
  have e:y=if lN b.ty T.1=false then 22 else 0:=by
   rw[hy]
   cases lN b.ty T.1 <;> simp [hk]
  refine tq trivial ?_;intro Nx aB Gx aG
  refine(SX _).mono ?_
  rintro d _ ⟨rfl,rfl⟩
  exact oz aC k0 aR e
 by_cases hk:k=1
 ·have k0:(k=0)=False:=aI (by omega)
  have k1:(k=1)=True:=aK hk
  have k2:(k=2)=False:=aI (by omega)
  have k3:(k=3)=False:=aI (by omega)
  have k4:(k=4)=False:=aI (by omega)
  rw[aD (by omega)] at hy
  by_cases h0:v=0
  case neg=>
   have q0:(v=0)=False:=aI h0
   have e:y=2:=hy.trans (aH (.inl ⟨h0,by omega,by omega⟩))
   exact oz aC (jA k0 k1 k2 k3 k4 q0) aR e
  have q0:(v=0)=True:=aK h0
  rw[aD (by omega),aD (by omega),aD (by omega)] at hy
  refine tq (jA k0 k1 k2 k3 k4 q0) ?_;intro Nx aB Gx aG
  refine lG.mono ?_
  rintro d _ ⟨rfl,rfl⟩
  by_cases h2:T.2=0
  case neg=>
   have q2:(T.2=0)=False:=aI h2
   have e:y=T.2:=hy.trans (aH h2)
   exact oz aC q2 aR e
  have q2:(T.2=0)=True:=aK h2
  rw[aD (fun h=>h h2)] at hy
  refine tq (cZ k0 q2) ?_;intro Nx aB Gx aG
  refine KE.mono ?_
  rintro d _ ⟨rfl,rfl⟩
  have e:y=if tL p 0=true then 22 else 0:=by
   rw[hy]
   cases tL p 0 <;> simp [hk]
  refine tq trivial ?_;intro Nx aB Gx aG
  refine(SX _).mono ?_
  rintro d _ ⟨rfl,rfl⟩
  exact oz aC k0 aR e
 have k0:(k=0)=False:=aI (by omega)
 have k1:(k=1)=False:=aI (by omega)
 have k2:(k=2)=False:=aI (by omega)
 have k3:(k=3)=False:=aI (by omega)
 have k4:(k=4)=False:=aI (by omega)
 have e:y=14:=hy.trans (aH (by omega))
 exact oz aC (gE k0 k1 k2 k3 k4) aR e
end Go.Proofs.YtelbfbioomcmeaaGreatDoor

