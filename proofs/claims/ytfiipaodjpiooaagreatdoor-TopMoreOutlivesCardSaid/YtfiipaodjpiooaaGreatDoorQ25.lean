/- Lemmas and contracts of functions, several texts in one. -/
import Derived.Test.YtfiipaodjpiooaaGreatDoorQ16
import Derived.Test.YtfiipaodjpiooaaGreatDoorQ24
set_option maxRecDepth 100000
set_option maxHeartbeats 4000000
set_option linter.all false
namespace Go.Proofs.YtfiipaodjpiooaaGreatDoor
open Go.RowKit
open Tryz
def HsI (l:List Int) (x:Int) (H:aC) (i:Nat) (s:St):Prop:=s.df=[]/\s.fr 0=.seq 1 (l.map iD)/\s.fr 1=i64 x/\s.fr 5=i64 i/\s.H=H/\x∉l.take i
theorem aNs (l:List Int) (x:Int) (hl:l.length<=140737488351232):bE prog 208 [.seq 1 (l.map iD),i64 x] .none fun d _=>d=.val (.bool (decide (x∈l))):=by
 have jY:=lm iD l
 refine aQ _ _ func208 rfl rfl ntmps208 results208 (by simp) fun w0 g0 Q aD=>?_
 refine tq trivial ?_;intro Nx aB Gx aF
 refine aZ l.length (HsI l x .none) ⟨rfl,rfl,rfl,rfl,rfl,by simp⟩ ?_
 rintro i s hi ⟨aT,f0,f1,f5,hH,hn⟩
 have hx:=bI i
 have cJ:=bM i
 by_cases aV:i<l.length
 case neg=>
  have q1:=lF i l.length (by omega)
  rw[cW (show l.length<=i by omega)] at hn
  refine tq (jE f0 f1 f5 jY q1) ?_;intro Nx aB Gx aF
  refine rt aD aT ?_
  exact⟨_,aG _,by rw[bB hn]⟩
 have q1:=lT i l.length (by omega)
 have cD:=cO aV
 have w3:=wS i (by omega)
 by_cases h2:l[i]=x
 ·have q2:(l[i]=x)=True:=aK h2
  have hm:x∈l:=h2▸bU aV
  refine tq (nN f0 f1 f5 jY q1 q2 cD hx cJ aV) ?_;intro Nx aB Gx aF
  refine rt aD aT ?_
  exact⟨_,aG _,by rw[bG hm]⟩
 ·have q2:(l[i]=x)=False:=aI h2
  refine tq (rQ f0 f1 f5 jY q1 q2 cD hx cJ aV w3) ?_;intro Nx aB Gx aF
  refine⟨aV,aT,f0,f1,rfl,hH,?_⟩
  rw[dH aV]
  intro hm
  rcases bV.1 hm with hm|hm
  ·exact hn hm
  ·rw[cR] at hm;exact h2 hm.symm
theorem aNt {H:aC} {d:D} {l:List Int} {x:Int} (he:nH H 1 d (·=l.map iD)) (hl:l.length<=140737488351232):bE prog 208 [d,i64 x] H fun r H'=>r=.val (.bool (decide (x∈l)))/\H=H':=
 MC (aNs l x hl) rfl (aJC (aJB he) (tE _ _))
def KO (l:List (Int×Int)) (n a b:Int) (H:aC) (s:St) (i:Nat) (S:List Int) (z:Option Int):Prop:=
 s.df=[]/\s.fr 0=.seq 2 (l.map pD)/\s.fr 1=i64 n/\s.fr 2=i64 a/\s.fr 3=i64 b/\s.fr 10=i64 i/\H.le s.H/\(∃c o,s.fr 9=.os c o 1 0 S.length/\H c=none/\s.H c=some (.row 3 o 1 (S.map iD)))/\aJY l n a z S (S.drop i)/\b∉S.take i
theorem aDb (l:List (Int×Int)) (n a b:Int) (H:aC) (iI:∀p∈l,cE n p.1/\cE n p.2) (hn:n<=1000000) (hl:l.length<=1000000):bE prog 172 [.seq 2 (l.map pD),i64 n,i64 a,i64 b] H fun d H'=>d=.val (.bool (lL l n a b))/\H=H':=by
 refine bO (K:=fun d=>d=.val (.bool (lL l n a b))) ?_
 have jY:=lm pD l
 refine aQ _ _ func172 rfl rfl ntmps172 results172 (by simp) fun w0 g0 Q aD=>?_
 by_cases h1:a<0
 ·have p1:(a<0)=True:=aK h1
  refine tq p1 ?_;intro Nx aB Gx aF
  refine rt aD trivial ?_
  exact⟨_,aG _,aG _,_,aH (aG _),by rw[rM fun h=>by have:=h.1.1;omega]⟩
 have p1:(a<0)=False:=aI h1
 by_cases h2:n<=a
 ·have p2:(n<=a)=True:=aK h2
  refine tq (dG p1 p2) ?_;intro Nx aB Gx aF
  refine rt aD trivial ?_
  exact⟨_,aG _,aG _,_,aH (aG _),by rw[rM fun h=>by have:=h.1.2;omega]⟩
 have p2:(n<=a)=False:=aI h2
 by_cases h3:b<0
 ·have p3:(b<0)=True:=aK h3
  refine tq (eA p1 p2 p3) ?_;intro Nx aB Gx aF
  refine rt aD trivial ?_
  exact⟨_,aG _,aG _,_,aH (aG _),by rw[rM fun h=>by have:=h.2.1.1;omega]⟩
 have p3:(b<0)=False:=aI h3
 by_cases h4:n<=b
 ·have p4:(n<=b)=True:=aK h4
  refine tq (gQ p1 p2 p3 p4) ?_;intro Nx aB Gx aF
  refine rt aD trivial ?_
  exact⟨_,aG _,aG _,_,aH (aG _),by rw[rM fun h=>by have:=h.2.1.2;omega]⟩
 have p4:(n<=b)=False:=aI h4
 have ha:cE n a:=⟨by omega,by omega⟩
 have hb:cE n b:=⟨by omega,by omega⟩
 refine to (gQ p1 p2 p3 p4) ?_;intro Nx aB Gx aF
 intro c hc
 refine tq trivial ?_;intro Nx aB Gx aF
 refine pZ (fun k s=>∃i S,KO l n a b H s i S none/\i<=S.length/\k=n.toNat - i) n.toNat ⟨0,[a],⟨rfl,rfl,rfl,rfl,rfl,rfl,bK (aG _) hc,⟨c,0,rfl,hc,aO _ _ _⟩,⟨by simp,(by intro x hx;rw[cR] at hx;subst hx;exact⟨ha,.refl _⟩),by simp,by simp,(by intro x hx hq;exact absurd hx hq)⟩,by simp⟩,by simp,by omega⟩ ?_
 rintro k s ⟨i,S,⟨aT,f0,f1,f2,f3,f10,aS,⟨c',o,f9,AL,K4⟩,hS,hbS⟩,hiS,hk⟩
 have hSn:=rC hS.nd fun z hz=>(hS.inr z hz).1
 have hx:=bI i
 have cJ:=bM i
 by_cases aV:i<S.length
 case neg=>
  have q1:=lF i S.length (by omega)
  rw[cW (show S.length<=i by omega)] at hbS
  have BB:∀x∈S,∀y,(x,y)∈l->y∈S:=fun x hx y hy=>hS.cl x hx (by rw[eT (by omega)];simp) (by simp) y hy
  refine tq (eA f9 f10 q1) ?_;intro Nx aB Gx aF
  refine rt aD aT ?_
  exact⟨_,aG _,aS,_,aH aS,by rw[rM fun h=>hbS (J6 hS.st BB h.2.2)]⟩
 have q1:=lT i S.length (by omega)
 have cD:=cO aV
 obtain⟨x,tV⟩:∃x,x=S[i]:=⟨_,rfl⟩
 rw[<-tV] at cD
 have hxS:x∈S:=tV▸bU aV
 by_cases hxb:x=b
 ·have q2:(x=b)=True:=aK hxb
  refine tq (BR f3 f9 f10 q1 q2 K4 cD hx cJ) ?_;intro Nx aB Gx aF
  refine rt aD aT ?_
  exact⟨_,aG _,aS,_,aH aS,by rw[J5 ⟨ha,hb,hxb▸(hS.inr x hxS).2⟩]⟩
 have q2:(x=b)=False:=aI hxb
 refine tq (BR f3 f9 f10 q1 q2 K4 cD hx cJ) ?_;intro Nx aB Gx aF
 have hSi:S.drop i=x::S.drop (i+1):=by rw[eH aV,<-tV]
 have aYK:b∉S.take (i+1):=by
  rw[dH aV,<-tV]
  intro hm
  rcases bV.1 hm with hm|hm
  ·exact hbS hm
  ·rw[cR] at hm;exact hxb hm.symm
 refine aZ l.length (fun j s=>s.df=[]/\s.fr 0=.seq 2 (l.map pD)/\s.fr 1=i64 n/\s.fr 2=i64 a/\s.fr 3=i64 b/\s.fr 10=i64 i/\s.fr 11=i64 j/\H.le s.H/\∃S,(∃c o,s.fr 9=.os c o 1 0 S.length/\H c=none/\s.H c=some (.row 3 o 1 (S.map iD)))/\aJY l n a (some x) S (S.drop (i+1))/\S[i]?=some x/\b∉S.take (i+1)/\∀m (h:m<l.length),m<j->l[m].1=x->l[m].2∈S) ?_ ?_
 ·exact⟨aT,f0,f1,f2,f3,f10,rfl,aS,S,⟨c',o,f9,AL,K4⟩,⟨hS.nd,hS.inr,hS.st,fun z hz=>hS.qs z (by rw[hSi];exact gY _ hz),fun z hz hzq hzx y hy=>hS.cl z hz (by rw[hSi];intro hm;rcases dJ.1 hm with hm|hm;exact hzx (by rw[hm]);exact hzq hm) (by simp) y hy⟩,by rw[bX aV,tV],aYK,fun m h hm=>by omega⟩
 rintro j s2 hj ⟨qX,g0,g1,g2,g3,Z0,g11,pC,S2,⟨c2,o2,g9,aKR,aA3⟩,hS2,aFC,aKP,LS⟩
 have EM:i<S2.length:=(mE.1 aFC).1
 have a1s:=rC hS2.nd fun z hz=>(hS2.inr z hz).1
 have hjx:=bI j
 have xB:=bM j
 by_cases fQ:j<l.length
 case neg=>
  have q3:=lF j l.length (by omega)
  have w3:=wS i (by omega)
  refine tq (kB g0 Z0 g11 jY q3 w3) ?_;intro Nx aB Gx aF
  refine⟨n.toNat - (i+1),(show _<_ by omega),i+1,S2,⟨qX,g0,g1,g2,g3,rfl,pC,⟨c2,o2,g9,aKR,aA3⟩,⟨hS2.nd,hS2.inr,hS2.st,hS2.qs,fun z hz hzq _ y hy=>?_⟩,aKP⟩,by omega,rfl⟩
  by_cases hzx:z=x
  ·subst hzx
   obtain⟨m,hm,he⟩:=sA hy
   have:=LS m hm (by omega) (by rw[he])
   rwa[he] at this
  ·exact hS2.cl z hz hzq (by simpa using hzx) y hy
 have q3:=lT j l.length (by omega)
 have qR:=mU fQ
 have aOJ:(S2.map iD)[i]?=some [.val (.int .i64 x)]:=by rw[dN,aFC];rfl
 have w4:=wS j (by omega)
 have q4:=lT i S2.length (by omega)
 obtain⟨u,hu⟩:∃u,u=l[j].1:=⟨_,rfl⟩
 obtain⟨v,hv⟩:∃v,v=l[j].2:=⟨_,rfl⟩
 rw[<-hu,<-hv] at qR
 have huv:(u,v)∈l:=by rw[hu,hv];exact bU fQ
 refine tq (gQ g0 g11 jY q3) ?_;intro Nx aB Gx aF
 by_cases hux:u=x
 case neg=>
  have q5:(u=x)=False:=aI hux
  refine dE (fun _ _ _ _=>False) fun Nx aB=>?_;refine dst (DH g0 g9 Z0 g11 aA3 qR aOJ hx cJ hjx xB fQ q4 q5) ?_;intro Nx aB Gx aF
  refine tq (dG g11 w4) ?_;intro Nx aB Gx aF
  refine⟨fQ,qX,g0,g1,g2,g3,Z0,rfl,pC,S2,⟨c2,o2,g9,aKR,aA3⟩,hS2,aFC,aKP,fun m hm hmj he=>?_⟩
  by_cases hme:m=j
  ·subst hme;exact absurd he (by rw[<-hu];exact hux)
  ·exact LS m hm (by omega) he
 have q5:(u=x)=True:=aK hux
 have eP:eF prog 208 [.os c2 o2 1 0 S2.length,.val (.int .i64 v)] s2.H fun d A=>A=aC.none/\d=.val (.bool (decide (v∈S2))):=
  cF fun gI gX=>aNt (aDP (gX _ _ aA3) (by rw[bC])) (by omega)
 by_cases hvS:v∈S2
 ·have q6:decide (v∈S2)=true:=bG hvS
  rw[q6] at eP
  refine dE (fun _ _ d A=>A=.none/\d=.val (.bool true)) fun Nx aB=>?_;refine dst (DH g0 g9 Z0 g11 aA3 qR aOJ hx cJ hjx xB fQ q4 q5) ?_;intro Nx aB Gx aF
  refine⟨eP,aF _ ?_⟩
  refine dst trivial ?_;intro Nx aB Gx aF
  refine tq (dG g11 w4) ?_;intro Nx aB Gx aF
  refine⟨fQ,qX,g0,g1,g2,g3,Z0,rfl,pC,S2,⟨c2,o2,g9,aKR,aA3⟩,hS2,aFC,aKP,fun m hm hmj he=>?_⟩
  by_cases hme:m=j
  ·subst hme;rw[<-hv];exact hvS
  ·exact LS m hm (by omega) he
 ·have q6:decide (v∈S2)=false:=bB hvS
  rw[q6] at eP
  refine dE (fun _ _ d A=>A=.none/\d=.val (.bool false)) fun Nx aB=>?_;refine dst (DH g0 g9 Z0 g11 aA3 qR aOJ hx cJ hjx xB fQ q4 q5) ?_;intro Nx aB Gx aF
  refine⟨eP,aF _ ?_⟩
  refine dst trivial ?_;intro Nx aB Gx aF
  refine tq (wG g0 g9 Z0 g11 qR hjx xB fQ) ?_;intro Nx aB Gx aF
  have hvR:=(iI _ huv).2
  have hxR:Reach l a x:=(hS2.inr x (iQ aFC)).2
  have IK:(S2++[v]).Nodup:=by
   rw[yI]
   exact⟨hS2.nd,by simp,fun z hz w hw=>by rw[cR] at hw;subst hw;exact fun e=>hvS (e▸hz)⟩
  have aHH:∀z∈S2++[v],cE n z/\Reach l a z:=fun z hz=>by
   rcases bV.1 hz with hz|hz
   ·exact hS2.inr z hz
   ·rw[cR] at hz;subst hz;exact⟨hvR,hxR.step (hux▸huv)⟩
  have hn3:=rC IK fun z hz=>(aHH z hz).1
  have GN:Gl H 3 1 (S2.map iD) (.os c2 o2 1 0 S2.length) s2.H (some c2):=.inr ⟨c2,o2,rfl,by rw[bC],aKR,aA3⟩
  refine dD (e:=3) kZ rfl kZ rfl PF rfl (by decide) pC GN (new:=[iD v]) (by exact⟨rfl,rfl⟩) (by rw[bC];show(_+1) * 8<=_;omega) fun d H6 oG j6 eM _=>?_
  rw[show[iD v]=[v].map iD from rfl,<-cQ] at j6
  have aOI:∃c o,d=.os c o 1 0 (S2++[v]).length/\H c=none/\H6 c=some (.row 3 o 1 ((S2++[v]).map iD)):=by
   rcases j6 with⟨_,_,h⟩|⟨c,o,_,h1,h2,h3⟩
   ·simp at h
   ·exact⟨c,o,by rw[h1,bC],h2,h3⟩
  refine tq (dG g11 w4) ?_;intro Nx aB Gx aF
  refine⟨fQ,qX,g0,g1,g2,g3,Z0,rfl,eM,S2++[v],aOI,⟨IK,aHH,bV.2 (.inl hS2.st),?_,?_⟩,?_,?_,?_⟩
  ·intro z hz;exact List.mem_of_mem_drop hz
  ·intro z hz hzq hzx y hy
   rcases bV.1 hz with hz|hz
   ·refine bV.2 (.inl (hS2.cl z hz (fun h=>hzq ?_) hzx y hy))
    rw[List.drop_append_of_le_length (by omega)]
    exact bV.2 (.inl h)
   ·exact absurd (by rw[List.drop_append_of_le_length (by omega)];exact bV.2 (.inr hz)) hzq
  ·rw[r5 EM];exact aFC
  ·rw[EW (by omega)];exact aKP
  ·intro m hm hmj he
   by_cases hme:m=j
   ·subst hme;rw[<-hv];exact bV.2 (.inr (by simp))
   ·exact bV.2 (.inl (LS m hm (by omega) he))
noncomputable def KE (l:List (Int×Int)) (n:Int) (ts:List dS):Nat->Int->Int->Bool
 |0,_,_=>false
 |k+1,a,b=>
  decide ((cZ ts a).k=(cZ ts b).k)&&(decide ((cZ ts a).m=(cZ ts b).m)&&(decide ((cZ ts a).ar.length=(cZ ts b).ar.length)&&
   ((if (cZ ts a).k=3 then lL l n (cZ ts a).r (cZ ts b).r&&(KE l n ts k (cZ ts a).e (cZ ts b).e&&(!(cZ ts a).m||KE l n ts k (cZ ts b).e (cZ ts a).e)) else true)&&
    ((cZ ts a).ar.zip (cZ ts b).ar).all fun p=>KE l n ts k p.1 p.2)))
theorem FO {l:List (Int×Int)} {n:Int} {ts:List dS} (hw:zJ ts):∀(k:Nat) (a b:Int),cE ts.length a->cE ts.length b->a<k->b<k->∀k',k<=k'->KE l n ts k' a b=KE l n ts k a b
 |0,a,b,ha,_,hk,_,_,_=>by unfold cE at ha;omega
 |k+1,a,b,ha,hb,hak,hbk,0,hk'=>by omega
 |k+1,a,b,ha,hb,hak,hbk,k'+1,hk'=>by
  have wa:=CS hw ha
  have wb:=CS hw hb
  unfold cE at ha hb
  simp only[KE]
  by_cases h1:(cZ ts a).k=(cZ ts b).k
  case neg=>simp [h1]
  congr 1
  congr 1
  congr 1
  have fF:(((cZ ts a).ar.zip (cZ ts b).ar).all fun p=>KE l n ts k' p.1 p.2)=(((cZ ts a).ar.zip (cZ ts b).ar).all fun p=>KE l n ts k p.1 p.2):=by
   rw[Bool.eq_iff_iff,eZ,eZ]
   refine forall_congr' fun p=>forall_congr' fun hp=>?_
   have h2:=List.of_mem_zip hp
   have h3:=wa.2 _ h2.1
   have h4:=wb.2 _ h2.2
   rw[FO hw k p.1 p.2 ⟨h3.1,by omega⟩ ⟨h4.1,by omega⟩ (by omega) (by omega) k' (by omega)]
  rw[fF]
  congr 1
  by_cases h2:(cZ ts a).k=3
  ·rw[aE h2,aE h2]
   have h3:=wa.1 h2
   have h4:=wb.1 (h1▸h2)
   rw[FO hw k _ _ ⟨h3.1,by omega⟩ ⟨h4.1,by omega⟩ (by omega) (by omega) k' (by omega),FO hw k _ _ ⟨h4.1,by omega⟩ ⟨h3.1,by omega⟩ (by omega) (by omega) k' (by omega)]
  ·rw[aA h2,aA h2]
noncomputable def sP (l:List (Int×Int)) (n:Int) (ts:List dS) (a b:Int):Bool:=KE l n ts ts.length a b
theorem aEN {l:List (Int×Int)} {n:Int} {ts:List dS} (hw:zJ ts) {a b:Int} (ha:cE ts.length a) (hb:cE ts.length b):
  sP l n ts a b=(decide ((cZ ts a).k=(cZ ts b).k)&&(decide ((cZ ts a).m=(cZ ts b).m)&&(decide ((cZ ts a).ar.length=(cZ ts b).ar.length)&&
   ((if (cZ ts a).k=3 then lL l n (cZ ts a).r (cZ ts b).r&&(sP l n ts (cZ ts a).e (cZ ts b).e&&(!(cZ ts a).m||sP l n ts (cZ ts b).e (cZ ts a).e)) else true)&&
    ((cZ ts a).ar.zip (cZ ts b).ar).all fun p=>sP l n ts p.1 p.2)))):=by
 have h:=FO (l:=l) (n:=n) hw ts.length a b ha hb (by unfold cE at ha;omega) (by unfold cE at hb;omega) (ts.length+1) (by omega)
 unfold sP
 rw[<-h]
 simp only[KE]
open Classical in
noncomputable def IF (l:List (Int×Int)) (n:Int) (ts:List dS) (a b:Int):Bool:=if cE ts.length a/\cE ts.length b then sP l n ts a b else false
theorem MJ {l:List (Int×Int)} {n:Int} {ts:List dS} {a b:Int} (h:¬(cE ts.length a/\cE ts.length b)):IF l n ts a b=false:=aA h
theorem SL {l:List (Int×Int)} {n:Int} {ts:List dS} {a b:Int} (ha:cE ts.length a) (hb:cE ts.length b):IF l n ts a b=sP l n ts a b:=aE ⟨ha,hb⟩
theorem aFi {f:Int->Int->Bool} {x y:List Int} (h:∀j (h:j<x.length) (h':j<y.length),f x[j] y[j]=true):((x.zip y).all fun p=>f p.1 p.2)=true:=by
 rw[eZ]
 intro p hp
 obtain⟨j,hj,rfl⟩:=sA hp
 rw[List.length_zip] at hj
 rw[List.getElem_zip]
 exact h j (by omega) (by omega)
theorem aFh {f:Int->Int->Bool} {x y:List Int} {j:Nat} (h1:j<x.length) (h2:j<y.length) (h:f x[j] y[j]=false):((x.zip y).all fun p=>f p.1 p.2)=false:=by
 rw[Bool.eq_false_iff]
 intro hc
 rw[eZ] at hc
 have hj:j<(x.zip y).length:=by rw[List.length_zip];omega
 have:=hc _ (bU hj)
 rw[List.getElem_zip,h] at this
 cases this
theorem aOg (l:List (Int×Int)) (n:Int) (ts:List dS) (hw:zJ ts) (iI:∀p∈l,cE n p.1/\cE n p.2) (hn:n<=1000000) (hl:l.length<=1000000) (wI:ts.length<=1000000) (oF:∀t∈ts,t.ar.length<=140737488351232):
  ∀(kk:Nat) (a b:Int) (H:aC),a<kk->b<kk->bE prog 173 [.seq 2 (l.map pD),i64 n,.seq 5 (ts.map cP),i64 a,i64 b] H fun d H'=>d=.val (.bool (IF l n ts a b))/\H=H':=by
 intro kk
 induction kk using Nat.strongRecOn with
 |ind kk ih=>
  intro a b H haN hbN
  refine bO (K:=fun d=>d=.val (.bool (IF l n ts a b))) ?_
  have fN:=lm cP ts
  refine aQ _ _ func173 rfl rfl ntmps173 results173 (by simp) fun w0 g0 Q aD=>?_
  have BD:=aG H
  by_cases h1:a<0
  ·have p1:(a<0)=True:=aK h1
   have fG:=MJ (l:=l) (n:=n) (ts:=ts) (a:=a) (b:=b) fun h=>by have:=h.1.1;omega
   refine tq p1 ?_;intro Nx aB Gx aF;refine rt aD trivial ?_;exact⟨_,aG _,BD,_,aH BD,by rw[fG]⟩
  have p1:(a<0)=False:=aI h1
  by_cases h2:(ts.length:Int)<=a
  ·have p2:((ts.length:Int)<=a)=True:=aK h2
   have fG:=MJ (l:=l) (n:=n) (ts:=ts) (a:=a) (b:=b) fun h=>by have:=h.1.2;omega
   refine tq (eA p1 p2 fN) ?_;intro Nx aB Gx aF;refine rt aD trivial ?_;exact⟨_,aG _,BD,_,aH BD,by rw[fG]⟩
  have p2:((ts.length:Int)<=a)=False:=aI h2
  by_cases h3:b<0
  ·have p3:(b<0)=True:=aK h3
   have fG:=MJ (l:=l) (n:=n) (ts:=ts) (a:=a) (b:=b) fun h=>by have:=h.2.1;omega
   refine tq (gQ p1 p2 p3 fN) ?_;intro Nx aB Gx aF;refine rt aD trivial ?_;exact⟨_,aG _,BD,_,aH BD,by rw[fG]⟩
  have p3:(b<0)=False:=aI h3
  by_cases h4:(ts.length:Int)<=b
  ·have p4:((ts.length:Int)<=b)=True:=aK h4
   have fG:=MJ (l:=l) (n:=n) (ts:=ts) (a:=a) (b:=b) fun h=>by have:=h.2.2;omega
   refine tq (jE p1 p2 p3 p4 fN) ?_;intro Nx aB Gx aF;refine rt aD trivial ?_;exact⟨_,aG _,BD,_,aH BD,by rw[fG]⟩
  have p4:((ts.length:Int)<=b)=False:=aI h4
  have ha:cE ts.length a:=⟨by omega,by omega⟩
  have hb:cE ts.length b:=⟨by omega,by omega⟩
  have qH:=(SL (l:=l) (n:=n) ha hb).trans (aEN hw ha hb)
  have EK:=mD ha
  have LU:=mD hb
  have wa:=CS hw ha
  have wb:=CS hw hb
  have JK:(cZ ts a).ar.length<=140737488351232:=by obtain⟨h',he⟩:=BP ha;rw[he];exact oF _ (bU h')
  obtain⟨t,ht⟩:∃t,t=cZ ts a:=⟨_,rfl⟩
  obtain⟨u,hu⟩:∃u,u=cZ ts b:=⟨_,rfl⟩
  rw[<-ht] at EK qH wa JK
  rw[<-hu] at LU qH wb
  obtain⟨tk,tm,tr,te,ta⟩:=t
  obtain⟨uk,um,ur,ue,ua⟩:=u
  simp only[cP] at EK LU qH wa wb JK
  have h0a:0<=a:=ha.1
  have h0b:0<=b:=hb.1
  have rJ:a.toNat<ts.length:=by omega
  have l4:b.toNat<ts.length:=by omega
  have BA:a<(ts.length:Int):=by omega
  have aKQ:b<(ts.length:Int):=by omega
  refine tq (W7 p1 p2 p3 p4 fN EK LU h0a h0b rJ l4 BA aKQ) ?_;intro Nx aB Gx aF
  intro b11 aNu
  refine aB _ ?_
  refine fZ 11 aNu ?_
  refine tq (BR fN EK LU h0a h0b rJ l4 BA aKQ) ?_;intro Nx aB Gx aF
  intro b12 aGt
  refine aB _ ?_
  refine fZ 12 aGt ?_
  have NF:=lm iD ta
  have hua:=lm iD ua
  by_cases g1:tk=uk
  case neg=>
   have q1:(tk=uk)=False:=aI g1
   have fG:IF l n ts a b=false:=by rw[qH];simp [g1]
   refine tq q1 ?_;intro Nx aB Gx aF;refine rt aD trivial ?_;exact⟨_,aG _,BD,_,aH BD,by rw[fG]⟩
  have q1:(tk=uk)=True:=aK g1
  by_cases g2:tm=um
  case neg=>
   have q2:(tm=um)=False:=aI g2
   have fG:IF l n ts a b=false:=by rw[qH];simp [g2]
   refine tq (dG q1 q2) ?_;intro Nx aB Gx aF;refine rt aD trivial ?_;exact⟨_,aG _,BD,_,aH BD,by rw[fG]⟩
  have q2:(tm=um)=True:=aK g2
  by_cases g3:ta.length=ua.length
  case neg=>
   have q3:((ta.length:Int)=(ua.length:Int))=False:=aI (by omega)
   have fG:IF l n ts a b=false:=by rw[qH];simp [g3]
   refine tq (jE q1 q2 q3 NF hua) ?_;intro Nx aB Gx aF;refine rt aD trivial ?_;exact⟨_,aG _,BD,_,aH BD,by rw[fG]⟩
  have q3:((ta.length:Int)=(ua.length:Int))=True:=aK (by omega)
  rw[bG g1,bG g2,bG g3,eI,eI,eI] at qH
  refine tq (jE q1 q2 q3 NF hua) ?_;intro Nx aB Gx aF
  refine aZ ta.length (fun i s=>s.df=[]/\s.fr 0=.seq 2 (l.map pD)/\s.fr 1=i64 n/\s.fr 2=.seq 5 (ts.map cP)/\s.fr 11=.rp [i64 tk,.val (.bool tm),i64 tr,i64 te,.seq 1 (ta.map iD)]/\s.fr 12=.rp [i64 uk,.val (.bool um),i64 ur,i64 ue,.seq 1 (ua.map iD)]/\s.fr 13=i64 i/\s.H=H/\∀j (h:j<ta.length) (h':j<ua.length),j<i->sP l n ts ta[j] ua[j]=true) ⟨rfl,rfl,rfl,rfl,rfl,rfl,rfl,rfl,by simp⟩ ?_
  rintro i s hi ⟨aT,f0,f1,f2,f11,f12,f13,hH,fF⟩
  have hx:=bI i
  have cJ:=bM i
  by_cases aV:i<ta.length
  case pos=>
   have q4:=lT i ta.length (by omega)
   have hiu:i<ua.length:=by omega
   have cD:=cO aV
   have hgu:=cO hiu
   have w3:=wS i (by omega)
   have hxa:=wa.2 ta[i] (bU aV)
   have hya:=wb.2 ua[i] (bU hiu)
   have hvx:=SL (l:=l) (n:=n) (ts:=ts) (a:=ta[i]) (b:=ua[i]) ⟨hxa.1,by omega⟩ ⟨hya.1,by omega⟩
   have eP:eF prog 173 [.seq 2 (l.map pD),i64 n,.seq 5 (ts.map cP),i64 ta[i],i64 ua[i]] H fun d A=>A=aC.none/\d=.val (.bool (IF l n ts ta[i] ua[i])):=
    cF fun gI gX=>ih (kk - 1) (by omega) ta[i] ua[i] gI (by omega) (by omega)
   rw[hvx] at eP
   refine tq (gQ f11 f13 NF q4) ?_;intro Nx aB Gx aF
   obtain⟨x,tV⟩:∃x,x=ta[i]:=⟨_,rfl⟩
   obtain⟨y,hye⟩:∃y,y=ua[i]:=⟨_,rfl⟩
   rw[<-tV] at cD eP
   rw[<-hye] at hgu eP
   cases hv:sP l n ts x y with
   |false=>
    rw[hv] at eP
    refine dE (fun _ _ d A=>A=.none/\d=.val (.bool false)) fun Nx aB=>?_;refine dst (aEb f0 f1 f2 f11 f12 f13 NF hua cD hgu hx cJ aV hiu hH) ?_;intro Nx aB Gx aF
    refine⟨eP,aB _ ?_⟩
    refine tq trivial ?_;intro Nx aB Gx aF
    refine rt aD aT ?_
    have hzf:=aFh (f:=sP l n ts) aV hiu (by rw[<-tV,<-hye];exact hv)
    exact⟨_,aG _,BD,_,aH BD,by rw[qH,hzf,kI]⟩
   |true=>
    rw[hv] at eP
    refine dE (fun _ _ d A=>A=.none/\d=.val (.bool true)) fun Nx aB=>?_;refine dst (aEb f0 f1 f2 f11 f12 f13 NF hua cD hgu hx cJ aV hiu hH) ?_;intro Nx aB Gx aF
    refine⟨eP,aB _ ?_⟩
    refine tq (dG f13 w3) ?_;intro Nx aB Gx aF
    refine⟨aV,aT,f0,f1,f2,f11,f12,rfl,rfl,fun j h h' hj=>?_⟩
    by_cases hje:j=i
    ·subst hje;rw[<-tV,<-hye];exact hv
    ·exact fF j h h' (by omega)
  case neg=>
   have q4:=lF i ta.length (by omega)
   have hzt:=aFi (f:=sP l n ts) (x:=ta) (y:=ua) fun j h h'=>fF j h h' (by omega)
   rw[hzt,lR] at qH
   have aY:H.le s.H:=by rw[hH];exact BD
   by_cases h5:tk=3
   case neg=>
    have q5:(tk=3)=False:=aI h5
    rw[aA h5] at qH
    refine tq (jE f11 f13 NF q4 q5) ?_;intro Nx aB Gx aF
    refine rt aD aT ?_
    exact⟨_,aG _,aY,_,aH aY,by rw[qH]⟩
   have q5:(tk=3)=True:=aK h5
   rw[aE h5] at qH
   have hea:=wa.1 h5
   have heb:=wb.1 (g1▸h5)
   have hv1:=SL (l:=l) (n:=n) (ts:=ts) (a:=te) (b:=ue) ⟨hea.1,by omega⟩ ⟨heb.1,by omega⟩
   have hv2:=SL (l:=l) (n:=n) (ts:=ts) (a:=ue) (b:=te) ⟨heb.1,by omega⟩ ⟨hea.1,by omega⟩
   refine tq (BR f0 f1 f2 f11 f12 f13 NF q4 q5) ?_;intro Nx aB Gx aF
   refine(aDb l n tr ur _ iI hn hl).mono ?_
   rintro d _ ⟨rfl,rfl⟩
   cases ho:lL l n tr ur with
   |false=>
    rw[ho,gC] at qH
    refine tq (kB f0 f1 f2 f11 f12 f13) ?_;intro Nx aB Gx aF
    refine rt aD aT ?_
    exact⟨_,aG _,aY,_,aH aY,by rw[qH]⟩
   |true=>
    rw[ho,eI] at qH
    refine tq (kB f0 f1 f2 f11 f12 f13) ?_;intro Nx aB Gx aF
    refine(ih (kk - 1) (by omega) te ue _ (by omega) (by omega)).mono ?_
    rintro d _ ⟨rfl,rfl⟩
    rw[hv1]
    cases hs1:sP l n ts te ue with
    |false=>
     rw[hs1,gC] at qH
     refine tq (kB f0 f1 f2 f11 f12 f13) ?_;intro Nx aB Gx aF
     refine rt aD aT ?_
     exact⟨_,aG _,aY,_,aH aY,by rw[qH]⟩
    |true=>
     rw[hs1,eI] at qH
     by_cases K6:tm=true
     case neg=>
      have aFI:tm=false:=by simpa using K6
      rw[aFI] at qH
      refine tq (nF f0 f1 f2 f11 f12 f13 aFI) ?_;intro Nx aB Gx aF
      refine rt aD aT ?_
      exact⟨_,aG _,aY,_,aH aY,by rw[qH] <;> rfl⟩
     rw[K6] at qH
     refine tq (nF f0 f1 f2 f11 f12 f13 K6) ?_;intro Nx aB Gx aF
     refine(ih (kk - 1) (by omega) ue te _ (by omega) (by omega)).mono ?_
     rintro d _ ⟨rfl,rfl⟩
     rw[hv2]
     refine tq (nF f0 f1 f2 f11 f12 f13 K6) ?_;intro Nx aB Gx aF
     refine rt aD aT ?_
     exact⟨_,aG _,aY,_,aH aY,by rw[qH] <;> rfl⟩
def gL (p:pA):Bool:=decide (p.lo=0)&&decide (p.pr.length=0)
def uE (b:cT) (p:pA):Int×Int:=cG b.ty b.lc p
noncomputable def qU (b:cT) (o:qV):Int:=
 if o.k<0\/4<o.k then 14
 else if (o.n≠0/\o.k≠2/\o.k≠3)\/(1<o.k/\gL o.pl=false) then 2
 else if o.k=3/\o.n≠0/\o.n≠1 then 3
 else if 1<o.k then 0
 else if (uE b o.pl).2≠0 then (uE b o.pl).2
 else if (o.k=0/\pK b.ty (uE b o.pl).1=false)\/(o.k=1/\y9 o.pl 0=true) then 22 else 0
def IL (b:cT) (o:qV):Int:=if o.k=2 then 2 else if o.k=3 then 1 else if o.k=4 then 0 else (cZ b.ty (uE b o.pl).1).k
noncomputable def uI (b:cT) (o:qV) (t:Int):Bool:=if 1<o.k then decide (IL b o=(cZ b.ty t).k) else IF b.ol b.rg.length b.ty (uE b o.pl).1 t
noncomputable def gA (b:cT):List qV->List Int->Int
 |[],_=>0
 |o::l,fs=>if qU b o≠0 then qU b o else match fs with
  |[]=>gA b l []
  |f::fs=>if uI b o f=false then 22 else gA b l fs
def unE (op:Int):Int×Int:=if op=0 then (2,2) else (1,1)
def aBg (op:Int):Int×Int:=if op=5 then (1,1) else if 3<=op then (2,1) else (2,2)
noncomputable def vU (b:cT) (r:G0) (t:Int) (n:Int) (x:Int×Int):Int:=
 if r.op<0\/n<=r.op then 14
 else if gA b r.ar []≠0 then gA b r.ar []
 else if (r.ar.all fun o=>decide (IL b o=x.1))=false then 22
 else if (cZ b.ty t).k≠x.2 then 22 else 0
noncomputable def I3 (b:cT) (r:G0) (t:Int):Int:=
 if (uE b r.pl).2≠0 then (uE b r.pl).2
 else if r.rg<0\/(b.rg.length:Int)<=r.rg then 3
 else if (cZ b.ty t).k≠3\/(cZ b.ty t).r≠r.rg\/(cZ b.ty t).m≠r.mu\/(cZ b.ty t).e≠(uE b r.pl).1\/(r.mu=true/\x9 b.ty b.lc r.pl=false) then 22
 else if ((ME b.ty b.lc r.pl).all fun q=>lL b.ol b.rg.length q r.rg)=false then 22 else 0
def GV (r:G0):Bool:=
 if r.k=1 then decide (r.op=0)&&decide (r.ar.length=0)
 else (decide (r.rg=0)&& !r.mu&&gL r.pl)&&(if r.k=0 then decide (r.op=0)&&decide (r.ar.length=1) else if r.k=2 then decide (r.ar.length=1) else if r.k=3 then decide (r.ar.length=2) else decide (r.op=0))
noncomputable def SG (b:cT) (r:G0) (t:Int):Int:=
 if r.k<0\/4<r.k then 14
 else if GV r=false then 2
 else if r.k=0 then gA b r.ar [t]
 else if r.k=1 then I3 b r t
 else if r.k=2 then vU b r t 2 (unE r.op)
 else if r.k=3 then vU b r t 6 (aBg r.op)
 else if (cZ b.ty t).k≠4\/(cZ b.ty t).ar.length≠r.ar.length then 22 else gA b r.ar (cZ b.ty t).ar
def GX (b:cT) (p:pA):Int:=if (uE b p).2≠0 then (uE b p).2 else if x9 b.ty b.lc p=false then 22 else 0
def aAG (s:EZ):Bool:=gL s.pl&&(decide (s.rv.k=0)&&decide (s.rv.op=0)&&decide (s.rv.ar.length=0)&&decide (s.rv.rg=0)&& !s.rv.mu&&gL s.rv.pl)
noncomputable def IN (b:cT) (s:EZ):Int:=
 if s.k=0 then (if s.lo≠0 then 2 else if GX b s.pl≠0 then GX b s.pl else SG b s.rv (uE b s.pl).1)
 else if s.k=1 then (if aAG s=false then 2 else if s.lo<0\/(b.lc.length:Int)<=s.lo then 3 else 0)
 else if s.k=2 then (if aAG s=false\/s.lo≠0 then 2 else 0)
 else 14
def yO (t:HF):Bool:=
 if t.k=0 then (decide (t.tg.length=1)&&decide (t.ar.length=0))&&gL t.pl&&decide (t.nm=ByteArray.empty)
 else if t.k=1 then (decide (t.tg.length=2)&&decide (t.ar.length=1))&&gL t.pl&&decide (t.nm=ByteArray.empty)
 else if t.k=3 then decide (t.tg.length=1)
 else if t.k=4 then (decide (t.tg.length=1)&&decide (t.ar.length=0))&&decide (t.nm=ByteArray.empty)
 else (decide (t.tg.length=0)&&decide (t.ar.length=0))&&gL t.pl&&decide (t.nm=ByteArray.empty)
def TJ (t:HF):qV:=t.ar.getD 0 ⟨0,⟨0,[]⟩,0⟩
noncomputable def BU (b:cT) (t:HF):Int:=
 if t.k<0\/5<t.k then 14
 else if yO t=false then 2
 else if (t.tg.all fun x=>decide (cE b.bl.length x))=false then 3
 else if t.k=1 then (if qU b (TJ t)≠0 then qU b (TJ t) else if IL b (TJ t)≠1 then 22 else 0)
 else if t.k=3 then (if x7 t.nm=false then 12 else if 65535<t.ar.length then 15 else if gA b t.ar []≠0 then gA b t.ar [] else GX b t.pl)
 else if t.k=4 then (if (uE b t.pl).2≠0 then (uE b t.pl).2 else if y9 t.pl 0=true then 22 else 0)
 else 0
def OG (seen:List ByteArray):List ByteArray->Int
 |[]=>0
 |s::l=>if x7 s=false then 12 else if ixS seen s<seen.length then 21 else OG (seen++[s]) l
def uO (l:List ByteArray):Int:=if 65535<l.length then 15 else OG [] l
def EO (n:Nat) (seen:List ByteArray):List AO->Int
 |[]=>0
 |x::l=>if x7 x.nm=false then 12 else if ixS seen x.nm<seen.length then 21 else if ¬cE n x.ty then 3 else EO n (seen++[x.nm]) l
def JX (b:cT):Int:=if 65535<b.lc.length then 15 else if EO b.ty.length [] b.lc≠0 then EO b.ty.length [] b.lc else if b.ag<0\/(b.lc.length:Int)<b.ag then 3 else 0
noncomputable def oI (b:cT):Int:=
 if x7 b.nm=false then 12
 else if uO b.rg≠0 then uO b.rg
 else if jA b.ol b.rg.length≠0 then jA b.ol b.rg.length
 else if B4 b.ty b.rg.length≠0 then B4 b.ty b.rg.length
 else if JX b≠0 then JX b
 else if b.bl.length=0\/65535<b.bl.length then 15 else 0
noncomputable def tB (b:cT):List EZ->Int
 |[]=>0
 |s::l=>if IN b s≠0 then IN b s else tB b l
noncomputable def uG (b:cT):List mP->Int
 |[]=>0
 |x::l=>if 65535<x.st.length then 15 else if tB b x.st≠0 then tB b x.st else if BU b x.tm≠0 then BU b x.tm else uG b l
noncomputable def qJ (b:cT):Int:=if oI b≠0 then oI b else uG b b.bl
structure a1i (b:cT):Prop where
 wt:zJ b.ty
 wl:wfL b.ty b.lc
 ol:∀p∈b.ol,cE b.rg.length p.1/\cE b.rg.length p.2
 cr:jA b.ol b.rg.length=0
theorem aHc {ts:List dS}:∀{l:List AO} {seen:List ByteArray},EO ts.length seen l=0->wfL ts l
 |[],_,_=>fun x h=>by cases h
 |y::l,seen,h=>fun x hx=>by
  simp only[EO] at h
  split at h
  ·cases h
  ·split at h
   ·cases h
   ·split at h
    ·cases h
    ·rename_i h3
     rcases dJ.1 hx with rfl|hx
     ·exact jO h3
     ·exact aHc h x hx
end Go.Proofs.YtfiipaodjpiooaaGreatDoor

