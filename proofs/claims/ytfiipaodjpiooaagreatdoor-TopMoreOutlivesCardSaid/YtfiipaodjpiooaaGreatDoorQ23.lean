/- Lemmas and contracts of functions, several texts in one. -/
import Derived.Test.YtfiipaodjpiooaaGreatDoorQ22
import Derived.Test.YtfiipaodjpiooaaGreatDoorQ21
set_option maxRecDepth 100000
set_option maxHeartbeats 4000000
set_option linter.all false
namespace Go.Proofs.YtfiipaodjpiooaaGreatDoor
open Go.RowKit
theorem ZC {l:List Int} (h:l.Nodup):(fX l).Pairwise (·<·):=by
 have h1:(fX l).Pairwise fun a b=>decide (a<=b)=true:=ZU (fun a b c h1 h2=>by simp at *;omega) (fun a b=>by simp;omega) l
 have h2:(fX l).Nodup:=(F4 l _).nodup_iff.2 h
 rw[PJ] at h2
 exact(h1.and h2).imp fun {a b} h=>by have:=h.1;have:=h.2;simp at *;omega
theorem W9 (l:List (Int×Int)) (n:Int) (o:List Int) (i:Nat):(DA l n o i).Pairwise (·<·):=by
 unfold DA
 refine List.Pairwise.filter _ ?_
 rw[CW]
 exact F0.imp fun h=>by omega
theorem aEd {l:List (Int×Int)} {n:Int} {o:List Int} {x:Int}:x∈DA l n o n.toNat↔cE n x/\∃q∈o,cE n q/\Reach l x q:=by
 unfold DA
 rw[jX,eW,F6]
 constructor
 ·rintro⟨⟨k,hk,rfl⟩,q,hq,ho⟩
  rw[oB] at hk
  have:cE n k/\cE n q/\Reach l k q:=jO fun h=>by rw[rM h] at ho;cases ho
  exact⟨this.1,q,hq,this.2⟩
 ·rintro⟨h1,q,hq,h2⟩
  refine⟨⟨x.toNat,?_,?_⟩,q,hq,J5 ⟨h1,h2⟩⟩
  ·rw[oB];unfold cE at h1;omega
  ·unfold cE at h1;omega
theorem aC8 {l:List (Int×Int)} {S:List Int} {a b:Int} (hc:∀y∈S,∀x,(x,y)∈l->x∈S) (h:Reach l a b):b∈S->a∈S:=by
 induction h with
 |refl=>exact id
 |step _ h2 ih=>exact fun hb=>ih (hc _ hb _ h2)
theorem aAO {l:List (Int×Int)} {n:Int} {o S:List Int} (IK:S.Nodup) (iI:∀x∈S,cE n x/\∃q∈o,cE n q/\Reach l x q) (nI:∀q∈o,cE n q->q∈S) (hc:∀y∈S,∀x,(x,y)∈l->x∈S):fX S=DA l n o n.toNat:=by
 refine BO (ZC IK) (W9 _ _ _ _) fun x=>?_
 rw[FM,aEd]
 constructor
 ·exact iI x
 ·rintro⟨_,q,hq,h1,h2⟩
  exact aC8 hc h2 (nI q hq h1)
open Tryz
theorem SO (x:Int) (S:List Int):∀y,(if y=x then some (D.val (.bool true)) else oM S y)=oM (S++[x]) y:=fun y=>by
 rw[IG x S y]
 unfold oM
 have:(y∈x::S)=(y∈S++[x]):=by simp [or_comm]
 simp only[this]
structure CSR (l:List (Int×Int)) (n:Int) (o S:List Int) (i:Nat):Prop where
 nd:S.Nodup
 inr:∀x∈S,cE n x/\∃q∈o,cE n q/\Reach l x q
 st:∀q∈o,cE n q->q∈S
 cl:∀y∈S.take i,∀x,(x,y)∈l->x∈S
def aPe (H:aC) (bm:Nat) (S:List Int) (d:D) (H':aC):Prop:=∃c o,d=.os c o 1 0 S.length/\H c=none/\H' c=some (.row 3 o 1 (S.map iD))/\c≠bm
def C1 (o:List Int) (n:Int) (b1 b2 bm:Nat) (H:aC) (i:Nat) (s:St):Prop:=
 s.df=[]/\s.fr 0=jL n b1 b2/\s.fr 5=.val (.map (some bm))/\s.fr 13=.seq 1 (o.map iD)/\s.fr 14=i64 o.length/\s.fr 15=i64 i/\H.le s.H/\∃M S ob,s.H bm=some (.map M)/\kP M (oM S)/\Gl H 3 1 (S.map iD) (s.fr 6) s.H ob/\ob≠some bm/\S.Nodup/\(∀x∈S,cE n x/\x∈o)/\∀k (h:k<o.length),k<i->cE n o[k]->o[k]∈S
def C2 (l:List (Int×Int)) (o:List Int) (n:Int) (b1 b2 bm:Nat) (H:aC) (i:Nat) (S:List Int) (s:St):Prop:=
 s.df=[]/\s.fr 0=jL n b1 b2/\s.fr 5=.val (.map (some bm))/\s.fr 9=i64 i/\H.le s.H/\∃M ob,s.H bm=some (.map M)/\kP M (oM S)/\Gl H 3 1 (S.map iD) (s.fr 6) s.H ob/\ob≠some bm/\CSR l n o S i/\i<=S.length
theorem aN3 (l:List (Int×Int)) (n:Int) (o:List Int) (b1 b2:Nat) (H:aC) (hR:yL l b1 b2 H) (iI:∀p∈l,cE n p.1/\cE n p.2) (hn:n<=1000000) (hl:l.length<=1000000) (ho:o.length<=140737488351232):
  bE prog 58 [jL n b1 b2,.seq 1 (o.map iD)] H fun d H'=>d=.seq 1 ((DA l n o n.toNat).map iD)/\H=H':=by
 refine bO (K:=fun d=>d=.seq 1 ((DA l n o n.toNat).map iD)) ?_
 obtain⟨m1,m2,NB,B9,CB,EM⟩:=hR
 have hol:=lm iD o
 refine aQ _ _ func58 rfl rfl ntmps58 results58 (by simp) fun w0 g0 Q aD=>?_
 refine to trivial ?_;intro Nx aB Gx aF
 intro bm tR
 refine tq hol ?_;intro Nx aB Gx aF
 refine aZ o.length (C1 o n b1 b2 bm H) ⟨rfl,rfl,rfl,rfl,rfl,rfl,bK (aG _) tR,[],[],none,aO _ _ _,kP.nil.congr WC,iW _ _ _ _,by simp,by simp,by simp,by simp⟩ ?_
 rintro i s hi ⟨aT,f0,f5,f13,f14,f15,aS,M,S,ob,JJ,hM,hg,fM,IK,hS,aKW⟩
 have hx:=bI i
 have cJ:=bM i
 by_cases aV:i<o.length
 case pos=>
  have q1:=lT i o.length (by omega)
  have cD:=cO aV
  have w3:=wS i (by omega)
  obtain⟨x,tV⟩:∃x,x=o[i]:=⟨_,rfl⟩
  rw[<-tV] at cD
  have hxo:x∈o:=tV▸bU aV
  refine tq (nN f0 f13 f14 f15 q1 cD hx cJ aV hol) ?_;intro Nx aB Gx aF
  refine(aGr n x b1 b2 _).mono ?_
  rintro d _ ⟨rfl,rfl⟩
  by_cases hxR:cE n x
  case neg=>
   rw[bB hxR]
   refine tq (dG f15 w3) ?_;intro Nx aB Gx aF
   refine⟨aV,aT,f0,f5,f13,f14,rfl,aS,M,S,ob,JJ,hM,hg,fM,IK,hS,fun k hk hki hkR=>?_⟩
   by_cases hke:k=i
   ·subst hke;rw[<-tV] at hkR;exact absurd hkR hxR
   ·exact aKW k hk (by omega) hkR
  rw[bG hxR]
  have aFJ: -9223372036854775808<=x/\x<=9223372036854775807:=by unfold cE at hxR;omega
  have X9:=hM.ok (P:=prog) underlying3 aFJ
  have RG:=hM.get x
  by_cases hxS:x∈S
  ·have xZ:oM S x=some (.val (.bool true)):=aE hxS
   rw[xZ] at RG
   refine tq (jE f5 f15 w3 JJ RG) ?_;intro Nx aB Gx aF
   refine⟨X9,?_⟩
   refine tq (eA f5 f15 w3) ?_;intro Nx aB Gx aF
   refine⟨aV,aT,f0,f5,f13,f14,rfl,aS,M,S,ob,JJ,hM,hg,fM,IK,hS,fun k hk hki hkR=>?_⟩
   by_cases hke:k=i
   ·subst hke;rw[<-tV];exact hxS
   ·exact aKW k hk (by omega) hkR
  ·have xZ:oM S x=none:=aA hxS
   rw[xZ] at RG
   refine tq (jE f5 f15 w3 JJ RG) ?_;intro Nx aB Gx aF
   refine⟨X9,?_⟩
   refine tq (gQ f5 f15 w3 JJ) ?_;intro Nx aB Gx aF
   refine⟨X9,?_⟩
   have hM4:kP (iM M (.int .i64 x) (.val (.bool true))) (oM (S++[x])):=(hM.set aFJ (.val (.bool true))).congr (SO x S)
   obtain⟨M4,aNq⟩:∃M4,M4=iM M (.int .i64 x) (.val (.bool true)):=⟨_,rfl⟩
   rw[<-aNq] at hM4 ⊢
   have hm4:(s.H.bH bm (.map M4)) bm=some (.map M4):=aO _ _ _
   have nT:H.le (s.H.bH bm (.map M4)):=bK aS tR
   have hg4:Gl H 3 1 (S.map iD) (s.fr 6) (s.H.bH bm (.map M4)) ob:=hg.fS fun c' gG=>aN fun e=>fM (by rw[gG,e])
   refine tq (eA f5 f15 w3) ?_;intro Nx aB Gx aF
   have hSn:=rC IK fun z hz=>(hS z hz).1
   refine dD (e:=3) kZ rfl kZ rfl PF rfl (by decide) nT hg4 (new:=[iD x]) (by exact⟨rfl,rfl⟩) (by rw[bC];show(_+1) * 8<=_;omega) fun d H6 oG j6 eM nJ=>?_
   have hm6:=nJ _ _ hm4 fM
   rw[show[iD x]=[x].map iD from rfl,<-cQ] at j6
   refine tq (dG f15 w3) ?_;intro Nx aB Gx aF
   refine⟨aV,aT,f0,f5,f13,f14,rfl,eM,M4,S++[x],oG,hm6.1,hM4,j6,hm6.2,?_,?_,fun k hk hki hkR=>?_⟩
   ·rw[yI]
    exact⟨IK,by simp,fun z hz w hw=>by rw[cR] at hw;subst hw;exact fun e=>hxS (e▸hz)⟩
   ·intro z hz
    rcases bV.1 hz with hz|hz
    ·exact hS z hz
    ·rw[cR] at hz;subst hz;exact⟨hxR,hxo⟩
   ·by_cases hke:k=i
    ·subst hke;rw[<-tV];simp
    ·exact bV.2 (.inl (aKW k hk (by omega) hkR))
 case neg=>
  have q1:=lF i o.length (by omega)
  refine tq (eA f14 f15 q1) ?_;intro Nx aB Gx aF
  have hS0:CSR l n o S 0:=⟨IK,fun x hx=>⟨(hS x hx).1,x,(hS x hx).2,(hS x hx).1,.refl x⟩,fun q hq hqR=>by
   obtain⟨k,hk,rfl⟩:=sA hq
   exact aKW k hk (by omega) hqR,by simp⟩
  refine pZ (fun k s=>∃i S,C2 l o n b1 b2 bm H i S s/\k=n.toNat - i) (n.toNat - 0) ⟨0,S,⟨aT,f0,f5,rfl,aS,M,ob,JJ,hM,hg,fM,hS0,by omega⟩,rfl⟩ ?_
  rintro k s1 ⟨i1,S1,⟨kdf,k0,k5,k9,kle,M1,ob1,kHm,kM,kg,kne,kS,kiS⟩,hk⟩
  have hSn:=rC kS.nd fun z hz=>(kS.inr z hz).1
  have NG:=bI i1
  have h01:=bM i1
  rcases kg with⟨_,f6,hSe⟩|⟨c,oo,aYs,f6,AL,K4⟩
  ·have hS1:S1=[]:=by cases S1 with
    |nil=>rfl
    |cons a t=>cases hSe
   subst hS1
   have aY2:i1=0:=by simpa using kiS
   subst aY2
   refine tq (dG k9 f6) ?_;intro Nx aB Gx aF
   refine(KA _).mono ?_
   rintro d _ ⟨rfl,rfl⟩
   refine tq f6 ?_;intro Nx aB Gx aF
   refine rt aD kdf ?_
   have jQ:=aAO kS.nd kS.inr kS.st (by simp)
   have hs0:fX []=[]:=iX (iF [])
   exact⟨_,aG _,kle,_,qA,by rw[<-jQ,hs0] <;> rfl⟩
  ·rw[bC] at f6
   have aYS:c≠bm:=fun e=>kne (by rw[aYs,e])
   by_cases aOM:i1<S1.length
   case neg=>
    have q1:((i1:Int)<(S1.length:Int))=False:=aI (by omega)
    refine tq (eA k9 f6 q1) ?_;intro Nx aB Gx aF
    refine(KB K4 (by omega)).mono ?_
    rintro d _ ⟨rfl,rfl⟩
    have jQ:=aAO kS.nd kS.inr kS.st (by
     have:=kS.cl
     rwa[cW (by omega)] at this)
    have aRH:H.le (s1.H.bH c (.row 3 oo 1 ((fX S1).map iD))):=bK kle AL
    have GN:Gl H 3 1 ((fX S1).map iD) (.os c oo 1 0 S1.length) (s1.H.bH c (.row 3 oo 1 ((fX S1).map iD))) (some c):=.inr ⟨c,oo,rfl,by rw[bC,iF],AL,aO _ _ _⟩
    refine tq f6 ?_;intro Nx aB Gx aF
    refine rt aD kdf ?_
    exact⟨_,aG _,aRH,_,qL aRH GN,by rw[jQ]⟩
   have q1:((i1:Int)<(S1.length:Int))=True:=aK (by omega)
   have cD:=cO aOM
   obtain⟨x,tV⟩:∃x,x=S1[i1]:=⟨_,rfl⟩
   rw[<-tV] at cD
   have hxS:=kS.inr x (tV▸bU aOM)
   have aFJ: -9223372036854775808<=x/\x<=9223372036854775807:=by have:=hxS.1;unfold cE at this;omega
   have aQh:s1.H b2=some (.map m2):=kle _ _ CB
   have X9:=EM.ok (P:=prog) underlying3 aFJ
   have OV:=EM.get x
   (have fs:=And.intro k0 (And.intro k5 (And.intro k9 (And.intro f6 (And.intro q1 (And.intro K4 (And.intro cD (And.intro NG h01)))))));(iterate 7 (first|refine aF _ ?_|refine aB _ ?_|refine dW ?_|refine dV ?_|refine fE ?_|refine cU ?_|refine cV ?_|refine cL ?_|refine bP ?_|((first|refine tS fun Nx aB=>?_|refine mS rfl rfl (by kernel_rfl) (by kernel_rfl) fun Gx aF=>?_|refine cH (by kernel_rfl) ?_|refine mJ fun A B wL wM=>?_);refine qK ?_;(first|refine aF _ ?_|refine aB _ ?_|refine wL ?_|refine wM ?_|skip))));(try clear fs))
   refine aBd 49 (.val (.slice none 0 0)) (.seq 1 []) fR (fun s'=>s'.df=[]/\s'.fr 0=jL n b1 b2/\s'.fr 5=.val (.map (some bm))/\s'.fr 6=.os c oo 1 0 S1.length/\s'.fr 9=i64 i1/\s'.fr 49=.seq 1 ((eC l x).map iD)/\s'.fr 50=i64 (eC l x).length/\s'.fr 51=i64 0/\s'.H=s1.H) ?_ ?_
   ·unfold RY at OV
    by_cases hsx:eC l x=[]
    ·rw[aE hsx] at OV
     refine dE (fun _ _ _ _=>False) fun Nx aB=>?_;refine dst (rQ k0 k5 k9 f6 @jL.eq_1 aQh OV K4 cD NG h01) ?_;intro Nx aB Gx aF
     exact⟨by omega,X9,aB _ (.inr ⟨rfl,kdf,k0,k5,f6,k9,by rw[hsx] <;> rfl,by rw[hsx] <;> rfl,rfl,rfl⟩)⟩
    ·rw[aA hsx] at OV
     refine dE (fun _ _ _ _=>False) fun Nx aB=>?_;refine dst (rQ k0 k5 k9 f6 @jL.eq_1 aQh OV K4 cD NG h01) ?_;intro Nx aB Gx aF
     exact⟨by omega,X9,aB _ (.inl ⟨kdf,k0,k5,f6,k9,rfl,rfl,rfl,rfl⟩)⟩
   rintro s2 ⟨GG,g0,g5,g6,g9,g49,g50,g51,mV⟩
   have zB:(List.map iD (eC l x)).length=(eC l x).length:=bC _
   refine cL ?_
   refine aZ (eC l x).length (fun j s=>s.df=[]/\s.fr 0=jL n b1 b2/\s.fr 5=.val (.map (some bm))/\s.fr 9=i64 i1/\s.fr 49=.seq 1 ((eC l x).map iD)/\s.fr 50=i64 (eC l x).length/\s.fr 51=i64 j/\H.le s.H/\∃M S,s.H bm=some (.map M)/\kP M (oM S)/\aPe H bm S (s.fr 6) s.H/\CSR l n o S i1/\S[i1]?=some x/\∀t (h:t<(eC l x).length),t<j->(eC l x)[t]∈S) ?_ ?_
   ·refine⟨GG,g0,g5,g9,g49,g50,g51,by rw[mV];exact kle,M1,S1,by rw[mV];exact kHm,kM,⟨c,oo,g6,AL,by rw[mV];exact K4,aYS⟩,kS,by rw[bX aOM,tV],by omega⟩
   rintro j s3 hj ⟨ldf,l0,l5,l9,l49,l50,l51,lle,M3,S3,lHm,lM,⟨c3,o3,l6,N6,aNo,aKS⟩,lS,lSi,aOi⟩
   have hjx:=bI j
   have xB:=bM j
   have hi3:i1<S3.length:=(mE.1 lSi).1
   have a1t:=rC lS.nd fun z hz=>(lS.inr z hz).1
   by_cases fQ:j<(eC l x).length
   case neg=>
    have q3:((j:Int)<((eC l x).length:Int))=False:=aI (by omega)
    have w3:=wS i1 (by omega)
    refine tq (jE l9 l50 l51 q3 w3) ?_;intro Nx aB Gx aF
    refine⟨n.toNat - (i1+1),(show _<_ by omega),i1+1,S3,⟨ldf,l0,l5,rfl,lle,M3,some c3,lHm,lM,.inr ⟨c3,o3,rfl,by rw[bC];exact l6,N6,aNo⟩,(fun e=>aKS (by injection e)),⟨lS.nd,lS.inr,lS.st,fun y hy z hz=>?_⟩,by omega⟩,rfl⟩
    rw[List.take_add_one,lSi] at hy
    rcases bV.1 hy with hy|hy
    ·exact lS.cl y hy z hz
    ·have hyx:y=x:=by simpa using hy
     subst hyx
     obtain⟨t,ht,he⟩:=sA (BH.2 hz)
     rw[<-he]
     exact aOi t ht (by omega)
   have q3:((j:Int)<((eC l x).length:Int))=True:=aK (by omega)
   have qR:=cO fQ
   obtain⟨y,hy⟩:∃y,y=(eC l x)[j]:=⟨_,rfl⟩
   rw[<-hy] at qR
   have hyl:(y,x)∈l:=BH.1 (by rw[hy];exact bU fQ)
   have hyR:=(iI _ hyl).1
   simp only at hyR
   have T8: -9223372036854775808<=y/\y<=9223372036854775807:=by unfold cE at hyR;omega
   have w4:IntKind.i64.wrap ((j:Int)+1)=((j+1:Nat):Int):=by
    have:(eC l x).length<=l.length:=by unfold eC;rw[bC];exact r9 _ _
    rw[bF (by omega)];omega
   have hky:=lM.ok (P:=prog) underlying3 T8
   have YD:=lM.get y
   by_cases hyS:y∈S3
   ·have xZ:oM S3 y=some (.val (.bool true)):=aE hyS
    rw[xZ] at YD
    refine tq (zY l5 l49 l50 l51 q3 qR hjx xB fQ zB lHm YD) ?_;intro Nx aB Gx aF
    refine⟨hky,?_⟩
    refine tq (dG l51 w4) ?_;intro Nx aB Gx aF
    refine⟨fQ,ldf,l0,l5,l9,l49,l50,rfl,lle,M3,S3,lHm,lM,⟨c3,o3,l6,N6,aNo,aKS⟩,lS,lSi,fun t ht htj=>?_⟩
    by_cases hte:t=j
    ·subst hte;rw[<-hy];exact hyS
    ·exact aOi t ht (by omega)
   ·have xZ:oM S3 y=none:=aA hyS
    rw[xZ] at YD
    refine tq (zY l5 l49 l50 l51 q3 qR hjx xB fQ zB lHm YD) ?_;intro Nx aB Gx aF
    refine⟨hky,?_⟩
    refine tq (eA l5 l51 lHm) ?_;intro Nx aB Gx aF
    refine⟨hky,?_⟩
    have hM4:kP (iM M3 (.int .i64 y) (.val (.bool true))) (oM (S3++[y])):=(lM.set T8 (.val (.bool true))).congr (SO y S3)
    obtain⟨M4,aNq⟩:∃M4,M4=iM M3 (.int .i64 y) (.val (.bool true)):=⟨_,rfl⟩
    rw[<-aNq] at hM4 ⊢
    have hm4:(s3.H.bH bm (.map M4)) bm=some (.map M4):=aO _ _ _
    have nT:H.le (s3.H.bH bm (.map M4)):=bK lle tR
    have hg4:Gl H 3 1 (S3.map iD) (.os c3 o3 1 0 S3.length) (s3.H.bH bm (.map M4)) (some c3):=.inr ⟨c3,o3,rfl,by rw[bC],N6,by rw[aN aKS];exact aNo⟩
    have hnm:(some c3:Option Nat)≠some bm:=fun e=>aKS (by injection e)
    refine tq (dG l6 w4) ?_;intro Nx aB Gx aF
    refine dD (e:=3) kZ rfl kZ rfl PF rfl (by decide) nT hg4 (new:=[iD y]) (by exact⟨rfl,rfl⟩) (by rw[bC];show(_+1) * 8<=_;omega) fun d H6 oG j6 eM nJ=>?_
    have hm6:=nJ _ _ hm4 hnm
    rw[show[iD y]=[y].map iD from rfl,<-cQ] at j6
    have aOI:aPe H bm (S3++[y]) d H6:=by
     rcases j6 with⟨_,_,h⟩|⟨c,o,h0,h1,h2,h3⟩
     ·simp at h
     ·exact⟨c,o,by rw[h1,bC],h2,h3,fun e=>hm6.2 (by rw[h0,e])⟩
    refine tq (dG l51 w4) ?_;intro Nx aB Gx aF
    refine⟨fQ,ldf,l0,l5,l9,l49,l50,rfl,eM,M4,S3++[y],hm6.1,hM4,aOI,⟨?_,?_,?_,?_⟩,?_,fun t ht htj=>?_⟩
    ·rw[yI]
     exact⟨lS.nd,by simp,fun z hz w hw=>by rw[cR] at hw;subst hw;exact fun e=>hyS (e▸hz)⟩
    ·intro z hz
     rcases bV.1 hz with hz|hz
     ·exact lS.inr z hz
     ·rw[cR] at hz
      subst hz
      obtain⟨_,q,hq,hqR,hqr⟩:=lS.inr x (iQ lSi)
      exact⟨hyR,q,hq,hqR,((Reach.refl z).step hyl).trans hqr⟩
    ·exact fun q hq hqR=>bV.2 (.inl (lS.st q hq hqR))
    ·intro z hz w hw
     rw[EW (by omega)] at hz
     exact bV.2 (.inl (lS.cl z hz w hw))
    ·rw[r5 hi3];exact lSi
    ·by_cases hte:t=j
     ·subst hte;rw[<-hy];simp
     ·exact bV.2 (.inl (aOi t ht (by omega)))
structure aMz (b:cT):Prop where
 lv:aB6 b
 ck:∀H,bE prog 27 [.agg (iS b)] H fun d H'=>d=i64 0/\H=H'
 rel:jA b.ol b.rg.length=0
 wt:zJ b.ty
 rb:rbd b.ty 1000000
 tl:b.ty.length<=1000000
 ar:∀t∈b.ty,t.ar.length<=140737488351232
 rgl:b.rg.length<=10000
 oll:b.ol.length<=1000000
 lcl:b.lc.length<=10000
 lin:∀p x,GZ b p x->cE b.lc.length x
structure RgS (b:cT) (n:Nat) (bs:Nat) (RD:D) (UH:List (List D)) (i:Nat) (s:St):Prop where
 df:s.df=[]
 f1:s.fr 1=.rp (iS b)
 f4:s.fr 4=RD
 f6:s.fr 6=.val (.map (some bs))
 f30:s.fr 30=.seq 1 UH
 f31:s.fr 31=i64 n
 f32:s.fr 32=i64 i
structure RgI (b:cT) (HR:aC) (bs i:Nat) (S:List (Int×Int)) (Hs:aC):Prop where
 le:HR.le Hs
 m:Hs bs=some (.map (NT S))
 mem:∀y,y∈S↔(0<=y.2/\y.2<i)/\LvR b y.1 y.2
 len:S.length<=i * 10000
theorem aXt:aFl 61:=⟨uH func61 rfl rfl,aN0⟩
theorem aLE (b:cT) (H:aC) (ok:aMz b):bE prog 28 [.agg (iS b)] H fun d H'=>∃S:List (Int×Int),(S.length<=1300000/\∀y,y∈S↔LvR b y.1 y.2)/\d=.pG [.seq 2 ((iH S).map pD),i64 0]/\H=H':=by
 have gV:=ok.ck
 have X4:=ok.lv.cn
 have OW:=fun H1=>aHm b H1 ok.lv
 obtain⟨n,hn⟩:∃n,n=bZ (dK b):=⟨_,rfl⟩
 rw[<-hn] at OW X4
 have hrg:=lm sD b.rg
 have aZE:=ok.rgl
 have aHO:=fun H1=>aMn b.ol b.rg.length H1 (by omega) ok.rel
 refine bE.mono (bO (K:=fun d=>∃S:List (Int×Int),(S.length<=1300000/\∀y,y∈S↔LvR b y.1 y.2)/\d=.pG [.seq 2 ((iH S).map pD),i64 0]) ?_) (fun d H' ⟨⟨S,h1,h2⟩,h3⟩=>⟨S,h1,h2,h3⟩)
 unfold iS at gV OW ⊢
 refine aQ _ _ func28 rfl rfl ntmps28 results28 (by simp) fun w0 g0 Q aD=>?_
 refine tq trivial ?_;intro Nx aB Gx aF
 intro c1 mA
 refine aB _ ?_
 refine fZ 1 mA ?_
 refine tq trivial ?_;intro Nx aB Gx aF
 refine(gV _).mono ?_
 rintro d _ ⟨rfl,rfl⟩
 refine tq hrg ?_;intro Nx aB Gx aF
 refine(aHO _).mono ?_
 rintro d HR ⟨b1,b2,m1,m2,rfl,DQ,VG,aGt,hHR,aZC,BD⟩
 obtain⟨RD,hRD⟩:∃RD,RD=jL b.rg.length b1 b2:=⟨_,rfl⟩
 rw[<-hRD]
 refine tq trivial ?_;intro Nx aB Gx aF
 intro bs hbs
 refine aB _ ?_
 refine tq trivial ?_;intro Nx aB Gx aF
 refine(OW _).mono ?_
 rintro d _ ⟨V,hVn,hV,rfl,rfl⟩
 have aYN:=lC BD hbs
 obtain⟨UH,G7⟩:∃UH,UH=(vN n).map fun p=>[D.seq 1 ((fX (Lp V p)).map iD)]:=⟨_,rfl⟩
 rw[<-G7]
 have hrl:UH.length=n:=by rw[G7,bC,oX]
 refine tq hrl ?_;intro Nx aB Gx aF
 refine aZ n (fun i s=>RgS b n bs RD UH i s/\∃S,RgI b HR bs i S s.H) ⟨⟨rfl,rfl,rfl,rfl,rfl,rfl,rfl⟩,[],o8 (aG _) hbs,aO _ _ _,fun y=>by simp;omega,by simp⟩ ?_
 rintro i s hi ⟨⟨aT,f1,f4,f6,f30,f31,f32⟩,S,⟨aS,hm,oQ,fJ⟩⟩
 unfold iS at f1
 have hx:=bI i
 have cJ:=bM i
 by_cases aV:i<n
 case neg=>
  have q1:((i:Int)<(n:Int))=False:=aI (by omega)
  have iI:i=n:=by omega
  subst iI
  refine UP bs (SVP S) hm fun es cI hmo=>?_
  obtain⟨Hh,hHh⟩:∃Hh,Hh=s.H.bH bs (.obj (.map es cI)):=⟨_,rfl⟩
  rw[<-hHh]
  have aK3:H.le Hh:=by rw[hHh];exact bK (mH BD aS) aYN
  have hoh:Hh bs=some (.obj (.map es cI)):=by rw[hHh,aO]
  clear hHh
  refine tq (gQ f6 f31 f32 q1) ?_;intro Nx aB Gx aF
  refine(aKn bs _).mono ?_
  rintro d _ ⟨rfl,rfl⟩
  refine tq trivial ?_;intro Nx aB Gx aF
  refine(aF7 aXt (aH4 S bs es cI hmo) S Hh (fun H' h=>h _ _ hoh) (fun Hc h=>h _ _ hoh) (fun l h=>by obtain⟨r,hr⟩:=h;have:=hr.length_eq;rw[bN] at this;omega) (fun l h=>h) (by omega)).mono ?_
  rintro d _ ⟨rfl,rfl⟩
  refine tq trivial ?_;intro Nx aB Gx aF
  refine rt aD aT ?_
  refine⟨_,aG _,aK3,_,aH aK3,S,⟨by omega,fun y=>?_⟩,rfl⟩
  rw[oQ y,hn]
  exact⟨fun h=>h.2,fun h=>⟨aCR h,h⟩⟩
 have cC:(i:Int)<(n:Int):=by omega
 have q1:((i:Int)<(n:Int))=True:=aK cC
 have w3:=wS i (by omega)
 obtain⟨L,hL⟩:∃L,L=fX (Lp V i):=⟨_,rfl⟩
 have hgr:UH[i]?=some [.seq 1 (L.map iD)]:=by
  have:=CP (fun p=>[D.seq 1 ((fX (Lp V p)).map iD)]) (n:=n) (x:=(i:Int)) cJ cC
  rw[hx] at this
  rw[G7,hL];exact this
 have hLm:∀x,x∈L↔GZ b i x:=fun x=>by rw[hL,FM,L5,hV]
 have aYA:∀x∈L,cE b.lc.length x:=fun x h=>ok.lin i x ((hLm x).1 h)
 have hLl:L.length<=10000:=by
  have h1:=rC (aFo hVn i) (n:=b.lc.length) fun x hx=>ok.lin i x ((hV (i,x)).1 (L5.1 hx))
  have h2:=ok.lcl
  rw[hL,iF]
  omega
 have aQI:=lm iD L
 clear hL
 refine tq (rQ f30 f31 f32 q1 hgr hrl hx cJ aV cC aQI) ?_;intro Nx aB Gx aF
 refine aCw (fun s=>RgS b n bs RD UH i s/\s.fr 7=i64 i/\s.fr 9=.seq 1 ((uRg b L).map iD)/\HR.le s.H/\s.H bs=some (.map (NT S))) ?_ ?_
 ·refine aZ L.length (fun j s=>RgS b n bs RD UH i s/\s.fr 7=i64 i/\s.fr 37=.seq 1 (L.map iD)/\s.fr 38=i64 L.length/\s.fr 39=i64 j/\HR.le s.H/\s.H bs=some (.map (NT S))/\∃ob,Gl HR 3 1 ((uRg b (L.take j)).map iD) (s.fr 9) s.H ob/\ob≠some bs) ⟨⟨aT,f1,f4,f6,f30,f31,f32⟩,rfl,rfl,rfl,rfl,aS,hm,none,iW _ _ _ _,by simp⟩ ?_
  clear hm aS f32 f31 f30 f6 f4 f1 aT
  clear s
  rintro j s hj ⟨⟨aT,f1,f4,f6,f30,f31,f32⟩,f7,f37,f38,f39,aS,hm,ob,hg,kN⟩
  unfold iS at f1
  have G8:=bI j
  have xB:=bM j
  by_cases fQ:j<L.length
  case neg=>
   have q2:=lF j L.length (by omega)
   rw[cW (by omega)] at hg
   refine aCu 9 aS hg fun H' aYa hp'=>?_
   have hm':=hp' _ _ hm kN
   refine tq (eA f38 f39 q2) ?_;intro Nx aB Gx aF
   exact exQ ⟨⟨aT,f1,f4,f6,f30,f31,f32⟩,f7,rfl,aYa,hm'⟩
  have q2:=lT j L.length (by omega)
  have w4:=wS j (by omega)
  have qR:=cO fQ
  have nI:=aIt (b:=b) fQ
  have K7:=aEU b (L.take j)
  have wI:(L.take j).length<=10000:=by rw[dU];omega
  obtain⟨x0,x1⟩:=aYA L[j] (bU _)
  obtain⟨x,tV⟩:∃x,x=L[j]:=⟨_,rfl⟩
  rw[<-tV] at qR nI x0 x1
  have hlm:=lm mN b.lc
  have hxl:x.toNat<b.lc.length:=by omega
  have GN:(List.map mN b.lc)[x.toNat]?=some [cX b.lc[x.toNat].nm,i64 (tyL b x)]:=by
   rw[dN,bX hxl]
   unfold tyL
   rw[bX hxl]
   rfl
  have a2B:=aBK b.ty (tyL b x)
  have eP:∀H1,eF prog 57 [.seq 5 (b.ty.map cP),i64 (tyL b x)] H1 fun d A=>A=aC.none/\d=.seq 1 ((MD b.ty (tyL b x)).map iD):=fun H1=>cF fun gI gX=>aMI b.ty (tyL b x) gI ok.wt ok.rb ok.tl ok.ar
  obtain⟨d9,hd9⟩:∃d9,d9=s.fr 9:=⟨_,rfl⟩
  rw[<-hd9] at hg
  refine tq (BR f37 f38 f39 q2 qR G8 xB fQ aQI) ?_;intro Nx aB Gx aF
  refine wE (fun _=>false) (fun _=>false) (fun _ _ d A=>A=.none/\d=.seq 1 ((MD b.ty (tyL b x)).map iD)) (fun _ _ _ _ _=>False) fun Nx aB=>?_;have fs:=And.intro f1 (And.intro GN (And.intro hlm (And.intro x0 x1)));refine TU ?_;(first|refine aF _ ?_|refine aB _ ?_|skip);(try clear fs)
  refine⟨eP _,?_⟩
  rw[<-hd9]
  refine dD (e:=3) kZ rfl kZ rfl PF rfl (by decide) aS hg (new:=(MD b.ty (tyL b x)).map iD) (by exact⟨rfl,rfl⟩) (by rw[bC,bC];show(List.length (uRg b (L.take j))+_) * 8<=_;omega) fun d H6 oG j6 eM nJ=>?_
  have q3:=nJ _ _ hm kN
  rw[<-cQ,<-nI] at j6
  refine tq (dG f39 w4) ?_;intro Nx aB Gx aF
  exact⟨fQ,⟨aT,f1,f4,f6,f30,f31,f32⟩,f7,f37,f38,rfl,eM,q3.1,oG,j6,q3.2⟩
 clear hm aS f32 f31 f30 f6 f4 f1 aT
 clear s
 rintro s ⟨⟨aT,f1,f4,f6,f30,f31,f32⟩,f7,f9,aS,hm⟩
 have K7:=aEU b L
 have aMc:yL b.ol b1 b2 s.H:=by
  obtain⟨m1,m2,h1,h2,h3,h4⟩:=aZC
  exact⟨m1,m2,aS _ _ h1,h2,aS _ _ h3,h4⟩
 obtain⟨o1,o2⟩:=LH ok.rel
 have aKU:=aN3 b.ol b.rg.length (uRg b L) b1 b2 s.H aMc o2 (by omega) (by omega) (by omega)
 rw[<-hRD,bI] at aKU
 have hcr:=aN2 b (p:=i) hLm ok.wt ok.rb
 have BB:=aEc b.ol b.rg.length (uRg b L) b.rg.length
 obtain⟨C,hC⟩:∃C,C=DA b.ol b.rg.length (uRg b L) b.rg.length:=⟨_,rfl⟩
 rw[<-hC] at aKU hcr BB
 clear hC
 have aBy:=lm iD C
 refine tq (dG f4 f9) ?_;intro Nx aB Gx aF
 refine aKU.mono ?_
 rintro d _ ⟨rfl,hHe⟩
 refine tq aBy ?_;intro Nx aB Gx aF
 refine aZ C.length (fun j s=>RgS b n bs RD UH i s/\s.fr 7=i64 i/\s.fr 57=.seq 1 (C.map iD)/\s.fr 58=i64 C.length/\s.fr 59=i64 j/\HR.le s.H/\s.H bs=some (.map (NT (JS i S (C.take j))))) ⟨⟨aT,f1,f4,f6,f30,f31,f32⟩,f7,rfl,rfl,rfl,hHe▸aS,by rw[wZ];exact hHe▸hm⟩ ?_
 clear hm aS f32 f31 f30 f9 f7 f6 f4 f1 aT hHe aKU aMc
 clear s
 rintro j s hj ⟨⟨aT,f1,f4,f6,f30,f31,f32⟩,f7,f57,f58,f59,aS,hm⟩
 have G8:=bI j
 have xB:=bM j
 by_cases fQ:j<C.length
 case neg=>
  have q2:=lF j C.length (by omega)
  rw[cW (by omega)] at hm
  have jY:=aHU i C S
  refine tq (jE f32 f58 f59 q2 w3) ?_;intro Nx aB Gx aF
  refine⟨aV,⟨aT,f1,f4,f6,f30,f31,rfl⟩,JS i S C,aS,hm,fun y=>?_,by rw[oY];omega⟩
  rw[aAr,oQ y,hcr y.1]
  constructor
  ·rintro(⟨h1,h2⟩|⟨h1,h2⟩)
   ·exact⟨⟨h1.1,by omega⟩,h2⟩
   ·rw[h1];exact⟨⟨by omega,by omega⟩,h2⟩
  ·rintro⟨h1,h2⟩
   by_cases e:y.2=i
   ·rw[e] at h2;exact .inr ⟨e,h2⟩
   ·exact .inl ⟨⟨h1.1,by omega⟩,h2⟩
 have q2:=lT j C.length (by omega)
 have w4:=wS j (by omega)
 have qR:=cO fQ
 have nI:=aFK (p:=i) (S:=S) fQ
 have aQE:∀r∈C,cE b.rg.length r:=fun r hr=>YQ ((hcr r).1 hr)
 have aY5:∀y∈JS i S (C.take j),fU y.1/\fU y.2:=fun y hy=>by
  rw[aAr] at hy
  have:cE b.rg.length y.1/\0<=y.2/\y.2<130:=by
   rcases hy with hy|⟨h1,h2⟩
   ·have h3:=(oQ y).1 hy
    exact⟨YQ h3.2,by omega,by omega⟩
   ·exact⟨aQE _ (zN h2),by omega,by omega⟩
  unfold cE at this
  unfold fU
  omega
 have JP:=aQE C[j] (bU _)
 obtain⟨r,hre⟩:∃r,r=C[j]:=⟨_,rfl⟩
 rw[<-hre] at qR nI JP
 have zA:=aAC aY5 (x:=(r,(i:Int))) (by unfold cE at JP;unfold fU;simp only;omega)
 have GO:=aCs (JS i S (C.take j)) (r,(i:Int))
 rw[<-nI] at GO
 simp only[pk] at zA GO
 refine tq (aEb f6 f7 f57 f58 f59 q2 qR G8 xB fQ aBy hm GO zA w4) ?_;intro Nx aB Gx aF
 exact⟨fQ,⟨aT,f1,f4,f6,f30,f31,f32⟩,f7,f57,f58,rfl,bK aS hbs,aO _ _ _⟩
structure aJO (b:cT):Prop where
 rg:aMz b
 ln:aRI b
 ac:∀p x k,MS b p x k->aPi x k/\dO (yT x k).1.pr.length
 ll:(mO b).length<=10000
 lp:∀l∈mO b,dO l.pl.pr.length
open Classical in
noncomputable def Y4 (P:Int->Int->Prop) (i:Int) (p:Nat):List (Int×Int):=((vN p).filter fun p=>decide (P i p)).map fun p=>(i,p)
theorem R6 (P:Int->Int->Prop) (i n:Nat):tO (i+1) n P=tO i n P++Y4 P i n:=by
 unfold tO Y4
 rw[aB1,CU]
 simp
open Classical in
theorem aBI (P:Int->Int->Prop) (i:Int) (p:Nat):Y4 P i (p+1)=Y4 P i p++(if P i p then [(i,(p:Int))] else []):=by
 unfold Y4
 rw[aB1,tM,cQ]
 congr 1
 by_cases h:P i p
 ·rw[aE h,FY (by simpa using h)];rfl
 ·rw[aA h,FZ (by simpa using h)];rfl
theorem Y5 (P:Int->Int->Prop) (i:Int) (p:Nat):(Y4 P i p).length<=p:=by
 unfold Y4
 rw[bC]
 have:=r9 (fun p=>@decide (P i p) (Classical.propDecidable _)) (vN p)
 rwa[oX] at this
theorem zF (P:Int->Int->Prop) (i n:Nat):(tO i n P).length<=i * n:=by
 induction i with
 |zero=>simp [tO,vN]
 |succ i ih=>
  rw[R6,bN,oY]
  have:=Y5 P i n
  omega
def rW (b:cT) (i p:Int):Prop:=∃l,(mO b)[i.toNat]?=some l/\WJ b p l
def qN (b:cT) (i p:Int):Prop:=∃l,(mO b)[i.toNat]?=some l/\aB5 b p l
theorem aOb (b:cT) (ok:aJO b) (p:Int) (l:uV) (hl:l∈mO b) (h0:0<=p) (hp:p<bZ (dK b)) (H:aC):∃B:Bool,(B=true↔WJ b p l)/\bE prog 32 [.agg (iS b),i64 p,.agg (vS l)] H fun d H'=>d=.val (.bool B)/\H=H':=by
 obtain⟨x,k,hx⟩:=W2 h0 hp
 obtain⟨h1,h2⟩:=ok.ac p x k hx
 refine⟨aFP x k l,⟨fun h=>⟨x,k,hx,h⟩,fun ⟨y,j,hy,h⟩=>by obtain⟨rfl,rfl⟩:=hx.uniq hy;exact h⟩,?_⟩
 obtain⟨i,hi,xC,rfl⟩:=hx
 exact aKr b p i k l H hi xC (by have:=ok.rg.lv.cn;omega) h2 (ok.lp l hl)
theorem aO4 (b:cT) (ok:aJO b) (p:Int) (l:uV) (hl:l∈mO b) (h0:0<=p) (hp:p<bZ (dK b)) (H:aC):∃B:Bool,(B=true↔aB5 b p l)/\bE prog 33 [.agg (iS b),i64 p,.agg (vS l)] H fun d H'=>d=.val (.bool B)/\H=H':=by
 obtain⟨x,k,hx⟩:=W2 h0 hp
 obtain⟨h1,h2⟩:=ok.ac p x k hx
 refine⟨aKh x k l,⟨fun h=>⟨x,k,hx,h⟩,fun ⟨y,j,hy,h⟩=>by obtain⟨rfl,rfl⟩:=hx.uniq hy;exact h⟩,?_⟩
 obtain⟨i,hi,xC,rfl⟩:=hx
 exact aKi b p i k l H hi xC (by have:=ok.rg.lv.cn;omega) h1 (ok.lp l hl)
structure ExS (b:cT) (c2 c6 n:Nat) (LN:List uV) (i:Nat) (s:St):Prop where
 df:s.df=[]
 f1:s.fr 1=.rp (iS b)
 f2:s.fr 2=.ep c2 0 5 0 0
 f6:s.fr 6=.ep c6 0 5 0 0
 f7:s.fr 7=i64 n
 f33:s.fr 33=.seq 5 (LN.map vS)
 f34:s.fr 34=i64 LN.length
 f35:s.fr 35=i64 i
structure ExH (H:aC) (c2 c6:Nat) (Z:fK) (x0 x1 x4:D) (K V:List (Int×Int)) (Hs:aC):Prop where
 le:H.le Hs
 z:Hs c2=some Z
 hp:∃dk dv ok ov,Hs c6=some (.row 56 0 5 [[x0,x1,dk,dv,x4]])/\Gl H 48 2 (K.map pD) dk Hs ok/\Gl H 48 2 (V.map pD) dv Hs ov/\(ok≠some c2/\ok≠some c6)/\(ov≠some c2/\ov≠some c6)/\∀c,ok=some c->ov≠some c
theorem ExH.aR2 {H:aC} {c2 c6:Nat} {Z:fK} {x0 x1 x4 dk dv:D} {ok ov:Option Nat} {V K':List (Int×Int)} {Hs:aC} (DJ:H c6=none) (h26:c2≠c6) (hz:Hs c2=some Z) (h6:Hs c6=some (.row 56 0 5 [[x0,x1,dk,dv,x4]])) (gv:Gl H 48 2 (V.map pD) dv Hs ov) (nk:ok≠some c2/\ok≠some c6) (nv:ov≠some c2/\ov≠some c6) (nkv:∀c,ok=some c->ov≠some c)
  {d:D} {H6:aC} {oG:Option Nat} (j6:Gl H 48 2 (K'.map pD) d H6 oG) (eM:H.le H6) (nJ:∀b z,Hs b=some z->ok≠some b->H6 b=some z/\oG≠some b):ExH H c2 c6 Z x0 x1 x4 K' V (H6.bH c6 (.row 56 0 5 [[x0,x1,d,dv,x4]])):=by
 have k2:=nJ _ _ hz nk.1
 have k6:=nJ _ _ h6 nk.2
 have kv:∀c,ov=some c->H6 c=Hs c/\oG≠some c:=fun c hc=>by
  rcases gv with⟨g,_⟩|⟨c',o,g1,_,_,g4⟩
  ·rw[g] at hc;cases hc
  ·rw[hc] at g1;injection g1 with g1;subst g1
   have:=nJ _ _ g4 (fun e=>nkv c e hc)
   exact⟨this.1.trans g4.symm,this.2⟩
 exact⟨bK eM DJ,(aN h26).trans k2.1,d,dv,oG,ov,aO _ _ _,j6.fS fun c h=>aN fun e=>k6.2 (by rw[h,e]),gv.fS fun c h=>(aN fun e=>nv.2 (by rw[h,e])).trans (kv c h).1,⟨k2.2,k6.2⟩,nv,fun c h1 h2=>(kv c h2).2 h1⟩
theorem ExH.aR3 {H:aC} {c2 c6:Nat} {Z:fK} {x0 x1 x4 dk dv:D} {ok ov:Option Nat} {K V':List (Int×Int)} {Hs:aC} (DJ:H c6=none) (h26:c2≠c6) (hz:Hs c2=some Z) (h6:Hs c6=some (.row 56 0 5 [[x0,x1,dk,dv,x4]])) (gk:Gl H 48 2 (K.map pD) dk Hs ok) (nk:ok≠some c2/\ok≠some c6) (nv:ov≠some c2/\ov≠some c6) (nkv:∀c,ok=some c->ov≠some c)
  {d:D} {H6:aC} {oG:Option Nat} (j6:Gl H 48 2 (V'.map pD) d H6 oG) (eM:H.le H6) (nJ:∀b z,Hs b=some z->ov≠some b->H6 b=some z/\oG≠some b):ExH H c2 c6 Z x0 x1 x4 K V' (H6.bH c6 (.row 56 0 5 [[x0,x1,dk,d,x4]])):=by
 have k2:=nJ _ _ hz nv.1
 have k6:=nJ _ _ h6 nv.2
 have kv:∀c,ok=some c->H6 c=Hs c/\oG≠some c:=fun c hc=>by
  rcases gk with⟨g,_⟩|⟨c',o,g1,_,_,g4⟩
  ·rw[g] at hc;cases hc
  ·rw[hc] at g1;injection g1 with g1;subst g1
   have:=nJ _ _ g4 (nkv c hc)
   exact⟨this.1.trans g4.symm,this.2⟩
 exact⟨bK eM DJ,(aN h26).trans k2.1,dk,d,ok,oG,aO _ _ _,gk.fS fun c h=>(aN fun e=>nk.2 (by rw[h,e])).trans (kv c h).1,j6.fS fun c h=>aN fun e=>k6.2 (by rw[h,e]),nk,⟨k2.2,k6.2⟩,fun c h1=>(kv c h1).2⟩
theorem LJ (b:cT) (H:aC) (ok:aJO b):bE prog 14 [.agg (iS b)] H fun d H'=>∃S:List (Int×Int),(S.length<=1300000/\∀y,y∈S↔LvR b y.1 y.2)/\d=.pG [.agg [.seq 5 ((mO b).map vS),.seq 2 ((tQ (dK b)).map pD),.seq 2 ((tO (mO b).length (bZ (dK b)) (rW b)).map pD),.seq 2 ((tO (mO b).length (bZ (dK b)) (qN b)).map pD),.seq 2 ((iH S).map pD)],i64 0]/\H=H':=by
 have gV:=ok.rg.ck
 have X4:=ok.rg.lv.cn
 have BC:=fun H1=>aGT b ok.rg.lv H1
 have hed:=fun H1=>aG7 b ok.rg.lv H1
 have BT:=fun H1=>aLC b H1 (by omega) ok.ln
 have hre:=fun H1=>aLE b H1 ok.rg
 refine bE.mono (bO (K:=fun d=>∃S:List (Int×Int),(S.length<=1300000/\∀y,y∈S↔LvR b y.1 y.2)/\d=.pG [.agg [.seq 5 ((mO b).map vS),.seq 2 ((tQ (dK b)).map pD),.seq 2 ((tO (mO b).length (bZ (dK b)) (rW b)).map pD),.seq 2 ((tO (mO b).length (bZ (dK b)) (qN b)).map pD),.seq 2 ((iH S).map pD)],i64 0]) ?_) (fun d H' ⟨⟨S,h1,h2⟩,h3⟩=>⟨S,h1,h2,h3⟩)
 have aQb:=fun p l hl h0 hp H1=>aOb b ok p l hl h0 hp H1
 have aQ5:=fun p l hl h0 hp H1=>aO4 b ok p l hl h0 hp H1
 obtain⟨n,hn⟩:∃n,n=bZ (dK b):=⟨_,rfl⟩
 rw[<-hn] at X4 BC ⊢
 have jY:=ok.ll
 obtain⟨LN,hLN⟩:∃LN,LN=mO b:=⟨_,rfl⟩
 obtain⟨E,hE⟩:∃E,E=tQ (dK b):=⟨_,rfl⟩
 rw[<-hLN] at BT jY ⊢
 rw[<-hE] at hed ⊢
 unfold iS at gV BC hed BT hre aQb aQ5 ⊢
 refine aQ _ _ func14 rfl rfl ntmps14 results14 (by simp) fun w0 g0 Q aD=>?_
 refine tq trivial ?_;intro Nx aB Gx aF
 intro c1 mA c2 lH
 refine aB _ ?_
 obtain⟨lK,sH⟩:=bY.1 lH;refine cA 1 rfl ((aN lK.symm).trans (aO _ _ _)) rfl ?_;refine eV _ (HX mA sH lK) ?_;simp only[St.jH,List.drop]
 have aBu:=(bY.1 lH).2
 clear mA lH
 refine tq trivial ?_;intro Nx aB Gx aF
 refine(gV _).mono ?_
 rintro d _ ⟨rfl,rfl⟩
 refine tq trivial ?_;intro Nx aB Gx aF
 refine(hre _).mono ?_
 rintro d _ ⟨S,hS,rfl,rfl⟩
 obtain⟨LR,hLR⟩:∃LR,LR=(iH S).map pD:=⟨_,rfl⟩
 rw[<-hLR]
 refine tq trivial ?_;intro Nx aB Gx aF
 have aNz:∀H1,eF prog 29 [.agg [cX b.nm,.seq 1 (b.rg.map sD),.seq 2 (b.ol.map pD),.seq 5 (b.ty.map cP),.seq 2 (b.lc.map mN),i64 b.ag,.seq 7 (b.bl.map jP)]] H1 fun d A=>A=aC.none/\d=.seq 5 (LN.map vS):=fun H1=>cF fun gI gX=>BT gI
 have aNy:∀H1,eF prog 30 [.agg [cX b.nm,.seq 1 (b.rg.map sD),.seq 2 (b.ol.map pD),.seq 5 (b.ty.map cP),.seq 2 (b.lc.map mN),i64 b.ag,.seq 7 (b.bl.map jP)]] H1 fun d A=>A=aC.none/\d=.seq 2 (E.map pD):=fun H1=>cF fun gI gX=>hed gI
 refine wE (fun _=>false) (fun _=>false) (fun t _ d A=>A=.none/\d=(if t=some 25 then .seq 5 (LN.map vS) else .seq 2 (E.map pD))) (fun _ _ _ _ _=>False) fun Nx aB=>?_;have fs:=trivial;refine TU ?_;(first|refine aF _ ?_|refine aB _ ?_|skip);(try clear fs)
 refine⟨aNz _,aNy _,fun c6 DJ=>?_⟩
 refine aB _ ?_
 obtain⟨n62,JL⟩:=bY.1 DJ
 have hlm:=lm vS LN
 refine tq trivial ?_;intro Nx aB Gx aF
 refine(BC _).mono ?_
 rintro d _ ⟨rfl,rfl⟩
 refine tq hlm ?_;intro Nx aB Gx aF
 obtain⟨Z,hZ⟩:∃Z,Z=fK.row 56 0 5 [[.val (.slice none 0 0),.val (.slice none 0 0),.val (.slice none 0 0),.val (.slice none 0 0),.val (.slice none 0 0)]]:=⟨_,rfl⟩
 rw[<-hZ]
 refine aZ LN.length (fun i s=>ExS b c2 c6 n LN i s/\ExH H c2 c6 Z (.seq 5 (LN.map vS)) (.seq 2 (E.map pD)) (.seq 2 LR) (tO i n (rW b)) (tO i n (qN b)) s.H) ⟨⟨rfl,rfl,rfl,rfl,rfl,rfl,rfl,rfl⟩,bK (bK (aG _) aBu) JL,(aN n62.symm).trans (aO _ _ _),_,_,none,none,aO _ _ _,iW _ _ _ _,iW _ _ _ _,by simp,by simp,by simp⟩ ?_
 rintro i s hi ⟨⟨aT,f1,f2,f6,f7,f33,f34,f35⟩,hX⟩
 have hx:=bI i
 have cJ:=bM i
 by_cases aV:i<LN.length
 case neg=>
  have q1:=lF i LN.length (by omega)
  have iI:i=LN.length:=by omega
  subst iI
  obtain⟨aS,hz,dk,dv,ok,ov,h6,gk,gv,nk,nv,nkv⟩:=hX
  rw[hZ] at hz
  refine tq (nF f2 f6 f34 f35 q1 h6 hz) ?_;intro Nx aB Gx aF
  refine rt aD (dG aT f2) ?_
  have iC:H.le (s.H.bH c2 (.row 56 0 5 [[.seq 5 (LN.map vS),.seq 2 (E.map pD),dk,dv,.seq 2 LR]])):=bK aS aBu
  have gk9:Gl H 48 2 ((tO LN.length n (rW b)).map pD) dk (s.H.bH c2 (.row 56 0 5 [[.seq 5 (LN.map vS),.seq 2 (E.map pD),dk,dv,.seq 2 LR]])) ok:=gk.fS fun c h=>aN fun e=>nk.1 (by rw[h,e])
  have gv9:Gl H 48 2 ((tO LN.length n (qN b)).map pD) dv (s.H.bH c2 (.row 56 0 5 [[.seq 5 (LN.map vS),.seq 2 (E.map pD),dk,dv,.seq 2 LR]])) ov:=gv.fS fun c h=>aN fun e=>nv.1 (by rw[h,e])
  refine⟨_,aG _,iC,.pG [.agg [.seq 5 (LN.map vS),.seq 2 (E.map pD),.seq 2 ((tO LN.length n (rW b)).map pD),.seq 2 ((tO LN.length n (qN b)).map pD),.seq 2 LR],i64 0],JH ?_,S,hS,by rw[hLR] <;> rfl⟩
  refine⟨XV ?_,aH iC,trivial⟩
  exact⟨aH iC,aH iC,qL iC gk9,qL iC gv9,aH iC,trivial⟩
 have cC:(i:Int)<(LN.length:Int):=by omega
 have q1:((i:Int)<(LN.length:Int))=True:=aK cC
 have w3:=wS i (by omega)
 obtain⟨l,hl⟩:∃l,l=LN[i]:=⟨_,rfl⟩
 have aQe:l∈mO b:=by rw[<-hLN,hl];exact bU _
 have hli:(mO b)[i]?=some l:=by rw[<-hLN,hl];exact bX aV
 have GN:(List.map vS LN)[i]?=some [i64 l.rg,i64 l.pt,.val (.bool l.mu),i64 l.pl.lo,.seq 2 (l.pl.pr.map pD)]:=by rw[hl];exact fY aV
 refine tq (rQ f7 f33 f34 f35 q1 GN hlm hx cJ aV cC) ?_;intro Nx aB Gx aF
 intro b9 hb9
 refine aB _ ?_
 refine fZ 9 hb9 ?_
 have CA:tO i n (rW b)=tO i n (rW b)++Y4 (rW b) i 0:=by simp [Y4,vN]
 have hvl:tO i n (qN b)=tO i n (qN b)++Y4 (qN b) i 0:=by simp [Y4,vN]
 refine tq f7 ?_;intro Nx aB Gx aF
 refine aZ n (fun p s=>ExS b c2 c6 n LN i s/\s.fr 8=i64 i/\s.fr 9=.rp [i64 l.rg,i64 l.pt,.val (.bool l.mu),i64 l.pl.lo,.seq 2 (l.pl.pr.map pD)]/\s.fr 40=i64 n/\s.fr 41=i64 p/\ExH H c2 c6 Z (.seq 5 (LN.map vS)) (.seq 2 (E.map pD)) (.seq 2 LR) (tO i n (rW b)++Y4 (rW b) i p) (tO i n (qN b)++Y4 (qN b) i p) s.H) ⟨⟨aT,f1,f2,f6,f7,f33,f34,f35⟩,rfl,rfl,rfl,rfl,by rw[<-CA,<-hvl];exact hX⟩ ?_
 clear hX f35 f34 f33 f7 f6 f2 f1 aT hb9
 clear s
 rintro p s hp ⟨⟨aT,f1,f2,f6,f7,f33,f34,f35⟩,f8,f9,f40,f41,hX⟩
 unfold iS at f1
 have hxp:=bI p
 have h0p:=bM p
 by_cases zB:p<n
 case neg=>
  have q2:((p:Int)<(n:Int))=False:=aI (by omega)
  have hpn:p=n:=by omega
  subst hpn
  rw[<-R6,<-R6] at hX
  refine tq (jE f35 f40 f41 q2 w3) ?_;intro Nx aB Gx aF
  exact⟨aV,⟨aT,f1,f2,f6,f7,f33,f34,rfl⟩,hX⟩
 have aK6:(p:Int)<(n:Int):=by omega
 have q2:((p:Int)<(n:Int))=True:=aK aK6
 have w4:=wS p (by omega)
 (have fs:=And.intro f40 (And.intro f41 q2);(iterate 10 (first|refine aF _ ?_|refine aB _ ?_|refine dW ?_|refine dV ?_|refine fE ?_|refine cU ?_|refine cV ?_|refine cL ?_|refine bP ?_|((first|refine tS fun Nx aB=>?_|refine mS rfl rfl (by kernel_rfl) (by kernel_rfl) fun Gx aF=>?_|refine cH (by kernel_rfl) ?_|refine mJ fun A B wL wM=>?_);refine qK ?_;(first|refine aF _ ?_|refine aB _ ?_|refine wL ?_|refine wM ?_|skip))));(try clear fs))
 have zA:rW b i p↔WJ b p l:=⟨fun ⟨l',h1,h2⟩=>by rw[hx,hli] at h1;injection h1 with h1;rw[h1];exact h2,fun h=>⟨l,by rw[hx];exact hli,h⟩⟩
 have hvv:qN b i p↔aB5 b p l:=⟨fun ⟨l',h1,h2⟩=>by rw[hx,hli] at h1;injection h1 with h1;rw[h1];exact h2,fun h=>⟨l,by rw[hx];exact hli,h⟩⟩
 have a1z:=zF (rW b) i n
 have a1y:=Y5 (rW b) i p
 have a2E:=zF (qN b) i n
 have a2D:=Y5 (qN b) i p
 have xY:i * n<=10000 * 130:=pW (by omega) X4
 have hkn:=aBI (rW b) i p
 have hvn:=aBI (qN b) i p
 refine I0 (fun s=>ExS b c2 c6 n LN i s/\s.fr 8=i64 i/\s.fr 9=.rp [i64 l.rg,i64 l.pt,.val (.bool l.mu),i64 l.pl.lo,.seq 2 (l.pl.pr.map pD)]/\s.fr 40=i64 n/\s.fr 41=i64 p/\s.fr 10=i64 p/\ExH H c2 c6 Z (.seq 5 (LN.map vS)) (.seq 2 (E.map pD)) (.seq 2 LR) (tO i n (rW b)++Y4 (rW b) i (p+1)) (tO i n (qN b)++Y4 (qN b) i p) s.H) ?_ ?_
 ·obtain⟨B,hB,hd⟩:=aQb p l aQe h0p (by rw[<-hn];exact aK6) s.H
  unfold vS at hd
  obtain⟨aS,hz,dk,dv,ok,ov,h6,gk,gv,nk,nv,nkv⟩:=hX
  refine tq (dG f1 f9) ?_;intro Nx aB Gx aF
  refine hd.mono ?_
  rintro d _ ⟨rfl,hHe⟩
  cases B
  ·rw[aA (fun h=>by have:=hB.2 (zA.1 h);cases this),iJ] at hkn
   refine tq trivial ?_;intro Nx aB Gx aF
   exact⟨⟨aT,f1,f2,f6,f7,f33,f34,f35⟩,f8,f9,f40,f41,rfl,by rw[hkn];exact hHe▸⟨aS,hz,dk,dv,ok,ov,h6,gk,gv,nk,nv,nkv⟩⟩
  ·rw[aE (zA.2 (hB.1 rfl))] at hkn
   rw[<-hHe]
   refine tq (eA f6 f8 h6) ?_;intro Nx aB Gx aF
   have hmm:((tO i n (rW b)++Y4 (rW b) i (p+1)).map pD)=(tO i n (rW b)++Y4 (rW b) i p).map pD++[pD ((i:Int),(p:Int))]:=by rw[hkn];simp only[cQ,eU,nE,iR]
   refine dD (e:=48) vY rfl vY rfl ML rfl (by decide) aS gk (new:=[pD ((i:Int),(p:Int))]) (by exact⟨rfl,rfl⟩) (by rw[bC,bN];show(_+1) * 16<=_;omega) fun d H6 oG j6 eM nJ=>?_
   rw[<-hmm] at j6
   have hX6:=ExH.aR2 JL (Ne.symm n62) hz h6 gv nk nv nkv j6 eM nJ
   have k6:=(nJ _ _ h6 nk.2).1
   have hd6:∃c o n,d=.os c o 2 0 n:=by
    rcases j6 with⟨_,_,h⟩|⟨c,o,_,h,_⟩
    ·simp [hkn] at h
    ·exact⟨c,o,_,h⟩
   obtain⟨c',o',n',rfl⟩:=hd6
   (have fs:=k6;refine qK ?_;try clear fs);(first|refine aF _ ?_|refine aB _ ?_|skip)
   exact⟨⟨aT,f1,f2,f6,f7,f33,f34,f35⟩,f8,f9,f40,f41,rfl,hX6⟩
 clear hX f41 f40 f9 f8 f35 f34 f33 f7 f6 f2 f1 aT
 rintro s ⟨⟨aT,f1,f2,f6,f7,f33,f34,f35⟩,f8,f9,f40,f41,f10,hX⟩
 unfold iS at f1
 obtain⟨B,hB,hd⟩:=aQ5 p l aQe h0p (by rw[<-hn];exact aK6) s.H
 unfold vS at hd
 obtain⟨aS,hz,dk,dv,ok,ov,h6,gk,gv,nk,nv,nkv⟩:=hX
 refine tq (eA f1 f9 f10) ?_;intro Nx aB Gx aF
 refine hd.mono ?_
 rintro d _ ⟨rfl,hHe⟩
 cases B
 ·rw[aA (fun h=>by have:=hB.2 (hvv.1 h);cases this),iJ] at hvn
  refine tq (dG f41 w4) ?_;intro Nx aB Gx aF
  exact⟨zB,⟨aT,f1,f2,f6,f7,f33,f34,f35⟩,f8,f9,f40,rfl,by rw[hvn];exact hHe▸⟨aS,hz,dk,dv,ok,ov,h6,gk,gv,nk,nv,nkv⟩⟩
 ·rw[aE (hvv.2 (hB.1 rfl))] at hvn
  rw[<-hHe]
  refine tq (gQ f6 f8 f10 h6) ?_;intro Nx aB Gx aF
  have hmm:((tO i n (qN b)++Y4 (qN b) i (p+1)).map pD)=(tO i n (qN b)++Y4 (qN b) i p).map pD++[pD ((i:Int),(p:Int))]:=by rw[hvn];simp only[cQ,eU,nE,iR]
  refine dD (e:=48) vY rfl vY rfl ML rfl (by decide) aS gv (new:=[pD ((i:Int),(p:Int))]) (by exact⟨rfl,rfl⟩) (by rw[bC,bN];show(_+1) * 16<=_;omega) fun d H6 oG j6 eM nJ=>?_
  rw[<-hmm] at j6
  have hX6:=ExH.aR3 JL (Ne.symm n62) hz h6 gk nk nv nkv j6 eM nJ
  have k6:=(nJ _ _ h6 nv.2).1
  have hd6:∃c o n,d=.os c o 2 0 n:=by
   rcases j6 with⟨_,_,h⟩|⟨c,o,_,h,_⟩
   ·simp [hvn] at h
   ·exact⟨c,o,_,h⟩
  obtain⟨c',o',n',rfl⟩:=hd6
  (have fs:=k6;refine qK ?_;try clear fs);(first|refine aF _ ?_|refine aB _ ?_|skip)
  refine tq (dG f41 w4) ?_;intro Nx aB Gx aF
  exact⟨zB,⟨aT,f1,f2,f6,f7,f33,f34,f35⟩,f8,f9,f40,rfl,hX6⟩
theorem aKd {g:FuncId} {eL:List D} (H:aC):bE prog 100 [.val (.slice none 0 0),.fn g eL] H fun d H'=>d=i64 (-1)/\H=H':=by
 refine aQ _ _ func100 rfl rfl ntmps100 results100 (by simp) fun w0 g0 Q aD=>?_
 refine tq trivial ?_;intro Nx aB Gx aF
 refine aZ 0 (fun i s=>s.df=[]/\s.fr 7=i64 0/\s.fr 8=i64 i/\s.H=H) ⟨rfl,rfl,rfl,rfl⟩ ?_
 rintro i s hi ⟨aT,f7,f8,hH⟩
 have q1:((i:Int)<0)=False:=aI (by omega)
 refine tq (eA f7 f8 q1) ?_;intro Nx aB Gx aF
 refine rt aD aT ?_
 exact⟨_,aG _,hH.symm⟩
theorem aJq {g:FuncId} {eL:List D} (H:aC):bE prog 48 [.val (.slice none 0 0),.fn g eL] H fun d H'=>d=.val (.slice none 0 0)/\H=H':=by
 refine aQ _ _ func48 rfl rfl ntmps48 results48 (by simp) fun w0 g0 Q aD=>?_
 refine tq trivial ?_;intro Nx aB Gx aF
 refine(aKd _).mono ?_
 rintro d _ ⟨rfl,rfl⟩
 refine tq trivial ?_;intro Nx aB Gx aF
 refine rt aD trivial ?_
 exact⟨_,aG _,by first|rfl|exact⟨rfl,rfl⟩⟩
theorem aP6 (LN:List uV) (E K V L:List (Int×Int)) (b1 b2 b3 b4:Nat) (y:Int×Int) (H:aC) (v64:∀y∈V,fU y.1/\fU y.2) (y64:fU y.1/\fU y.2) (hm:H b3=some (.map (NT (rV [] V)))):
  bE prog 50 [.agg [i64 y.1,i64 y.2],.rp [ixD LN E K V L b1 b2 b3 b4]] H fun d H'=>d=.val (.bool (decide (y∉V)))/\H=H':=by
 have zA:=aAC (S:=rV [] V) (fun x hx=>v64 x (by rcases rA.1 hx with h|h;cases h;exact h)) (x:=y) y64
 simp only[pk] at zA
 unfold ixD
 refine aQ _ _ func50 rfl rfl ntmps50 results50 (by simp) fun w0 g0 Q aD=>?_
 refine tq trivial ?_;intro Nx aB Gx aF
 intro c2 lH
 refine aB _ ?_
 refine fZ 2 lH ?_
 refine bP ?_
 by_cases hy:y∈V
 ·have TG:=aB8 (S:=rV [] V) (x:=y) (rA.2 (.inr hy))
  simp only[pk] at TG
  have e:decide (y∉V)=false:=by simp [hy]
  rw[e] at aD
  refine dE (fun _ _ _ _=>False) fun Nx aB=>?_;refine dst (dG hm TG) ?_;intro Nx aB Gx aF
  refine⟨zA,?_⟩
  refine aB _ ?_
  refine tq trivial ?_;intro Nx aB Gx aF
  refine rt aD trivial ?_
  exact⟨_,aG _,by first|rfl|exact⟨rfl,rfl⟩⟩
 ·have TG:=WM (S:=rV [] V) (x:=y) (fun h=>by rcases rA.1 h with h|h;cases h;exact hy h)
  simp only[pk] at TG
  have e:decide (y∉V)=true:=by simp [hy]
  rw[e] at aD
  refine dE (fun _ _ _ _=>False) fun Nx aB=>?_;refine dst (dG hm TG) ?_;intro Nx aB Gx aF
  refine⟨zA,?_⟩
  refine aB _ ?_
  refine tq trivial ?_;intro Nx aB Gx aF
  refine rt aD trivial ?_
  exact⟨_,aG _,by first|rfl|exact⟨rfl,rfl⟩⟩
def VdL (LN:List uV) (E K V L:List (Int×Int)) (R:List (Int×Int)):Prop:=R.Pairwise ltP/\∀y,y∈R↔(y.1<LN.length/\ScL LN E K L y)/\y∈V
theorem aBQ {S:List (Int×Int)} (h:S.Nodup):(iH S).Pairwise ltP:=by
 have h2:(iH S).Nodup:=(F4 S _).nodup_iff.2 h
 refine List.Pairwise.imp (fun {a b} h=>?_) (List.Pairwise.and (SK S) h2)
 obtain⟨h1,h2⟩:=h
 unfold sJ at h1
 unfold ltP
 have:¬(a.1=b.1/\a.2=b.2):=fun e=>h2 (tK e.1 e.2)
 omega
theorem aP5 {LN:List uV} {E K V L S:List (Int×Int)} {n:Nat} (h:InL LN E K L n LN.length S):VdL LN E K V L (GF (fun y=>decide (y∉V)) (iH S)):=by
 refine⟨(aBQ h.nd).filter _,fun y=>?_⟩
 unfold GF
 rw[jX,uP,h.mem]
 simp
theorem aP7 (LN:List uV) (E K V L:List (Int×Int)) (n:Nat) (H:aC) (hn:n<=300) (hLN:LN.length<=10000) (hK:dO K.length) (hV:dO V.length) (hL:dO L.length) (hE:E.length<=1000000) (k64:∀y∈K,fU y.1/\fU y.2) (v64:∀y∈V,fU y.1/\fU y.2) (l64:∀y∈L,fU y.1/\fU y.2) (eR:∀y∈E,cE n y.1/\cE n y.2) (rR:∀l∈LN,fU l.rg/\cE n l.pt):
  bE prog 26 [.agg (fcD LN E K V L)] H fun d H'=>(∃R,VdL LN E K V L R/\d=.seq 2 (R.map pD))/\H=H':=by
 have e64:∀y∈E,fU y.1/\fU y.2:=fun y hy=>by have:=eR y hy;unfold cE at this;unfold fU;omega
 have LW:=fun H1=>aHr LN E K V L H1 hK hV hL hE k64 v64 l64 e64
 have iI:=fun H1=>aO3 LN E K V L n H1 hn hLN hK hV hL hE k64 v64 l64 eR rR
 refine bO (K:=fun d=>∃R,VdL LN E K V L R/\d=.seq 2 (R.map pD)) ?_
 unfold fcD at LW iI ⊢
 refine aQ _ _ func26 rfl rfl ntmps26 results26 (by simp) fun w0 g0 Q aD=>?_
 refine tq trivial ?_;intro Nx aB Gx aF
 intro c1 mA
 refine aB _ ?_
 refine fZ 1 mA ?_
 refine tq trivial ?_;intro Nx aB Gx aF
 refine(LW _).mono ?_
 rintro d H1 ⟨b1,b2,b3,b4,m1,rfl,kU,B9,GP⟩
 have hv1:=fun y H2 y64 hm=>aP6 LN E K V L b1 b2 b3 b4 y H2 v64 y64 hm
 obtain⟨X,hX⟩:∃X,ixD LN E K V L b1 b2 b3 b4=.rp X:=⟨_,rfl⟩
 rw[hX] at hv1 ⊢
 refine tq trivial ?_;intro Nx aB Gx aF
 intro c3 j5
 refine aB _ ?_
 refine fZ 3 j5 ?_
 refine tq trivial ?_;intro Nx aB Gx aF
 refine(iI _).mono ?_
 rintro d H2 ⟨S,ob,hS,hg,pC⟩
 have hvd:=aP5 (V:=V) hS
 have hSl:=hS.len
 have xY:LN.length * n<=10000 * 300:=pW hLN hn
 have iC:=mH kU pC
 have hm3:=pC _ _ GP.m3
 have aFD:∀y∈iH S,fU y.1/\fU y.2:=fun y hy=>by
  obtain⟨h1,l,h2,_,h3⟩:=(hS.mem y).1 (uP.1 hy)
  have h4:cE n y.2:=by
   cases h3 with
   |one h=>exact(eR _ (JZ.1 h).2.1).2
   |step _ h=>exact(eR _ (JZ.1 h).2.1).2
  unfold cE at h4;unfold fU;omega
 rcases hg with⟨_,e1,e2⟩|⟨c,o,e0,e1,e2,e3⟩
 ·have hs0:iH S=[]:=by simpa using e2
  rw[hs0] at hvd
  subst e1
  refine tq trivial ?_;intro Nx aB Gx aF
  refine(aJq _).mono ?_
  rintro d _ ⟨rfl,rfl⟩
  refine tq trivial ?_;intro Nx aB Gx aF
  refine rt aD trivial ?_
  exact⟨_,aG _,iC,.seq 2 [],qA,[],hvd,rfl⟩
 ·rw[bC] at e1
  subst e1
  have OT:b3≠c:=fun e=>by rw[e,e3] at hm3;cases hm3
  refine tq trivial ?_;intro Nx aB Gx aF
  refine(aN9 (p:=fun y=>decide (y∉V)) (P:=fun Hs=>Hs b3=some (.map (NT (rV [] V)))) (fun y hy H3 hP3=>hv1 y H3 (aFD y hy) hP3) (fun els=>(aN OT).trans hm3) e3 (by rw[jJ];omega)).mono ?_
  rintro d _ ⟨rfl,rfl⟩
  refine tq trivial ?_;intro Nx aB Gx aF
  refine rt aD trivial ?_
  have AL:=lC kU e2
  have eM:H.le (H2.bH c (.row 48 o 2 ((GF (fun y=>decide (y∉V)) (iH S)).map pD))):=bK iC AL
  exact⟨_,aG _,eM,_,yY (k:=0) eM (aO _ _ _) AL (by rw[bC];omega),_,hvd,by rw[jB,cW (by rw[bC];omega)]⟩
theorem aBb (b:cT) {S:List (Int×Int)} (hS:∀y,y∈S↔LvR b y.1 y.2) (y:Int×Int) (hy:y.1<(mO b).length):
  ScL (mO b) (tQ (dK b)) (tO (mO b).length (bZ (dK b)) (rW b)) (iH S) y↔∃l,0<=y.1/\(mO b)[y.1.toNat]?=some l/\Scp b l y.2:=by
 have key:∀l,0<=y.1->(mO b)[y.1.toNat]?=some l->∀p q,q∈V8 (tQ (dK b)) (tO (mO b).length (bZ (dK b)) (rW b)) (iH S) y.1 l.rg p↔Stp b l p q:=fun l h0 hl p q=>by
  rw[JZ,BG,uP,hS,zE]
  unfold Stp
  constructor
  ·rintro⟨h1,h2,h3⟩
   refine⟨fun hk=>h1 ⟨⟨h0,hy⟩,⟨h2.lt.1.1,h2.lt.1.2⟩,l,hl,hk⟩,h2,h3⟩
  ·rintro⟨h1,h2,h3⟩
   refine⟨fun ⟨_,_,l',hl',hk⟩=>h1 ?_,h2,h3⟩
   simp only at hl'
   rw[hl] at hl'
   injection hl' with hl'
   rw[hl'];exact hk
 constructor
 ·rintro⟨l,h0,hl,hr⟩
  refine⟨l,h0,hl,?_⟩
  generalize y.2=p at hr ⊢
  induction hr with
  |one h=>exact .one ((key l h0 hl _ _).1 h)
  |step _ h ih=>exact .step ih ((key l h0 hl _ _).1 h)
 ·rintro⟨l,h0,hl,hr⟩
  refine⟨l,h0,hl,?_⟩
  generalize y.2=p at hr ⊢
  induction hr with
  |one h=>exact .one ((key l h0 hl _ _).2 h)
  |step _ h ih=>exact .step ih ((key l h0 hl _ _).2 h)
theorem aMR (b:cT) {S R:List (Int×Int)} (hS:∀y,y∈S↔LvR b y.1 y.2) (h:VdL (mO b) (tQ (dK b)) (tO (mO b).length (bZ (dK b)) (rW b)) (tO (mO b).length (bZ (dK b)) (qN b)) (iH S) R):R=rZ b:=
 RS h.1 (sM b) fun y=>by
  rw[h.2,oK,zE]
  unfold VP
  constructor
  ·rintro⟨⟨h1,h2⟩,_,_,l',h3,h4⟩
   obtain⟨l,h5,h6,h7⟩:=(aBb b hS y h1).1 h2
   rw[h6] at h3
   injection h3 with h3
   subst h3
   exact⟨l,h5,h6,h7,h4⟩
  ·rintro⟨l,h1,h2,h3,h4⟩
   have h5:=(mE.1 h2).1
   exact⟨⟨by omega,(aBb b hS y (by omega)).2 ⟨l,h1,h2,h3⟩⟩,⟨h1,by omega⟩,h3.lt,l,h2,h4⟩
structure aPb (b:cT):Prop where
 ex:aJO b
 lr:∀l∈mO b,fU l.rg/\cE (bZ (dK b)) l.pt
theorem aHb (b:cT) (H:aC) (ok:aPb b):bE prog 11 [.agg (iS b)] H fun d H'=>d=.pG [.seq 2 ((rZ b).map pD),i64 0]/\H=H':=by
 have hex:=fun H1=>LJ b H1 ok.ex
 have X4:=ok.ex.rg.lv.cn
 have jY:=ok.ex.ll
 have zB:=fun P=>zF P (mO b).length (bZ (dK b))
 have xY:(mO b).length * bZ (dK b)<=10000 * 130:=pW jY X4
 have aBq:∀P,∀y∈tO (mO b).length (bZ (dK b)) P,fU y.1/\fU y.2:=fun P y hy=>by
  obtain⟨h1,h2,_⟩:=zE.1 hy
  unfold fU;omega
 have hE:(tQ (dK b)).length<=1000000:=qQ (QV _) (by have:=pW X4 X4;omega)
 have hEr:∀y∈tQ (dK b),cE (bZ (dK b)) y.1/\cE (bZ (dK b)) y.2:=fun y hy=>by
  have:=(BG.1 hy).lt
  unfold cE;omega
 have hvd:=fun S (hS:S.length<=1300000) (hl:∀y∈S,fU y.1/\fU y.2) H1=>aP7 (mO b) (tQ (dK b)) (tO (mO b).length (bZ (dK b)) (rW b)) (tO (mO b).length (bZ (dK b)) (qN b)) (iH S) (bZ (dK b)) H1 (by omega) jY (by have:=zB (rW b);unfold dO;omega) (by have:=zB (qN b);unfold dO;omega) (by rw[jJ];unfold dO;omega) hE (aBq _) (aBq _) (fun y hy=>hl y (uP.1 hy)) hEr ok.lr
 have hvi:=fun S R=>aMR b (S:=S) (R:=R)
 have hrg:=ok.ex.rg.rgl
 obtain⟨LN,hLN⟩:∃LN,LN=(mO b).map vS:=⟨_,rfl⟩
 unfold fcD at hvd
 rw[<-hLN] at hex hvd
 unfold iS at hex ⊢
 refine aQ _ _ func11 rfl rfl ntmps11 results11 (by simp) fun w0 g0 Q aD=>?_
 refine tq trivial ?_;intro Nx aB Gx aF
 intro c1 mA
 refine aB _ ?_
 refine fZ 1 mA ?_
 refine tq trivial ?_;intro Nx aB Gx aF
 refine(hex _).mono ?_
 rintro d _ ⟨S,⟨hSl,hS⟩,rfl,rfl⟩
 have aFD:∀y∈S,fU y.1/\fU y.2:=fun y hy=>by
  have h1:=(hS y).1 hy
  have h2:=YQ h1
  have h3:=aCR h1
  unfold cE at h2;unfold fU;omega
 have hvd:=fun H1=>hvd S hSl aFD H1
 have hvi:=fun R=>hvi S R hS
 refine tq trivial ?_;intro Nx aB Gx aF
 intro c4 uL
 refine aB _ ?_
 refine fZ 4 uL ?_
 refine tq trivial ?_;intro Nx aB Gx aF
 refine(hvd _).mono ?_
 rintro d _ ⟨⟨R,hR,rfl⟩,rfl⟩
 rw[hvi R hR]
 refine tq trivial ?_;intro Nx aB Gx aF
 refine rt aD trivial ?_
 exact⟨_,aG _,by first|rfl|exact⟨rfl,rfl⟩⟩
end Go.Proofs.YtfiipaodjpiooaaGreatDoor

