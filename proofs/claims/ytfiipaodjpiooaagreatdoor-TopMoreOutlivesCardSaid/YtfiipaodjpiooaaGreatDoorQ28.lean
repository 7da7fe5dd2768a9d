/- Lemmas and contracts of functions, several texts in one. -/
import Derived.Test.YtfiipaodjpiooaaGreatDoorQ22
import Derived.Test.YtfiipaodjpiooaaGreatDoorQ27
set_option maxRecDepth 100000
set_option maxHeartbeats 4000000
set_option linter.all false
namespace Go.Proofs.YtfiipaodjpiooaaGreatDoor
open Go.RowKit
open Tryz
def CK (H0:aC) (b:Nat) (n:Int) (ds:List Int) (H:aC):Prop:=
 ∃d ob,H b=some (.row 220 0 2 [[i64 n,d]])/\Gl H0 3 1 (ds.map iD) d H ob/\H0 b=none/\H0.le H/\ob≠some b
theorem aJr (n:Int) (ds l:List Int) (b:Nat) (ob:Option Nat) (d:D) (H0 H:aC) (hb:H b=some (.row 220 0 2 [[i64 n,d]])) (hg:Gl H0 3 1 (ds.map iD) d H ob) (hl:l.length<=140737488351232) (hdl:ds.length<=140737488351232):
  bE prog 182 [.ep b 0 2 0 0,.seq 1 (l.map iD)] H fun r H'=>r=.pG (if ∀f∈l,0<=f/\f<ds.length then [i64 (l.foldl (vR ds) 0),.val (.bool true)] else [i64 0,.val (.bool false)])/\H'=H:=by
 have jY:=lm iD l
 have hdm:=lm iD ds
 refine aQ _ _ func182 rfl rfl ntmps182 results182 (by simp) fun w0 g0 Q aD=>?_
 refine tq jY ?_;intro Nx aB Gx aF
 refine aZ l.length (fun i s=>s.df=[]/\s.fr 0=.ep b 0 2 0 0/\s.fr 6=i64 ((l.take i).foldl (vR ds) 0)/\s.fr 9=.seq 1 (l.map iD)/\s.fr 10=i64 l.length/\s.fr 11=i64 i/\s.H=H/\∀m (h:m<l.length),m<i->0<=l[m]/\l[m]<ds.length) ⟨rfl,rfl,rfl,rfl,rfl,rfl,rfl,fun m h h'=>by omega⟩ ?_
 rintro i s hi ⟨aT,f0,f6,f9,f10,f11,hH,fF⟩
 have hx:=bI i
 have cJ:=bM i
 by_cases aV:i<l.length
 case neg=>
  have q1:=lF i l.length (by omega)
  have ha:∀f∈l,0<=f/\f<ds.length:=fun f hf=>by
   obtain⟨m,hm,rfl⟩:=sA hf
   exact fF m hm (by omega)
  rw[cW (by omega)] at f6
  refine tq (gQ f6 f10 f11 q1) ?_;intro Nx aB Gx aF
  refine rt aD aT ?_
  exact⟨_,aG _,by rw[aE ha] <;> rfl,hH⟩
 have q1:=lT i l.length (by omega)
 have w3:=wS i (by omega)
 have cD:=cO aV
 have hbs:s.H b=some (.row 220 0 2 [[i64 n,d]]):=by rw[hH];exact hb
 have hgs:Gl H0 3 1 (ds.map iD) d s.H ob:=by rw[hH];exact hg
 obtain⟨f,hf⟩:∃f,f=l[i]:=⟨_,rfl⟩
 have oQ:f∈l:=by rw[hf];exact bU aV
 have aQL:0<=f/\f<ds.length->∀m (h:m<l.length),m<i+1->0<=l[m]/\l[m]<ds.length:=fun h m hm hmi=>by
  by_cases e:m=i
  ·subst e;rw[<-hf];exact h
  ·exact fF m hm (by omega)
 have aMa:(l.take (i+1)).foldl (vR ds) 0=max ((l.take i).foldl (vR ds) 0) (ds.getD f.toNat 0):=by
  rw[dH aV,zP,<-hf];rfl
 rw[<-hf] at cD
 obtain⟨mx,hmx⟩:∃mx,mx=(l.take i).foldl (vR ds) 0:=⟨_,rfl⟩
 rw[<-hmx] at f6 aMa
 by_cases h1:f<0
 ·have q2:(f<0)=True:=aK h1
  have hn:¬∀f∈l,0<=f/\f<ds.length:=fun h=>by have:=h f oQ;omega
  refine tq (zY f0 f6 f9 f10 f11 q1 cD hx cJ aV jY q2) ?_;intro Nx aB Gx aF
  refine rt aD aT ?_
  exact⟨_,aG _,by rw[aA hn] <;> rfl,hH⟩
 have q2:(f<0)=False:=aI h1
 by_cases h2:f<ds.length
 case neg=>
  have hn:¬∀f∈l,0<=f/\f<ds.length:=fun h=>by have:=h f oQ;omega
  rcases hgs with⟨_,hd,h0⟩|⟨c,o,_,hd,h0,K4⟩
  ·have hdn:ds=[]:=by simpa using h0
   have q3:(0<=f)=True:=aK (by omega)
   rw[hd] at hbs
   refine tq (DH f0 f6 f9 f10 f11 q1 cD hx cJ aV jY q2 q3 hbs) ?_;intro Nx aB Gx aF
   refine rt aD aT ?_
   exact⟨_,aG _,by rw[aA hn] <;> rfl,hH⟩
  ·have q3:((ds.length:Int)<=f)=True:=aK (by omega)
   rw[hd,hdm] at hbs
   refine tq (DH f0 f6 f9 f10 f11 q1 cD hx cJ aV jY q2 q3 hbs) ?_;intro Nx aB Gx aF
   refine rt aD aT ?_
   exact⟨_,aG _,by rw[aA hn] <;> rfl,hH⟩
 have q3:((ds.length:Int)<=f)=False:=aI (by omega)
 obtain⟨c,o,hd,h0,K4⟩:=Gl.os hgs (by omega)
 have hgd:=uJ (d:=ds) (i:=f.toNat) (by omega)
 have h0f:0<=f:=by omega
 have mM:f.toNat<ds.length:=by omega
 rw[hd] at hbs
 refine tq (aNX f0 f6 f9 f10 f11 q1 cD hx cJ aV jY q2 q3 hbs K4 hgd h0f mM h2 hdm w3) ?_;intro Nx aB Gx aF
 exact⟨aV,aT,f0,by rw[aMa] <;> rfl,f9,f10,rfl,hH,aQL ⟨h0f,h2⟩⟩
open Classical in
noncomputable def W5 (ps:List dS) (n:Int) (t:dS):Nat:=
 if t.k<0\/4<t.k then 14
 else if (t.k≠3/\(t.m=true\/t.r≠0\/t.e≠0))\/(t.k≠4/\0<t.ar.length) then 2
 else if t.k=3/\(t.r<0\/n<=t.r) then 3
 else if ¬∀f∈tX t,0<=f/\f<ps.length then 3
 else if t.k=4/\(t.ar.length=0\/65535<t.ar.length) then 15
 else if 32<=vG (kR ps) t then 19
 else 0
theorem aNT {ps:List dS} {n:Int} {t:dS}:B3 ps n t=if W5 ps n t=0 then (if t∈ps then 21 else 0) else W5 ps n t:=by
 unfold B3 W5
 by_cases h1:t.k<0\/4<t.k
 ·rw[aE h1,aE h1];simp
 rw[aA h1,aA h1]
 by_cases h2:(t.k≠3/\(t.m=true\/t.r≠0\/t.e≠0))\/(t.k≠4/\0<t.ar.length)
 ·rw[aE h2,aE h2];simp
 rw[aA h2,aA h2]
 by_cases h3:t.k=3/\(t.r<0\/n<=t.r)
 ·rw[aE h3,aE ⟨h3.1,by omega⟩];simp
 rw[aA h3]
 have hkm:32<vG (kR ps) t+1↔32<=vG (kR ps) t:=by omega
 have jQ:(if t.k=4/\(t.ar.length=0\/65535<t.ar.length) then 15 else if 32<vG (kR ps) t+1 then 19 else if t∈ps then 21 else 0)=
   if (if t.k=4/\(t.ar.length=0\/65535<t.ar.length) then 15 else if 32<=vG (kR ps) t then 19 else 0)=0 then (if t∈ps then 21 else 0) else (if t.k=4/\(t.ar.length=0\/65535<t.ar.length) then 15 else if 32<=vG (kR ps) t then 19 else 0):=by
  by_cases h5:t.k=4/\(t.ar.length=0\/65535<t.ar.length)
  ·simp only[aE h5];simp
  simp only[aA h5]
  by_cases h6:32<=vG (kR ps) t
  ·simp only[aE h6,aE (hkm.2 h6)];simp
  ·simp only[aA h6,aA (fun h=>h6 (hkm.1 h))];simp
 by_cases h4:∀f∈tX t,0<=f/\f<ps.length
 ·rw[aA (show ¬¬_ from fun h=>h h4)]
  have h5:¬(t.k=3/\(t.r<0\/n<=t.r\/t.e<0\/(ps.length:Int)<=t.e)):=by
   rintro⟨a,b⟩
   have:=h4 t.e (by unfold tX;rw[aE a];simp)
   exact h3 ⟨a,by omega⟩
  have h6:¬∃f∈t.ar,f<0\/(ps.length:Int)<=f:=by
   rintro⟨f,hf,hb⟩
   by_cases hk:t.k=3
   ·have:t.ar.length=0:=by have h7:¬(t.k≠4/\0<t.ar.length):=fun h8=>h2 (.inr h8);omega
    rw[iX this] at hf;cases hf
   ·have:=h4 f (by unfold tX;rw[aA hk];exact hf)
    omega
  rw[aA h5,aA h6]
  exact jQ
 ·rw[aE h4]
  by_cases hk:t.k=3
  ·have he:¬(0<=t.e/\t.e<ps.length):=fun h=>h4 fun f hf=>by
    unfold tX at hf
    rw[aE hk,cR] at hf
    rw[hf];exact h
   rw[aE ⟨hk,by omega⟩];simp
  ·have h5:¬(t.k=3/\(t.r<0\/n<=t.r\/t.e<0\/(ps.length:Int)<=t.e)):=fun h=>hk h.1
   have h6:∃f∈t.ar,f<0\/(ps.length:Int)<=f:=jO fun hn=>h4 fun f hf=>by
    unfold tX at hf
    rw[aA hk] at hf
    exact jO fun hb=>hn ⟨f,hf,by omega⟩
   rw[aA h5,aE h6];simp
theorem aH5 {d:List Int} {t:dS} (h:t.k=3->t.ar=[]) (h0:∀x∈d,0<=x):vG d t=(tX t).foldl (vR d) 0:=by
 unfold vG tX
 by_cases h3:t.k=3
 ·rw[aE h3,aE h3,h h3]
  have:=aD0 h0 (rO _) t.e.toNat
  simp only[List.foldl_nil,KX,vR]
  omega
 ·rw[aA h3,aA h3]
theorem aPk (ps:List dS) (t:dS) (n:Int) (b:Nat) (H0 H:aC) (gV:CK H0 b n (kR ps) H) (hps:ps.length<=65535) (rJ:t.ar.length<=140737488351232):
  bE prog 148 [.ep b 0 2 0 0,.agg (cP t)] H fun d H'=>d=i64 (W5 ps n t)/\H0.le H'/\(W5 ps n t=0->CK H0 b n (kR (ps++[t])) H'):=by
 obtain⟨d0,ob,hb,hg,wN,aS,fM⟩:=gV
 have hdl:(kR ps).length=ps.length:=EB ps
 have qT:=AU ps t
 have T0:(t.k=3->t.ar=[])->vG (kR ps) t=(tX t).foldl (vR (kR ps)) 0:=fun h=>aH5 h fun x hx=>by have:=OR ps x hx;omega
 obtain⟨c,hc⟩:∃c,c=W5 ps n t:=⟨_,rfl⟩
 have gG:=hc
 unfold W5 at gG
 rw[<-hc]
 have hpa:(tX t).length<=140737488351232:=by unfold tX;split <;> first|exact rJ|simp
 obtain⟨pa,YG⟩:∃pa,pa=tX t:=⟨_,rfl⟩
 rw[<-YG] at gG T0 hpa
 obtain⟨ds,hds⟩:∃ds,ds=kR ps:=⟨_,rfl⟩
 rw[<-hds] at hg hdl qT T0 gG
 obtain⟨km,hkm⟩:∃km,km=vG ds t:=⟨_,rfl⟩
 rw[<-hkm] at qT T0 gG
 obtain⟨uk,um,ur,ue,ua⟩:=t
 simp only[cP] at gG T0 rJ ⊢
 unfold tX at YG
 simp only at YG
 have tN:=lm iD ua
 refine aQ _ _ func148 rfl rfl ntmps148 results148 (by simp) fun w0 g0 Q aD=>?_
 refine tq trivial ?_;intro Nx aB Gx aF
 intro c3 j5
 refine aB _ ?_
 refine fZ 3 j5 ?_
 (have fs:=trivial;(iterate 5 (first|refine aF _ ?_|refine aB _ ?_|refine dW ?_|refine dV ?_|refine fE ?_|refine cU ?_|refine cV ?_|refine cL ?_|refine bP ?_|((first|refine tS fun Nx aB=>?_|refine mS rfl rfl (by kernel_rfl) (by kernel_rfl) fun Gx aF=>?_|refine cH (by kernel_rfl) ?_|refine mJ fun A B wL wM=>?_);refine qK ?_;(first|refine aF _ ?_|refine aB _ ?_|refine wL ?_|refine wM ?_|skip))));(try clear fs))
 refine D2 (fun s1=>s1.df=[]/\s1.fr 0=.ep b 0 2 0 0/\s1.fr 3=.rp [i64 uk,.val (.bool um),i64 ur,i64 ue,.seq 1 (ua.map iD)]/\s1.fr 5=.seq 1 (pa.map iD)/\s1.H=H/\¬(uk<0\/4<uk)/\¬((uk≠3/\(um=true\/ur≠0\/ue≠0))\/(uk≠4/\0<ua.length))/\¬(uk=3/\(ur<0\/n<=ur))) ?_ ?_
 ·by_cases h03:uk=0\/uk=1\/uk=2
  ·have h3:¬uk=3:=by omega
   have h4:¬uk=4:=by omega
   rw[aA h3] at YG
   have aAf:=YG.symm;subst aAf
   rw[aA (show ¬(uk<0\/4<uk) by omega)] at gG
   by_cases h5:um=true
   ·rw[aE (.inl ⟨h3,.inl h5⟩)] at gG
    subst h5
    rcases h03 with rfl|rfl|rfl <;> (refine tq trivial ?_;intro Nx aB Gx aF;refine⟨by simp,?_⟩;refine rt aD trivial ?_;exact⟨_,aG _,by rw[gG] <;> rfl,aS,fun h=>by rw[gG] at h;cases h⟩)
   have h5':um=false:=by simpa using h5
   subst h5'
   by_cases h6:ur=0
   case neg=>
    have q6:(ur=0)=False:=aI h6
    rw[aE (.inl ⟨h3,.inr (.inl h6)⟩)] at gG
    rcases h03 with rfl|rfl|rfl <;> (refine tq q6 ?_;intro Nx aB Gx aF;refine⟨by simp,?_⟩;refine rt aD trivial ?_;exact⟨_,aG _,by rw[gG] <;> rfl,aS,fun h=>by rw[gG] at h;cases h⟩)
   have q6:(ur=0)=True:=aK h6
   by_cases h7:ue=0
   case neg=>
    have q7:(ue=0)=False:=aI h7
    rw[aE (.inl ⟨h3,.inr (.inr h7)⟩)] at gG
    rcases h03 with rfl|rfl|rfl <;> (refine tq (dG q6 q7) ?_;intro Nx aB Gx aF;refine⟨by simp,?_⟩;refine rt aD trivial ?_;exact⟨_,aG _,by rw[gG] <;> rfl,aS,fun h=>by rw[gG] at h;cases h⟩)
   have q7:(ue=0)=True:=aK h7
   by_cases h8:0<ua.length
   ·have q8:((0:Int)<(ua.length:Int))=True:=aK (by omega)
    rw[aE (.inr ⟨h4,h8⟩)] at gG
    rcases h03 with rfl|rfl|rfl <;> (refine tq (gQ q6 q7 q8 tN) ?_;intro Nx aB Gx aF;refine⟨by simp,?_⟩;refine rt aD trivial ?_;exact⟨_,aG _,by rw[gG] <;> rfl,aS,fun h=>by rw[gG] at h;cases h⟩)
   ·have q8:((0:Int)<(ua.length:Int))=False:=aI (by omega)
    have OE:¬((uk≠3/\(false=true\/ur≠0\/ue≠0))\/(uk≠4/\0<ua.length)):=by rintro(⟨_,h|h|h⟩|⟨_,h⟩) <;> first|exact h h6|exact h h7|exact h8 h|cases h
    have hx3:¬(uk=3/\(ur<0\/n<=ur)):=fun h=>h3 h.1
    rcases h03 with rfl|rfl|rfl <;> (refine tq (gQ q6 q7 q8 tN) ?_;intro Nx aB Gx aF;exact⟨rfl,rfl,rfl,rfl,rfl,by decide,OE,hx3⟩)
  by_cases h3:uk=3
  ·subst h3
   rw[aE rfl] at YG
   have aAf:=YG.symm;subst aAf
   rw[aA (by decide)] at gG
   by_cases h8:0<ua.length
   ·have q8:((0:Int)<(ua.length:Int))=True:=aK (by omega)
    rw[aE (.inr ⟨by decide,h8⟩)] at gG
    refine tq (dG q8 tN) ?_;intro Nx aB Gx aF
    refine⟨by simp,?_⟩;refine rt aD trivial ?_;exact⟨_,aG _,by rw[gG] <;> rfl,aS,fun h=>by rw[gG] at h;cases h⟩
   have q8:((0:Int)<(ua.length:Int))=False:=aI (by omega)
   have OE:¬(((3:Int)≠3/\(um=true\/ur≠0\/ue≠0))\/((3:Int)≠4/\0<ua.length)):=by rintro(⟨h,_⟩|⟨_,h⟩) <;> first|exact h rfl|exact h8 h
   rw[aA OE] at gG
   by_cases h9:ur<0
   ·have q9:(ur<0)=True:=aK h9
    rw[aE ⟨rfl,.inl h9⟩] at gG
    refine tq (dG q8 tN) ?_;intro Nx aB Gx aF
    refine dE (fun _ _ _ _=>False) fun Nx aB=>?_;refine dst (dG q9 hb) ?_;intro Nx aB Gx aF
    refine tq trivial ?_;intro Nx aB Gx aF
    refine⟨by simp,?_⟩;refine rt aD trivial ?_;exact⟨_,aG _,by rw[gG] <;> rfl,aS,fun h=>by rw[gG] at h;cases h⟩
   have q9:(ur<0)=False:=aI h9
   by_cases h10:n<=ur
   ·have q10:(n<=ur)=True:=aK h10
    rw[aE ⟨rfl,.inr h10⟩] at gG
    refine tq (dG q8 tN) ?_;intro Nx aB Gx aF
    refine dE (fun _ _ _ _=>False) fun Nx aB=>?_;refine dst (eA q9 q10 hb) ?_;intro Nx aB Gx aF
    refine tq trivial ?_;intro Nx aB Gx aF
    refine⟨by simp,?_⟩;refine rt aD trivial ?_;exact⟨_,aG _,by rw[gG] <;> rfl,aS,fun h=>by rw[gG] at h;cases h⟩
   have q10:(n<=ur)=False:=aI h10
   refine tq (dG q8 tN) ?_;intro Nx aB Gx aF
   refine dE (fun _ _ _ _=>False) fun Nx aB=>?_;refine dst (eA q9 q10 hb) ?_;intro Nx aB Gx aF
   refine tq trivial ?_;intro Nx aB Gx aF
   exact⟨rfl,rfl,rfl,rfl,rfl,by decide,OE,by omega⟩
  rw[aA h3] at YG
  have aAf:=YG.symm;subst aAf
  by_cases h4:uk=4
  ·subst h4
   rw[aA (by decide)] at gG
   by_cases h5:um=true
   ·rw[aE (.inl ⟨h3,.inl h5⟩)] at gG
    subst h5
    refine tq trivial ?_;intro Nx aB Gx aF
    refine⟨by simp,?_⟩;refine rt aD trivial ?_;exact⟨_,aG _,by rw[gG] <;> rfl,aS,fun h=>by rw[gG] at h;cases h⟩
   have h5':um=false:=by simpa using h5
   subst h5'
   by_cases h6:ur=0
   case neg=>
    have q6:(ur=0)=False:=aI h6
    rw[aE (.inl ⟨h3,.inr (.inl h6)⟩)] at gG
    refine tq q6 ?_;intro Nx aB Gx aF
    refine⟨by simp,?_⟩;refine rt aD trivial ?_;exact⟨_,aG _,by rw[gG] <;> rfl,aS,fun h=>by rw[gG] at h;cases h⟩
   have q6:(ur=0)=True:=aK h6
   by_cases h7:ue=0
   case neg=>
    have q7:(ue=0)=False:=aI h7
    rw[aE (.inl ⟨h3,.inr (.inr h7)⟩)] at gG
    refine tq (dG q6 q7) ?_;intro Nx aB Gx aF
    refine⟨by simp,?_⟩;refine rt aD trivial ?_;exact⟨_,aG _,by rw[gG] <;> rfl,aS,fun h=>by rw[gG] at h;cases h⟩
   have q7:(ue=0)=True:=aK h7
   refine tq (dG q6 q7) ?_;intro Nx aB Gx aF
   exact⟨rfl,rfl,rfl,rfl,rfl,by decide,(by rintro(⟨_,h|h|h⟩|⟨h,_⟩) <;> first|exact h h6|exact h h7|exact h rfl|cases h),fun h=>h3 h.1⟩
  ·have q0:(uk=0)=False:=aI (by omega)
   have q1:(uk=1)=False:=aI (by omega)
   have q2:(uk=2)=False:=aI (by omega)
   have q3:(uk=3)=False:=aI (by omega)
   have q4:(uk=4)=False:=aI (by omega)
   rw[aE (show uk<0\/4<uk by omega)] at gG
   refine tq (jE q0 q1 q2 q3 q4) ?_;intro Nx aB Gx aF
   refine⟨by simp,?_⟩;refine rt aD trivial ?_;exact⟨_,aG _,by rw[gG] <;> rfl,aS,fun h=>by rw[gG] at h;cases h⟩
 rintro s1 ⟨pP,g0,g3,g5,uK,hp1,hp2,VJ⟩
 rw[aA hp1,aA hp2,aA VJ] at gG
 have kU:H0.le s1.H:=by rw[uK];exact aS
 obtain⟨H1,a1p⟩:∃H1,H1=s1.H:=⟨_,rfl⟩
 refine tq (dG g0 g5) ?_;intro Nx aB Gx aF
 refine(aJr n ds pa b ob d0 H0 s1.H (by rw[uK];exact hb) (by rw[uK];exact hg) hpa (by omega)).mono ?_
 rintro d _ ⟨rfl,rfl⟩
 by_cases fF:∀f∈pa,0<=f/\f<ds.length
 case neg=>
  rw[aA fF]
  rw[aE (by rw[<-hdl];exact fF)] at gG
  refine tq trivial ?_;intro Nx aB Gx aF
  refine rt aD pP ?_;exact⟨_,aG _,by rw[gG] <;> rfl,kU,fun h=>by rw[gG] at h;cases h⟩
 rw[aE fF]
 rw[aA (show ¬¬_ from fun h=>h (by rw[<-hdl];exact fF))] at gG
 have aY6:List.foldl (vR ds) 0 pa=km:=(T0 fun h3=>by
  have h8:¬(uk≠4/\0<ua.length):=fun h=>hp2 (.inr h)
  exact iX (by omega)).symm
 rw[aY6]
 have X8:=OR ps
 have hkb:=O3 (d:=ds) (b:=ps.length) (fun x hx=>(X8 x (hds▸hx)).2) (by omega) ⟨uk,um,ur,ue,ua⟩
 have hkg:=O2 (d:=ds) (fun x hx=>by have:=X8 x (hds▸hx);omega) ⟨uk,um,ur,ue,ua⟩
 rw[<-hkm] at hkb hkg
 have w5:IntKind.i64.wrap (km+1)=km+1:=bF (by omega)
 (have fs:=trivial;(iterate 2 (first|refine aF _ ?_|refine aB _ ?_|refine dW ?_|refine dV ?_|refine fE ?_|refine cU ?_|refine cV ?_|refine cL ?_|refine bP ?_|((first|refine tS fun Nx aB=>?_|refine mS rfl rfl (by kernel_rfl) (by kernel_rfl) fun Gx aF=>?_|refine cH (by kernel_rfl) ?_|refine mJ fun A B wL wM=>?_);refine qK ?_;(first|refine aF _ ?_|refine aB _ ?_|refine wL ?_|refine wM ?_|skip))));(try clear fs))
 refine D2 (fun s2=>s2.df=[]/\s2.fr 0=.ep b 0 2 0 0/\s2.fr 6=i64 km/\s2.H=s1.H/\¬(uk=4/\(ua.length=0\/65535<ua.length))/\¬32<=km) ?_ ?_
 ·by_cases h7:32<=km
  ·have q9:(32<=km)=True:=aK h7
   by_cases h4:uk=4
   ·have q4:(uk=4)=True:=aK h4
    by_cases h6:ua.length=0
    ·have q6:((ua.length:Int)=0)=True:=aK (by omega)
     rw[aE ⟨h4,.inl h6⟩] at gG
     refine tq (gQ g3 q4 q6 tN) ?_;intro Nx aB Gx aF
     refine⟨by simp,?_⟩
     refine rt aD pP ?_;exact⟨_,aG _,by rw[gG] <;> rfl,kU,fun h=>by rw[gG] at h;cases h⟩
    have q6:((ua.length:Int)=0)=False:=aI (by omega)
    by_cases h8:65535<ua.length
    ·have q7:((65535:Int)<(ua.length:Int))=True:=aK (by omega)
     rw[aE ⟨h4,.inr h8⟩] at gG
     refine tq (jE g3 q4 q6 q7 tN) ?_;intro Nx aB Gx aF
     refine⟨by simp,?_⟩
     refine rt aD pP ?_;exact⟨_,aG _,by rw[gG] <;> rfl,kU,fun h=>by rw[gG] at h;cases h⟩
    have q7:((65535:Int)<(ua.length:Int))=False:=aI (by omega)
    rw[aA (show ¬(uk=4/\(ua.length=0\/65535<ua.length)) by omega),aE h7] at gG
    refine tq (kB g3 q4 q6 q7 q9 tN) ?_;intro Nx aB Gx aF
    refine⟨by simp,?_⟩
    refine rt aD pP ?_;exact⟨_,aG _,by rw[gG] <;> rfl,kU,fun h=>by rw[gG] at h;cases h⟩
   ·have q4:(uk=4)=False:=aI h4
    rw[aA (show ¬(uk=4/\(ua.length=0\/65535<ua.length)) by omega),aE h7] at gG
    refine tq (gQ g3 q4 q9 tN) ?_;intro Nx aB Gx aF
    refine⟨by simp,?_⟩
    refine rt aD pP ?_;exact⟨_,aG _,by rw[gG] <;> rfl,kU,fun h=>by rw[gG] at h;cases h⟩
  ·have q9:(32<=km)=False:=aI h7
   by_cases h4:uk=4
   ·have q4:(uk=4)=True:=aK h4
    by_cases h6:ua.length=0
    ·have q6:((ua.length:Int)=0)=True:=aK (by omega)
     rw[aE ⟨h4,.inl h6⟩] at gG
     refine tq (gQ g3 q4 q6 tN) ?_;intro Nx aB Gx aF
     refine⟨by simp,?_⟩
     refine rt aD pP ?_;exact⟨_,aG _,by rw[gG] <;> rfl,kU,fun h=>by rw[gG] at h;cases h⟩
    have q6:((ua.length:Int)=0)=False:=aI (by omega)
    by_cases h8:65535<ua.length
    ·have q7:((65535:Int)<(ua.length:Int))=True:=aK (by omega)
     rw[aE ⟨h4,.inr h8⟩] at gG
     refine tq (jE g3 q4 q6 q7 tN) ?_;intro Nx aB Gx aF
     refine⟨by simp,?_⟩
     refine rt aD pP ?_;exact⟨_,aG _,by rw[gG] <;> rfl,kU,fun h=>by rw[gG] at h;cases h⟩
    have q7:((65535:Int)<(ua.length:Int))=False:=aI (by omega)
    refine tq (kB g3 q4 q6 q7 q9 tN) ?_;intro Nx aB Gx aF
    exact⟨pP,g0,rfl,rfl,by omega,h7⟩
   ·have q4:(uk=4)=False:=aI h4
    refine tq (gQ g3 q4 q9 tN) ?_;intro Nx aB Gx aF
    exact⟨pP,g0,rfl,rfl,by omega,h7⟩
 rintro s2 ⟨qX,k0,k6,mV,hp4,hp5⟩
 rw[aA hp4,aA hp5] at gG
 rw[uK] at mV
 have VG:s2.H b=some (.row 220 0 2 [[i64 n,d0]]):=by rw[mV];exact hb
 have GL:Gl H0 3 1 (ds.map iD) d0 s2.H ob:=by rw[mV];exact hg
 have pC:H0.le s2.H:=by rw[mV];exact aS
 have hdm:=lm iD ds
 have BB:D.cells d0=some [d0]:=hg.cells
 refine tq (jE k0 k6 w5 VG BB) ?_;intro Nx aB Gx aF
 refine dD (e:=3) kZ rfl kZ rfl PF rfl (by decide) (pC) (GL) (new:=[iD (km+1)]) (by exact⟨rfl,rfl⟩) (by rw[hdm];show(_+1) * _<=_;omega) fun d3 H3 YX TF qY hp=>?_
 obtain⟨hb3,aCG⟩:=hp b _ VG fM
 have hg4:Gl H0 3 1 ((ds++[km+1]).map iD) d3 H3 YX:=by rw[cQ];exact TF
 obtain⟨c4,o4,hd3,uL,a1r⟩:=Gl.os hg4 (by simp)
 have a1x:=hd3
 subst hd3
 (have fs:=And.intro k0 hb3;refine qK ?_;try clear fs);(first|refine aF _ ?_|refine aB _ ?_|skip)
 refine tq trivial ?_;intro Nx aB Gx aF
 refine rt aD qX ?_
 refine⟨_,aG _,by rw[gG] <;> rfl,fun x z hz=>?_,fun _=>⟨_,YX,aO _ _ _,?_,wN,fun x z hz=>?_,aCG⟩⟩
 ·have e:x≠b:=fun e=>by rw[e,wN] at hz;cases hz
  show(H3.bH b _) x=_
  rw[aN e];exact qY _ _ hz
 ·rw[qT]
  exact hg4.fS fun x hx=>aN fun e=>aCG (by rw[hx,e])
 ·have e:x≠b:=fun e=>by rw[e,wN] at hz;cases hz
  show(H3.bH b _) x=_
  rw[aN e];exact qY _ _ hz
theorem CK.start {H0:aC} {b:Nat} (n:Int) (h:H0 b=none):CK H0 b n (kR []) (H0.bH b (.row 220 0 2 [[i64 n,.val (.slice none 0 0)]])):=
 ⟨_,none,aO _ _ _,iW _ _ _ _,h,fun x z hz=>by rw[aN (fun e=>by rw[e,h] at hz;cases hz)];exact hz,by simp⟩
theorem CK.le {H0 H:aC} {b:Nat} {n:Int} {ds:List Int} (h:CK H0 b n ds H):H0.le H:=by obtain⟨_,_,_,_,_,h,_⟩:=h;exact h
theorem aJh (ts:List dS) (n:Int) (H:aC) (wI:ts.length<=140737488351232) (oF:∀u∈ts,u.ar.length<=140737488351232):
  bE prog 106 [.seq 5 (ts.map cP),i64 n] H fun d H'=>d=i64 (B4 ts n)/\H=H':=by
 refine bO (K:=fun d=>d=i64 (B4 ts n)) ?_
 have aS:=aG H
 have fN:=lm cP ts
 have BC:B4 ts n=if 65535<ts.length then 15 else zX n [] ts:=rfl
 refine aQ _ _ func106 rfl rfl ntmps106 results106 (by simp) fun w0 g0 Q aD=>?_
 by_cases h1:65535<ts.length
 ·have q1:((65535:Int)<(ts.length:Int))=True:=aK (by omega)
  rw[aE h1] at BC
  refine tq (dG fN q1) ?_;intro Nx aB Gx aF
  refine rt aD trivial ?_
  exact⟨_,aG _,aS,_,aH aS,by rw[BC] <;> rfl⟩
 have q1:((65535:Int)<(ts.length:Int))=False:=aI (by omega)
 rw[aA h1] at BC
 refine tq (dG fN q1) ?_;intro Nx aB Gx aF
 intro b hb
 refine aB _ ?_
 refine tq fN ?_;intro Nx aB Gx aF
 refine aZ ts.length (fun i s=>s.df=[]/\s.fr 0=.seq 5 (ts.map cP)/\s.fr 5=.ep b 0 2 0 0/\s.fr 17=.seq 5 (ts.map cP)/\s.fr 18=i64 ts.length/\s.fr 19=i64 i/\CK H b n (kR (ts.take i)) s.H/\zX n [] (ts.take i)=0) ⟨rfl,rfl,rfl,rfl,rfl,rfl,CK.start n hb,rfl⟩ ?_
 rintro i s hi ⟨aT,f0,f5,f17,f18,f19,gV,fI⟩
 have aY:H.le s.H:=gV.le
 by_cases aV:i<ts.length
 case neg=>
  have q2:=lF i ts.length (by omega)
  rw[cW (by omega)] at fI
  refine tq (eA f18 f19 q2) ?_;intro Nx aB Gx aF
  refine rt aD aT ?_
  exact⟨_,aG _,aY,_,aH aY,by rw[BC,fI] <;> rfl⟩
 have q2:=lT i ts.length (by omega)
 have hx:=bI i
 have cJ:=bM i
 have w3:=wS i (by omega)
 have qT:=LI (t:=ts[i]) fI
 rw[<-dH aV,gZ] at qT
 have N3:B3 (ts.take i) n ts[i]≠0->zX n [] ts=B3 (ts.take i) n ts[i]:=fun h=>by
  have N3:=QK (us:=ts.drop (i+1)) (by rw[qT];exact h)
  rw[uQ] at N3
  rw[N3,qT]
 have hA:=aNT (ps:=ts.take i) (n:=n) (t:=ts[i])
 have cD:(ts.map cP)[i]?=some (cP ts[i]):=by rw[dN,bX aV];rfl
 have RJ:=oF ts[i] (bU aV)
 have FA:ts.take (i+1)=ts.take i++[ts[i]]:=dH aV
 obtain⟨u,hu⟩:∃u,u=ts[i]:=⟨_,rfl⟩
 rw[<-hu] at cD RJ qT N3 hA FA
 have hps:(ts.take i).length=i:=by rw[dU];omega
 have aKN:=fun H' (h:CK H b n (kR (ts.take i)) H')=>aPk (ts.take i) u n b H H' h (by omega) RJ
 have aM9:=fun gI=>aNh (ts.take i) u gI (by omega) (fun v hv=>oF v (zN hv))
 obtain⟨uk,um,ur,ue,ua⟩:=u
 simp only[cP] at cD aKN aM9
 refine tq (BR f17 f18 f19 fN q2 cD hx cJ aV) ?_;intro Nx aB Gx aF
 intro c7 EG
 refine aB _ ?_
 refine fZ 7 EG ?_
 refine tq f5 ?_;intro Nx aB Gx aF
 refine(aKN s.H gV).mono ?_
 rintro d H1 ⟨rfl,kU,aKT⟩
 by_cases X2:W5 (ts.take i) n ⟨uk,um,ur,ue,ua⟩=0
 case neg=>
  have q3:((W5 (ts.take i) n ⟨uk,um,ur,ue,ua⟩:Int)=0)=False:=aI (by omega)
  rw[aA X2] at hA
  have:=N3 (by rw[hA];exact X2)
  refine tq q3 ?_;intro Nx aB Gx aF
  refine rt aD aT ?_
  exact⟨_,aG _,kU,_,aH kU,by rw[BC,this,hA] <;> rfl⟩
 rw[X2]
 rw[aE X2] at hA
 have aKT:=aKT X2
 rw[<-FA] at aKT
 refine tq trivial ?_;intro Nx aB Gx aF
 have eP:eF prog 149 [.seq 5 ((ts.take i).map cP),.agg [i64 uk,.val (.bool um),i64 ur,i64 ue,.seq 1 (ua.map iD)]] H1 fun d A=>A=aC.none/\d=.pG [i64 (max (xU ⟨uk,um,ur,ue,ua⟩ (ts.take i) 0) 0),.val (.bool (decide ((⟨uk,um,ur,ue,ua⟩:dS)∈ts.take i)))]:=cF fun gI gX=>aM9 gI
 obtain⟨r,hr⟩:∃r,r=max (xU ⟨uk,um,ur,ue,ua⟩ (ts.take i) 0) 0:=⟨_,rfl⟩
 rw[<-hr] at eP
 rw[qB] at eP
 have cC:i<=ts.length:=by omega
 have DK:((i:Int)<=(ts.length:Int))=True:=aK (by omega)
 simp only[i64] at eP
 by_cases hm:(⟨uk,um,ur,ue,ua⟩:dS)∈ts.take i
 ·rw[bG hm] at eP
  rw[aE hm] at hA
  have:=N3 (by rw[hA];decide)
  refine dE (fun _ _ d A=>A=.none/\d=.pG [.val (.int .i64 r),.val (.bool true)]) fun Nx aB=>?_;refine dst (kB f0 fN hx cJ cC DK) ?_;intro Nx aB Gx aF
  refine⟨eP,?_⟩
  (first|refine aF _ ?_|refine aB _ ?_|skip)
  refine dst trivial ?_;intro Nx aB Gx aF
  refine tq trivial ?_;intro Nx aB Gx aF
  refine rt aD aT ?_
  exact⟨_,aG _,kU,_,aH kU,by rw[BC,this,hA] <;> rfl⟩
 ·rw[bB hm] at eP
  rw[aA hm] at hA
  refine dE (fun _ _ d A=>A=.none/\d=.pG [.val (.int .i64 r),.val (.bool false)]) fun Nx aB=>?_;refine dst (kB f0 fN hx cJ cC DK) ?_;intro Nx aB Gx aF
  refine⟨eP,?_⟩
  (first|refine aF _ ?_|refine aB _ ?_|skip)
  refine dst trivial ?_;intro Nx aB Gx aF
  refine tq (dG f19 w3) ?_;intro Nx aB Gx aF
  exact⟨aV,aT,f0,f5,f17,f18,rfl,aKT,qT.trans hA⟩
structure Sb (b:cT):Prop where
 ok:AG b
 nm:dO b.nm.size
 rs:∀s∈b.rg,dO s.size
 ls:∀x∈b.lc,dO x.nm.size
 ts:∀x∈b.bl,dO x.tm.nm.size
theorem aM5 (n r t l:Int):LK [n,r,t,l]=if n≠0 then n else if r≠0 then r else if t≠0 then t else if l≠0 then l else 0:=rfl
theorem aXv (I:Bool) (n:Int) (r t:Nat) (l c:Int):(if I=false then 12 else if n≠0 then n else if r≠0 then (r:Int) else if t≠0 then (t:Int) else if l≠0 then l else c)=if I=false then 12 else if LK [n,r,t,l]≠0 then LK [n,r,t,l] else c:=by
 rw[aM5]
 have e1:((r:Int)≠0)↔r≠0:=by omega
 have e2:((t:Int)≠0)↔t≠0:=by omega
 simp only[e1,e2]
 cases I
 ·rfl
 ·by_cases h1:n=0
  ·by_cases h2:r=0
   ·by_cases h3:t=0
    ·by_cases h4:l=0
     ·simp [h1,h2,h3,h4]
     ·simp [h1,h2,h3,h4]
    ·simp [h1,h2,h3]
   ·simp [h1,h2]
  ·simp [h1]
theorem aN8 (b:cT) (H:aC) (sb:Sb b):bE prog 51 [.agg (iS b)] H fun d H'=>d=i64 (oI b)/\H=H':=by
 refine bO (K:=fun d=>d=i64 (oI b)) ?_
 have aS:=aG H
 obtain⟨o1,o2,⟨o3,o4⟩,o5,o6,o7⟩:=sb.ok
 have hid:=YK b.nm H sb.nm
 have h1:∀H1,eF prog 104 [.seq 1 (b.rg.map sD)] H1 fun d A=>A=aC.none/\d=i64 (uO b.rg):=fun H1=>cF fun gI gX=>aLL b.rg gI o1 sb.rs
 have h2:∀H1,eF prog 105 [.seq 2 (b.ol.map pD),i64 b.rg.length] H1 fun d A=>A=aC.none/\d=i64 (jA b.ol b.rg.length):=fun H1=>cF fun gI gX=>aBJ b.ol _ gI o2
 have h3:∀H1,eF prog 106 [.seq 5 (b.ty.map cP),i64 b.rg.length] H1 fun d A=>A=aC.none/\d=i64 (B4 b.ty b.rg.length):=fun H1=>cF fun gI gX=>aJh b.ty _ gI o3 o4
 have h4:∀H1,eF prog 107 [.agg (iS b)] H1 fun d A=>A=aC.none/\d=i64 (JX b):=fun H1=>cF fun gI gX=>aHj b gI o5 sb.ls
 have h5:∀l H1,dO l.length->eF prog 103 [.seq 1 (l.map iD)] H1 fun d A=>A=aC.none/\d=i64 (LK l):=fun l H1 hl=>cF fun gI gX=>aDU l gI hl
 have CC:=lm sD b.rg
 have sQ:=lm jP b.bl
 unfold dO at o6
 obtain⟨y,hy⟩:∃y,y=oI b:=⟨_,rfl⟩
 rw[<-hy]
 unfold oI at hy
 obtain⟨I,hI⟩:∃I,I=x7 b.nm:=⟨_,rfl⟩
 obtain⟨n,hn⟩:∃n,n=uO b.rg:=⟨_,rfl⟩
 obtain⟨r,hr⟩:∃r,r=jA b.ol b.rg.length:=⟨_,rfl⟩
 obtain⟨t,ht⟩:∃t,t=B4 b.ty b.rg.length:=⟨_,rfl⟩
 obtain⟨l,hl⟩:∃l,l=JX b:=⟨_,rfl⟩
 rw[<-hI] at hy hid
 rw[<-hn] at hy h1
 rw[<-hr] at hy h2
 rw[<-ht] at hy h3
 rw[<-hl] at hy h4
 clear hI hn hr ht hl
 have h6:=fun H1=>h5 [n,r,t,l] H1 (by unfold dO;simp)
 have hf:=aM5 n r t l
 obtain⟨F,hF⟩:∃F,F=LK [n,r,t,l]:=⟨_,rfl⟩
 simp only[<-hF] at h6 hf
 simp only[eU,nE,iD] at h6
 have pQ:y=if I=false then 12 else if F≠0 then F else if b.bl.length=0\/65535<b.bl.length then 15 else 0:=by
  rw[hy,hF];exact aXv I n r t l _
 clear hy hf hF h5
 rw[pI] at h4 ⊢
 refine aQ _ _ func51 rfl rfl ntmps51 results51 (by simp) fun w0 g0 Q aD=>?_
 refine tq trivial ?_;intro Nx aB Gx aF
 intro c1 mA
 refine aB _ ?_
 refine fZ 1 mA ?_
 refine tq trivial ?_;intro Nx aB Gx aF
 refine hid.mono ?_
 rintro d _ ⟨rfl,rfl⟩
 cases I
 ·have e:y=12:=pQ
  exact oz aD trivial aS e
 rw[aA (fun h=>by cases h)] at pQ
 refine tq CC ?_;intro Nx aB Gx aF
 refine dE (fun t0 _ d A=>A=.none/\d=(if t0=some 14 then i64 n else if t0=some 18 then i64 r else if t0=some 22 then i64 t else if t0=some 24 then i64 l else i64 F)) fun Nx aB=>?_;refine dst trivial ?_;intro Nx aB Gx aF
 refine⟨h1 _,h2 _,h3 _,h4 _,h6 _,?_⟩
 (first|refine aF _ ?_|refine aB _ ?_|skip)
 by_cases q:F=0
 case neg=>
  have q1:(F=0)=False:=aI q
  have e:y=F:=pQ.trans (aE q)
  exact oz aD q1 aS e
 have q1:(F=0)=True:=aK q
 rw[aA (fun h=>h q)] at pQ
 by_cases p:b.bl.length=0
 ·have p1:((b.bl.length:Int)=0)=True:=aK (by omega)
  have e:y=15:=pQ.trans (aE (.inl p))
  exact oz aD (eA q1 p1 sQ) aS e
 have p1:((b.bl.length:Int)=0)=False:=aI (by omega)
 by_cases p2:65535<b.bl.length
 ·have p3:((65535:Int)<(b.bl.length:Int))=True:=aK (by omega)
  have e:y=15:=pQ.trans (aE (.inr p2))
  exact oz aD (gQ q1 p1 p3 sQ) aS e
 have p3:((65535:Int)<(b.bl.length:Int))=False:=aI (by omega)
 have e:y=0:=pQ.trans (aA (by omega))
 exact oz aD (gQ q1 p1 p3 sQ) aS e
end Go.Proofs.YtfiipaodjpiooaaGreatDoor

