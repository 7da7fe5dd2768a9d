/- Lemmas and contracts of functions, several texts in one. -/
import Derived.Test.YtffgfafbffdgaaaGreatDoorR31
set_option maxRecDepth 100000
set_option maxHeartbeats 4000000
set_option linter.all false
namespace Go.Proofs.YtffgfafbffdgaaaGreatDoor
open Go.RowKit
open Tryz
theorem Ld (b:bn) (r:tx) (t:Int) (H:aA) (ck:Ck b) (hp:Bb r) (ht:bN b.ty.length t):aN prog 190 [.agg (cu b),.agg (uo r),i64 t] H λd H'=>d=i64 (vE b r t)/\H=H':=by
 refine aq (K:=λd=>d=i64 (vE b r t)) ?_;have G:=aF H;have F:=xH b r.pl H ck hp.1;have m:=Dt b r.pl H ck hp.1;have E:=S7 b.ty b.lc r.pl H ck.wt ck.wl ck.ar hp.1;have S:∀q H1,cP prog 260 [.seq 2 (b.ol.map pD),i64 b.rg.length,i64 q,i64 r.rg] H1 λd A=>A=aA.none/\d=.val (.bool (gh b.ol b.rg.length q r.rg)):=λq H1=>an λa2 ab=>JT b.ol b.rg.length q r.rg a2 ck.ol (by have:=ck.MX;omega) ck.Qm;have a8:(tj b.ty b.lc r.pl).length<=32:=by
  have:=oF b.ty b.lc r.pl;unfold tj;rw[aS];exact this
 have D:=lm sD b.rg;have a6:=lm bS b.ty;obtain⟨y,a⟩:=oX (vE b r t);rw[<-a];unfold vE at a;have N:=gY ht;have aa:t.toNat<b.ty.length:=by unfold bN at ht;omega
 have a9:0<=t:=by unfold bN at ht;omega
 obtain⟨u,hu⟩:=oX (bY b.ty t);obtain⟨T,hT⟩:=oX (mB b r.pl);obtain⟨R,a0⟩:=oX (tj b.ty b.lc r.pl);obtain⟨Z,hZ⟩:=oX (ml b.ty b.lc r.pl);rw[<-hu] at N a;rw[<-hT] at F a;rw[<-a0] at E a8 a;rw[<-hZ] at m a;clear hu hT a0 hZ;rw[jB] at F m ⊢;obtain⟨k,op,rg,I,pl,ar⟩:=r;obtain⟨uk,um,ur,ue,ua⟩:=u;simp only[bS] at N;simp only at a S;simp only[ee] at F m E;have l:=lm iD R;refine dO func190 ntmps190 results190 λw0 g0 Q o=>?_;refine tq @uo.eq_1 ?_;intro U Y O C;intro c3 a3 c4 a4;refine Y _ ?_;refine uB 3 4 a3 a4 ?_;refine t0 ?_;intro U Y O C;refine F.q ?_;by_cases h1:T.2=0
 case neg=>
  have q1:(T.2=0)=False:=aI h1;have e:y=T.2:=a.trans (aD h1);exact oz o q1 G e
 have q1:(T.2=0)=True:=aG h1;rw[aC (λh=>h h1)] at a;by_cases h2:rg<0
 ·have q2:(rg<0)=True:=aG h2
  have e:y=3:=a.trans (aD (.inl h2));exact oz o (av q1 q2) G e
 have q2:(rg<0)=False:=aI h2;by_cases h3:(b.rg.length:Int)<=rg
 ·have q3:(rg≥(b.rg.length:Int))=True:=aG h3
  have e:y=3:=a.trans (aD (.inr h3));exact oz o (cA q1 q2 q3 D) G e
 have q3:(rg≥(b.rg.length:Int))=False:=aI h3;rw[aC (by omega)] at a;refine tq (bG q1 q2 q3 D N aa a9 a6) ?_;intro U Y O C;intro c9 a5;refine Y _ ?_;refine cm 9 a5 ?_;by_cases h4:uk=3
 case neg=>
  have J:(uk=3)=False:=aI h4;have e:y=22:=a.trans (aD (.inl h4));exact oz o J G e
 have J:(uk=3)=True:=aG h4;by_cases h5:ur=rg
 case neg=>
  have V:(ur=rg)=False:=aI h5;have e:y=22:=a.trans (aD (.inr (.inl h5)));exact oz o (av J V) G e
 have V:(ur=rg)=True:=aG h5;by_cases h6:um=I
 case neg=>
  have e:y=22:=a.trans (aD (.inr (.inr (.inl h6))));have W:(um=I)=False:=aI h6;exact oz o (bQ J V W) G e
 have W:(um=I)=True:=aG h6;by_cases h7:ue=T.1
 case neg=>
  have q7:(ue=T.1)=False:=aI h7;have e:y=22:=a.trans (aD (.inr (.inr (.inr (.inl h7)))));exact oz o (cA J V W q7) G e
 have q7:(ue=T.1)=True:=aG h7;by_cases hm:I=true/\Z=false
 ·obtain⟨P,a1⟩:=hm
  have e:y=22:=a.trans (aD (.inr (.inr (.inr (.inr ⟨P,a1⟩)))));rw[a1] at m;rw[P] at W;refine tq (cw J V W q7 P) ?_;intro U Y O C;refine m.q ?_;exact oz o q1 G e
 have a7:¬(uk≠3\/ur≠rg\/um≠I\/ue≠T.1\/(I=true/\Z=false)):=λh=>h.elim (· h4) λh=>h.elim (· h5) λh=>h.elim (· h6) λh=>h.elim (· h7) hm;rw[aC a7] at a;have hZ:I=true->Z=true:=λh=>by cases Z;exact absurd ⟨h,rfl⟩ hm;rfl
 cases I
 ·refine tq (cA J V W q7) ?_;intro U Y O C
  refine E.qs l ?_;intro U Y O C;refine aO R.length (λi s=>s.df=[]/\s.fr 3=.rp [bC b.nm,.seq 1 (b.rg.map sD),.seq 2 (b.ol.map pD),.seq 5 (b.ty.map bS),.seq 2 (b.lc.map eQ),i64 b.ag,.seq 7 (b.bl.map dM)]/\(∃x,s.fr 4=.rp [i64 k,i64 op,i64 rg,.val (.bool x),i64 pl.lo,.seq 2 (pl.pr.map pD),.seq 4 (ar.map db)])/\s.fr 10=.seq 1 (R.map iD)/\s.fr 11=i64 i/\s.H=H/\(R.all λq=>gh b.ol b.rg.length q rg)=((R.drop i).all λq=>gh b.ol b.rg.length q rg)) ⟨rfl,rfl,⟨_,rfl⟩,rfl,rfl,rfl,rfl⟩ ?_;rintro i s hi ⟨M,f3,⟨x,f4⟩,c,f,hH,g⟩;have hx:=aX i;have L:=aZ i;have p:H.le s.H:=by rw[hH];exact aF _
  by_cases j:i<R.length
  case neg=>
   have X:=lF i R.length;rw[cb (by omega),lh] at g;rw[g,aC (λh=>by cases h)] at a;have e:=a;exact oz o (cA c f l X) p e
  have w:(i:Int)<(R.length:Int):=by omega
  have X:((i:Int)<(R.length:Int))=True:=aG w;have w3:=wS i;have B:=bT j;rw[cL j,jQ] at g;have n:=S R[i] s.H;obtain⟨v,hv⟩:=oX R[i];rw[<-hv] at B g n;obtain⟨z,hz⟩:=oX (gh b.ol b.rg.length v rg);rw[<-hz] at g n;refine tq (cA c f l X) ?_;intro U Y O C;(try refine bW ?_);refine dE (λ_ _ d A=>A=.none/\d=.val (.bool z)) λU Y=>?_;refine dst (bG f3 f4 c f D l B (cA hx L j w)) ?_;intro U Y O C;refine⟨n,?_⟩;refine nx ?_;cases z
  ·rw[dq] at g
   rw[g,aD rfl] at a;have e:=a;exact oz o trivial p e
  ·rw[cV] at g
   refine tn (av f w3) ?_;exact⟨j,M,f3,⟨x,f4⟩,c,rfl,hH,g⟩
 ·rw[hZ rfl] at m
  refine tq (cA J V W q7) ?_;intro U Y O C;refine m.qt ?_;intro U Y O C;refine E.qs l ?_;intro U Y O C;refine aO R.length (λi s=>s.df=[]/\s.fr 3=.rp [bC b.nm,.seq 1 (b.rg.map sD),.seq 2 (b.ol.map pD),.seq 5 (b.ty.map bS),.seq 2 (b.lc.map eQ),i64 b.ag,.seq 7 (b.bl.map dM)]/\(∃x,s.fr 4=.rp [i64 k,i64 op,i64 rg,.val (.bool x),i64 pl.lo,.seq 2 (pl.pr.map pD),.seq 4 (ar.map db)])/\s.fr 10=.seq 1 (R.map iD)/\s.fr 11=i64 i/\s.H=H/\(R.all λq=>gh b.ol b.rg.length q rg)=((R.drop i).all λq=>gh b.ol b.rg.length q rg)) ⟨rfl,rfl,⟨_,rfl⟩,rfl,rfl,rfl,rfl⟩ ?_;rintro i s hi ⟨M,f3,⟨x,f4⟩,c,f,hH,g⟩;have hx:=aX i;have L:=aZ i;have p:H.le s.H:=by rw[hH];exact aF _
  by_cases j:i<R.length
  case neg=>
   have X:=lF i R.length;rw[cb (by omega),lh] at g;rw[g,aC (λh=>by cases h)] at a;have e:=a;exact oz o (cA c f l X) p e
  have w:(i:Int)<(R.length:Int):=by omega
  have X:((i:Int)<(R.length:Int))=True:=aG w;have w3:=wS i;have B:=bT j;rw[cL j,jQ] at g;have n:=S R[i] s.H;obtain⟨v,hv⟩:=oX R[i];rw[<-hv] at B g n;obtain⟨z,hz⟩:=oX (gh b.ol b.rg.length v rg);rw[<-hz] at g n;refine tq (cA c f l X) ?_;intro U Y O C;(try refine bW ?_);refine dE (λ_ _ d A=>A=.none/\d=.val (.bool z)) λU Y=>?_;refine dst (bG f3 f4 c f D l B (cA hx L j w)) ?_;intro U Y O C;refine⟨n,?_⟩;refine nx ?_;cases z
  ·rw[dq] at g
   rw[g,aD rfl] at a;have e:=a;exact oz o trivial p e
  ·rw[cV] at g
   refine tn (av f w3) ?_;exact⟨j,M,f3,⟨x,f4⟩,c,rfl,hH,g⟩
theorem GA {b:bn}:∀{l:List gq}{fs:List Int},eM b l fs=0->eM b l []=0
 |[],_,_=>rfl
 |o::l,[],h=>h
 |o::l,f::fs,h=>by
  have h1:eM b (o::l) (f::fs)=if kx b o≠0 then kx b o else if nW b o f=false then 22 else eM b l fs:=rfl
  have d:eM b (o::l) []=if kx b o≠0 then kx b o else eM b l []:=rfl
  rw[h1] at h;rw[d];by_cases a:kx b o=0
  ·rw[aC (λk=>k a)] at h ⊢
   by_cases c:nW b o f=false
   ·rw[aD c] at h;cases h
   ·rw[aC c] at h;exact GA h
  ·rw[aD a] at h;exact absurd h a
theorem Ty {r:tx}(h:tv r=true):(r.k=0->r.ar.length=1):=by
 intro a;unfold tv at h;rw[aC (by omega),aD a] at h;simp only[cX,dF] at h;exact h.2.2
def A1 (b:bn) (k op rg:Int) (d:Bool) (a:gR) (ar:List gq) (t c:Int) (H:aA) (s:St):Prop:=s.df=[]/\s.fr 2=i64 t/\s.fr 3=.rp [bC b.nm,.seq 1 (b.rg.map sD),.seq 2 (b.ol.map pD),.seq 5 (b.ty.map bS),.seq 2 (b.lc.map eQ),i64 b.ag,.seq 7 (b.bl.map dM)]/\s.fr 4=.rp [i64 k,i64 op,i64 rg,.val (.bool d),i64 a.lo,.seq 2 (a.pr.map pD),.seq 4 (ar.map db)]/\s.fr 8=i64 c/\s.H=H
def Xw (k op:Int):Prop:=(k=2/\(op<0\/2<=op))\/(k=3/\(op<0\/6<=op))
open Classical in
noncomputable def fz (k:Int) (u:bp):List Int:=if k=4 then u.ar else []
theorem Lc (b:bn) (r:tx) (t:Int) (H:aA) (ck:Ck b) (hp:Bb r) (ht:bN b.ty.length t) (bi:∀f∈(bY b.ty t).ar,bN b.ty.length f):aN prog 112 [.agg (cu b),.agg (uo r),i64 t] H λd H'=>d=i64 (Cd b r t)/\H=H':=by
 refine aq (K:=λd=>d=i64 (Cd b r t)) ?_;have aM:=aF H;have a9:=O5 r H hp;have ad:=Ld b r t H ck hp ht;have V:∀o∈r.ar,∀H1,cP prog 115 [.agg (cu b),.agg (db o)] H1 λd A=>A=aA.none/\d=i64 (kx b o):=λo T H1=>an λaa b8=>AU b o aa ck (hp.2.2 o T);have p:∀o∈r.ar,∀t,kx b o=0->bN b.ty.length t->∀H1,cP prog 191 [.agg (cu b),.agg (db o),i64 t] H1 λd A=>A=aA.none/\d=.val (.bool (nW b o t)):=λo T t hz ht H1=>an λaa b8=>SZ b o t aa ck (hp.2.2 o T) hz ht;have Z:∀o∈r.ar,∀kd,kx b o=0->∀H1,cP prog 116 [.agg (cu b),.agg (db o),i64 kd] H1 λd A=>A=aA.none/\d=.val (.bool (decide (tc b o=kd))):=λo T kd hz H1=>an λaa b8=>AR b o kd aa ck (hp.2.2 o T) hz;have ae:=lm bS b.ty;have I:=lm db r.ar;obtain⟨y,J⟩:=oX (Cd b r t);rw[<-J];unfold Cd at J;have a5:=gY ht;have ak:t.toNat<b.ty.length:=by unfold bN at ht;omega
 have ag:0<=t:=by unfold bN at ht;omega
 have ye:=λh=>Ty (r:=r) h;unfold oj at J;obtain⟨u,hu⟩:=oX (bY b.ty t);rw[<-hu] at a5 J bi;clear hu;obtain⟨BE,be⟩:=oX (vE b r t);rw[<-be] at ad J;clear be;unfold Pr at a9;obtain⟨S,hS⟩:=oX (tv r);rw[<-hS] at a9 J ye;clear hS;have bf:=hp.2.1;unfold cH at bf;have b5:=lm iD u.ar;rw[jB] at ad V p Z ⊢;obtain⟨k,j,rg,mu,pl,ar⟩:=r;simp only[bS] at a5;simp only[uo] at a9 ad ⊢;simp only at J a9 V p Z I bf ye;clear hp;refine dO func112 ntmps112 results112 λw0 g0 Q W=>?_;refine t0 ?_;intro U Y O C;intro c3 bq c4 br;refine Y _ ?_;refine uB 3 4 bq br ?_;refine t0 ?_;intro U Y O C;refine a9.q ?_;by_cases h1:k<0\/4<k
 ·have e:y=14:=J.trans (aD h1)
  rw[aD h1];exact oz W trivial aM e
 rw[aC h1] at J ⊢;cases S
 ·have e:y=2:=J
  rw[aD rfl];exact oz W trivial aM e
 rw[aC (λh=>by cases h)] at J ⊢;by_cases ap:k=1
 ·have k1:(k=1)=True:=aG ap
  have e:y=BE:=by rw[J,aC (by omega),aD ap]
  refine tq (cw a5 ak ag ae k1) ?_;intro U Y O C;refine ad.q ?_;exact oz W k1 aM e
 have k1:(k=1)=False:=aI ap;rw[aC ap] at J;(iterate 14 (refine tk (cw a5 ak ag ae k1) ?_;intro U Y O C));refine rl (λs=>A1 b k j rg mu pl ar t u.k H s/\¬Xw k j) ?_ ?_
 ·by_cases g:k=2
  ·have k2:(k=2)=True:=aG g
   have k3:=nF (k=3);by_cases D:j<0
   ·have L:(j<0)=True:=aG D
    have e:y=14:=by rw[J,aC (by omega),aD g,aD (.inl D)]
    refine tq (av k2 L) ?_;intro U Y O C;refine⟨by simp,?_⟩;refine rt W trivial ?_;exact zf aM (by rw[e])
   have L:(j<0)=False:=aI D;by_cases h3:1<j
   ·have q3:(1<j)=True:=aG h3
    have e:y=14:=by rw[J,aC (by omega),aD g,aD (.inr (by omega))]
    refine tq (bQ k2 L q3) ?_;intro U Y O C;refine⟨by simp,?_⟩;refine rt W trivial ?_;exact zf aM (by rw[e])
   have q3:(1<j)=False:=aI h3;refine tn (cA k2 k3 L q3) ?_;exact⟨⟨rfl,rfl,rfl,rfl,rfl,rfl⟩,by unfold Xw;omega⟩
  have k2:(k=2)=False:=aI g;by_cases M:k=3
  ·have k3:(k=3)=True:=aG M
   by_cases D:j<0
   ·have L:(j<0)=True:=aG D
    have e:y=14:=by rw[J,aC (by omega),aC g,aD M,aD (.inl D)]
    refine tq (bQ k2 k3 L) ?_;intro U Y O C;refine⟨by simp,?_⟩;refine rt W trivial ?_;exact zf aM (by rw[e])
   have L:(j<0)=False:=aI D;by_cases h3:5<j
   ·have q3:(5<j)=True:=aG h3
    have e:y=14:=by rw[J,aC (by omega),aC g,aD M,aD (.inr (by omega))]
    refine tq (cA k2 k3 L q3) ?_;intro U Y O C;refine⟨by simp,?_⟩;refine rt W trivial ?_;exact zf aM (by rw[e])
   have q3:(5<j)=False:=aI h3;refine tn (cA k2 k3 L q3) ?_;exact⟨⟨rfl,rfl,rfl,rfl,rfl,rfl⟩,by unfold Xw;omega⟩
  have k3:(k=3)=False:=aI M;refine tn (av k2 k3) ?_;exact⟨⟨rfl,rfl,rfl,rfl,rfl,rfl⟩,by unfold Xw;omega⟩
 rintro s1 ⟨⟨X,B,v,c,w,a3⟩,bm⟩;unfold Xw at bm;have ab:H.le s1.H:=by rw[a3];exact aF _
 refine bW ?_;refine rl (λs=>A1 b k j rg mu pl ar t u.k H s/\¬(k=4/\(u.k≠4\/u.ar.length≠ar.length))) ?_ ?_
 ·by_cases a:k=4
  ·have k4:(k=4)=True:=aG a
   by_cases D:u.k=4
   case neg=>
    have L:(u.k=4)=False:=aI D;have e:y=22:=by rw[J,aC (by omega),aC (by omega),aC (by omega),aD (.inl D)]
    (try refine bW ?_);refine dE (λ_ _ _ _=>False) λU Y=>?_;refine dst (eP B v c w k4 L) ?_;intro U Y O C;refine t0 ?_;intro U Y O C;refine⟨by simp,?_⟩;refine rt W X ?_;exact⟨_,aF _,ab,_,aL ab,by rw[e] <;> rfl⟩
   have L:(u.k=4)=True:=aG D;by_cases h3:u.ar.length=ar.length
   ·have q3:=nT ((u.ar.length:Int)=(ar.length:Int))
    (try refine bW ?_);refine dE (λ_ _ _ _=>False) λU Y=>?_;refine dst (bG B v c w k4 L q3 (eP a5 ak ag ae b5 I)) ?_;intro U Y O C;refine tz ?_;exact⟨⟨X,B,v,c,w,a3⟩,by omega⟩
   ·have q3:=nF ((u.ar.length:Int)=(ar.length:Int))
    have e:y=22:=by rw[J,aC (by omega),aC (by omega),aC (by omega),aD (.inr h3)]
    (try refine bW ?_);refine dE (λ_ _ _ _=>False) λU Y=>?_;refine dst (bG B v c w k4 L q3 (eP a5 ak ag ae b5 I)) ?_;intro U Y O C;refine t0 ?_;intro U Y O C;refine⟨by simp,?_⟩;refine rt W X ?_;exact⟨_,aF _,ab,_,aL ab,by rw[e] <;> rfl⟩
  have k4:(k=4)=False:=aI a;(try refine bW ?_);refine dE (λ_ _ _ _=>False) λU Y=>?_;refine dst (cw B v c w k4) ?_;intro U Y O C;refine tz ?_;exact⟨⟨X,B,v,c,w,a3⟩,by omega⟩
 clear B v c w a3 ab X;rintro s1 ⟨⟨X,B,v,c,w,a3⟩,bs⟩;have b1:eM b ar (fz k u)≠0->y=eM b ar (fz k u):=λh=>by
  unfold fz at h ⊢;by_cases a:k=4
  ·rw[aD a] at h ⊢
   rw[J,aC (by omega),aC (by omega),aC (by omega),aC (by omega)]
  ·rw[aC a] at h ⊢
   by_cases R:k=0
   ·have hl:=ye rfl R
    obtain⟨o,rfl⟩:=zA.1 hl;have D:eM b [o] []=if kx b o≠0 then kx b o else 0:=rfl
    have h3:eM b [o] [t]=if kx b o≠0 then kx b o else if nW b o t=false then 22 else 0:=rfl
    rw[D] at h ⊢;by_cases T:kx b o=0
    ·rw[aC (λk=>k T)] at h;exact absurd rfl h
    ·rw[aD T,J,aD R,h3,aD T]
   ·by_cases g:k=2
    ·rw[J,aC R,aD g,aC (by omega),aD h]
    ·rw[J,aC R,aC g,aD (by omega),aC (by omega),aD h]
 have bk:k=4->(fz k u).length=ar.length:=λh=>by unfold fz;rw[aD h];omega
 have b2:k≠4->fz k u=[]:=λh=>by unfold fz;rw[aC h]
 have a4:k=4->fz k u=u.ar:=λh=>by unfold fz;rw[aD h]
 refine tz ?_;refine aO ar.length (λi s=>A1 b k j rg mu pl ar t u.k H s/\s.fr 9=i64 i/\eM b ar (fz k u)=eM b (ar.drop i) ((fz k u).drop i)) ⟨⟨X,B,v,c,w,a3⟩,rfl,rfl⟩ ?_;clear B v c w a3 X;rintro i s hi ⟨⟨m,B,v,c,w,P⟩,f9,F⟩;have hx:=aX i;have ac:=aZ i;have N:H.le s.H:=by rw[P];exact aF _
 by_cases G:i<ar.length
 case pos=>
  have a8:(i:Int)<(ar.length:Int):=by omega
  have q6:((i:Int)<(ar.length:Int))=True:=aG a8;have w3:=wS i;have a0:=sQ G;have a1:=ao G;rw[cL G] at F;have V:=V _ a1 s.H;have p:=p _ a1;obtain⟨o,T⟩:=oX ar[i];rw[<-T] at a0 F V p;clear a1 T;obtain⟨E,hE⟩:=oX (kx b o);have b9:eM b (o::ar.drop (i+1)) ((fz k u).drop i)=if E≠0 then E else match (fz k u).drop i with
   |[]=>eM b (ar.drop (i+1)) []
   |f::fs=>if nW b o f=false then 22 else eM b (ar.drop (i+1)) fs:=by rw[hE];rfl
  rw[b9] at F;clear b9;rw[<-hE] at V p;clear hE;simp only[db] at a0 V p;refine tq (cA c f9 I q6) ?_;intro U Y O C;(try refine bW ?_);refine dE (λ_ _ d A=>A=.none/\d=i64 E) λU Y=>?_;refine dst (bG v c f9 a0 hx ac G (av a8 I)) ?_;intro U Y O C;refine⟨V,?_⟩;refine nx ?_;by_cases h0:E=0
  case neg=>
   have q0:(E=0)=False:=aI h0;rw[aD h0] at F;have e:y=E:=by rw[b1 (by rw[F];exact h0),F]
   exact oz W q0 N e
  have q0:(E=0)=True:=aG h0;rw[aC (λh=>h h0)] at F;by_cases a:k=4
  case neg=>
   have k4:(k=4)=False:=aI a;rw[b2 a,List.drop_nil] at F;simp only at F;refine tq q0 ?_;intro U Y O C;(try refine bW ?_);refine dE (λ_ _ _ _=>False) λU Y=>?_;refine dst (av c k4) ?_;intro U Y O C;refine tn (av f9 w3) ?_;exact⟨G,⟨m,B,v,c,w,P⟩,rfl,by rw[b2 a,List.drop_nil];exact F⟩
  have k4:(k=4)=True:=aG a;have am:i<u.ar.length:=by have:=bk a;rw[a4 a] at this;omega
  have bo:(i:Int)<(u.ar.length:Int):=by omega
  rw[a4 a,cL am] at F;simp only at F;have bl:=bT am;have ba:=bi u.ar[i] (ao am);obtain⟨f,hf⟩:=oX u.ar[i];rw[<-hf] at F bl ba;have p:=p f h0 ba s.H;obtain⟨z,hz⟩:=oX (nW b o f);rw[<-hz] at p F;refine tq q0 ?_;intro U Y O C;(try refine bW ?_);refine dE (λ_ _ d A=>A=.none/\d=.val (.bool z)) λU Y=>?_;refine dst (bG B v c f9 k4 a0 hx (bG ac G a8 I a5 ak ag (cw ae bl am bo b5))) ?_;intro U Y O C;refine⟨p,?_⟩;cases z
  ·rw[aD rfl] at F
   have e:y=22:=by rw[b1 (by rw[a4 a,F];decide),a4 a,F]
   (first|refine C _ ?_|skip);refine dst trivial ?_;intro U Y O C;exact oz W trivial N e
  ·rw[aC (λh=>by cases h)] at F
   (first|refine C _ ?_|skip);refine dst trivial ?_;intro U Y O C;refine tn (av f9 w3) ?_;exact⟨G,⟨m,B,v,c,w,P⟩,rfl,by rw[a4 a];exact F⟩
 have q6:=lF i ar.length;rw[cb (by omega)] at F;have b6:eM b ar (fz k u)=0:=by rw[F];rfl
 have aw:=GA b6;have b0:=vi aw;clear b1 bk b2 F;by_cases R:k=0
 ·have k0:(k=0)=True:=aG R
  have hl:=ye rfl R;have b4:0<ar.length:=by omega
  have b3:=sQ b4;have p:=p ar[0] (ao b4) t (b0 _ (ao b4)) ht s.H;have a6:y=if nW b ar[0] t=false then 22 else 0:=by
   obtain⟨o,rfl⟩:=zA.1 hl;have h3:eM b [o] [t]=if kx b o≠0 then kx b o else if nW b o t=false then 22 else 0:=rfl
   rw[J,aD R,h3,aC (λk=>k (b0 o (by simp)))];rfl
  obtain⟨o,T⟩:=oX ar[0];rw[<-T] at b3 p a6;clear T J;obtain⟨z,hz⟩:=oX (nW b o t);rw[<-hz] at p a6;clear hz;simp only[db] at b3 p;refine tq (cw c f9 I q6 k0) ?_;intro U Y O C;(try refine bW ?_);refine dE (λ_ _ d A=>A=.none/\d=.val (.bool z)) λU Y=>?_;refine dst (eP B v c b3 I hl) ?_;intro U Y O C;refine⟨p,?_⟩;refine nx ?_;cases z
  ·have e:y=22:=a6
   exact oz W trivial N e
  ·have e:y=0:=a6
   exact oz W trivial N e
 have k0:(k=0)=False:=aI R;rw[aC R] at J;clear p V a9 ye ad;obtain⟨x,b7⟩:∃x:Int×Int,x=if k=2 then VF j else HA j:=⟨_,rfl⟩
 have a6:y=if k=4 then 0 else if (ar.all λo=>decide (tc b o=x.1))=false then 22 else if u.k≠x.2 then 22 else 0:=by
  by_cases a:k=4
  ·rw[aD a,J,aC (by omega),aC (by omega),aC (by omega),<-a4 a,b6]
  rw[aC a,b7];by_cases g:k=2
  ·rw[aD g,J,aD g,aC (by omega),aC (λh=>h aw)]
  ·rw[aC g,J,aC g,aD (by omega),aC (by omega),aC (λh=>h aw)]
 clear J b6 a4 aw;(iterate 15 (refine tk (cw c f9 I q6 k0) ?_;intro U Y O C));refine nR (λs=>A1 b k j rg mu pl ar t u.k H s/\s.fr 11=i64 (if k=2/\j=1 then 1 else 2)/\s.fr 12=i64 (if k=2/\j=1 then 1 else 2)) ?_ ?_
 ·by_cases g:k=2
  ·have k2:(k=2)=True:=aG g
   by_cases D:j=1
   ·have L:(j=1)=True:=aG D
    refine tn (bQ c k2 L) ?_;exact⟨⟨m,B,v,c,w,P⟩,by rw[aD ⟨g,D⟩] <;> rfl,by rw[aD ⟨g,D⟩] <;> rfl⟩
   ·have L:(j=1)=False:=aI D
    refine tn (bQ c k2 L) ?_;exact⟨⟨m,B,v,c,w,P⟩,by rw[aC (λh=>D h.2)] <;> rfl,by rw[aC (λh=>D h.2)] <;> rfl⟩
  ·have k2:(k=2)=False:=aI g
   refine tn (av c k2) ?_;exact⟨⟨m,B,v,c,w,P⟩,by rw[aC (λh=>g h.1)] <;> rfl,by rw[aC (λh=>g h.1)] <;> rfl⟩
 clear B v c w f9 P m N;rintro s1 ⟨⟨m,B,v,c,w,P⟩,n,l⟩;refine bW ?_;refine nR (λs=>A1 b k j rg mu pl ar t u.k H s/\s.fr 11=i64 (if k=2/\j=1 then 1 else 2)/\s.fr 12=i64 (if (k=2/\j=1)\/(k=3/\3<=j) then 1 else 2)) ?_ ?_
 ·by_cases M:k=3
  ·have k3:(k=3)=True:=aG M
   by_cases D:3<=j
   ·have L:(j≥3)=True:=aG D
    refine tn (bQ c k3 L) ?_;exact⟨⟨m,B,v,c,w,P⟩,n,by rw[aD (.inr ⟨M,D⟩)] <;> rfl⟩
   ·have L:(j≥3)=False:=aI D
    refine tn (bQ c k3 L) ?_;exact⟨⟨m,B,v,c,w,P⟩,n,by rw[aC (by omega)] at l ⊢;exact l⟩
  ·have k3:(k=3)=False:=aI M
   refine tq (av c k3) ?_;intro U Y O C;refine⟨⟨m,B,v,c,w,P⟩,n,?_⟩;by_cases h5:k=2/\j=1
   ·rw[aD h5] at l;rw[aD (.inl h5)];exact l
   ·rw[aC h5] at l;rw[aC (by omega)];exact l
 clear B v c w n l P m;rintro s2 ⟨⟨m,B,v,c,w,P⟩,n,l⟩;refine bW ?_;refine nR (λs=>A1 b k j rg mu pl ar t u.k H s/\s.fr 11=i64 (if (k=2/\j=1)\/(k=3/\j=5) then 1 else 2)/\s.fr 12=i64 (if (k=2/\j=1)\/(k=3/\3<=j) then 1 else 2)) ?_ ?_
 ·by_cases M:k=3
  ·have k3:(k=3)=True:=aG M
   by_cases D:j=5
   ·have L:(j=5)=True:=aG D
    refine tn (bQ c k3 L) ?_;exact⟨⟨m,B,v,c,w,P⟩,by rw[aD (.inr ⟨M,D⟩)] <;> rfl,l⟩
   ·have L:(j=5)=False:=aI D
    refine tn (bQ c k3 L) ?_;exact⟨⟨m,B,v,c,w,P⟩,by rw[aC (by omega)] at n ⊢;exact n,l⟩
  ·have k3:(k=3)=False:=aI M
   refine tq (av c k3) ?_;intro U Y O C;refine⟨⟨m,B,v,c,w,P⟩,?_,l⟩;by_cases h5:k=2/\j=1
   ·rw[aD h5] at n;rw[aD (.inl h5)];exact n
   ·rw[aC h5] at n;rw[aC (by omega)];exact n
 clear B v c w n l P m;rintro s3 ⟨⟨m,B,v,c,w,P⟩,n,l⟩;have al:k≠4->(if (k=2/\j=1)\/(k=3/\j=5) then (1:Int) else 2)=x.1/\(if (k=2/\j=1)\/(k=3/\3<=j) then (1:Int) else 2)=x.2:=λa=>by
  rw[b7];by_cases g:k=2
  ·rw[aD g]
   have T:j=0\/j=1:=by omega
   rcases T with rfl|rfl
   ·simp [g,VF]
   ·simp [g,VF]
  ·have M:k=3:=by omega
   rw[aC g];rcases Yj (x:=j) (by omega) (by omega) with rfl|rfl|rfl|rfl|rfl|rfl <;> simp [M,HA]
 obtain⟨x1,bb⟩:∃x1:Int,x1=if (k=2/\j=1)\/(k=3/\j=5) then (1:Int) else 2:=⟨_,rfl⟩
 obtain⟨x2,bc⟩:∃x2:Int,x2=if (k=2/\j=1)\/(k=3/\3<=j) then (1:Int) else 2:=⟨_,rfl⟩
 rw[<-bb] at n al;rw[<-bc] at l al;have a7:y=if k=4 then 0 else if (ar.all λo=>decide (tc b o=x1))=false then 22 else if u.k≠x2 then 22 else 0:=by
  rw[a6];by_cases a:k=4
  ·rw[aD a,aD a]
  ·rw[aC a,aC a,(al a).1,(al a).2]
 clear al bb bc a6 b7;refine tz ?_;refine aO ar.length (λi s=>A1 b k j rg mu pl ar t u.k H s/\s.fr 11=i64 x1/\s.fr 12=i64 x2/\s.fr 13=i64 i/\(ar.all λo=>decide (tc b o=x1))=((ar.drop i).all λo=>decide (tc b o=x1))) ⟨⟨m,B,v,c,w,P⟩,n,l,rfl,rfl⟩ ?_;clear B v c w n l P m;clear hi hx ac q6 G;rintro i s hi ⟨⟨m,B,v,c,w,P⟩,n,l,a2,F⟩;have hx:=aX i;have ac:=aZ i;have N:H.le s.H:=by rw[P];exact aF _
 by_cases a:k=4
 ·have k4:(k=4)=True:=aG a
  have e:y=0:=by rw[a7,aD a]
  by_cases G:i<ar.length
  ·have q6:=lT i ar.length
   exact oz W (ej c w l a2 I q6 k4) N e
  ·have q6:=lF i ar.length
   exact oz W (ej c w l a2 I q6 k4) N e
 have k4:(k=4)=False:=aI a;rw[aC a] at a7;by_cases G:i<ar.length
 case neg=>
  have q6:=lF i ar.length;rw[cb (by omega),lh] at F;rw[F,aC (λh=>by cases h)] at a7;by_cases D:u.k=x2
  ·have L:(u.k=x2)=True:=aG D
   have e:y=0:=a7.trans (aC (λh=>h D));exact oz W (bG c w l a2 I q6 k4 L) N e
  ·have L:(u.k=x2)=False:=aI D
   have e:y=22:=a7.trans (aD D);exact oz W (bG c w l a2 I q6 k4 L) N e
 have a8:(i:Int)<(ar.length:Int):=by omega
 have q6:((i:Int)<(ar.length:Int))=True:=aG a8;have w3:=wS i;have a0:=sQ G;have a1:=ao G;rw[cL G,jQ] at F;have Z:=Z _ a1 x1 (b0 _ a1) s.H;obtain⟨o,T⟩:=oX ar[i];rw[<-T] at a0 F Z;clear T a1;obtain⟨z,hz⟩:=oX (decide (tc b o=x1));rw[<-hz] at F Z;clear hz;simp only[db] at a0 Z;refine tq (cw c a2 I q6 k4) ?_;intro U Y O C;(try refine bW ?_);refine dE (λ_ _ d A=>A=.none/\d=.val (.bool z)) λU Y=>?_;refine dst (bG v c n a2 a0 hx ac (bQ G a8 I)) ?_;intro U Y O C;refine⟨Z,?_⟩;refine nx ?_;cases z
 ·rw[dq] at F
  rw[F,aD rfl] at a7;have e:=a7;exact oz W trivial N e
 ·rw[cV] at F
  refine tn (av a2 w3) ?_;exact⟨G,⟨m,B,v,c,w,P⟩,n,l,rfl,F⟩
theorem RW (s:qO):FB s=(dU s.pl&&HC s.rv):=by
 unfold FB HC;have h:∀z a b c d e f:Bool,(z&&(a&&b&&c&&d&&e&&f))=(z&&(a&&(b&&(d&&(e&&(f&&c)))))):=by decide
 exact h _ _ _ _ _ _ _
theorem S8 (b:bn) (s:qO) (H:aA) (ck:Ck b) (hp:PH s):aN prog 52 [.agg (cu b),.agg (ji s)] H λd H'=>d=i64 (yY b s)/\H=H':=by
 refine aq (K:=λd=>d=i64 (yY b s)) ?_;have f:=aF H;have u:=xH b s.pl H ck hp.1;have p:=Dt b s.pl H ck hp.1;have r:=vb s.pl H hp.1;have l:=OV s.rv H hp.2;have has:=λt h=>Lc b s.rv t H ck hp.2 h (CO ck.wt h);have x:(mB b s.pl).2=0->bN b.ty.length (mB b s.pl).1:=λh=>xV ck h;have z:=lm eQ b.lc;obtain⟨y,a⟩:=oX (yY b s);rw[<-a];unfold yY qy at a;rw[RW] at a;obtain⟨Z,M⟩:=oX (dU s.pl);rw[<-M] at r a;obtain⟨G,I⟩:=oX (HC s.rv);rw[<-I] at l a;obtain⟨T,L⟩:=oX (mB b s.pl);rw[<-L] at u x a;obtain⟨N,J⟩:=oX (ml b.ty b.lc s.pl);rw[<-J] at p a;clear M I L J;rw[jB] at u p has ⊢;obtain⟨k,W,P,j⟩:=s;simp only at a has l;simp only[uo] at has l;simp only[ee] at u p r;simp only[ji];refine dO func52 ntmps52 results52 λX V Q c=>?_;refine t0 ?_;intro U Y O C;intro R D S E;refine Y _ ?_;refine uB 2 3 D E ?_;by_cases A:k=0
 ·have w:(k=0)=True:=aG A
  rw[aD A] at a;by_cases g:j=0
  case neg=>
   have i:(j=0)=False:=aI g;have e:y=2:=a.trans (aD g);exact oz c (av w i) f e
  have i:(j=0)=True:=aG g;rw[aC (λh=>h g)] at a;refine tq (av w i) ?_;intro U Y O C;refine u.q ?_;by_cases m:T.2=0
  case neg=>
   have v:(T.2=0)=False:=aI m;have e:y=T.2:=by rw[a,aD m,aD m]
   exact oz c v f e
  have v:(T.2=0)=True:=aG m;rw[aC (λh=>h m:¬(T.2≠0))] at a;refine tq v ?_;intro U Y O C;refine p.q ?_;cases N
  ·have e:y=22:=by rw[a];rfl
   exact oz c trivial f e
  have e:y=Cd b P T.1:=by rw[a];rfl
  refine t0 ?_;intro U Y O C;refine(has T.1 (x m)).q ?_;exact oz c i f e
 have w:(k=0)=False:=aI A;rw[aC A] at a;by_cases n:k=1
 ·have B:(k=1)=True:=aG n
  rw[aD n] at a;refine tq (av w B) ?_;intro U Y O C;refine r.q ?_;cases Z
  ·have e:y=2:=a
   exact oz c trivial f e
  rw[cV] at a;refine t0 ?_;intro U Y O C;refine l.q ?_;cases G
  ·have e:y=2:=a
   exact oz c trivial f e
  rw[aC (λh=>by cases h)] at a;by_cases g:j<0
  ·have i:(j<0)=True:=aG g
   have e:y=3:=a.trans (aD (.inl g));exact oz c i f e
  have i:(j<0)=False:=aI g;by_cases m:(b.lc.length:Int)<=j
  ·have v:(j≥(b.lc.length:Int))=True:=aG m
   have e:y=3:=a.trans (aD (.inr m));exact oz c (bQ i v z) f e
  have v:(j≥(b.lc.length:Int))=False:=aI m;have e:y=0:=a.trans (aC (by omega));exact oz c (bQ i v z) f e
 have B:(k=1)=False:=aI n;rw[aC n] at a;by_cases o:k=2
 ·have F:(k=2)=True:=aG o
  rw[aD o] at a;refine tq (bQ w B F) ?_;intro U Y O C;refine r.q ?_;cases Z
  ·have e:y=2:=a
   exact oz c trivial f e
  rw[cV] at a;refine t0 ?_;intro U Y O C;refine l.q ?_;cases G
  ·have e:y=2:=a
   exact oz c trivial f e
  by_cases g:j=0
  ·have i:(j=0)=True:=aG g
   have e:y=0:=a.trans (aC (by rintro(h|h);cases h;exact h g));exact oz c i f e
  ·have i:(j=0)=False:=aI g
   have e:y=2:=a.trans (aD (.inr g));exact oz c i f e
 have F:(k=2)=False:=aI o;rw[aC o] at a;have e:y=14:=a;exact oz c (bQ w B F) f e
def T1 (b:bn) (k:Int) (c:List Int) (ar:List gq) (a:gR) (nm:ByteArray) (H:aA) (s:St):Prop:=s.df=[]/\s.fr 2=.rp [bC b.nm,.seq 1 (b.rg.map sD),.seq 2 (b.ol.map pD),.seq 5 (b.ty.map bS),.seq 2 (b.lc.map eQ),i64 b.ag,.seq 7 (b.bl.map dM)]/\s.fr 3=.rp [i64 k,.seq 1 (c.map iD),.seq 4 (ar.map db),i64 a.lo,.seq 2 (a.pr.map pD),bC nm]/\s.fr 6=.val (.bool (decide (k=3)))/\s.H=H
noncomputable def tmR (b:bn) (k:Int) (c:List Int) (ar:List gq) (a:gR) (nm:ByteArray) (o:gq):Int:=
 if (c.all λx=>decide (bN b.bl.length x))=false then 3
 else if k=1 then (if kx b o≠0 then kx b o else if tc b o≠1 then 22 else 0)
 else if k=3 then (if eY nm=false then 12 else if 65535<ar.length then 15 else if eM b ar []≠0 then eM b ar [] else qy b a)
 else if k=4 then (if (mB b a).2≠0 then (mB b a).2 else if pC a 0=true then 22 else 0)
 else 0
theorem Rz {t:ra}(h:nX t=true) (h1:t.k≠1) (h3:t.k≠3):t.ar.length=0:=by
 unfold nX at h;by_cases a:t.k=0
 ·rw[aD a] at h
  simp only[cX,dF] at h;exact h.1.1.2
 rw[aC a,aC h1,aC h3] at h;by_cases b:t.k=4
 ·rw[aD b] at h
  simp only[cX,dF] at h;exact h.1.2
 ·rw[aC b] at h
  simp only[cX,dF] at h;exact h.1.1.2
theorem S9 (b:bn) (t:ra) (H:aA) (ck:Ck b) (hp:Ht t) (bf:cH t.nm.size):aN prog 53 [.agg (cu b),.agg (G2 t)] H λd H'=>d=i64 (tw b t)/\H=H':=by
 refine aq (K:=λd=>d=i64 (tw b t)) ?_;have P:=aF H;have W:∀o∈t.ar,∀H1,cP prog 115 [.agg (cu b),.agg (db o)] H1 λd A=>A=aA.none/\d=i64 (kx b o):=λo ho H1=>an λa9 ap=>AU b o a9 ck (hp.2.1.2 o ho);have S:∀o∈t.ar,kx b o=0->∀H1,cP prog 116 [.agg (cu b),.agg (db o),i64 1] H1 λd A=>A=aA.none/\d=.val (.bool (decide (tc b o=1))):=λo ho hz H1=>an λa9 ap=>AR b o 1 a9 ck (hp.2.1.2 o ho) hz;have B:∀H1,cP prog 113 [.agg (ee t.pl)] H1 λd A=>A=aA.none/\d=.val (.bool (dU t.pl)):=λH1=>an λa9 ap=>vb t.pl a9 hp.2.2;have ab:=va t.nm H bf;have a8:=xH b t.pl H ck hp.2.2;have a7:=Dt b t.pl H ck hp.2.2;have aa:=Fb t.pl H hp.2.2;have f:=lm iD t.tg;have j:=lm db t.ar;have b5:=lm dM b.bl;have b7:=hp.1;have b4:=hp.2.1.1;have b9:=ck.YS;unfold cH at b7 b4 b9;have a2:nX t=true->t.k=1->t.ar.length=1:=Nu;have a6:nX t=true->t.k≠1->t.k≠3->t.ar.length=0:=Rz;obtain⟨y,hy⟩:=oX (tw b t);rw[<-hy];have a:y=if t.k<0\/5<t.k then 14 else if nX t=false then 2 else tmR b t.k t.tg t.ar t.pl t.nm (BS t):=hy
 clear hy;have ag:t.ar.length=1->[BS t]=t.ar:=λh=>by
  obtain⟨o,ho⟩:=zA.1 h;unfold BS;rw[ho];rfl
 obtain⟨a3,hO⟩:=oX (BS t);rw[<-hO] at a ag;clear hO;rw[jB] at W S a8 a7 ⊢;have c:=JD t;unfold yS at c;obtain⟨F,hF⟩:=oX (nX t);rw[<-hF] at c a a2 a6;clear hF hp;obtain⟨Z,hZ⟩:=oX (dU t.pl);rw[<-hZ] at B c;clear hZ;obtain⟨k,z,n,pl,nm⟩:=t;simp only at a f j b7 b4 a2 a6 W S ag c ab;simp only[ee] at a8 a7 aa B;simp only[db] at W S;simp only[G2];obtain⟨R,hR⟩:=oX (tmR b k z n pl nm a3);rw[<-hR] at a;refine dO func53 ntmps53 results53 λw0 g0 Q u=>?_;refine t0 ?_;intro U Y O C;intro c2 ba c3 bb;refine Y _ ?_;refine uB 2 3 ba bb ?_;by_cases h1:k<0
 ·have q1:(k<0)=True:=aG h1
  have e:y=14:=a.trans (aD (.inl h1));exact oz u q1 P e
 have q1:(k<0)=False:=aI h1;by_cases h2:5<k
 ·have q2:(5<k)=True:=aG h2
  have e:y=14:=a.trans (aD (.inr h2));exact oz u (av q1 q2) P e
 have q2:(5<k)=False:=aI h2;rw[aC (by omega)] at a;refine tq (av q1 q2) ?_;intro U Y O C;intro c5 bc;refine Y _ ?_;refine cm 5 bc ?_;(iterate 3 (refine tk trivial ?_;intro U Y O C));refine rl (λs=>T1 b k z n pl nm H s/\F=true) ?_ ?_
 ·have hk:k=0\/k=1\/k=2\/k=3\/k=4\/k=5:=by omega
  rcases hk with hk|hk|hk|hk|hk|hk
  ·
   by_cases E:(z.length:Int)=1
   case neg=>
    have l:((z.length:Int)=1)=False:=aI E;have g:F=false:=by rw[c,aD hk,af E];try rfl
    have e:y=2:=by rw[a,g,aD rfl]
    refine bW ?_;refine dE (λ_ _ _ _=>False) λU Y=>?_;refine dst (bQ hk f l) ?_;intro U Y O C;refine t0 ?_;intro U Y O C;refine⟨by simp,?_⟩;refine rt u trivial ?_;exact zf P (by rw[e])
   have l:((z.length:Int)=1)=True:=aG E;rw[aD hk,ah E] at c;by_cases N:nm=ByteArray.empty
   case neg=>
    have q:(nm.toList=(ByteArray.mk #[]).toList)=False:=aI (λh=>N (eA.1 h));have g:F=false:=by rw[c,af N,fq]
    have e:y=2:=by rw[a,g,aD rfl]
    refine bW ?_;refine dE (λ_ _ _ _=>False) λU Y=>?_;refine dst (cw hk f l @bC.eq_1 q) ?_;intro U Y O C;refine t0 ?_;intro U Y O C;refine⟨by simp,?_⟩;refine rt u trivial ?_;exact zf P (by rw[e])
   have q:(nm.toList=(ByteArray.mk #[]).toList)=True:=aG (eA.2 N);rw[ah N,fu] at c;cases Z
   case false=>
    have g:F=false:=by rw[c,fq]
    have e:y=2:=by rw[a,g,aD rfl]
    refine bW ?_;refine dE (λ_ _ d A=>A=.none/\d=.val (.bool false)) λU Y=>?_;refine dst (eP hk f l @bC.eq_1 q j) ?_;intro U Y O C;refine⟨B _,?_⟩;(first|refine C _ ?_|skip);(first|refine dst (eP hk f l @bC.eq_1 q j) ?_;intro U Y O C|skip);refine t0 ?_;intro U Y O C;refine⟨by simp,?_⟩;refine rt u trivial ?_;exact zf P (by rw[e])
   rw[fu] at c;by_cases w:(n.length:Int)=0
   case neg=>
    have L:=nT ((0:Int)<(n.length:Int));have g:F=false:=by rw[c,af w];rfl
    have e:y=2:=by rw[a,g,aD rfl]
    refine bW ?_;refine dE (λ_ _ d A=>A=.none/\d=.val (.bool true)) λU Y=>?_;refine dst (ej hk f l @bC.eq_1 q j L) ?_;intro U Y O C;refine⟨B _,?_⟩;(first|refine C _ ?_|skip);(first|refine dst (ej hk f l @bC.eq_1 q j L) ?_;intro U Y O C|skip);refine t0 ?_;intro U Y O C;refine⟨by simp,?_⟩;refine rt u trivial ?_;exact zf P (by rw[e])
   have L:=nF ((0:Int)<(n.length:Int));refine bW ?_;refine dE (λ_ _ d A=>A=.none/\d=.val (.bool true)) λU Y=>?_;refine dst (ej hk f l @bC.eq_1 q j L) ?_;intro U Y O C;refine⟨B _,?_⟩;(first|refine C _ ?_|skip);(first|refine dst (ej hk f l @bC.eq_1 q j L) ?_;intro U Y O C|skip);refine tz ?_;exact⟨⟨rfl,rfl,by subst hk;rfl,by subst hk;rfl,rfl⟩,by rw[c,ah w];try rfl⟩
  ·
   by_cases E:(z.length:Int)=2
   case neg=>
    have l:((z.length:Int)=2)=False:=aI E;have g:F=false:=by rw[c,aC (by omega),aD hk,af E];try rfl
    have e:y=2:=by rw[a,g,aD rfl]
    refine bW ?_;refine dE (λ_ _ _ _=>False) λU Y=>?_;refine dst (bQ hk f l) ?_;intro U Y O C;refine t0 ?_;intro U Y O C;refine⟨by simp,?_⟩;refine rt u trivial ?_;exact zf P (by rw[e])
   have l:((z.length:Int)=2)=True:=aG E;rw[aC (by omega),aD hk,ah E] at c;by_cases N:nm=ByteArray.empty
   case neg=>
    have q:(nm.toList=(ByteArray.mk #[]).toList)=False:=aI (λh=>N (eA.1 h));have g:F=false:=by rw[c,af N,fq]
    have e:y=2:=by rw[a,g,aD rfl]
    refine bW ?_;refine dE (λ_ _ _ _=>False) λU Y=>?_;refine dst (cw hk f l @bC.eq_1 q) ?_;intro U Y O C;refine t0 ?_;intro U Y O C;refine⟨by simp,?_⟩;refine rt u trivial ?_;exact zf P (by rw[e])
   have q:(nm.toList=(ByteArray.mk #[]).toList)=True:=aG (eA.2 N);rw[ah N,fu] at c;cases Z
   case false=>
    have g:F=false:=by rw[c,fq]
    have e:y=2:=by rw[a,g,aD rfl]
    refine bW ?_;refine dE (λ_ _ d A=>A=.none/\d=.val (.bool false)) λU Y=>?_;refine dst (eP hk f l @bC.eq_1 q j) ?_;intro U Y O C;refine⟨B _,?_⟩;(first|refine C _ ?_|skip);(first|refine dst (eP hk f l @bC.eq_1 q j) ?_;intro U Y O C|skip);refine t0 ?_;intro U Y O C;refine⟨by simp,?_⟩;refine rt u trivial ?_;exact zf P (by rw[e])
   rw[fu] at c;by_cases w:(n.length:Int)=1
   case neg=>
    have L:=nF ((n.length:Int)=1);have g:F=false:=by rw[c,af w];rfl
    have e:y=2:=by rw[a,g,aD rfl]
    refine bW ?_;refine dE (λ_ _ d A=>A=.none/\d=.val (.bool true)) λU Y=>?_;refine dst (ej hk f l @bC.eq_1 q j L) ?_;intro U Y O C;refine⟨B _,?_⟩;(first|refine C _ ?_|skip);(first|refine dst (ej hk f l @bC.eq_1 q j L) ?_;intro U Y O C|skip);refine t0 ?_;intro U Y O C;refine⟨by simp,?_⟩;refine rt u trivial ?_;exact zf P (by rw[e])
   have L:=nT ((n.length:Int)=1);refine bW ?_;refine dE (λ_ _ d A=>A=.none/\d=.val (.bool true)) λU Y=>?_;refine dst (ej hk f l @bC.eq_1 q j L) ?_;intro U Y O C;refine⟨B _,?_⟩;(first|refine C _ ?_|skip);(first|refine dst (ej hk f l @bC.eq_1 q j L) ?_;intro U Y O C|skip);refine tz ?_;exact⟨⟨rfl,rfl,by subst hk;rfl,by subst hk;rfl,rfl⟩,by rw[c,ah w];try rfl⟩
  ·
   by_cases E:(z.length:Int)=0
   case neg=>
    have l:((z.length:Int)=0)=False:=aI E;have g:F=false:=by rw[c,aC (by omega),aC (by omega),aC (by omega),aC (by omega),af E];try rfl
    have e:y=2:=by rw[a,g,aD rfl]
    refine bW ?_;refine dE (λ_ _ _ _=>False) λU Y=>?_;refine dst (bQ hk f l) ?_;intro U Y O C;refine t0 ?_;intro U Y O C;refine⟨by simp,?_⟩;refine rt u trivial ?_;exact zf P (by rw[e])
   have l:((z.length:Int)=0)=True:=aG E;rw[aC (by omega),aC (by omega),aC (by omega),aC (by omega),ah E] at c;by_cases N:nm=ByteArray.empty
   case neg=>
    have q:(nm.toList=(ByteArray.mk #[]).toList)=False:=aI (λh=>N (eA.1 h));have g:F=false:=by rw[c,af N,fq]
    have e:y=2:=by rw[a,g,aD rfl]
    refine bW ?_;refine dE (λ_ _ _ _=>False) λU Y=>?_;refine dst (cw hk f l @bC.eq_1 q) ?_;intro U Y O C;refine t0 ?_;intro U Y O C;refine⟨by simp,?_⟩;refine rt u trivial ?_;exact zf P (by rw[e])
   have q:(nm.toList=(ByteArray.mk #[]).toList)=True:=aG (eA.2 N);rw[ah N,fu] at c;cases Z
   case false=>
    have g:F=false:=by rw[c,fq]
    have e:y=2:=by rw[a,g,aD rfl]
    refine bW ?_;refine dE (λ_ _ d A=>A=.none/\d=.val (.bool false)) λU Y=>?_;refine dst (eP hk f l @bC.eq_1 q j) ?_;intro U Y O C;refine⟨B _,?_⟩;(first|refine C _ ?_|skip);(first|refine dst (eP hk f l @bC.eq_1 q j) ?_;intro U Y O C|skip);refine t0 ?_;intro U Y O C;refine⟨by simp,?_⟩;refine rt u trivial ?_;exact zf P (by rw[e])
   rw[fu] at c;by_cases w:(n.length:Int)=0
   case neg=>
    have L:=nT ((0:Int)<(n.length:Int));have g:F=false:=by rw[c,af w];rfl
    have e:y=2:=by rw[a,g,aD rfl]
    refine bW ?_;refine dE (λ_ _ d A=>A=.none/\d=.val (.bool true)) λU Y=>?_;refine dst (ej hk f l @bC.eq_1 q j L) ?_;intro U Y O C;refine⟨B _,?_⟩;(first|refine C _ ?_|skip);(first|refine dst (ej hk f l @bC.eq_1 q j L) ?_;intro U Y O C|skip);refine t0 ?_;intro U Y O C;refine⟨by simp,?_⟩;refine rt u trivial ?_;exact zf P (by rw[e])
   have L:=nF ((0:Int)<(n.length:Int));refine bW ?_;refine dE (λ_ _ d A=>A=.none/\d=.val (.bool true)) λU Y=>?_;refine dst (ej hk f l @bC.eq_1 q j L) ?_;intro U Y O C;refine⟨B _,?_⟩;(first|refine C _ ?_|skip);(first|refine dst (ej hk f l @bC.eq_1 q j L) ?_;intro U Y O C|skip);refine tz ?_;exact⟨⟨rfl,rfl,by subst hk;rfl,by subst hk;rfl,rfl⟩,by rw[c,ah w];try rfl⟩
  ·
   by_cases E:(z.length:Int)=1
   case neg=>
    have l:((z.length:Int)=1)=False:=aI E;have g:F=false:=by rw[c,aC (by omega),aC (by omega),aD hk,af E];try rfl
    have e:y=2:=by rw[a,g,aD rfl]
    refine bW ?_;refine dE (λ_ _ _ _=>False) λU Y=>?_;refine dst (bQ hk f l) ?_;intro U Y O C;refine t0 ?_;intro U Y O C;refine⟨by simp,?_⟩;refine rt u trivial ?_;exact zf P (by rw[e])
   have l:((z.length:Int)=1)=True:=aG E;rw[aC (by omega),aC (by omega),aD hk,ah E] at c;refine bW ?_;refine dE (λ_ _ _ _=>False) λU Y=>?_;refine dst (bQ hk f l) ?_;intro U Y O C;refine tz ?_;exact⟨⟨rfl,rfl,by subst hk;rfl,by subst hk;rfl,rfl⟩,c⟩
  ·
   by_cases E:(z.length:Int)=1
   case neg=>
    have l:((z.length:Int)=1)=False:=aI E;have g:F=false:=by rw[c,aC (by omega),aC (by omega),aC (by omega),aD hk,af E];try rfl
    have e:y=2:=by rw[a,g,aD rfl]
    refine bW ?_;refine dE (λ_ _ _ _=>False) λU Y=>?_;refine dst (bQ hk f l) ?_;intro U Y O C;refine t0 ?_;intro U Y O C;refine⟨by simp,?_⟩;refine rt u trivial ?_;exact zf P (by rw[e])
   have l:((z.length:Int)=1)=True:=aG E;rw[aC (by omega),aC (by omega),aC (by omega),aD hk,ah E] at c;by_cases N:nm=ByteArray.empty
   case neg=>
    have q:(nm.toList=(ByteArray.mk #[]).toList)=False:=aI (λh=>N (eA.1 h));have g:F=false:=by rw[c,af N,fq]
    have e:y=2:=by rw[a,g,aD rfl]
    refine bW ?_;refine dE (λ_ _ _ _=>False) λU Y=>?_;refine dst (cw hk f l @bC.eq_1 q) ?_;intro U Y O C;refine t0 ?_;intro U Y O C;refine⟨by simp,?_⟩;refine rt u trivial ?_;exact zf P (by rw[e])
   have q:(nm.toList=(ByteArray.mk #[]).toList)=True:=aG (eA.2 N);rw[ah N,fu] at c;by_cases w:(n.length:Int)=0
   case neg=>
    have L:=nT ((0:Int)<(n.length:Int));have g:F=false:=by rw[c,af w];rfl
    have e:y=2:=by rw[a,g,aD rfl]
    refine bW ?_;refine dE (λ_ _ _ _=>False) λU Y=>?_;refine dst (ej hk f l @bC.eq_1 q j L) ?_;intro U Y O C;refine t0 ?_;intro U Y O C;refine⟨by simp,?_⟩;refine rt u trivial ?_;exact zf P (by rw[e])
   have L:=nF ((0:Int)<(n.length:Int));refine bW ?_;refine dE (λ_ _ _ _=>False) λU Y=>?_;refine dst (ej hk f l @bC.eq_1 q j L) ?_;intro U Y O C;refine tz ?_;exact⟨⟨rfl,rfl,by subst hk;rfl,by subst hk;rfl,rfl⟩,by rw[c,ah w];try rfl⟩
  ·
   by_cases E:(z.length:Int)=0
   case neg=>
    have l:((z.length:Int)=0)=False:=aI E;have g:F=false:=by rw[c,aC (by omega),aC (by omega),aC (by omega),aC (by omega),af E];try rfl
    have e:y=2:=by rw[a,g,aD rfl]
    refine bW ?_;refine dE (λ_ _ _ _=>False) λU Y=>?_;refine dst (bQ hk f l) ?_;intro U Y O C;refine t0 ?_;intro U Y O C;refine⟨by simp,?_⟩;refine rt u trivial ?_;exact zf P (by rw[e])
   have l:((z.length:Int)=0)=True:=aG E;rw[aC (by omega),aC (by omega),aC (by omega),aC (by omega),ah E] at c;by_cases N:nm=ByteArray.empty
   case neg=>
    have q:(nm.toList=(ByteArray.mk #[]).toList)=False:=aI (λh=>N (eA.1 h));have g:F=false:=by rw[c,af N,fq]
    have e:y=2:=by rw[a,g,aD rfl]
    refine bW ?_;refine dE (λ_ _ _ _=>False) λU Y=>?_;refine dst (cw hk f l @bC.eq_1 q) ?_;intro U Y O C;refine t0 ?_;intro U Y O C;refine⟨by simp,?_⟩;refine rt u trivial ?_;exact zf P (by rw[e])
   have q:(nm.toList=(ByteArray.mk #[]).toList)=True:=aG (eA.2 N);rw[ah N,fu] at c;cases Z
   case false=>
    have g:F=false:=by rw[c,fq]
    have e:y=2:=by rw[a,g,aD rfl]
    refine bW ?_;refine dE (λ_ _ d A=>A=.none/\d=.val (.bool false)) λU Y=>?_;refine dst (eP hk f l @bC.eq_1 q j) ?_;intro U Y O C;refine⟨B _,?_⟩;(first|refine C _ ?_|skip);(first|refine dst (eP hk f l @bC.eq_1 q j) ?_;intro U Y O C|skip);refine t0 ?_;intro U Y O C;refine⟨by simp,?_⟩;refine rt u trivial ?_;exact zf P (by rw[e])
   rw[fu] at c;by_cases w:(n.length:Int)=0
   case neg=>
    have L:=nT ((0:Int)<(n.length:Int));have g:F=false:=by rw[c,af w];rfl
    have e:y=2:=by rw[a,g,aD rfl]
    refine bW ?_;refine dE (λ_ _ d A=>A=.none/\d=.val (.bool true)) λU Y=>?_;refine dst (ej hk f l @bC.eq_1 q j L) ?_;intro U Y O C;refine⟨B _,?_⟩;(first|refine C _ ?_|skip);(first|refine dst (ej hk f l @bC.eq_1 q j L) ?_;intro U Y O C|skip);refine t0 ?_;intro U Y O C;refine⟨by simp,?_⟩;refine rt u trivial ?_;exact zf P (by rw[e])
   have L:=nF ((0:Int)<(n.length:Int));refine bW ?_;refine dE (λ_ _ d A=>A=.none/\d=.val (.bool true)) λU Y=>?_;refine dst (ej hk f l @bC.eq_1 q j L) ?_;intro U Y O C;refine⟨B _,?_⟩;(first|refine C _ ?_|skip);(first|refine dst (ej hk f l @bC.eq_1 q j L) ?_;intro U Y O C|skip);refine tz ?_;exact⟨⟨rfl,rfl,by subst hk;rfl,by subst hk;rfl,rfl⟩,by rw[c,ah w];try rfl⟩
 rintro s1 ⟨⟨b2,G,p,M,b3⟩,hF⟩;rw[hF,aC (λh=>by cases h)] at a;have a2:=a2 hF;have a6:=a6 hF;clear c B;rw[hR] at a;unfold tmR at a;refine tz ?_;refine aO z.length (λi s=>T1 b k z n pl nm H s/\s.fr 7=i64 i/\(z.all λx=>decide (bN b.bl.length x))=((z.drop i).all λx=>decide (bN b.bl.length x))) ⟨⟨b2,G,p,M,b3⟩,rfl,rfl⟩ ?_;clear G p M b3 b2;rintro i s hi ⟨⟨D,G,p,M,X⟩,f7,w⟩;have hx:=aX i;have a4:=aZ i;have m:H.le s.H:=by rw[X];exact aF _
 by_cases J:i<z.length
 case pos=>
  have a1:(i:Int)<(z.length:Int):=by omega
  have q6:((i:Int)<(z.length:Int))=True:=aG a1;have w3:=wS i;have a0:=bT J;rw[cL J,jQ] at w;obtain⟨v,hv⟩:=oX z[i];rw[<-hv] at a0 w;have b1:¬bN b.bl.length v->y=3:=λh=>by rw[af h,dq] at w;rw[a,w];rfl
  refine tq (cA p f7 f q6) ?_;intro U Y O C;(try refine bW ?_);by_cases h3:v<0
  ·have l:(v<0)=True:=aG h3
   have e:=b1 (by unfold bN;omega);refine dE (λ_ _ _ _=>False) λU Y=>?_;refine dst (bG G p f7 f a0 hx a4 (bQ J a1 l)) ?_;intro U Y O C;exact oz u trivial m e
  have l:(v<0)=False:=aI h3;by_cases h4:(b.bl.length:Int)<=v
  ·have q4:(v≥(b.bl.length:Int))=True:=aG h4
   have e:=b1 (by unfold bN;omega);refine dE (λ_ _ _ _=>False) λU Y=>?_;refine dst (bG G p f7 f b5 a0 hx (cw a4 J a1 l q4)) ?_;intro U Y O C;exact oz u trivial m e
  have q4:(v≥(b.bl.length:Int))=False:=aI h4;rw[ah (by unfold bN;omega:bN b.bl.length v),cV] at w;refine dE (λ_ _ _ _=>False) λU Y=>?_;refine dst (bG G p f7 f b5 a0 hx (cw a4 J a1 l q4)) ?_;intro U Y O C;refine tn (av f7 w3) ?_;exact⟨J,⟨D,G,p,M,X⟩,rfl,w⟩
 have q6:=lF i z.length;rw[cb (by omega),lh] at w;rw[w,aC (λh=>by cases h)] at a;clear w;have be:k≠3->n.length<=1:=λh=>by
  by_cases h1:k=1
  ·have:=a2 h1;omega
  ·have:=a6 h1 h;omega
 obtain⟨I,hI⟩:=oX (eY nm);rw[<-hI] at ab a;clear hI;rw[<-X] at ab;(iterate 6 (refine tk (cA p f7 f q6) ?_;intro U Y O C));refine rl (λs=>T1 b k z n pl nm H s/\¬(k=3/\I=false)) ?_ ?_
 ·by_cases r:k=3
  ·have k3:(k=3)=True:=aG r
   refine tq (bQ p M k3) ?_;intro U Y O C;refine ab.mono ?_;rintro d _ ⟨rfl,a5⟩;cases I
   ·have e:y=12:=by rw[a,aC (by omega),aD r];rfl
    rw[a5] at m;refine t0 ?_;intro U Y O C;refine⟨by simp,?_⟩;refine rt u D ?_;exact⟨_,aF _,m,_,aL m,by rw[e] <;> rfl⟩
   ·refine tz ?_
    exact⟨⟨D,G,p,M,a5▸X⟩,λh=>by cases h.2⟩
  ·have k3:(k=3)=False:=aI r
   refine tn (bQ p M k3) ?_;exact⟨⟨D,G,p,M,X⟩,λh=>r h.1⟩
 clear G p M f7 X D m ab;rintro s1 ⟨⟨D,G,p,M,X⟩,hI⟩;have m:H.le s1.H:=by rw[X];exact aF _
 refine bW ?_;refine rl (λs=>T1 b k z n pl nm H s/\¬(k=3/\65535<n.length)) ?_ ?_
 ·by_cases h5:65535<n.length
  ·have r:k=3:=eC λh=>by have:=be h;omega
   have q5:=nT ((65535:Int)<(n.length:Int));have e:y=15:=by rw[a,aC (by omega),aD r,aC (λh=>hI ⟨r,h⟩),aD h5]
   refine tq (bQ p j q5) ?_;intro U Y O C;refine⟨by simp,?_⟩;refine rt u D ?_;exact⟨_,aF _,m,_,aL m,by rw[e] <;> rfl⟩
  ·have q5:=nF ((65535:Int)<(n.length:Int))
   refine tn (bQ p j q5) ?_;exact⟨⟨D,G,p,M,X⟩,λh=>h5 h.2⟩
 clear G p M X D m;rintro s2 ⟨⟨D,G,p,M,X⟩,hL⟩;have hE:eM b n []≠0->y=eM b n []:=λh=>by
  by_cases V:k=1
  ·have hl:=a2 V
   have ho:=ag hl;have h2:eM b [a3] []=if kx b a3≠0 then kx b a3 else 0:=rfl
   rw[<-ho,h2] at h ⊢;rw[a,aD V];by_cases hz:kx b a3=0
   ·rw[aC (λk=>k hz)] at h;exact absurd rfl h
   ·rw[aD hz,aD hz]
  ·by_cases r:k=3
   ·rw[a,aC V,aD r,aC (λh=>hI ⟨r,h⟩),aC (λh=>hL ⟨r,h⟩),aD h]
   ·have h0:=a6 V r
    rw[List.length_eq_zero_iff.1 h0] at h;exact absurd rfl h
 refine tz ?_;refine aO n.length (λi s=>T1 b k z n pl nm H s/\s.fr 8=i64 i/\eM b n []=eM b (n.drop i) []) ⟨⟨D,G,p,M,X⟩,rfl,rfl⟩ ?_;clear G p M X D;clear hi hx a4 q6 J;rintro i s hi ⟨⟨D,G,p,M,X⟩,f8,w⟩;have hx:=aX i;have a4:=aZ i;have m:H.le s.H:=by rw[X];exact aF _
 by_cases J:i<n.length
 case pos=>
  have a1:(i:Int)<(n.length:Int):=by omega
  have q6:((i:Int)<(n.length:Int))=True:=aG a1;have w3:=wS i;have a0:=sQ J;have W:=W _ (ao J) s.H;rw[cL J] at w;obtain⟨o,ho⟩:=oX n[i];rw[<-ho] at a0 w W;clear ho;obtain⟨oE,am⟩:=oX (kx b o);have b0:eM b (o::n.drop (i+1)) []=if oE≠0 then oE else eM b (n.drop (i+1)) []:=by rw[am];rfl
  rw[b0] at w;rw[<-am] at W;clear b0 am;simp only[db] at a0;refine tq (cA p f8 j q6) ?_;intro U Y O C;(try refine bW ?_);refine dE (λ_ _ d A=>A=.none/\d=i64 oE) λU Y=>?_;refine dst (bG G p f8 j a0 hx a4 (av J a1)) ?_;intro U Y O C;refine⟨W,?_⟩;refine nx ?_;by_cases h0:oE=0
  ·have q0:(oE=0)=True:=aG h0
   rw[aC (λh=>h h0)] at w;refine tn (bQ f8 q0 w3) ?_;exact⟨J,⟨D,G,p,M,X⟩,rfl,w⟩
  ·have q0:(oE=0)=False:=aI h0
   rw[aD h0] at w;have e:y=oE:=by rw[hE (by rw[w];exact h0),w]
   exact oz u q0 m e
 have q6:=lF i n.length;rw[cb (by omega)] at w;have b6:eM b n []=0:=by rw[w];rfl
 have aw:=vi b6;clear hE w W;obtain⟨T,hT⟩:=oX (mB b pl);obtain⟨Mu,hM⟩:=oX (ml b.ty b.lc pl);obtain⟨Hd,al⟩:=oX (pC pl 0);unfold qy at a;rw[<-hT,<-hM,<-al] at a;rw[<-hT] at a8;rw[<-hM] at a7;rw[<-al] at aa;clear hT hM al;rw[<-X] at a8 a7 aa;by_cases V:k=1
 ·have k1:(k=1)=True:=aG V
  have k3:=nF (k=3);have k4:=nF (k=4);have hl:=a2 V;have ae:0<n.length:=by omega
  have ac:=sQ ae;have hO:n[0]=a3:=by
   have:=ag hl;simp only[<-this,zC]
  have S:=S _ (ao ae) (aw _ (ao ae)) s.H;have b8:=aw _ (ao ae);rw[hO] at ac S b8;rw[aD V,aC (λh=>h b8)] at a;simp only[db] at ac;by_cases hd:tc b a3=1
  ·have e:y=0:=by rw[a,aC (λh=>h hd)]
   rw[ah hd] at S;refine tq (cA p f8 j q6) ?_;intro U Y O C;(try refine bW ?_);refine dE (λ_ _ d A=>A=.none/\d=.val (.bool true)) λU Y=>?_;refine dst (eP G p k1 ac j hl) ?_;intro U Y O C;refine⟨S,?_⟩;(first|refine C _ ?_|skip);(first|refine dst trivial ?_;intro U Y O C|skip);exact oz u (cA p M k3 k4) m e
  ·have e:y=22:=by rw[a,aD hd]
   rw[af hd] at S;refine tq (cA p f8 j q6) ?_;intro U Y O C;(try refine bW ?_);refine dE (λ_ _ d A=>A=.none/\d=.val (.bool false)) λU Y=>?_;refine dst (eP G p k1 ac j hl) ?_;intro U Y O C;refine⟨S,?_⟩;(first|refine C _ ?_|skip);(first|refine dst trivial ?_;intro U Y O C|skip);exact oz u (cA p M k3 k4) m e
 have k1:(k=1)=False:=aI V;rw[aC V] at a;refine tq (cA p f8 j q6) ?_;intro U Y O C;(try refine bW ?_);refine dE (λ_ _ _ _=>False) λU Y=>?_;refine dst (bQ G p k1) ?_;intro U Y O C;by_cases r:k=3
 ·have k3:(k=3)=True:=aG r
  have k4:=nF (k=4);rw[aD r,aC (λh=>hI ⟨r,h⟩),aC (λh=>hL ⟨r,h⟩),aC (λh=>h b6)] at a;refine tq (cA G p M k3) ?_;intro U Y O C;refine a8.mono ?_;rintro d _ ⟨rfl,a5⟩;rw[a5] at a7 m;by_cases h2:T.2=0
  case neg=>
   have q2:(T.2=0)=False:=aI h2;have e:y=T.2:=a.trans (aD h2);exact oz u q2 m e
  have q2:(T.2=0)=True:=aG h2;rw[aC (λh=>h h2)] at a;refine tq (cw G p M k3 q2) ?_;intro U Y O C;refine a7.mono ?_;rintro d _ ⟨rfl,ak⟩;rw[ak] at m;cases Mu
  ·have e:y=22:=a
   exact oz u (av p k4) m e
  ·have e:y=0:=a
   exact oz u (av p k4) m e
 have k3:(k=3)=False:=aI r;rw[aC r] at a;by_cases ad:k=4
 ·have k4:(k=4)=True:=aG ad
  rw[aD ad] at a;refine tq (cw G p M k3 k4) ?_;intro U Y O C;refine a8.mono ?_;rintro d _ ⟨rfl,a5⟩;rw[a5] at aa m;by_cases h2:T.2=0
  case neg=>
   have q2:(T.2=0)=False:=aI h2;have e:y=T.2:=a.trans (aD h2);exact oz u q2 m e
  have q2:(T.2=0)=True:=aG h2;rw[aC (λh=>h h2)] at a;refine tq (eP G p M k3 k4 q2) ?_;intro U Y O C;refine aa.mono ?_;rintro d _ ⟨rfl,ak⟩;rw[ak] at m;have e:=a;cases Hd
  ·exact oz u trivial m e
  ·exact oz u trivial m e
 have k4:(k=4)=False:=aI ad;rw[aC ad] at a;have e:=a;exact oz u (cw G p M k3 k4) m e
end Go.Proofs.YtffgfafbffdgaaaGreatDoor
