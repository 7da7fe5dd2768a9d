/- Lemmas and contracts of functions, several texts in one. -/
import Derived.Test.YtffgfafbffdgaaaGreatDoorR31
set_option maxRecDepth 100000
set_option maxHeartbeats 4000000
set_option linter.all false
namespace Go.Proofs.YtffgfafbffdgaaaGreatDoor
open Go.RowKit
open Tryz
theorem Ld (b:bn) (r:tx) (t:Int) (H:aA) (ck:Ck b) (hp:Bb r) (ht:bN b.ty.length t):aN prog 190 [.agg (cu b),.agg (uo r),i64 t] H λd H'=>d=i64 (vE b r t)/\H=H':=by
 refine aq (K:=λd=>d=i64 (vE b r t)) ?_;have L:=aF H;have J:=xH b r.pl H ck hp.1;have m:=Dt b r.pl H ck hp.1;have I:=S7 b.ty b.lc r.pl H ck.wt ck.wl ck.ar hp.1;have a1:∀q H1,cP prog 260 [.seq 2 (b.ol.map pD),i64 b.rg.length,i64 q,i64 r.rg] H1 λd A=>A=aA.none/\d=.val (.bool (gh b.ol b.rg.length q r.rg)):=λq H1=>an λa4 ad=>JT b.ol b.rg.length q r.rg a4 ck.ol (by have:=ck.MX;omega) ck.Qm;have aa:(tj b.ty b.lc r.pl).length<=32:=by
  have:=oF b.ty b.lc r.pl;unfold tj;rw[aS];exact this
 have G:=lm sD b.rg;have a8:=lm bS b.ty;obtain⟨y,a⟩:=oX (vE b r t);rw[<-a];unfold vE at a;have V:=gY ht;have ac:t.toNat<b.ty.length:=by unfold bN at ht;omega
 have ab:0<=t:=by unfold bN at ht;omega
 obtain⟨u,hu⟩:=oX (bY b.ty t);obtain⟨T,hT⟩:=oX (mB b r.pl);obtain⟨R,a2⟩:=oX (tj b.ty b.lc r.pl);obtain⟨Z,hZ⟩:=oX (ml b.ty b.lc r.pl);rw[<-hu] at V a;rw[<-hT] at J a;rw[<-a2] at I aa a;rw[<-hZ] at m a;clear hu hT a2 hZ;rw[jB] at J m ⊢;obtain⟨k,op,rg,M,pl,ar⟩:=r;obtain⟨uk,um,o,ue,ua⟩:=u;simp only[bS] at V;simp only at a a1;simp only[ee] at J m I;have l:=lm iD R;refine dO func190 ntmps190 results190 λw0 g0 Q p=>?_;refine tq @uo.eq_1 ?_;intro U Y O C;intro c3 a5 c4 a6;refine Y _ ?_;refine uB 3 4 a5 a6 ?_;refine t0 ?_;intro U Y O C;refine J.q ?_;by_cases h1:T.2=0
 case neg=>
  have q1:(T.2=0)=False:=aI h1;have e:y=T.2:=a.trans (aD h1);exact oz p q1 L e
 have q1:(T.2=0)=True:=aG h1;rw[aC (λh=>h h1)] at a;by_cases h2:rg<0
 ·have q2:(rg<0)=True:=aG h2
  have e:y=3:=a.trans (aD (.inl h2));exact oz p (av q1 q2) L e
 have q2:(rg<0)=False:=aI h2;by_cases h3:(b.rg.length:Int)<=rg
 ·have q3:(rg≥(b.rg.length:Int))=True:=aG h3
  have e:y=3:=a.trans (aD (.inr h3));exact oz p (cA q1 q2 q3 G) L e
 have q3:(rg≥(b.rg.length:Int))=False:=aI h3;rw[aC (by omega)] at a;refine tq (bG q1 q2 q3 G V ac ab a8) ?_;intro U Y O C;intro c9 a7;refine Y _ ?_;refine cm 9 a7 ?_;by_cases h4:uk=3
 case neg=>
  have N:(uk=3)=False:=aI h4;have e:y=22:=a.trans (aD (.inl h4));exact oz p N L e
 have N:(uk=3)=True:=aG h4;by_cases h5:o=rg
 case neg=>
  have q5:(o=rg)=False:=aI h5;have e:y=22:=a.trans (aD (.inr (.inl h5)));exact oz p (av N q5) L e
 have q5:(o=rg)=True:=aG h5;by_cases h6:um=M
 case neg=>
  have e:y=22:=a.trans (aD (.inr (.inr (.inl h6))));have q6:(um=M)=False:=aI h6;exact oz p (bQ N q5 q6) L e
 have q6:(um=M)=True:=aG h6;by_cases h7:ue=T.1
 case neg=>
  have q7:(ue=T.1)=False:=aI h7;have e:y=22:=a.trans (aD (.inr (.inr (.inr (.inl h7)))));exact oz p (cA N q5 q6 q7) L e
 have q7:(ue=T.1)=True:=aG h7;by_cases hm:M=true/\Z=false
 ·obtain⟨a0,a3⟩:=hm
  have e:y=22:=a.trans (aD (.inr (.inr (.inr (.inr ⟨a0,a3⟩)))));rw[a3] at m;rw[a0] at q6;refine tq (cw N q5 q6 q7 a0) ?_;intro U Y O C;refine m.q ?_;exact oz p q1 L e
 have a9:¬(uk≠3\/o≠rg\/um≠M\/ue≠T.1\/(M=true/\Z=false)):=λh=>h.elim (· h4) λh=>h.elim (· h5) λh=>h.elim (· h6) λh=>h.elim (· h7) hm;rw[aC a9] at a;have hZ:M=true->Z=true:=λh=>by cases Z;exact absurd ⟨h,rfl⟩ hm;rfl
 cases M
 ·refine tq (cA N q5 q6 q7) ?_;intro U Y O C
  refine I.qs l ?_;intro U Y O C;refine aO R.length (λi s=>s.df=[]/\s.fr 3=.rp [bC b.nm,.seq 1 (b.rg.map sD),.seq 2 (b.ol.map pD),.seq 5 (b.ty.map bS),.seq 2 (b.lc.map eQ),i64 b.ag,.seq 7 (b.bl.map dM)]/\(∃x,s.fr 4=.rp [i64 k,i64 op,i64 rg,.val (.bool x),i64 pl.lo,.seq 2 (pl.pr.map pD),.seq 4 (ar.map db)])/\s.fr 10=.seq 1 (R.map iD)/\s.fr 11=i64 i/\s.H=H/\(R.all λq=>gh b.ol b.rg.length q rg)=((R.drop i).all λq=>gh b.ol b.rg.length q rg)) ⟨rfl,rfl,⟨_,rfl⟩,rfl,rfl,rfl,rfl⟩ ?_;rintro i s hi ⟨S,f3,⟨x,f4⟩,c,f,hH,g⟩;have hx:=aX i;have P:=aZ i;have w:H.le s.H:=by rw[hH];exact aF _
  by_cases j:i<R.length
  case neg=>
   have q8:=lF i R.length;rw[cb (by omega),lh] at g;rw[g,aC (λh=>by cases h)] at a;have e:=a;exact oz p (cA c f l q8) w e
  have B:(i:Int)<(R.length:Int):=by omega
  have q8:((i:Int)<(R.length:Int))=True:=aG B;have w3:=wS i;have E:=bT j;rw[cL j,jQ] at g;have n:=a1 R[i] s.H;obtain⟨v,hv⟩:=oX R[i];rw[<-hv] at E g n;obtain⟨z,hz⟩:=oX (gh b.ol b.rg.length v rg);rw[<-hz] at g n;refine tq (cA c f l q8) ?_;intro U Y O C;(try refine bW ?_);refine dE (λ_ _ d A=>A=.none/\d=.val (.bool z)) λU Y=>?_;refine dst (bG f3 f4 c f G l E (cA hx P j B)) ?_;intro U Y O C;refine⟨n,?_⟩;refine nx ?_;cases z
  ·rw[dq] at g
   rw[g,aD rfl] at a;have e:=a;exact oz p trivial w e
  ·rw[cV] at g
   refine tn (av f w3) ?_;exact⟨j,S,f3,⟨x,f4⟩,c,rfl,hH,g⟩
 ·rw[hZ rfl] at m
  refine tq (cA N q5 q6 q7) ?_;intro U Y O C;refine m.qt ?_;intro U Y O C;refine I.qs l ?_;intro U Y O C;refine aO R.length (λi s=>s.df=[]/\s.fr 3=.rp [bC b.nm,.seq 1 (b.rg.map sD),.seq 2 (b.ol.map pD),.seq 5 (b.ty.map bS),.seq 2 (b.lc.map eQ),i64 b.ag,.seq 7 (b.bl.map dM)]/\(∃x,s.fr 4=.rp [i64 k,i64 op,i64 rg,.val (.bool x),i64 pl.lo,.seq 2 (pl.pr.map pD),.seq 4 (ar.map db)])/\s.fr 10=.seq 1 (R.map iD)/\s.fr 11=i64 i/\s.H=H/\(R.all λq=>gh b.ol b.rg.length q rg)=((R.drop i).all λq=>gh b.ol b.rg.length q rg)) ⟨rfl,rfl,⟨_,rfl⟩,rfl,rfl,rfl,rfl⟩ ?_;rintro i s hi ⟨S,f3,⟨x,f4⟩,c,f,hH,g⟩;have hx:=aX i;have P:=aZ i;have w:H.le s.H:=by rw[hH];exact aF _
  by_cases j:i<R.length
  case neg=>
   have q8:=lF i R.length;rw[cb (by omega),lh] at g;rw[g,aC (λh=>by cases h)] at a;have e:=a;exact oz p (cA c f l q8) w e
  have B:(i:Int)<(R.length:Int):=by omega
  have q8:((i:Int)<(R.length:Int))=True:=aG B;have w3:=wS i;have E:=bT j;rw[cL j,jQ] at g;have n:=a1 R[i] s.H;obtain⟨v,hv⟩:=oX R[i];rw[<-hv] at E g n;obtain⟨z,hz⟩:=oX (gh b.ol b.rg.length v rg);rw[<-hz] at g n;refine tq (cA c f l q8) ?_;intro U Y O C;(try refine bW ?_);refine dE (λ_ _ d A=>A=.none/\d=.val (.bool z)) λU Y=>?_;refine dst (bG f3 f4 c f G l E (cA hx P j B)) ?_;intro U Y O C;refine⟨n,?_⟩;refine nx ?_;cases z
  ·rw[dq] at g
   rw[g,aD rfl] at a;have e:=a;exact oz p trivial w e
  ·rw[cV] at g
   refine tn (av f w3) ?_;exact⟨j,S,f3,⟨x,f4⟩,c,rfl,hH,g⟩
theorem GA {b:bn}:∀{l:List gq}{fs:List Int},eM b l fs=0->eM b l []=0
 |[],_,_=>rfl
 |o::l,[],h=>h
 |o::l,f::fs,h=>by
  have h1:eM b (o::l) (f::fs)=if kx b o≠0 then kx b o else if nW b o f=false then 22 else eM b l fs:=rfl
  have e:eM b (o::l) []=if kx b o≠0 then kx b o else eM b l []:=rfl
  rw[h1] at h;rw[e];by_cases a:kx b o=0
  ·rw[aC (λk=>k a)] at h ⊢
   by_cases c:nW b o f=false
   ·rw[aD c] at h;cases h
   ·rw[aC c] at h;exact GA h
  ·rw[aD a] at h;exact absurd h a
theorem Ty {r:tx}(h:tv r=true):(r.k=0->r.ar.length=1):=by
 intro a;unfold tv at h;rw[aC (by omega),aD a] at h;simp only[cX,dF] at h;exact h.2.2
def A1 (b:bn) (k op rg:Int) (e:Bool) (a:gR) (ar:List gq) (t c:Int) (H:aA) (s:St):Prop:=s.df=[]/\s.fr 2=i64 t/\s.fr 3=.rp [bC b.nm,.seq 1 (b.rg.map sD),.seq 2 (b.ol.map pD),.seq 5 (b.ty.map bS),.seq 2 (b.lc.map eQ),i64 b.ag,.seq 7 (b.bl.map dM)]/\s.fr 4=.rp [i64 k,i64 op,i64 rg,.val (.bool e),i64 a.lo,.seq 2 (a.pr.map pD),.seq 4 (ar.map db)]/\s.fr 8=i64 c/\s.H=H
def Xw (k op:Int):Prop:=(k=2/\(op<0\/2<=op))\/(k=3/\(op<0\/6<=op))
open Classical in
noncomputable def fz (k:Int) (u:bp):List Int:=if k=4 then u.ar else []
theorem Lc (b:bn) (r:tx) (t:Int) (H:aA) (ck:Ck b) (hp:Bb r) (ht:bN b.ty.length t) (bm:∀f∈(bY b.ty t).ar,bN b.ty.length f):aN prog 112 [.agg (cu b),.agg (uo r),i64 t] H λd H'=>d=i64 (Cd b r t)/\H=H':=by
 refine aq (K:=λd=>d=i64 (Cd b r t)) ?_;have aM:=aF H;have ac:=O5 r H hp;have ak:=Ld b r t H ck hp ht;have a0:∀o∈r.ar,∀H1,cP prog 115 [.agg (cu b),.agg (db o)] H1 λd A=>A=aA.none/\d=i64 (kx b o):=λo Z H1=>an λad bb=>AU b o ad ck (hp.2.2 o Z);have p:∀o∈r.ar,∀t,kx b o=0->bN b.ty.length t->∀H1,cP prog 191 [.agg (cu b),.agg (db o),i64 t] H1 λd A=>A=aA.none/\d=.val (.bool (nW b o t)):=λo Z t hz ht H1=>an λad bb=>SZ b o t ad ck (hp.2.2 o Z) hz ht;have a2:∀o∈r.ar,∀kd,kx b o=0->∀H1,cP prog 116 [.agg (cu b),.agg (db o),i64 kd] H1 λd A=>A=aA.none/\d=.val (.bool (decide (tc b o=kd))):=λo Z kd hz H1=>an λad bb=>AR b o kd ad ck (hp.2.2 o Z) hz;have al:=lm bS b.ty;have L:=lm db r.ar;obtain⟨y,M⟩:=oX (Cd b r t);rw[<-M];unfold Cd at M;have a8:=gY ht;have ap:t.toNat<b.ty.length:=by unfold bN at ht;omega
 have am:0<=t:=by unfold bN at ht;omega
 have ye:=λh=>Ty (r:=r) h;unfold oj at M;obtain⟨u,hu⟩:=oX (bY b.ty t);rw[<-hu] at a8 M bm;clear hu;obtain⟨BE,bk⟩:=oX (vE b r t);rw[<-bk] at ak M;clear bk;unfold Pr at ac;obtain⟨S,hS⟩:=oX (tv r);rw[<-hS] at ac M ye;clear hS;have bl:=hp.2.1;unfold cH at bl;have b8:=lm iD u.ar;rw[jB] at ak a0 p a2 ⊢;obtain⟨k,j,rg,mu,pl,ar⟩:=r;simp only[bS] at a8;simp only[uo] at ac ak ⊢;simp only at M ac a0 p a2 L bl ye;clear hp;refine dO func112 ntmps112 results112 λw0 g0 Q aB=>?_;refine t0 ?_;intro U Y O C;intro c3 bt c4 c0;refine Y _ ?_;refine uB 3 4 bt c0 ?_;refine t0 ?_;intro U Y O C;refine ac.q ?_;by_cases h1:k<0\/4<k
 ·have e:y=14:=M.trans (aD h1)
  rw[aD h1];exact oz aB trivial aM e
 rw[aC h1] at M ⊢;cases S
 ·have e:y=2:=M
  rw[aD rfl];exact oz aB trivial aM e
 rw[aC (λh=>by cases h)] at M ⊢;by_cases b1:k=1
 ·have k1:(k=1)=True:=aG b1
  have e:y=BE:=by rw[M,aC (by omega),aD b1]
  refine tq (cw a8 ap am al k1) ?_;intro U Y O C;refine ak.q ?_;exact oz aB k1 aM e
 have k1:(k=1)=False:=aI b1;rw[aC b1] at M;(iterate 14 (refine tk (cw a8 ap am al k1) ?_;intro U Y O C));refine rl (λs=>A1 b k j rg mu pl ar t u.k H s/\¬Xw k j) ?_ ?_
 ·by_cases g:k=2
  ·have k2:(k=2)=True:=aG g
   have k3:=nF (k=3);by_cases G:j<0
   ·have N:(j<0)=True:=aG G
    have e:y=14:=by rw[M,aC (by omega),aD g,aD (.inl G)]
    refine tq (av k2 N) ?_;intro U Y O C;refine⟨by simp,?_⟩;refine rt aB trivial ?_;exact zf aM (by rw[e])
   have N:(j<0)=False:=aI G;by_cases h3:1<j
   ·have q3:(1<j)=True:=aG h3
    have e:y=14:=by rw[M,aC (by omega),aD g,aD (.inr (by omega))]
    refine tq (bQ k2 N q3) ?_;intro U Y O C;refine⟨by simp,?_⟩;refine rt aB trivial ?_;exact zf aM (by rw[e])
   have q3:(1<j)=False:=aI h3;refine tn (cA k2 k3 N q3) ?_;exact⟨⟨rfl,rfl,rfl,rfl,rfl,rfl⟩,by unfold Xw;omega⟩
  have k2:(k=2)=False:=aI g;by_cases P:k=3
  ·have k3:(k=3)=True:=aG P
   by_cases G:j<0
   ·have N:(j<0)=True:=aG G
    have e:y=14:=by rw[M,aC (by omega),aC g,aD P,aD (.inl G)]
    refine tq (bQ k2 k3 N) ?_;intro U Y O C;refine⟨by simp,?_⟩;refine rt aB trivial ?_;exact zf aM (by rw[e])
   have N:(j<0)=False:=aI G;by_cases h3:5<j
   ·have q3:(5<j)=True:=aG h3
    have e:y=14:=by rw[M,aC (by omega),aC g,aD P,aD (.inr (by omega))]
    refine tq (cA k2 k3 N q3) ?_;intro U Y O C;refine⟨by simp,?_⟩;refine rt aB trivial ?_;exact zf aM (by rw[e])
   have q3:(5<j)=False:=aI h3;refine tn (cA k2 k3 N q3) ?_;exact⟨⟨rfl,rfl,rfl,rfl,rfl,rfl⟩,by unfold Xw;omega⟩
  have k3:(k=3)=False:=aI P;refine tn (av k2 k3) ?_;exact⟨⟨rfl,rfl,rfl,rfl,rfl,rfl⟩,by unfold Xw;omega⟩
 rintro s1 ⟨⟨a1,B,v,c,w,a6⟩,br⟩;unfold Xw at br;have ae:H.le s1.H:=by rw[a6];exact aF _
 refine bW ?_;refine rl (λs=>A1 b k j rg mu pl ar t u.k H s/\¬(k=4/\(u.k≠4\/u.ar.length≠ar.length))) ?_ ?_
 ·by_cases a:k=4
  ·have k4:(k=4)=True:=aG a
   by_cases G:u.k=4
   case neg=>
    have N:(u.k=4)=False:=aI G;have e:y=22:=by rw[M,aC (by omega),aC (by omega),aC (by omega),aD (.inl G)]
    (try refine bW ?_);refine dE (λ_ _ _ _=>False) λU Y=>?_;refine dst (eP B v c w k4 N) ?_;intro U Y O C;refine t0 ?_;intro U Y O C;refine⟨by simp,?_⟩;refine rt aB a1 ?_;exact⟨_,aF _,ae,_,aL ae,by rw[e] <;> rfl⟩
   have N:(u.k=4)=True:=aG G;by_cases h3:u.ar.length=ar.length
   ·have q3:=nT ((u.ar.length:Int)=(ar.length:Int))
    (try refine bW ?_);refine dE (λ_ _ _ _=>False) λU Y=>?_;refine dst (bG B v c w k4 N q3 (eP a8 ap am al b8 L)) ?_;intro U Y O C;refine tz ?_;exact⟨⟨a1,B,v,c,w,a6⟩,by omega⟩
   ·have q3:=nF ((u.ar.length:Int)=(ar.length:Int))
    have e:y=22:=by rw[M,aC (by omega),aC (by omega),aC (by omega),aD (.inr h3)]
    (try refine bW ?_);refine dE (λ_ _ _ _=>False) λU Y=>?_;refine dst (bG B v c w k4 N q3 (eP a8 ap am al b8 L)) ?_;intro U Y O C;refine t0 ?_;intro U Y O C;refine⟨by simp,?_⟩;refine rt aB a1 ?_;exact⟨_,aF _,ae,_,aL ae,by rw[e] <;> rfl⟩
  have k4:(k=4)=False:=aI a;(try refine bW ?_);refine dE (λ_ _ _ _=>False) λU Y=>?_;refine dst (cw B v c w k4) ?_;intro U Y O C;refine tz ?_;exact⟨⟨a1,B,v,c,w,a6⟩,by omega⟩
 clear B v c w a6 ae a1;rintro s1 ⟨⟨a1,B,v,c,w,a6⟩,c1⟩;have b4:eM b ar (fz k u)≠0->y=eM b ar (fz k u):=λh=>by
  unfold fz at h ⊢;by_cases a:k=4
  ·rw[aD a] at h ⊢
   rw[M,aC (by omega),aC (by omega),aC (by omega),aC (by omega)]
  ·rw[aC a] at h ⊢
   by_cases V:k=0
   ·have hl:=ye rfl V
    obtain⟨o,rfl⟩:=zA.1 hl;have G:eM b [o] []=if kx b o≠0 then kx b o else 0:=rfl
    have h3:eM b [o] [t]=if kx b o≠0 then kx b o else if nW b o t=false then 22 else 0:=rfl
    rw[G] at h ⊢;by_cases Z:kx b o=0
    ·rw[aC (λk=>k Z)] at h;exact absurd rfl h
    ·rw[aD Z,M,aD V,h3,aD Z]
   ·by_cases g:k=2
    ·rw[M,aC V,aD g,aC (by omega),aD h]
    ·rw[M,aC V,aC g,aD (by omega),aC (by omega),aD h]
 have bo:k=4->(fz k u).length=ar.length:=λh=>by unfold fz;rw[aD h];omega
 have b5:k≠4->fz k u=[]:=λh=>by unfold fz;rw[aC h]
 have a7:k=4->fz k u=u.ar:=λh=>by unfold fz;rw[aD h]
 refine tz ?_;refine aO ar.length (λi s=>A1 b k j rg mu pl ar t u.k H s/\s.fr 9=i64 i/\eM b ar (fz k u)=eM b (ar.drop i) ((fz k u).drop i)) ⟨⟨a1,B,v,c,w,a6⟩,rfl,rfl⟩ ?_;clear B v c w a6 a1;rintro i s hi ⟨⟨m,B,v,c,w,T⟩,f9,I⟩;have hx:=aX i;have ag:=aZ i;have R:H.le s.H:=by rw[T];exact aF _
 by_cases J:i<ar.length
 case pos=>
  have ab:(i:Int)<(ar.length:Int):=by omega
  have q6:((i:Int)<(ar.length:Int))=True:=aG ab;have w3:=wS i;have a3:=sQ J;have a4:=ao J;rw[cL J] at I;have a0:=a0 _ a4 s.H;have p:=p _ a4;obtain⟨o,Z⟩:=oX ar[i];rw[<-Z] at a3 I a0 p;clear a4 Z;obtain⟨E,hE⟩:=oX (kx b o);have bc:eM b (o::ar.drop (i+1)) ((fz k u).drop i)=if E≠0 then E else match (fz k u).drop i with
   |[]=>eM b (ar.drop (i+1)) []
   |f::fs=>if nW b o f=false then 22 else eM b (ar.drop (i+1)) fs:=by rw[hE];rfl
  rw[bc] at I;clear bc;rw[<-hE] at a0 p;clear hE;simp only[db] at a3 a0 p;refine tq (cA c f9 L q6) ?_;intro U Y O C;(try refine bW ?_);refine dE (λ_ _ d A=>A=.none/\d=i64 E) λU Y=>?_;refine dst (bG v c f9 a3 hx ag J (av ab L)) ?_;intro U Y O C;refine⟨a0,?_⟩;refine nx ?_;by_cases h0:E=0
  case neg=>
   have q0:(E=0)=False:=aI h0;rw[aD h0] at I;have e:y=E:=by rw[b4 (by rw[I];exact h0),I]
   exact oz aB q0 R e
  have q0:(E=0)=True:=aG h0;rw[aC (λh=>h h0)] at I;by_cases a:k=4
  case neg=>
   have k4:(k=4)=False:=aI a;rw[b5 a,List.drop_nil] at I;simp only at I;refine tq q0 ?_;intro U Y O C;(try refine bW ?_);refine dE (λ_ _ _ _=>False) λU Y=>?_;refine dst (av c k4) ?_;intro U Y O C;refine tn (av f9 w3) ?_;exact⟨J,⟨m,B,v,c,w,T⟩,rfl,by rw[b5 a,List.drop_nil];exact I⟩
  have k4:(k=4)=True:=aG a;have b0:i<u.ar.length:=by have:=bo a;rw[a7 a] at this;omega
  have bs:(i:Int)<(u.ar.length:Int):=by omega
  rw[a7 a,cL b0] at I;simp only at I;have bq:=bT b0;have be:=bm u.ar[i] (ao b0);obtain⟨f,hf⟩:=oX u.ar[i];rw[<-hf] at I bq be;have p:=p f h0 be s.H;obtain⟨z,hz⟩:=oX (nW b o f);rw[<-hz] at p I;refine tq q0 ?_;intro U Y O C;(try refine bW ?_);refine dE (λ_ _ d A=>A=.none/\d=.val (.bool z)) λU Y=>?_;refine dst (bG B v c f9 k4 a3 hx (bG ag J ab L a8 ap am (cw al bq b0 bs b8))) ?_;intro U Y O C;refine⟨p,?_⟩;cases z
  ·rw[aD rfl] at I
   have e:y=22:=by rw[b4 (by rw[a7 a,I];decide),a7 a,I]
   (first|refine C _ ?_|skip);refine dst trivial ?_;intro U Y O C;exact oz aB trivial R e
  ·rw[aC (λh=>by cases h)] at I
   (first|refine C _ ?_|skip);refine dst trivial ?_;intro U Y O C;refine tn (av f9 w3) ?_;exact⟨J,⟨m,B,v,c,w,T⟩,rfl,by rw[a7 a];exact I⟩
 have q6:=lF i ar.length;rw[cb (by omega)] at I;have b9:eM b ar (fz k u)=0:=by rw[I];rfl
 have b2:=GA b9;have b3:=vi b2;clear b4 bo b5 I;by_cases V:k=0
 ·have k0:(k=0)=True:=aG V
  have hl:=ye rfl V;have b7:0<ar.length:=by omega
  have b6:=sQ b7;have p:=p ar[0] (ao b7) t (b3 _ (ao b7)) ht s.H;have a9:y=if nW b ar[0] t=false then 22 else 0:=by
   obtain⟨o,rfl⟩:=zA.1 hl;have h3:eM b [o] [t]=if kx b o≠0 then kx b o else if nW b o t=false then 22 else 0:=rfl
   rw[M,aD V,h3,aC (λk=>k (b3 o (by simp)))];rfl
  obtain⟨o,Z⟩:=oX ar[0];rw[<-Z] at b6 p a9;clear Z M;obtain⟨z,hz⟩:=oX (nW b o t);rw[<-hz] at p a9;clear hz;simp only[db] at b6 p;refine tq (cw c f9 L q6 k0) ?_;intro U Y O C;(try refine bW ?_);refine dE (λ_ _ d A=>A=.none/\d=.val (.bool z)) λU Y=>?_;refine dst (eP B v c b6 L hl) ?_;intro U Y O C;refine⟨p,?_⟩;refine nx ?_;cases z
  ·have e:y=22:=a9
   exact oz aB trivial R e
  ·have e:y=0:=a9
   exact oz aB trivial R e
 have k0:(k=0)=False:=aI V;rw[aC V] at M;clear p a0 ac ye ak;obtain⟨x,ba⟩:∃x:Int×Int,x=if k=2 then VF j else HA j:=⟨_,rfl⟩
 have a9:y=if k=4 then 0 else if (ar.all λo=>decide (tc b o=x.1))=false then 22 else if u.k≠x.2 then 22 else 0:=by
  by_cases a:k=4
  ·rw[aD a,M,aC (by omega),aC (by omega),aC (by omega),<-a7 a,b9]
  rw[aC a,ba];by_cases g:k=2
  ·rw[aD g,M,aD g,aC (by omega),aC (λh=>h b2)]
  ·rw[aC g,M,aC g,aD (by omega),aC (by omega),aC (λh=>h b2)]
 clear M b9 a7 b2;(iterate 15 (refine tk (cw c f9 L q6 k0) ?_;intro U Y O C));refine nR (λs=>A1 b k j rg mu pl ar t u.k H s/\s.fr 11=i64 (if k=2/\j=1 then 1 else 2)/\s.fr 12=i64 (if k=2/\j=1 then 1 else 2)) ?_ ?_
 ·by_cases g:k=2
  ·have k2:(k=2)=True:=aG g
   by_cases G:j=1
   ·have N:(j=1)=True:=aG G
    refine tn (bQ c k2 N) ?_;exact⟨⟨m,B,v,c,w,T⟩,by rw[aD ⟨g,G⟩] <;> rfl,by rw[aD ⟨g,G⟩] <;> rfl⟩
   ·have N:(j=1)=False:=aI G
    refine tn (bQ c k2 N) ?_;exact⟨⟨m,B,v,c,w,T⟩,by rw[aC (λh=>G h.2)] <;> rfl,by rw[aC (λh=>G h.2)] <;> rfl⟩
  ·have k2:(k=2)=False:=aI g
   refine tn (av c k2) ?_;exact⟨⟨m,B,v,c,w,T⟩,by rw[aC (λh=>g h.1)] <;> rfl,by rw[aC (λh=>g h.1)] <;> rfl⟩
 clear B v c w f9 T m R;rintro s1 ⟨⟨m,B,v,c,w,T⟩,n,l⟩;refine bW ?_;refine nR (λs=>A1 b k j rg mu pl ar t u.k H s/\s.fr 11=i64 (if k=2/\j=1 then 1 else 2)/\s.fr 12=i64 (if (k=2/\j=1)\/(k=3/\3<=j) then 1 else 2)) ?_ ?_
 ·by_cases P:k=3
  ·have k3:(k=3)=True:=aG P
   by_cases G:3<=j
   ·have N:(j≥3)=True:=aG G
    refine tn (bQ c k3 N) ?_;exact⟨⟨m,B,v,c,w,T⟩,n,by rw[aD (.inr ⟨P,G⟩)] <;> rfl⟩
   ·have N:(j≥3)=False:=aI G
    refine tn (bQ c k3 N) ?_;exact⟨⟨m,B,v,c,w,T⟩,n,by rw[aC (by omega)] at l ⊢;exact l⟩
  ·have k3:(k=3)=False:=aI P
   refine tq (av c k3) ?_;intro U Y O C;refine⟨⟨m,B,v,c,w,T⟩,n,?_⟩;by_cases h5:k=2/\j=1
   ·rw[aD h5] at l;rw[aD (.inl h5)];exact l
   ·rw[aC h5] at l;rw[aC (by omega)];exact l
 clear B v c w n l T m;rintro s2 ⟨⟨m,B,v,c,w,T⟩,n,l⟩;refine bW ?_;refine nR (λs=>A1 b k j rg mu pl ar t u.k H s/\s.fr 11=i64 (if (k=2/\j=1)\/(k=3/\j=5) then 1 else 2)/\s.fr 12=i64 (if (k=2/\j=1)\/(k=3/\3<=j) then 1 else 2)) ?_ ?_
 ·by_cases P:k=3
  ·have k3:(k=3)=True:=aG P
   by_cases G:j=5
   ·have N:(j=5)=True:=aG G
    refine tn (bQ c k3 N) ?_;exact⟨⟨m,B,v,c,w,T⟩,by rw[aD (.inr ⟨P,G⟩)] <;> rfl,l⟩
   ·have N:(j=5)=False:=aI G
    refine tn (bQ c k3 N) ?_;exact⟨⟨m,B,v,c,w,T⟩,by rw[aC (by omega)] at n ⊢;exact n,l⟩
  ·have k3:(k=3)=False:=aI P
   refine tq (av c k3) ?_;intro U Y O C;refine⟨⟨m,B,v,c,w,T⟩,?_,l⟩;by_cases h5:k=2/\j=1
   ·rw[aD h5] at n;rw[aD (.inl h5)];exact n
   ·rw[aC h5] at n;rw[aC (by omega)];exact n
 clear B v c w n l T m;rintro s3 ⟨⟨m,B,v,c,w,T⟩,n,l⟩;have aw:k≠4->(if (k=2/\j=1)\/(k=3/\j=5) then (1:Int) else 2)=x.1/\(if (k=2/\j=1)\/(k=3/\3<=j) then (1:Int) else 2)=x.2:=λa=>by
  rw[ba];by_cases g:k=2
  ·rw[aD g]
   have Z:j=0\/j=1:=by omega
   rcases Z with rfl|rfl
   ·simp [g,VF]
   ·simp [g,VF]
  ·have P:k=3:=by omega
   rw[aC g];rcases Yj (x:=j) (by omega) (by omega) with rfl|rfl|rfl|rfl|rfl|rfl <;> simp [P,HA]
 obtain⟨x1,bf⟩:∃x1:Int,x1=if (k=2/\j=1)\/(k=3/\j=5) then (1:Int) else 2:=⟨_,rfl⟩
 obtain⟨x2,bi⟩:∃x2:Int,x2=if (k=2/\j=1)\/(k=3/\3<=j) then (1:Int) else 2:=⟨_,rfl⟩
 rw[<-bf] at n aw;rw[<-bi] at l aw;have aa:y=if k=4 then 0 else if (ar.all λo=>decide (tc b o=x1))=false then 22 else if u.k≠x2 then 22 else 0:=by
  rw[a9];by_cases a:k=4
  ·rw[aD a,aD a]
  ·rw[aC a,aC a,(aw a).1,(aw a).2]
 clear aw bf bi a9 ba;refine tz ?_;refine aO ar.length (λi s=>A1 b k j rg mu pl ar t u.k H s/\s.fr 11=i64 x1/\s.fr 12=i64 x2/\s.fr 13=i64 i/\(ar.all λo=>decide (tc b o=x1))=((ar.drop i).all λo=>decide (tc b o=x1))) ⟨⟨m,B,v,c,w,T⟩,n,l,rfl,rfl⟩ ?_;clear B v c w n l T m;clear hi hx ag q6 J;rintro i s hi ⟨⟨m,B,v,c,w,T⟩,n,l,a5,I⟩;have hx:=aX i;have ag:=aZ i;have R:H.le s.H:=by rw[T];exact aF _
 by_cases a:k=4
 ·have k4:(k=4)=True:=aG a
  have e:y=0:=by rw[aa,aD a]
  by_cases J:i<ar.length
  ·have q6:=lT i ar.length
   exact oz aB (ej c w l a5 L q6 k4) R e
  ·have q6:=lF i ar.length
   exact oz aB (ej c w l a5 L q6 k4) R e
 have k4:(k=4)=False:=aI a;rw[aC a] at aa;by_cases J:i<ar.length
 case neg=>
  have q6:=lF i ar.length;rw[cb (by omega),lh] at I;rw[I,aC (λh=>by cases h)] at aa;by_cases G:u.k=x2
  ·have N:(u.k=x2)=True:=aG G
   have e:y=0:=aa.trans (aC (λh=>h G));exact oz aB (bG c w l a5 L q6 k4 N) R e
  ·have N:(u.k=x2)=False:=aI G
   have e:y=22:=aa.trans (aD G);exact oz aB (bG c w l a5 L q6 k4 N) R e
 have ab:(i:Int)<(ar.length:Int):=by omega
 have q6:((i:Int)<(ar.length:Int))=True:=aG ab;have w3:=wS i;have a3:=sQ J;have a4:=ao J;rw[cL J,jQ] at I;have a2:=a2 _ a4 x1 (b3 _ a4) s.H;obtain⟨o,Z⟩:=oX ar[i];rw[<-Z] at a3 I a2;clear Z a4;obtain⟨z,hz⟩:=oX (decide (tc b o=x1));rw[<-hz] at I a2;clear hz;simp only[db] at a3 a2;refine tq (cw c a5 L q6 k4) ?_;intro U Y O C;(try refine bW ?_);refine dE (λ_ _ d A=>A=.none/\d=.val (.bool z)) λU Y=>?_;refine dst (bG v c n a5 a3 hx ag (bQ J ab L)) ?_;intro U Y O C;refine⟨a2,?_⟩;refine nx ?_;cases z
 ·rw[dq] at I
  rw[I,aD rfl] at aa;have e:=aa;exact oz aB trivial R e
 ·rw[cV] at I
  refine tn (av a5 w3) ?_;exact⟨J,⟨m,B,v,c,w,T⟩,n,l,rfl,I⟩
theorem RW (s:qO):FB s=(dU s.pl&&HC s.rv):=by
 unfold FB HC;have h:∀z a b c d e f:Bool,(z&&(a&&b&&c&&d&&e&&f))=(z&&(a&&(b&&(d&&(e&&(f&&c)))))):=by decide
 exact h _ _ _ _ _ _ _
theorem S8 (b:bn) (s:qO) (H:aA) (ck:Ck b) (hp:PH s):aN prog 52 [.agg (cu b),.agg (ji s)] H λd H'=>d=i64 (yY b s)/\H=H':=by
 refine aq (K:=λd=>d=i64 (yY b s)) ?_;have f:=aF H;have u:=xH b s.pl H ck hp.1;have p:=Dt b s.pl H ck hp.1;have r:=vb s.pl H hp.1;have l:=OV s.rv H hp.2;have has:=λt h=>Lc b s.rv t H ck hp.2 h (CO ck.wt h);have x:(mB b s.pl).2=0->bN b.ty.length (mB b s.pl).1:=λh=>xV ck h;have z:=lm eQ b.lc;obtain⟨y,a⟩:=oX (yY b s);rw[<-a];unfold yY qy at a;rw[RW] at a;obtain⟨Z,P⟩:=oX (dU s.pl);rw[<-P] at r a;obtain⟨J,L⟩:=oX (HC s.rv);rw[<-L] at l a;obtain⟨T,N⟩:=oX (mB b s.pl);rw[<-N] at u x a;obtain⟨R,M⟩:=oX (ml b.ty b.lc s.pl);rw[<-M] at p a;clear P L N M;rw[jB] at u p has ⊢;obtain⟨k,pl,S,j⟩:=s;simp only at a has l;simp only[uo] at has l;simp only[ee] at u p r;simp only[ji];refine dO func52 ntmps52 results52 λw0 g0 Q c=>?_;refine t0 ?_;intro U Y O C;intro V E c3 G;refine Y _ ?_;refine uB 2 3 E G ?_;by_cases A:k=0
 ·have w:(k=0)=True:=aG A
  rw[aD A] at a;by_cases g:j=0
  case neg=>
   have i:(j=0)=False:=aI g;have e:y=2:=a.trans (aD g);exact oz c (av w i) f e
  have i:(j=0)=True:=aG g;rw[aC (λh=>h g)] at a;refine tq (av w i) ?_;intro U Y O C;refine u.q ?_;by_cases m:T.2=0
  case neg=>
   have v:(T.2=0)=False:=aI m;have e:y=T.2:=by rw[a,aD m,aD m]
   exact oz c v f e
  have v:(T.2=0)=True:=aG m;rw[aC (λh=>h m:¬(T.2≠0))] at a;refine tq v ?_;intro U Y O C;refine p.q ?_;cases R
  ·have e:y=22:=by rw[a];rfl
   exact oz c trivial f e
  have e:y=Cd b S T.1:=by rw[a];rfl
  refine t0 ?_;intro U Y O C;refine(has T.1 (x m)).q ?_;exact oz c i f e
 have w:(k=0)=False:=aI A;rw[aC A] at a;by_cases n:k=1
 ·have B:(k=1)=True:=aG n
  rw[aD n] at a;refine tq (av w B) ?_;intro U Y O C;refine r.q ?_;cases Z
  ·have e:y=2:=a
   exact oz c trivial f e
  rw[cV] at a;refine t0 ?_;intro U Y O C;refine l.q ?_;cases J
  ·have e:y=2:=a
   exact oz c trivial f e
  rw[aC (λh=>by cases h)] at a;by_cases g:j<0
  ·have i:(j<0)=True:=aG g
   have e:y=3:=a.trans (aD (.inl g));exact oz c i f e
  have i:(j<0)=False:=aI g;by_cases m:(b.lc.length:Int)<=j
  ·have v:(j≥(b.lc.length:Int))=True:=aG m
   have e:y=3:=a.trans (aD (.inr m));exact oz c (bQ i v z) f e
  have v:(j≥(b.lc.length:Int))=False:=aI m;have e:y=0:=a.trans (aC (by omega));exact oz c (bQ i v z) f e
 have B:(k=1)=False:=aI n;rw[aC n] at a;by_cases o:k=2
 ·have I:(k=2)=True:=aG o
  rw[aD o] at a;refine tq (bQ w B I) ?_;intro U Y O C;refine r.q ?_;cases Z
  ·have e:y=2:=a
   exact oz c trivial f e
  rw[cV] at a;refine t0 ?_;intro U Y O C;refine l.q ?_;cases J
  ·have e:y=2:=a
   exact oz c trivial f e
  by_cases g:j=0
  ·have i:(j=0)=True:=aG g
   have e:y=0:=a.trans (aC (by rintro(h|h);cases h;exact h g));exact oz c i f e
  ·have i:(j=0)=False:=aI g
   have e:y=2:=a.trans (aD (.inr g));exact oz c i f e
 have I:(k=2)=False:=aI o;rw[aC o] at a;have e:y=14:=a;exact oz c (bQ w B I) f e
def T1 (b:bn) (k:Int) (c:List Int) (ar:List gq) (a:gR) (nm:ByteArray) (H:aA) (s:St):Prop:=s.df=[]/\s.fr 2=.rp [bC b.nm,.seq 1 (b.rg.map sD),.seq 2 (b.ol.map pD),.seq 5 (b.ty.map bS),.seq 2 (b.lc.map eQ),i64 b.ag,.seq 7 (b.bl.map dM)]/\s.fr 3=.rp [i64 k,.seq 1 (c.map iD),.seq 4 (ar.map db),i64 a.lo,.seq 2 (a.pr.map pD),bC nm]/\s.fr 6=.val (.bool (decide (k=3)))/\s.H=H
noncomputable def tmR (b:bn) (k:Int) (c:List Int) (ar:List gq) (a:gR) (nm:ByteArray) (o:gq):Int:=
 if (c.all λx=>decide (bN b.bl.length x))=false then 3
 else if k=1 then (if kx b o≠0 then kx b o else if tc b o≠1 then 22 else 0)
 else if k=3 then (if eY nm=false then 12 else if 65535<ar.length then 15 else if eM b ar []≠0 then eM b ar [] else qy b a)
 else if k=4 then (if (mB b a).2≠0 then (mB b a).2 else if pC a 0=true then 22 else 0)
 else 0
theorem Rz {t:ra}(h:nX t=true) (h1:t.k≠1) (h3:t.k≠3):t.ar.length=0:=by
 unfold nX at h;by_cases a:t.k=0
 ·rw[aD a] at h
  simp only[cX,dF] at h;exact h.1.1.2
 rw[aC a,aC h1,aC h3] at h;by_cases b:t.k=4
 ·rw[aD b] at h
  simp only[cX,dF] at h;exact h.1.2
 ·rw[aC b] at h
  simp only[cX,dF] at h;exact h.1.1.2
theorem S9 (b:bn) (t:ra) (H:aA) (ck:Ck b) (hp:Ht t) (bm:cH t.nm.size):aN prog 53 [.agg (cu b),.agg (G2 t)] H λd H'=>d=i64 (tw b t)/\H=H':=by
 refine aq (K:=λd=>d=i64 (tw b t)) ?_;have V:=aF H;have a2:∀o∈t.ar,∀H1,cP prog 115 [.agg (cu b),.agg (db o)] H1 λd A=>A=aA.none/\d=i64 (kx b o):=λo ho H1=>an λac b1=>AU b o ac ck (hp.2.1.2 o ho);have a0:∀o∈t.ar,kx b o=0->∀H1,cP prog 116 [.agg (cu b),.agg (db o),i64 1] H1 λd A=>A=aA.none/\d=.val (.bool (decide (tc b o=1))):=λo ho hz H1=>an λac b1=>AR b o 1 ac ck (hp.2.1.2 o ho) hz;have E:∀H1,cP prog 113 [.agg (ee t.pl)] H1 λd A=>A=aA.none/\d=.val (.bool (dU t.pl)):=λH1=>an λac b1=>vb t.pl ac hp.2.2;have ae:=va t.nm H bm;have ab:=xH b t.pl H ck hp.2.2;have aa:=Dt b t.pl H ck hp.2.2;have ad:=Fb t.pl H hp.2.2;have f:=lm iD t.tg;have j:=lm db t.ar;have b8:=lm dM b.bl;have ba:=hp.1;have b7:=hp.2.1.1;have bc:=ck.YS;unfold cH at ba b7 bc;have a5:nX t=true->t.k=1->t.ar.length=1:=Nu;have a9:nX t=true->t.k≠1->t.k≠3->t.ar.length=0:=Rz;obtain⟨y,hy⟩:=oX (tw b t);rw[<-hy];have a:y=if t.k<0\/5<t.k then 14 else if nX t=false then 2 else tmR b t.k t.tg t.ar t.pl t.nm (BS t):=hy
 clear hy;have am:t.ar.length=1->[BS t]=t.ar:=λh=>by
  obtain⟨o,ho⟩:=zA.1 h;unfold BS;rw[ho];rfl
 obtain⟨a6,hO⟩:=oX (BS t);rw[<-hO] at a am;clear hO;rw[jB] at a2 a0 ab aa ⊢;have c:=JD t;unfold yS at c;obtain⟨F,hF⟩:=oX (nX t);rw[<-hF] at c a a5 a9;clear hF hp;obtain⟨Z,hZ⟩:=oX (dU t.pl);rw[<-hZ] at E c;clear hZ;obtain⟨k,B,n,pl,nm⟩:=t;simp only at a f j ba b7 a5 a9 a2 a0 am c ae;simp only[ee] at ab aa ad E;simp only[db] at a2 a0;simp only[G2];obtain⟨R,hR⟩:=oX (tmR b k B n pl nm a6);rw[<-hR] at a;refine dO func53 ntmps53 results53 λw0 g0 Q w=>?_;refine t0 ?_;intro U Y O C;intro c2 be c3 bf;refine Y _ ?_;refine uB 2 3 be bf ?_;by_cases h1:k<0
 ·have q1:(k<0)=True:=aG h1
  have e:y=14:=a.trans (aD (.inl h1));exact oz w q1 V e
 have q1:(k<0)=False:=aI h1;by_cases h2:5<k
 ·have q2:(5<k)=True:=aG h2
  have e:y=14:=a.trans (aD (.inr h2));exact oz w (av q1 q2) V e
 have q2:(5<k)=False:=aI h2;rw[aC (by omega)] at a;refine tq (av q1 q2) ?_;intro U Y O C;intro c5 bi;refine Y _ ?_;refine cm 5 bi ?_;(iterate 3 (refine tk trivial ?_;intro U Y O C));refine rl (λs=>T1 b k B n pl nm H s/\F=true) ?_ ?_
 ·have hk:k=0\/k=1\/k=2\/k=3\/k=4\/k=5:=by omega
  rcases hk with hk|hk|hk|hk|hk|hk
  ·
   by_cases J:(B.length:Int)=1
   case neg=>
    have l:((B.length:Int)=1)=False:=aI J;have g:F=false:=by rw[c,aD hk,af J];try rfl
    have e:y=2:=by rw[a,g,aD rfl]
    refine bW ?_;refine dE (λ_ _ _ _=>False) λU Y=>?_;refine dst (bQ hk f l) ?_;intro U Y O C;refine t0 ?_;intro U Y O C;refine⟨by simp,?_⟩;refine rt w trivial ?_;exact zf V (by rw[e])
   have l:((B.length:Int)=1)=True:=aG J;rw[aD hk,ah J] at c;by_cases S:nm=ByteArray.empty
   case neg=>
    have r:(nm.toList=(ByteArray.mk #[]).toList)=False:=aI (λh=>S (eA.1 h));have g:F=false:=by rw[c,af S,fq]
    have e:y=2:=by rw[a,g,aD rfl]
    refine bW ?_;refine dE (λ_ _ _ _=>False) λU Y=>?_;refine dst (cw hk f l @bC.eq_1 r) ?_;intro U Y O C;refine t0 ?_;intro U Y O C;refine⟨by simp,?_⟩;refine rt w trivial ?_;exact zf V (by rw[e])
   have r:(nm.toList=(ByteArray.mk #[]).toList)=True:=aG (eA.2 S);rw[ah S,fu] at c;cases Z
   case false=>
    have g:F=false:=by rw[c,fq]
    have e:y=2:=by rw[a,g,aD rfl]
    refine bW ?_;refine dE (λ_ _ d A=>A=.none/\d=.val (.bool false)) λU Y=>?_;refine dst (eP hk f l @bC.eq_1 r j) ?_;intro U Y O C;refine⟨E _,?_⟩;(first|refine C _ ?_|skip);(first|refine dst (eP hk f l @bC.eq_1 r j) ?_;intro U Y O C|skip);refine t0 ?_;intro U Y O C;refine⟨by simp,?_⟩;refine rt w trivial ?_;exact zf V (by rw[e])
   rw[fu] at c;by_cases z:(n.length:Int)=0
   case neg=>
    have N:=nT ((0:Int)<(n.length:Int));have g:F=false:=by rw[c,af z];rfl
    have e:y=2:=by rw[a,g,aD rfl]
    refine bW ?_;refine dE (λ_ _ d A=>A=.none/\d=.val (.bool true)) λU Y=>?_;refine dst (ej hk f l @bC.eq_1 r j N) ?_;intro U Y O C;refine⟨E _,?_⟩;(first|refine C _ ?_|skip);(first|refine dst (ej hk f l @bC.eq_1 r j N) ?_;intro U Y O C|skip);refine t0 ?_;intro U Y O C;refine⟨by simp,?_⟩;refine rt w trivial ?_;exact zf V (by rw[e])
   have N:=nF ((0:Int)<(n.length:Int));refine bW ?_;refine dE (λ_ _ d A=>A=.none/\d=.val (.bool true)) λU Y=>?_;refine dst (ej hk f l @bC.eq_1 r j N) ?_;intro U Y O C;refine⟨E _,?_⟩;(first|refine C _ ?_|skip);(first|refine dst (ej hk f l @bC.eq_1 r j N) ?_;intro U Y O C|skip);refine tz ?_;exact⟨⟨rfl,rfl,by subst hk;rfl,by subst hk;rfl,rfl⟩,by rw[c,ah z];try rfl⟩
  ·
   by_cases J:(B.length:Int)=2
   case neg=>
    have l:((B.length:Int)=2)=False:=aI J;have g:F=false:=by rw[c,aC (by omega),aD hk,af J];try rfl
    have e:y=2:=by rw[a,g,aD rfl]
    refine bW ?_;refine dE (λ_ _ _ _=>False) λU Y=>?_;refine dst (bQ hk f l) ?_;intro U Y O C;refine t0 ?_;intro U Y O C;refine⟨by simp,?_⟩;refine rt w trivial ?_;exact zf V (by rw[e])
   have l:((B.length:Int)=2)=True:=aG J;rw[aC (by omega),aD hk,ah J] at c;by_cases S:nm=ByteArray.empty
   case neg=>
    have r:(nm.toList=(ByteArray.mk #[]).toList)=False:=aI (λh=>S (eA.1 h));have g:F=false:=by rw[c,af S,fq]
    have e:y=2:=by rw[a,g,aD rfl]
    refine bW ?_;refine dE (λ_ _ _ _=>False) λU Y=>?_;refine dst (cw hk f l @bC.eq_1 r) ?_;intro U Y O C;refine t0 ?_;intro U Y O C;refine⟨by simp,?_⟩;refine rt w trivial ?_;exact zf V (by rw[e])
   have r:(nm.toList=(ByteArray.mk #[]).toList)=True:=aG (eA.2 S);rw[ah S,fu] at c;cases Z
   case false=>
    have g:F=false:=by rw[c,fq]
    have e:y=2:=by rw[a,g,aD rfl]
    refine bW ?_;refine dE (λ_ _ d A=>A=.none/\d=.val (.bool false)) λU Y=>?_;refine dst (eP hk f l @bC.eq_1 r j) ?_;intro U Y O C;refine⟨E _,?_⟩;(first|refine C _ ?_|skip);(first|refine dst (eP hk f l @bC.eq_1 r j) ?_;intro U Y O C|skip);refine t0 ?_;intro U Y O C;refine⟨by simp,?_⟩;refine rt w trivial ?_;exact zf V (by rw[e])
   rw[fu] at c;by_cases z:(n.length:Int)=1
   case neg=>
    have N:=nF ((n.length:Int)=1);have g:F=false:=by rw[c,af z];rfl
    have e:y=2:=by rw[a,g,aD rfl]
    refine bW ?_;refine dE (λ_ _ d A=>A=.none/\d=.val (.bool true)) λU Y=>?_;refine dst (ej hk f l @bC.eq_1 r j N) ?_;intro U Y O C;refine⟨E _,?_⟩;(first|refine C _ ?_|skip);(first|refine dst (ej hk f l @bC.eq_1 r j N) ?_;intro U Y O C|skip);refine t0 ?_;intro U Y O C;refine⟨by simp,?_⟩;refine rt w trivial ?_;exact zf V (by rw[e])
   have N:=nT ((n.length:Int)=1);refine bW ?_;refine dE (λ_ _ d A=>A=.none/\d=.val (.bool true)) λU Y=>?_;refine dst (ej hk f l @bC.eq_1 r j N) ?_;intro U Y O C;refine⟨E _,?_⟩;(first|refine C _ ?_|skip);(first|refine dst (ej hk f l @bC.eq_1 r j N) ?_;intro U Y O C|skip);refine tz ?_;exact⟨⟨rfl,rfl,by subst hk;rfl,by subst hk;rfl,rfl⟩,by rw[c,ah z];try rfl⟩
  ·
   by_cases J:(B.length:Int)=0
   case neg=>
    have l:((B.length:Int)=0)=False:=aI J;have g:F=false:=by rw[c,aC (by omega),aC (by omega),aC (by omega),aC (by omega),af J];try rfl
    have e:y=2:=by rw[a,g,aD rfl]
    refine bW ?_;refine dE (λ_ _ _ _=>False) λU Y=>?_;refine dst (bQ hk f l) ?_;intro U Y O C;refine t0 ?_;intro U Y O C;refine⟨by simp,?_⟩;refine rt w trivial ?_;exact zf V (by rw[e])
   have l:((B.length:Int)=0)=True:=aG J;rw[aC (by omega),aC (by omega),aC (by omega),aC (by omega),ah J] at c;by_cases S:nm=ByteArray.empty
   case neg=>
    have r:(nm.toList=(ByteArray.mk #[]).toList)=False:=aI (λh=>S (eA.1 h));have g:F=false:=by rw[c,af S,fq]
    have e:y=2:=by rw[a,g,aD rfl]
    refine bW ?_;refine dE (λ_ _ _ _=>False) λU Y=>?_;refine dst (cw hk f l @bC.eq_1 r) ?_;intro U Y O C;refine t0 ?_;intro U Y O C;refine⟨by simp,?_⟩;refine rt w trivial ?_;exact zf V (by rw[e])
   have r:(nm.toList=(ByteArray.mk #[]).toList)=True:=aG (eA.2 S);rw[ah S,fu] at c;cases Z
   case false=>
    have g:F=false:=by rw[c,fq]
    have e:y=2:=by rw[a,g,aD rfl]
    refine bW ?_;refine dE (λ_ _ d A=>A=.none/\d=.val (.bool false)) λU Y=>?_;refine dst (eP hk f l @bC.eq_1 r j) ?_;intro U Y O C;refine⟨E _,?_⟩;(first|refine C _ ?_|skip);(first|refine dst (eP hk f l @bC.eq_1 r j) ?_;intro U Y O C|skip);refine t0 ?_;intro U Y O C;refine⟨by simp,?_⟩;refine rt w trivial ?_;exact zf V (by rw[e])
   rw[fu] at c;by_cases z:(n.length:Int)=0
   case neg=>
    have N:=nT ((0:Int)<(n.length:Int));have g:F=false:=by rw[c,af z];rfl
    have e:y=2:=by rw[a,g,aD rfl]
    refine bW ?_;refine dE (λ_ _ d A=>A=.none/\d=.val (.bool true)) λU Y=>?_;refine dst (ej hk f l @bC.eq_1 r j N) ?_;intro U Y O C;refine⟨E _,?_⟩;(first|refine C _ ?_|skip);(first|refine dst (ej hk f l @bC.eq_1 r j N) ?_;intro U Y O C|skip);refine t0 ?_;intro U Y O C;refine⟨by simp,?_⟩;refine rt w trivial ?_;exact zf V (by rw[e])
   have N:=nF ((0:Int)<(n.length:Int));refine bW ?_;refine dE (λ_ _ d A=>A=.none/\d=.val (.bool true)) λU Y=>?_;refine dst (ej hk f l @bC.eq_1 r j N) ?_;intro U Y O C;refine⟨E _,?_⟩;(first|refine C _ ?_|skip);(first|refine dst (ej hk f l @bC.eq_1 r j N) ?_;intro U Y O C|skip);refine tz ?_;exact⟨⟨rfl,rfl,by subst hk;rfl,by subst hk;rfl,rfl⟩,by rw[c,ah z];try rfl⟩
  ·
   by_cases J:(B.length:Int)=1
   case neg=>
    have l:((B.length:Int)=1)=False:=aI J;have g:F=false:=by rw[c,aC (by omega),aC (by omega),aD hk,af J];try rfl
    have e:y=2:=by rw[a,g,aD rfl]
    refine bW ?_;refine dE (λ_ _ _ _=>False) λU Y=>?_;refine dst (bQ hk f l) ?_;intro U Y O C;refine t0 ?_;intro U Y O C;refine⟨by simp,?_⟩;refine rt w trivial ?_;exact zf V (by rw[e])
   have l:((B.length:Int)=1)=True:=aG J;rw[aC (by omega),aC (by omega),aD hk,ah J] at c;refine bW ?_;refine dE (λ_ _ _ _=>False) λU Y=>?_;refine dst (bQ hk f l) ?_;intro U Y O C;refine tz ?_;exact⟨⟨rfl,rfl,by subst hk;rfl,by subst hk;rfl,rfl⟩,c⟩
  ·
   by_cases J:(B.length:Int)=1
   case neg=>
    have l:((B.length:Int)=1)=False:=aI J;have g:F=false:=by rw[c,aC (by omega),aC (by omega),aC (by omega),aD hk,af J];try rfl
    have e:y=2:=by rw[a,g,aD rfl]
    refine bW ?_;refine dE (λ_ _ _ _=>False) λU Y=>?_;refine dst (bQ hk f l) ?_;intro U Y O C;refine t0 ?_;intro U Y O C;refine⟨by simp,?_⟩;refine rt w trivial ?_;exact zf V (by rw[e])
   have l:((B.length:Int)=1)=True:=aG J;rw[aC (by omega),aC (by omega),aC (by omega),aD hk,ah J] at c;by_cases S:nm=ByteArray.empty
   case neg=>
    have r:(nm.toList=(ByteArray.mk #[]).toList)=False:=aI (λh=>S (eA.1 h));have g:F=false:=by rw[c,af S,fq]
    have e:y=2:=by rw[a,g,aD rfl]
    refine bW ?_;refine dE (λ_ _ _ _=>False) λU Y=>?_;refine dst (cw hk f l @bC.eq_1 r) ?_;intro U Y O C;refine t0 ?_;intro U Y O C;refine⟨by simp,?_⟩;refine rt w trivial ?_;exact zf V (by rw[e])
   have r:(nm.toList=(ByteArray.mk #[]).toList)=True:=aG (eA.2 S);rw[ah S,fu] at c;by_cases z:(n.length:Int)=0
   case neg=>
    have N:=nT ((0:Int)<(n.length:Int));have g:F=false:=by rw[c,af z];rfl
    have e:y=2:=by rw[a,g,aD rfl]
    refine bW ?_;refine dE (λ_ _ _ _=>False) λU Y=>?_;refine dst (ej hk f l @bC.eq_1 r j N) ?_;intro U Y O C;refine t0 ?_;intro U Y O C;refine⟨by simp,?_⟩;refine rt w trivial ?_;exact zf V (by rw[e])
   have N:=nF ((0:Int)<(n.length:Int));refine bW ?_;refine dE (λ_ _ _ _=>False) λU Y=>?_;refine dst (ej hk f l @bC.eq_1 r j N) ?_;intro U Y O C;refine tz ?_;exact⟨⟨rfl,rfl,by subst hk;rfl,by subst hk;rfl,rfl⟩,by rw[c,ah z];try rfl⟩
  ·
   by_cases J:(B.length:Int)=0
   case neg=>
    have l:((B.length:Int)=0)=False:=aI J;have g:F=false:=by rw[c,aC (by omega),aC (by omega),aC (by omega),aC (by omega),af J];try rfl
    have e:y=2:=by rw[a,g,aD rfl]
    refine bW ?_;refine dE (λ_ _ _ _=>False) λU Y=>?_;refine dst (bQ hk f l) ?_;intro U Y O C;refine t0 ?_;intro U Y O C;refine⟨by simp,?_⟩;refine rt w trivial ?_;exact zf V (by rw[e])
   have l:((B.length:Int)=0)=True:=aG J;rw[aC (by omega),aC (by omega),aC (by omega),aC (by omega),ah J] at c;by_cases S:nm=ByteArray.empty
   case neg=>
    have r:(nm.toList=(ByteArray.mk #[]).toList)=False:=aI (λh=>S (eA.1 h));have g:F=false:=by rw[c,af S,fq]
    have e:y=2:=by rw[a,g,aD rfl]
    refine bW ?_;refine dE (λ_ _ _ _=>False) λU Y=>?_;refine dst (cw hk f l @bC.eq_1 r) ?_;intro U Y O C;refine t0 ?_;intro U Y O C;refine⟨by simp,?_⟩;refine rt w trivial ?_;exact zf V (by rw[e])
   have r:(nm.toList=(ByteArray.mk #[]).toList)=True:=aG (eA.2 S);rw[ah S,fu] at c;cases Z
   case false=>
    have g:F=false:=by rw[c,fq]
    have e:y=2:=by rw[a,g,aD rfl]
    refine bW ?_;refine dE (λ_ _ d A=>A=.none/\d=.val (.bool false)) λU Y=>?_;refine dst (eP hk f l @bC.eq_1 r j) ?_;intro U Y O C;refine⟨E _,?_⟩;(first|refine C _ ?_|skip);(first|refine dst (eP hk f l @bC.eq_1 r j) ?_;intro U Y O C|skip);refine t0 ?_;intro U Y O C;refine⟨by simp,?_⟩;refine rt w trivial ?_;exact zf V (by rw[e])
   rw[fu] at c;by_cases z:(n.length:Int)=0
   case neg=>
    have N:=nT ((0:Int)<(n.length:Int));have g:F=false:=by rw[c,af z];rfl
    have e:y=2:=by rw[a,g,aD rfl]
    refine bW ?_;refine dE (λ_ _ d A=>A=.none/\d=.val (.bool true)) λU Y=>?_;refine dst (ej hk f l @bC.eq_1 r j N) ?_;intro U Y O C;refine⟨E _,?_⟩;(first|refine C _ ?_|skip);(first|refine dst (ej hk f l @bC.eq_1 r j N) ?_;intro U Y O C|skip);refine t0 ?_;intro U Y O C;refine⟨by simp,?_⟩;refine rt w trivial ?_;exact zf V (by rw[e])
   have N:=nF ((0:Int)<(n.length:Int));refine bW ?_;refine dE (λ_ _ d A=>A=.none/\d=.val (.bool true)) λU Y=>?_;refine dst (ej hk f l @bC.eq_1 r j N) ?_;intro U Y O C;refine⟨E _,?_⟩;(first|refine C _ ?_|skip);(first|refine dst (ej hk f l @bC.eq_1 r j N) ?_;intro U Y O C|skip);refine tz ?_;exact⟨⟨rfl,rfl,by subst hk;rfl,by subst hk;rfl,rfl⟩,by rw[c,ah z];try rfl⟩
 rintro s1 ⟨⟨b5,L,p,P,b6⟩,hF⟩;rw[hF,aC (λh=>by cases h)] at a;have a5:=a5 hF;have a9:=a9 hF;clear c E;rw[hR] at a;unfold tmR at a;refine tz ?_;refine aO B.length (λi s=>T1 b k B n pl nm H s/\s.fr 7=i64 i/\(B.all λx=>decide (bN b.bl.length x))=((B.drop i).all λx=>decide (bN b.bl.length x))) ⟨⟨b5,L,p,P,b6⟩,rfl,rfl⟩ ?_;clear L p P b6 b5;rintro i s hi ⟨⟨G,L,p,P,hH⟩,f7,z⟩;have hx:=aX i;have a7:=aZ i;have m:H.le s.H:=by rw[hH];exact aF _
 by_cases M:i<B.length
 case pos=>
  have a4:(i:Int)<(B.length:Int):=by omega
  have q6:((i:Int)<(B.length:Int))=True:=aG a4;have w3:=wS i;have a3:=bT M;rw[cL M,jQ] at z;obtain⟨v,hv⟩:=oX B[i];rw[<-hv] at a3 z;have b4:¬bN b.bl.length v->y=3:=λh=>by rw[af h,dq] at z;rw[a,z];rfl
  refine tq (cA p f7 f q6) ?_;intro U Y O C;(try refine bW ?_);by_cases h3:v<0
  ·have l:(v<0)=True:=aG h3
   have e:=b4 (by unfold bN;omega);refine dE (λ_ _ _ _=>False) λU Y=>?_;refine dst (bG L p f7 f a3 hx a7 (bQ M a4 l)) ?_;intro U Y O C;exact oz w trivial m e
  have l:(v<0)=False:=aI h3;by_cases h4:(b.bl.length:Int)<=v
  ·have q4:(v≥(b.bl.length:Int))=True:=aG h4
   have e:=b4 (by unfold bN;omega);refine dE (λ_ _ _ _=>False) λU Y=>?_;refine dst (bG L p f7 f b8 a3 hx (cw a7 M a4 l q4)) ?_;intro U Y O C;exact oz w trivial m e
  have q4:(v≥(b.bl.length:Int))=False:=aI h4;rw[ah (by unfold bN;omega:bN b.bl.length v),cV] at z;refine dE (λ_ _ _ _=>False) λU Y=>?_;refine dst (bG L p f7 f b8 a3 hx (cw a7 M a4 l q4)) ?_;intro U Y O C;refine tn (av f7 w3) ?_;exact⟨M,⟨G,L,p,P,hH⟩,rfl,z⟩
 have q6:=lF i B.length;rw[cb (by omega),lh] at z;rw[z,aC (λh=>by cases h)] at a;clear z;have bk:k≠3->n.length<=1:=λh=>by
  by_cases h1:k=1
  ·have:=a5 h1;omega
  ·have:=a9 h1 h;omega
 obtain⟨I,hI⟩:=oX (eY nm);rw[<-hI] at ae a;clear hI;rw[<-hH] at ae;(iterate 6 (refine tk (cA p f7 f q6) ?_;intro U Y O C));refine rl (λs=>T1 b k B n pl nm H s/\¬(k=3/\I=false)) ?_ ?_
 ·by_cases u:k=3
  ·have k3:(k=3)=True:=aG u
   refine tq (bQ p P k3) ?_;intro U Y O C;refine ae.mono ?_;rintro d _ ⟨rfl,a8⟩;cases I
   ·have e:y=12:=by rw[a,aC (by omega),aD u];rfl
    rw[a8] at m;refine t0 ?_;intro U Y O C;refine⟨by simp,?_⟩;refine rt w G ?_;exact⟨_,aF _,m,_,aL m,by rw[e] <;> rfl⟩
   ·refine tz ?_
    exact⟨⟨G,L,p,P,a8▸hH⟩,λh=>by cases h.2⟩
  ·have k3:(k=3)=False:=aI u
   refine tn (bQ p P k3) ?_;exact⟨⟨G,L,p,P,hH⟩,λh=>u h.1⟩
 clear L p P f7 hH G m ae;rintro s1 ⟨⟨G,L,p,P,hH⟩,hI⟩;have m:H.le s1.H:=by rw[hH];exact aF _
 refine bW ?_;refine rl (λs=>T1 b k B n pl nm H s/\¬(k=3/\65535<n.length)) ?_ ?_
 ·by_cases h5:65535<n.length
  ·have u:k=3:=eC λh=>by have:=bk h;omega
   have q5:=nT ((65535:Int)<(n.length:Int));have e:y=15:=by rw[a,aC (by omega),aD u,aC (λh=>hI ⟨u,h⟩),aD h5]
   refine tq (bQ p j q5) ?_;intro U Y O C;refine⟨by simp,?_⟩;refine rt w G ?_;exact⟨_,aF _,m,_,aL m,by rw[e] <;> rfl⟩
  ·have q5:=nF ((65535:Int)<(n.length:Int))
   refine tn (bQ p j q5) ?_;exact⟨⟨G,L,p,P,hH⟩,λh=>h5 h.2⟩
 clear L p P hH G m;rintro s2 ⟨⟨G,L,p,P,hH⟩,hL⟩;have hE:eM b n []≠0->y=eM b n []:=λh=>by
  by_cases a1:k=1
  ·have hl:=a5 a1
   have ho:=am hl;have h2:eM b [a6] []=if kx b a6≠0 then kx b a6 else 0:=rfl
   rw[<-ho,h2] at h ⊢;rw[a,aD a1];by_cases hz:kx b a6=0
   ·rw[aC (λk=>k hz)] at h;exact absurd rfl h
   ·rw[aD hz,aD hz]
  ·by_cases u:k=3
   ·rw[a,aC a1,aD u,aC (λh=>hI ⟨u,h⟩),aC (λh=>hL ⟨u,h⟩),aD h]
   ·have h0:=a9 a1 u
    rw[List.length_eq_zero_iff.1 h0] at h;exact absurd rfl h
 refine tz ?_;refine aO n.length (λi s=>T1 b k B n pl nm H s/\s.fr 8=i64 i/\eM b n []=eM b (n.drop i) []) ⟨⟨G,L,p,P,hH⟩,rfl,rfl⟩ ?_;clear L p P hH G;clear hi hx a7 q6 M;rintro i s hi ⟨⟨G,L,p,P,hH⟩,f8,z⟩;have hx:=aX i;have a7:=aZ i;have m:H.le s.H:=by rw[hH];exact aF _
 by_cases M:i<n.length
 case pos=>
  have a4:(i:Int)<(n.length:Int):=by omega
  have q6:((i:Int)<(n.length:Int))=True:=aG a4;have w3:=wS i;have a3:=sQ M;have a2:=a2 _ (ao M) s.H;rw[cL M] at z;obtain⟨o,ho⟩:=oX n[i];rw[<-ho] at a3 z a2;clear ho;obtain⟨oE,b0⟩:=oX (kx b o);have b3:eM b (o::n.drop (i+1)) []=if oE≠0 then oE else eM b (n.drop (i+1)) []:=by rw[b0];rfl
  rw[b3] at z;rw[<-b0] at a2;clear b3 b0;simp only[db] at a3;refine tq (cA p f8 j q6) ?_;intro U Y O C;(try refine bW ?_);refine dE (λ_ _ d A=>A=.none/\d=i64 oE) λU Y=>?_;refine dst (bG L p f8 j a3 hx a7 (av M a4)) ?_;intro U Y O C;refine⟨a2,?_⟩;refine nx ?_;by_cases h0:oE=0
  ·have q0:(oE=0)=True:=aG h0
   rw[aC (λh=>h h0)] at z;refine tn (bQ f8 q0 w3) ?_;exact⟨M,⟨G,L,p,P,hH⟩,rfl,z⟩
  ·have q0:(oE=0)=False:=aI h0
   rw[aD h0] at z;have e:y=oE:=by rw[hE (by rw[z];exact h0),z]
   exact oz w q0 m e
 have q6:=lF i n.length;rw[cb (by omega)] at z;have b9:eM b n []=0:=by rw[z];rfl
 have b2:=vi b9;clear hE z a2;obtain⟨T,hT⟩:=oX (mB b pl);obtain⟨Mu,hM⟩:=oX (ml b.ty b.lc pl);obtain⟨Hd,aw⟩:=oX (pC pl 0);unfold qy at a;rw[<-hT,<-hM,<-aw] at a;rw[<-hT] at ab;rw[<-hM] at aa;rw[<-aw] at ad;clear hT hM aw;rw[<-hH] at ab aa ad;by_cases a1:k=1
 ·have k1:(k=1)=True:=aG a1
  have k3:=nF (k=3);have k4:=nF (k=4);have hl:=a5 a1;have al:0<n.length:=by omega
  have ag:=sQ al;have hO:n[0]=a6:=by
   have:=am hl;simp only[<-this,zC]
  have a0:=a0 _ (ao al) (b2 _ (ao al)) s.H;have bb:=b2 _ (ao al);rw[hO] at ag a0 bb;rw[aD a1,aC (λh=>h bb)] at a;simp only[db] at ag;by_cases hd:tc b a6=1
  ·have e:y=0:=by rw[a,aC (λh=>h hd)]
   rw[ah hd] at a0;refine tq (cA p f8 j q6) ?_;intro U Y O C;(try refine bW ?_);refine dE (λ_ _ d A=>A=.none/\d=.val (.bool true)) λU Y=>?_;refine dst (eP L p k1 ag j hl) ?_;intro U Y O C;refine⟨a0,?_⟩;(first|refine C _ ?_|skip);(first|refine dst trivial ?_;intro U Y O C|skip);exact oz w (cA p P k3 k4) m e
  ·have e:y=22:=by rw[a,aD hd]
   rw[af hd] at a0;refine tq (cA p f8 j q6) ?_;intro U Y O C;(try refine bW ?_);refine dE (λ_ _ d A=>A=.none/\d=.val (.bool false)) λU Y=>?_;refine dst (eP L p k1 ag j hl) ?_;intro U Y O C;refine⟨a0,?_⟩;(first|refine C _ ?_|skip);(first|refine dst trivial ?_;intro U Y O C|skip);exact oz w (cA p P k3 k4) m e
 have k1:(k=1)=False:=aI a1;rw[aC a1] at a;refine tq (cA p f8 j q6) ?_;intro U Y O C;(try refine bW ?_);refine dE (λ_ _ _ _=>False) λU Y=>?_;refine dst (bQ L p k1) ?_;intro U Y O C;by_cases u:k=3
 ·have k3:(k=3)=True:=aG u
  have k4:=nF (k=4);rw[aD u,aC (λh=>hI ⟨u,h⟩),aC (λh=>hL ⟨u,h⟩),aC (λh=>h b9)] at a;refine tq (cA L p P k3) ?_;intro U Y O C;refine ab.mono ?_;rintro d _ ⟨rfl,a8⟩;rw[a8] at aa m;by_cases h2:T.2=0
  case neg=>
   have q2:(T.2=0)=False:=aI h2;have e:y=T.2:=a.trans (aD h2);exact oz w q2 m e
  have q2:(T.2=0)=True:=aG h2;rw[aC (λh=>h h2)] at a;refine tq (cw L p P k3 q2) ?_;intro U Y O C;refine aa.mono ?_;rintro d _ ⟨rfl,ap⟩;rw[ap] at m;cases Mu
  ·have e:y=22:=a
   exact oz w (av p k4) m e
  ·have e:y=0:=a
   exact oz w (av p k4) m e
 have k3:(k=3)=False:=aI u;rw[aC u] at a;by_cases ak:k=4
 ·have k4:(k=4)=True:=aG ak
  rw[aD ak] at a;refine tq (cw L p P k3 k4) ?_;intro U Y O C;refine ab.mono ?_;rintro d _ ⟨rfl,a8⟩;rw[a8] at ad m;by_cases h2:T.2=0
  case neg=>
   have q2:(T.2=0)=False:=aI h2;have e:y=T.2:=a.trans (aD h2);exact oz w q2 m e
  have q2:(T.2=0)=True:=aG h2;rw[aC (λh=>h h2)] at a;refine tq (eP L p P k3 k4 q2) ?_;intro U Y O C;refine ad.mono ?_;rintro d _ ⟨rfl,ap⟩;rw[ap] at m;have e:=a;cases Hd
  ·exact oz w trivial m e
  ·exact oz w trivial m e
 have k4:(k=4)=False:=aI ak;rw[aC ak] at a;have e:=a;exact oz w (cw L p P k3 k4) m e
end Go.Proofs.YtffgfafbffdgaaaGreatDoor
