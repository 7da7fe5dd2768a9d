/- Lemmas and contracts of functions, several texts in one. -/
import Derived.Test.YtffgfafbffdgaaaGreatDoorR22
set_option maxRecDepth 100000
set_option maxHeartbeats 4000000
set_option linter.all false
namespace Go.Proofs.YtffgfafbffdgaaaGreatDoor
open Go.RowKit
open Tryz
variable {b:bn}
theorem TZ {l:List (Int×Int)}{a c:Nat}{H H':aA}(h:oc l a c H)(h1:H' a=H a)(h2:H' c=H c):oc l a c H':=by
 obtain⟨i,j,d,e,f,g⟩:=h;exact⟨i,j,h1.trans d,e,h2.trans f,g⟩
theorem Wx (b:bn)(H:aA)(hn:b.rg.length<=1000000)(hc:fc b.ol b.rg.length=0):aN prog 65 [.agg (cu b)] H λd H'=>∃a f o p,d=.agg (rz b b.rg.length a f)/\H a=none/\H f=none/\a≠f/\H'=(H.aU a (.map o)).aU f (.map p)/\oc b.ol a f H'/\H.le H':=by
 have u:=lm sD b.rg;rw[jB];refine dO func65 ntmps65 results65 λG F Q y=>?_;refine t0 ?_;intro U Y O C;intro E s m t;refine Y _ ?_;refine Yc 1 s t ?_;refine tq u ?_;intro U Y O C;refine(Up b.ol b.rg.length _ (by omega) hc).mono ?_;rintro d D ⟨a,f,o,p,rfl,h,i,j,rfl,B,A⟩;obtain⟨n1,h⟩:=bF.1 h;obtain⟨n2,i⟩:=bF.1 i;obtain⟨R,r⟩:∃R:cY,(H.aU m R) m=some R/\R=.row 126 0 8 [[.val (.string ByteArray.empty),.val (.slice none 0 0),.val (.slice none 0 0),.val (.slice none 0 0),.val (.slice none 0 0),i64 0,.val (.slice none 0 0),.val (.pointer none)]]:=⟨_,aK _ _ _,rfl⟩;obtain⟨v,g⟩:=oX (((H.aU m R).aU a (.map o)).aU f (.map p));have l:v m=some R:=by rw[g,aJ n2.symm,aJ n1.symm,aK]
 rw[r.2] at g l;simp only[i64] at g l ⊢;rw[<-g];refine ur y (av @fJ.eq_1 l) trivial ?_;have q:((H.aU a (.map o)).aU f (.map p)).le (v.aU m (.row 126 0 8 [[bC b.nm,.seq 1 (b.rg.map sD),.seq 2 (b.ol.map pD),.seq 5 (b.ty.map bS),.seq 2 (b.lc.map eQ),i64 b.ag,.seq 7 (b.bl.map dM),fJ b.rg.length a f]])):=λc z k=>by
  have n:c≠m:=λe=>by rw[e,aJ n2.symm,aJ n1.symm,hFz] at k;cases k
  rw[aJ n,g];by_cases x:c=f
  ·subst x;rw[aK] at k ⊢;exact k
  ·rw[aJ x] at k ⊢
   by_cases w:c=a
   ·subst w;rw[aK] at k ⊢;exact k
   ·rw[aJ w] at k ⊢;rw[aJ n];exact k
 refine⟨_,q,a,f,o,p,rfl,h,i,j,rfl,TZ B ?_ ?_,?_⟩
 ·rw[aJ j,aK,aJ j,aK]
 ·rw[aK,aK]
 ·exact j5 (j5 (aF _) h) ((aJ j.symm).trans i)
def yS (t:ra) (x y:Int):Bool:=decide ((t.tg.length:Int)=x)&&decide ((t.ar.length:Int)=y)
theorem NP (t:ra)(x y:Int)(H:aA)(hp:Ht t):aN prog 210 [i64 x,i64 y,.rp (G2 t)] H λd H'=>d=.val (.bool (yS t x y))/\H=H':=by
 refine aq (K:=λd=>d=.val (.bool (yS t x y))) ?_;have k:=aF H;have a:=lm iD t.tg;have c:=lm db t.ar;obtain⟨z,f⟩:=oX (yS t x y);rw[<-f];unfold yS at f;refine dO func210 ntmps210 results210 λn m Q j=>?_;by_cases g:(t.tg.length:Int)=x
 case neg=>
  have i:((t.tg.length:Int)=x)=False:=aI g;have e:z=false:=by rw[f,af g];rfl
  exact oz j (bQ @G2.eq_1 a i) k e
 have i:((t.tg.length:Int)=x)=True:=aG g;by_cases h:(t.ar.length:Int)=y
 ·have l:((t.ar.length:Int)=y)=True:=aG h
  have e:z=true:=by rw[f,ah g,ah h];rfl
  exact oz j (cw @G2.eq_1 a c i l) k e
 ·have l:((t.ar.length:Int)=y)=False:=aI h
  have e:z=false:=by rw[f,af h,fq]
  exact oz j (cw @G2.eq_1 a c i l) k e
theorem JD (t:ra):nX t=if t.k=0 then yS t 1 0&&dU t.pl&&decide (t.nm=ByteArray.empty)
  else if t.k=1 then yS t 2 1&&dU t.pl&&decide (t.nm=ByteArray.empty)
  else if t.k=3 then decide ((t.tg.length:Int)=1)
  else if t.k=4 then yS t 1 0&&decide (t.nm=ByteArray.empty)
  else yS t 0 0&&dU t.pl&&decide (t.nm=ByteArray.empty):=by
 unfold nX yS;have e:∀(n m:Nat),decide ((n:Int)=(m:Int))=decide (n=m):=λn m=>by
  by_cases h:n=m
  ·subst h;simp
  ·rw[af h,af (by omega)]
 have a:∀n:Nat,decide ((n:Int)=0)=decide (n=0):=λn=>e n 0;have c:∀n:Nat,decide ((n:Int)=1)=decide (n=1):=λn=>e n 1;have d:∀n:Nat,decide ((n:Int)=2)=decide (n=2):=λn=>e n 2;simp only[a,c,d]
theorem Nt (t:ra)(H:aA)(hp:Ht t):aN prog 145 [.agg (G2 t)] H λd H'=>d=.val (.bool (nX t))/\H=H':=by
 refine aq (K:=λd=>d=.val (.bool (nX t))) ?_;have l:=aF H;have s:∀x y,aN prog 210 [i64 x,i64 y,.rp (G2 t)] H λd H'=>d=.val (.bool (yS t x y))/\H=H':=λx y=>NP t x y H hp;have w:=BQ t.pl H hp.2.2;have p:=lm iD t.tg;obtain⟨y,a⟩:=oX (nX t);rw[<-a];rw[JD] at a;obtain⟨o,F⟩:=oX (yS t);rw[<-F] at s a;clear F;obtain⟨Z,G⟩:=oX (dU t.pl);rw[<-G] at w a;clear G;obtain⟨k,E,I,M,m⟩:=t;simp only at a p;simp only[G2] at s ⊢;simp only[ee] at w;refine dO func145 ntmps145 results145 λN L Q j=>?_;refine t0 ?_;intro U Y O C;intro J B;refine Y _ ?_;refine cm 1 B ?_;by_cases f:k=0
 ·have r:(k=0)=True:=aG f
  rw[aD f] at a;have c:=s 1 0;obtain⟨v,n⟩:=oX (o 1 0);rw[<-n] at c a;clear n;refine tq r ?_;intro U Y O C;refine c.q ?_;cases v
  ·have e:y=false:=by rw[a];rfl
   exact oz j @bC.eq_1 l e
  rw[cV] at a;refine t0 ?_;intro U Y O C;refine w.q ?_;cases Z
  ·have e:y=false:=by rw[a];rfl
   exact oz j @bC.eq_1 l e
  rw[cV] at a;by_cases g:m=ByteArray.empty
  ·have i:decide (m.toList=(ByteArray.mk #[]).toList)=true:=ah (eA.2 g)
   have e:y=true:=by rw[a,ah g]
   exact oz j (av @bC.eq_1 i) l e
  ·have i:decide (m.toList=(ByteArray.mk #[]).toList)=false:=af (λh=>g (eA.1 h))
   have e:y=false:=by rw[a,af g]
   exact oz j (av @bC.eq_1 i) l e
 have r:(k=0)=False:=aI f;rw[aC f] at a;by_cases f:k=1
 ·have u:(k=1)=True:=aG f
  rw[aD f] at a;have c:=s 2 1;obtain⟨v,n⟩:=oX (o 2 1);rw[<-n] at c a;clear n;refine tq (av r u) ?_;intro U Y O C;refine c.q ?_;cases v
  ·have e:y=false:=by rw[a];rfl
   exact oz j @bC.eq_1 l e
  rw[cV] at a;refine t0 ?_;intro U Y O C;refine w.q ?_;cases Z
  ·have e:y=false:=by rw[a];rfl
   exact oz j @bC.eq_1 l e
  rw[cV] at a;by_cases g:m=ByteArray.empty
  ·have i:decide (m.toList=(ByteArray.mk #[]).toList)=true:=ah (eA.2 g)
   have e:y=true:=by rw[a,ah g]
   exact oz j (av @bC.eq_1 i) l e
  ·have i:decide (m.toList=(ByteArray.mk #[]).toList)=false:=af (λh=>g (eA.1 h))
   have e:y=false:=by rw[a,af g]
   exact oz j (av @bC.eq_1 i) l e
 have u:(k=1)=False:=aI f;rw[aC f] at a;by_cases f:k=3
 ·have z:(k=3)=True:=aG f
  rw[aD f] at a;by_cases A:(E.length:Int)=1
  ·have i:((E.length:Int)=1)=True:=aG A
   have e:y=true:=by rw[a,ah A]
   exact oz j (cw r u z i p) l e
  ·have i:((E.length:Int)=1)=False:=aI A
   have e:y=false:=by rw[a,af A]
   exact oz j (cw r u z i p) l e
 have z:(k=3)=False:=aI f;rw[aC f] at a;by_cases f:k=4
 ·have D:(k=4)=True:=aG f
  rw[aD f] at a;have c:=s 1 0;obtain⟨v,n⟩:=oX (o 1 0);rw[<-n] at c a;clear n;refine tq (cA r u z D) ?_;intro U Y O C;refine c.q ?_;cases v
  ·have e:y=false:=by rw[a];rfl
   exact oz j @bC.eq_1 l e
  rw[cV] at a;by_cases g:m=ByteArray.empty
  ·have i:decide (m.toList=(ByteArray.mk #[]).toList)=true:=ah (eA.2 g)
   have e:y=true:=by rw[a,ah g]
   exact oz j (av @bC.eq_1 i) l e
  ·have i:decide (m.toList=(ByteArray.mk #[]).toList)=false:=af (λh=>g (eA.1 h))
   have e:y=false:=by rw[a,af g]
   exact oz j (av @bC.eq_1 i) l e
 have D:(k=4)=False:=aI f;rw[aC f] at a;have c:=s 0 0;obtain⟨v,n⟩:=oX (o 0 0);rw[<-n] at c a;clear n;refine tq (cA r u z D) ?_;intro U Y O C;refine c.q ?_;cases v
 ·have e:y=false:=by rw[a];rfl
  exact oz j @bC.eq_1 l e
 rw[cV] at a;refine t0 ?_;intro U Y O C;refine w.q ?_;cases Z
 ·have e:y=false:=by rw[a];rfl
  exact oz j @bC.eq_1 l e
 rw[cV] at a;by_cases g:m=ByteArray.empty
 ·have i:decide (m.toList=(ByteArray.mk #[]).toList)=true:=ah (eA.2 g)
  have e:y=true:=by rw[a,ah g]
  exact oz j (av @bC.eq_1 i) l e
 ·have i:decide (m.toList=(ByteArray.mk #[]).toList)=false:=af (λh=>g (eA.1 h))
  have e:y=false:=by rw[a,af g]
  exact oz j (av @bC.eq_1 i) l e
theorem Nu {t:ra}(h:nX t=true)(hk:t.k=1):t.ar.length=1:=by
 unfold nX at h;rw[aC (by omega),aD hk] at h;simp only[cX,dF] at h;exact h.1.1.2
theorem TL {t:ra}(h:t.ar.length=1):(t.ar.map db)[0]?=some (db (BS t)):=by
 rw[sQ (by omega:0<t.ar.length)];unfold BS;rw[gZ,az (by omega)];rfl
theorem Jg {t:ra}(h:t.ar.length=1):BS t∈t.ar:=by
 unfold BS;rw[gZ,az (by omega)];exact ao _
theorem X3 (b:bn)(n:Int)(P R:Nat)(t:ra)(H:aA)(ck:Ck b)(hn:n=b.rg.length)(hR:oc b.ol P R H)(hp:Ht t)(b9:cH t.nm.size):aN prog 67 [.agg (rz b n P R),.agg (G2 t)] H λd H'=>d=i64 (tw b t)/\H=H':=by
 refine aq (K:=λd=>d=i64 (tw b t)) ?_;have aM:=aF H;have ab:=Nt t H hp;have G:=(qc b n P R t.ar [] H ck hn hR hp.2.1.1 hp.2.1.2 (by unfold cH;simp) (λf hf=>by cases hf)).imp (ds:=[.agg (rz b n P R),.seq 4 (t.ar.map db),.val (.slice none 0 0)]) ⟨fG _,fG _,fO,trivial⟩;have M:t.ar.length=1->∀H1,cP prog 146 [.agg (rz b n P R),.agg (db (BS t))] H1 λd A=>A=aA.none/\d=i64 (kx b (BS t)):=λh H1=>an λN ad=>C3 b n P R (BS t) N ck (hp.2.1.2 _ (Jg h));have l:t.ar.length=1->kx b (BS t)=0->∀H1,cP prog 148 [.agg (rz b n P R),.agg (db (BS t))] H1 λd A=>A=aA.none/\d=i64 (tc b (BS t)):=λh hz H1=>an λN ad=>AS b n P R (BS t) N ck (hp.2.1.2 _ (Jg h)) hz;have al:∀x H1,cP prog 147 [.val (.bool x)] H1 λd A=>A=aA.none/\d=i64 (if x=true then 22 else 0):=λx H1=>an λN ad=>qA x N;have a5:=λx=>qA x H;have W:=λa c=>AH a c H;have ac:=xG t.nm H b9;have z:=BP b n P R t.pl H ck hp.2.2;have a1:=ny b n P R t.pl H ck hp.2.2;have V:=JL t.pl H hp.2.2;have a0:=lm iD t.tg;have w:=lm db t.ar;have ap:=lm dM b.bl;obtain⟨y,g⟩:=oX (tw b t);rw[<-g];unfold tw at g;have p:t.ar.length=1->(t.ar.map db)[0]?=some (db (BS t)):=TL;have aa:nX t=true->t.k=1->t.ar.length=1:=Nu;obtain⟨b3,hO⟩:=oX (BS t);rw[<-hO] at M l g p;obtain⟨oE,aw⟩:=oX (kx b b3);rw[<-aw] at M l g;obtain⟨kE,am⟩:=oX (tc b b3);rw[<-am] at l g;obtain⟨F,hF⟩:=oX (nX t);rw[<-hF] at ab g aa;obtain⟨I,hI⟩:=oX (eY t.nm);rw[<-hI] at ac g;obtain⟨S,hS⟩:=oX (eM b t.ar []);rw[<-hS] at G g;obtain⟨E,hE⟩:=oX (qy b t.pl);rw[<-hE] at z g;obtain⟨T,hT⟩:=oX (mB b t.pl);rw[<-hT] at z a1 g;obtain⟨Z,hZ⟩:=oX (pC t.pl 0);rw[<-hZ] at V g;clear hO aw am hF hI hS hE hT hZ;have b0:=hp.1;have ak:=hp.2.1.1;have b5:=ck.YS;unfold cH at b0 ak b5;rw[sA] at G M l z a1 ⊢;obtain⟨k,tg,ar,pl,nm⟩:=t;simp only at g a0 w b0 ak aa p M l G;simp only[G2] at ab ⊢;simp only[ee] at z a1 V;simp only[db] at p M l;refine dO func67 ntmps67 results67 λw0 g0 Q B=>?_;refine t0 ?_;intro U Y O C;intro c2 b6 c3 b7;refine Y _ ?_;refine uB 2 3 b6 b7 ?_;by_cases h1:k<0
 ·have q1:(k<0)=True:=aG h1
  have e:y=14:=g.trans (aD (.inl h1));exact oz B q1 aM e
 have q1:(k<0)=False:=aI h1;by_cases h2:5<k
 ·have q2:(5<k)=True:=aG h2
  have e:y=14:=g.trans (aD (.inr h2));exact oz B (av q1 q2) aM e
 have q2:(5<k)=False:=aI h2;rw[aC (by omega)] at g;refine tq (av q1 q2) ?_;intro U Y O C;refine ab.q ?_;cases F
 ·have e:y=2:=g
  exact oz B q1 aM e
 rw[aC (λh=>by cases h)] at g;refine tn a0 ?_;refine aO tg.length (λi s=>s.df=[]/\s.fr 2=.rp [bC b.nm,.seq 1 (b.rg.map sD),.seq 2 (b.ol.map pD),.seq 5 (b.ty.map bS),.seq 2 (b.lc.map eQ),i64 b.ag,.seq 7 (b.bl.map dM),fJ n P R]/\s.fr 3=.rp [i64 k,.seq 1 (tg.map iD),.seq 4 (ar.map db),i64 pl.lo,.seq 2 (pl.pr.map pD),bC nm]/\s.fr 25=.seq 1 (tg.map iD)/\s.fr 26=i64 tg.length/\s.fr 27=i64 i/\s.H=H/\(tg.all λx=>decide (bN b.bl.length x))=((tg.drop i).all λx=>decide (bN b.bl.length x))) ⟨rfl,rfl,rfl,rfl,rfl,rfl,rfl,rfl⟩ ?_;rintro i s hi ⟨b8,r,D,a3,o,u,hH,ha⟩;have hx:=aX i;have a9:=aZ i;have j:H.le s.H:=by rw[hH];exact aF _
 by_cases L:i<tg.length
 case pos=>
  have a2:(i:Int)<(tg.length:Int):=by omega
  have q6:((i:Int)<(tg.length:Int))=True:=aG a2;have w3:=wS i;have a6:=bT L;rw[cL L,jQ] at ha;obtain⟨v,hv⟩:=oX tg[i];rw[<-hv] at a6 ha;have ae:¬bN b.bl.length v->y=3:=λh=>by rw[af h,dq] at ha;rw[g,ha];rfl
  by_cases h3:v<0
  ·have q3:(v<0)=True:=aG h3
   have e:=ae (by unfold bN;omega);exact oz B (bG r a3 o u a0 q6 a6 (cw hx a9 L a2 q3)) j e
  have q3:(v<0)=False:=aI h3;by_cases h4:(b.bl.length:Int)<=v
  ·have q4:(v≥(b.bl.length:Int))=True:=aG h4
   have e:=ae (by unfold bN;omega);exact oz B (bG r a3 o u a0 ap q6 (ej a6 hx a9 L a2 q3 q4)) j e
  have q4:(v≥(b.bl.length:Int))=False:=aI h4;rw[ah (by unfold bN;omega:bN b.bl.length v),cV] at ha;refine tn (bG r a3 o u a0 ap q6 (bG a6 hx a9 L a2 q3 q4 w3)) ?_;exact⟨L,b8,r,D,a3,o,rfl,hH,ha⟩
 have q6:=lF i tg.length;rw[cb (by omega),lh] at ha;rw[ha,aC (λh=>by cases h)] at g;clear ha;by_cases X:k=1
 ·have k1:(k=1)=True:=aG X
  rw[aD X] at g;have hl:=aa rfl X;have p:=p hl;have ba:0<(ar.map db).length:=by rw[w];omega
  have bb:(0:Int)<((ar.map db).length:Int):=by omega
  refine tq (eP r D o u q6 k1) ?_;intro U Y O C;refine dE (λ_ _ d A=>A=.none/\d=i64 oE) λU Y=>?_;refine dst (cw r D p w hl) ?_;intro U Y O C;refine⟨M hl _,?_⟩;refine nx ?_;by_cases h5:oE=0
  case neg=>
   have q5:(oE=0)=False:=aI h5;have e:y=oE:=g.trans (aD h5);exact oz B q5 j e
  have q5:(oE=0)=True:=aG h5;rw[aC (λh=>h h5)] at g;have l:=l hl h5;by_cases h7:kE=1
  ·have q7:(kE=1)=True:=aG h7
   have e:y=0:=g.trans (aC (λh=>h h7));refine tq q5 ?_;intro U Y O C;refine dE (λt0 _ d A=>A=.none/\d=(if t0=some 60 then i64 kE else i64 0)) λU Y=>?_;refine dst (eP r D p w hl q7) ?_;intro U Y O C;refine⟨l _,al _ _,?_⟩;refine nx ?_;exact oz B q7 j e
  ·have q7:(kE=1)=False:=aI h7
   have e:y=22:=g.trans (aD h7);refine tq q5 ?_;intro U Y O C;refine dE (λt0 _ d A=>A=.none/\d=(if t0=some 60 then i64 kE else i64 22)) λU Y=>?_;refine dst (eP r D p w hl q7) ?_;intro U Y O C;refine⟨l _,al _ _,?_⟩;refine nx ?_;exact oz B q7 j e
 have k1:(k=1)=False:=aI X;rw[aC X] at g;by_cases a7:k=3
 ·have k3:(k=3)=True:=aG a7
  rw[aD a7] at g;rw[<-hH] at ac G z;refine tq (ej r D o u q6 k1 k3) ?_;intro U Y O C;refine ac.mono ?_;rintro d _ ⟨rfl,m⟩;cases I
  ·have e:y=12:=g
   rw[m] at j;exact oz B q6 j e
  rw[aC (λh=>by cases h)] at g;by_cases h5:65535<ar.length
  ·have q5:=nT ((65535:Int)<(ar.length:Int))
   have e:y=15:=g.trans (aD h5);rw[m] at j;exact oz B (bQ D q5 w) j e
  have q5:=nF ((65535:Int)<(ar.length:Int));rw[aC h5] at g;rw[m] at G;refine tq (cA r D q5 w) ?_;intro U Y O C;refine G.mono ?_;rintro d _ ⟨rfl,J⟩;by_cases h6:S=0
  case neg=>
   have q7:(S=0)=False:=aI h6;have e:y=S:=g.trans (aD h6);rw[m,J] at j;exact oz B q7 j e
  have q7:(S=0)=True:=aG h6;rw[aC (λh=>h h6)] at g;rw[m,J] at z;refine tq (bQ r D q7) ?_;intro U Y O C;refine z.mono ?_;rintro d _ ⟨rfl,a4⟩;have e:=g;rw[m,J,a4] at j;exact oz B q7 j e
 have k3:(k=3)=False:=aI a7;rw[aC a7] at g;by_cases a8:k=4
 ·have k4:(k=4)=True:=aG a8
  rw[aD a8] at g;rw[<-hH] at a1 V a5 W;refine tq (bG r D o u q6 k1 k3 k4) ?_;intro U Y O C;refine a1.mono ?_;rintro d _ ⟨rfl,m⟩;rw[m] at V a5 W;refine tq (av r D) ?_;intro U Y O C;refine V.mono ?_;rintro d _ ⟨rfl,J⟩;rw[J] at a5 W;refine tq (av r D) ?_;intro U Y O C;refine(a5 _).mono ?_;rintro d _ ⟨rfl,a4⟩;rw[a4] at W;refine tq (av r D) ?_;intro U Y O C;refine(W _ _).mono ?_;rintro d _ ⟨rfl,b4⟩;have e:=g;rw[m,J,a4,b4] at j;exact oz B q6 j e
 have k4:(k=4)=False:=aI a8;rw[aC a8] at g;have e:=g;exact oz B (ej D o u q6 k1 k3 k4) j e
theorem DR (h:nC b=0):eY b.nm=true/\kP b.rg=0/\fc b.ol b.rg.length=0/\rT b.ty b.rg.length=0/\th b=0/\b.bl.length≠0/\b.bl.length<=65535:=by
 unfold nC at h;by_cases f:eY b.nm=false
 ·rw[aD f] at h;cases h
 rw[aC f] at h;by_cases a:kP b.rg=0
 case neg=>rw[aD a] at h;exact absurd h a
 rw[aC (λk=>k a)] at h;by_cases c:fc b.ol b.rg.length=0
 case neg=>rw[aD c] at h;exact absurd (by omega) c
 rw[aC (λk=>k c)] at h;by_cases d:rT b.ty b.rg.length=0
 case neg=>rw[aD d] at h;exact absurd (by omega) d
 rw[aC (λk=>k d)] at h;by_cases e:th b=0
 case neg=>rw[aD e] at h;exact absurd h e
 rw[aC (λk=>k e)] at h;by_cases g:b.bl.length=0\/65535<b.bl.length
 ·rw[aD g] at h;cases h
 exact⟨by cases h:eY b.nm;exact absurd h f;rfl,a,c,d,e,by omega,by omega⟩
theorem NT (h:nC b=0):fc b.ol b.rg.length=0:=(DR h).2.2.1
theorem Mv {l:List im}{i:Nat}(h:i<l.length):(l.map dM)[i]?=some (dM l[i]):=by rw[bg,az h];rfl
theorem QB {l:List qO}{i:Nat}(h:i<l.length):(l.map ji)[i]?=some (ji l[i]):=by rw[bg,az h];rfl
theorem wm (b:bn)(H:aA)(sb:Sb b)(M:nC b=0->Ck b):aN a8 35 [.agg (cu b)] H λd H'=>d=i64 (oM b)/\H=H':=by
 refine aq (K:=λd=>d=i64 (oM b)) ?_;have aM:=aF H;obtain⟨o1,o2,⟨o3,o4⟩,o5,o6,o7⟩:=sb.ok;have Dl:=sb.ts;have N:=WE b H sb;have a4:=lm dM b.bl;unfold cH at o6;obtain⟨y,D⟩:=oX (oM b);rw[<-D];unfold oM at D;have V:nC b=0->aN a8 65 [.agg (cu b)] H λd H'=>∃w z m1 m2,d=.agg (rz b b.rg.length w z)/\H w=none/\H z=none/\w≠z/\H'=(H.aU w (.map m1)).aU z (.map m2)/\oc b.ol w z H'/\H.le H':=λh=>Wx b H (M h).MX (NT h);obtain⟨D0,hD⟩:=oX (nC b);rw[<-hD] at N M V D;rw[jB] at N V ⊢;refine dO func35 ntmps35 results35 λw0 g0 Q Z=>?_;refine t0 ?_;intro U Y O C;intro c1 ac;refine Y _ ?_;refine cm 1 ac ?_;refine t0 ?_;intro U Y O C;refine N.q ?_;by_cases L:D0=0
 case neg=>
  have q0:(D0=0)=False:=aI L;have e:y=D0:=D.trans (aD L);refine ur Z q0 trivial ?_;exact zf aM (by rw[e])
 have q0:(D0=0)=True:=aG L;rw[aC (λh=>h L)] at D;have ck:=M L;refine tq q0 ?_;intro U Y O C;refine(V L).mono ?_;rintro d H1 ⟨w,z,m1,m2,rfl,am,ap,aw,ab,hR,a1⟩;rw[sA];clear ab;refine t0 ?_;intro U Y O C;intro c4 ad;refine Y _ ?_;refine cm 4 ad ?_;refine tn a4 ?_;refine aO b.bl.length (λi s=>s.df=[]/\s.fr 3=i64 0/\s.fr 4=.rp [bC b.nm,.seq 1 (b.rg.map sD),.seq 2 (b.ol.map pD),.seq 5 (b.ty.map bS),.seq 2 (b.lc.map eQ),i64 b.ag,.seq 7 (b.bl.map dM),fJ (b.rg.length:Int) w z]/\s.fr 17=.seq 7 (b.bl.map dM)/\s.fr 18=i64 b.bl.length/\s.fr 19=i64 i/\s.H=H1/\rn b b.bl=rn b (b.bl.drop i)) ⟨rfl,by rw[L] <;> rfl,rfl,rfl,rfl,rfl,rfl,rfl⟩ ?_;rintro i s hi ⟨B,f3,X,r,l,m,F,g⟩;have hx:=aX i;have aa:=aZ i;have f:H.le s.H:=by rw[F];exact a1
 by_cases n:i<b.bl.length
 case neg=>
  have q6:=lF i b.bl.length;rw[cb (by omega)] at g;have e:y=0:=by rw[D,g];rfl
  exact oz Z (cA f3 l m q6) f e
 have a0:(i:Int)<(b.bl.length:Int):=by omega
 have q6:((i:Int)<(b.bl.length:Int))=True:=aG a0;have w3:=wS i;have P:=Mv n;have dC:=o7 b.bl[i] (ao n);have T:=Dl b.bl[i] (ao n);rw[cL n,rn] at g;obtain⟨x,a7⟩:=oX b.bl[i];rw[<-a7] at P dC T g;clear a7;obtain⟨c,G⟩:=x;obtain⟨⟨ye,a5⟩,a6⟩:=dC;simp only at ye a5 a6 g T;have tY:=X3 b b.rg.length w z G H1 ck rfl hR a6 T;have a:=λs hs=>XZ b b.rg.length w z s H1 ck rfl hR (a5 s hs);rw[sA] at tY a;have S:=lm ji c;unfold cH at ye;simp only[dM] at P;simp only[G2] at tY;refine tq (bG r l m a4 q6 P hx (bQ aa n a0)) ?_;intro U Y O C;intro c6 ae;refine Y _ ?_;refine cm 6 ae ?_;by_cases h1:65535<c.length
 ·have q1:=nT ((65535:Int)<(c.length:Int))
  have e:y=15:=by rw[D,g,aD h1]
  exact oz Z (av S q1) f e
 have q1:=nF ((65535:Int)<(c.length:Int));rw[aC h1] at g;refine tn (av S q1) ?_;refine aO c.length (λj o=>o.df=[]/\o.fr 3=i64 0/\o.fr 4=.rp [bC b.nm,.seq 1 (b.rg.map sD),.seq 2 (b.ol.map pD),.seq 5 (b.ty.map bS),.seq 2 (b.lc.map eQ),i64 b.ag,.seq 7 (b.bl.map dM),fJ (b.rg.length:Int) w z]/\o.fr 6=.rp [.seq 11 (c.map ji),i64 G.k,.seq 1 (G.tg.map iD),.seq 4 (G.ar.map db),i64 G.pl.lo,.seq 2 (G.pl.pr.map pD),bC G.nm]/\o.fr 17=.seq 7 (b.bl.map dM)/\o.fr 18=i64 b.bl.length/\o.fr 19=i64 i/\o.fr 28=.seq 11 (c.map ji)/\o.fr 29=i64 c.length/\o.fr 30=i64 j/\o.H=H1/\rZ b c=rZ b (c.drop j)) ⟨B,f3,X,rfl,r,l,m,rfl,rfl,rfl,F,rfl⟩ ?_;rintro j o hj ⟨B,f3,X,f6,r,l,m,a3,I,J,F,A⟩;have al:=aX j;have a9:=aZ j;have f:H.le o.H:=by rw[F];exact a1
 by_cases u:j<c.length
 case pos=>
  have a2:(j:Int)<(c.length:Int):=by omega
  have p6:((j:Int)<(c.length:Int))=True:=aG a2;have w4:=wS j;have R:=QB u;have a:=a c[j] (ao u);rw[cL u,rZ] at A;obtain⟨v,hv⟩:=oX c[j];rw[<-hv] at R a A;clear hv;obtain⟨E,hE⟩:=oX (yY b v);rw[<-hE] at a A;clear hE;simp only[ji] at R a;rw[<-F] at a;refine tq (bG a3 I J S p6 R al (bQ a9 u a2)) ?_;intro U Y O C;intro c8 ak;refine Y _ ?_;refine cm 8 ak ?_;refine tq X ?_;intro U Y O C;refine a.mono ?_;rintro d _ ⟨rfl,t⟩;by_cases p:E=0
  ·have W:(E=0)=True:=aG p
   rw[aC (λh=>h p)] at A;refine tn (bQ J W w4) ?_;exact⟨u,B,by rw[p] <;> rfl,X,f6,r,l,m,a3,I,rfl,by rw[<-t];exact F,A⟩
  ·have W:(E=0)=False:=aI p
   rw[aD p] at A;have e:y=E:=by rw[D,g,A,aD p]
   rw[t] at f;exact oz Z W f e
 have p6:=lF j c.length;rw[cb (by omega),rZ] at A;rw[A,aC (λh=>h rfl)] at g;clear A;obtain⟨E,hE⟩:=oX (tw b G);rw[<-hE] at tY g;clear hE;rw[<-F] at tY;refine tq (cw X f6 I J p6) ?_;intro U Y O C;refine tY.mono ?_;rintro d _ ⟨rfl,t⟩;by_cases p:E=0
 ·have W:(E=0)=True:=aG p
  rw[aC (λh=>h p)] at g;refine tn (bQ m W w3) ?_;exact⟨n,B,by rw[p] <;> rfl,X,r,l,rfl,by rw[<-t];exact F,g⟩
 ·have W:(E=0)=False:=aI p
  rw[aD p] at g;have e:y=E:=by rw[D,g]
  rw[t] at f;exact oz Z W f e
structure Sm (b:bn):Prop where
 tt:Jz b<=3000
 ol:b.ol.length<=200
 rg:b.rg.length<=200
 bl:b.bl.length<=200
theorem u9 {a:Type}{f:a->Nat}(hf:∀x,1<=f x):∀l:List a,l.length<=sm f l
 |[]=>bh _
 |x::l=>by
  have:=u9 hf l;have:=hf x;simp only[sm,bx];omega
theorem qk (b:bn):Jz b=b.nm.size+b.ol.length+sm (λs:ByteArray=>1+s.size) b.rg+sm (λt:bp=>1+t.ar.length) b.ty+sm (λl:mQ=>1+l.nm.size) b.lc+sm vw b.bl:=by
 unfold Jz t4 t3 t2 t1;simp only[dI]
theorem Pm (ok:xM b)(h:Sm b):Sb b where
 ok:=ok
 nm:=by have:=h.tt;rw[qk] at this;unfold cH;omega
 rs:=λs hs=>by have:=h.tt;rw[qk] at this;have:=jh (f:=λs:ByteArray=>1+s.size) hs;unfold cH;omega
 ls:=λs hs=>by have:=h.tt;rw[qk] at this;have:=jh (f:=λl:mQ=>1+l.nm.size) hs;unfold cH;omega
 ts:=λs hs=>by
  have h1:=h.tt;rw[qk] at h1;have h2:=jh (f:=vw) hs;have h3:s.tm.nm.size<=vw s:=by unfold vw;omega
  unfold cH;omega
theorem NG (ok:xM b)(h:Sm b)(hd:nC b=0):Ck b:=by
 obtain⟨m,n,e,g,a,o,r⟩:=DR hd;obtain⟨s,u,⟨v,w⟩,j,k,y⟩:=ok;have i:=h.tt;rw[qk] at i;obtain⟨-,d⟩:=DG.1 g;have c:oV b.ty.length [] b.lc=0:=by
  unfold th at a;by_cases p:65535<b.lc.length
  ·rw[aD p] at a;cases a
  rw[aC p] at a;exact eC λq=>by rw[aD q] at a;exact q a
 exact {
  wt:=wA d
  rf:=Lq d
  wl:=Oc c
  ar:=λt l=>by have:=jh (f:=λt:bp=>1+t.ar.length) l;omega
  tl:=by have:=u9 (f:=λt:bp=>1+t.ar.length) (λx=>by omega) b.ty;omega
  ol:=(wo e).2
  Qm:=by have:=h.ol;omega
  MX:=by have:=h.rg;omega
  Xp:=j
  YS:=k}
theorem Ps (b:bn)(H:aA)(ok:xM b):aN prog 15 [.agg (cu b)] H λd H'=>(d=i64 1\/(d=i64 0/\Sm b))/\H=H':=by
 refine aq (K:=λd=>d=i64 1\/(d=i64 0/\Sm b)) ?_;have g:=aF H;obtain⟨o1,o2,⟨M,N⟩,o5,o6,o7⟩:=id ok;have m:=Sa b H ok;have I:=Tz b.ty H M N;have v:=OX b.ty b.rg.length H M N;have V:rT b.ty b.rg.length=0->pI b.ty:=λh=>wA (DG.1 h).2;have n:=lm sD b.rg;have a:=lm pD b.ol;have G:=lm bS b.ty;have w:=lm dM b.bl;unfold cH at o1 o2 M o6;obtain⟨L,p⟩:=oX (lg b);rw[<-p] at m;unfold lg at p;obtain⟨o,X⟩:=oX (rT b.ty b.rg.length);rw[<-X] at v V;clear X;rw[jB] at m ⊢;refine dO func15 ntmps15 results15 λw0 g0 Q c=>?_;refine t0 ?_;intro U Y O C;intro c1 E;refine Y _ ?_;refine cm 1 E ?_;refine t0 ?_;intro U Y O C;refine m.q ?_;by_cases D:3000<Jz b
 ·rw[aD D] at p
  subst p;refine u0 c ?_;exact zf g (.inl rfl)
 rw[aC D] at p;subst p;refine t0 ?_;intro U Y O C;refine I.mono ?_;rintro d _ ⟨hd,rfl⟩;rcases hd with rfl|⟨rfl,h6⟩
 ·refine u0 c ?_;exact zf g (.inl rfl)
 by_cases h2:200<b.ol.length
 ·have z:=nT ((200:Int)<(b.ol.length:Int))
  refine ur c (av a z) trivial ?_;exact zf g (.inl rfl)
 have z:=nF ((200:Int)<(b.ol.length:Int));by_cases h3:200<b.rg.length
 ·have A:=nT ((200:Int)<(b.rg.length:Int))
  refine ur c (cA a n z A) trivial ?_;exact zf g (.inl rfl)
 have A:=nF ((200:Int)<(b.rg.length:Int));by_cases h4:200<b.bl.length
 ·have P:=nT ((200:Int)<(b.bl.length:Int))
  refine ur c (eP a n w z A P) trivial ?_;exact zf g (.inl rfl)
 have P:=nF ((200:Int)<(b.bl.length:Int));have y:Sm b:=⟨by omega,by omega,by omega,by omega⟩;have J:b.ty.length<=1000000:=by
  have:=D;rw[qk] at this;have:=u9 (f:=λt:bp=>1+t.ar.length) (λx=>by omega) b.ty;omega
 refine tq (eP a n w z A P) ?_;intro U Y O C;refine v.q ?_;by_cases h5:o=0
 case neg=>
  have R:=nF ((o:Int)=0);refine ur c R trivial ?_;exact zf g (.inr ⟨rfl,y⟩)
 have R:=nT ((o:Int)=0);have hw:=V h5;refine tn (av R G) ?_;refine aO b.ty.length (λi s=>s.df=[]/\s.fr 1=.rp [bC b.nm,.seq 1 (b.rg.map sD),.seq 2 (b.ol.map pD),.seq 5 (b.ty.map bS),.seq 2 (b.lc.map eQ),i64 b.ag,.seq 7 (b.bl.map dM)]/\s.fr 40=i64 b.ty.length/\s.fr 41=i64 i/\s.H=H) ⟨rfl,rfl,rfl,rfl,rfl⟩ ?_;rintro i s hi ⟨l,W,j,k,hH⟩;have e:H.le s.H:=by rw[hH];exact g
 by_cases F:i<b.ty.length
 case neg=>
  have S:=lF i b.ty.length;refine ur c (bQ j k S) l ?_;exact zf e (.inr ⟨rfl,y⟩)
 have S:=lT i b.ty.length;have w3:=wS i;have u:=Wf b.ty i s.H J N hw;obtain⟨B,Z⟩:=oX (zw b.ty i);rw[<-Z] at u;clear Z;refine tq (cA W j k S) ?_;intro U Y O C;refine u.mono ?_;rintro d _ ⟨rfl,r⟩;by_cases h8:8<B
 ·have T:=nT ((8:Int)<(B:Int))
  rw[r] at e;refine ur c T l ?_;exact zf e (.inl rfl)
 ·have T:=nF ((8:Int)<(B:Int))
  refine tn (bQ k T w3) ?_;exact⟨F,l,W,j,rfl,r▸hH⟩
theorem Vp:oM zS=0:=by
 have c:nC zS=0:=by
  have a:eY oA=true:=by decide
  unfold nC zS;simp [a,kP,rY,fc,ry,rT,pU,th,oV]
 have d:tw zS Xs=0:=by unfold tw;simp [Xs,nX,dU]
 unfold oM;rw[aC (by rw[c];simp)];show rn zS [⟨[],Xs⟩]=0;simp [rn,rZ,d]
theorem Us:xM zS:=by
 refine⟨by unfold cH;decide,by unfold cH;decide,⟨by unfold cH;decide,λt e=>by simp [zS] at e⟩,by unfold cH;decide,by unfold cH;decide,λx a=>?_⟩;simp only[zS,bM] at a;subst a;exact⟨⟨by unfold cH;decide,λs d=>by simp at d⟩,by unfold cH;decide,⟨by unfold cH;decide,λo c=>by simp [Xs] at c⟩,by unfold xN cH;decide⟩
theorem Ux:Sm zS:=⟨by decide,by decide,by decide,by decide⟩
theorem aBQ (H:aA):aN prog 35 [.agg (cu zS)] H λd H'=>d=i64 0/\H=H':=by
 have:=wm zS H (Pm Us Ux) λa=>NG Us Ux a;rwa[Vp] at this
theorem nu {u:Type}{i:Cx}{o:Oper}{K:St->Prop}{s:St}{c:Call}{f:Operand}{l:Nat}{v:aA}{N:World}{J E:List u->aA->Prop}{p:u->List D}{F:List u->Prop}(g:List u)(x:u)
  (t:o.op=.call c) (z:c.callee=.value f) (hf:s.ev f=yD l) (hd:qP i.n o.dst) (T:Xm i.P l v N J E p F) (hE:Ev v N i.H0 i.w0) (hx:F (g++[x])) (R:J g s.H) (ha:s.rh c.args=p x)
  (ht:∀H',J (g++[x]) H'->(∀b o,v b=none->s.H b=some (.obj o)->H' b=some (.obj o))->K ((s.cJ H').put o.dst (.val (.bool true)))) (hn:∀H',E (g++[x]) H'->(∀b o,v b=none->s.H b=some (.obj o)->H' b=some (.obj o))->K ((s.cJ H').put o.dst (.val (.bool false)))):WO i o K s:=λa w m=>by
 refine⟨gw,?_⟩;rw[u7 (by simp [t])];have k:=m.nz f;rw[hf] at k;simp only[yD,D.is] at k;have q:=m.Db c.args;rw[ha] at q;obtain⟨G,j,d,h,hy,S⟩:=T g x s.H w _ hx R m.H (hE.trans m.ev) q;have y:(execOp a.eval o).run i.P w=.ok (.round l G j d h) w:=by
  simp only[execOp,t,resolve,z,k,Deferred.ofValue,Sem.run_bind,Sem.run_pure,Result.andThen,invoke];have e:(c.args.map a.eval).toList.toArray=c.args.map a.eval:=Array.toArray_toList;rw[e] at hy;simpa using hy
 rw[y,Oper.uponIn_round];refine⟨λB=>(by cases B),?_⟩;have A:RoundIn (FR i.ro) 8 i.P l G j d h w _:=S;refine A.mono λe V ⟨H',I,L,M,r⟩=>?_;rcases r with⟨rfl,r⟩|⟨rfl,r⟩
 ·exact⟨_,(m.go L I).put (fI hd) (by simp only[D.is]),ht H' r M⟩
 ·exact⟨_,(m.go L I).put (fI hd) (by simp only[D.is]),hn H' r M⟩
def Xq (a:aA):List Deferred->aA->Prop
 |[],_=>True
 |d::ds,H=>∃D,d=oN D/\a D=none/\H D=some (.obj xl)/\Xq a ds (H.aU D (.obj (.deferred none)))
def PG:List Deferred->aA->aA
 |[],H=>H
 |d::ds,H=>match d.target with
  | .collected D=>PG ds (H.aU D (.obj (.deferred none)))
  |_=>PG ds H
theorem zo {g:Type}{e:aA}{J:List g->aA->Prop}(f:yN e J){a:List g}:∀(ds:List Deferred) (H:aA),Xq e ds H->J a H->J a (PG ds H)
 |[],_,_,h=>h
 |d::ds,H,hm,h=>by
  obtain⟨D,rfl,h0,i,hm⟩:=hm;exact zo f ds _ hm (f _ _ _ _ h0 (λz c=>⟨_,by rw[i] at c;injection c with c;exact c.symm⟩) h)
theorem JY {e:Cx}{fn:Func}{R:Ending->World->Prop}{k:aA}:∀(ds:List Deferred) (s:St) (a:Act) (w:World),bj e s a w->Xq k ds s.H->
  (∀g f,g.tmps=a.tmps->bj e {s with H:=PG ds s.H,df:=[]} g f->∃v,(results fn g.tmps).run e.P f=.ok v f/\R (.returned v) f)->LeavesInM (FR none) 9 e.P fn a.tmps R ds .returning w
 |[],s,a,w,m,_,h=>by
  obtain⟨v,h1,h2⟩:=h {a with defers:=[]} w rfl (m.ZM []);exact⟨v,h1,h2⟩
 |d::ds,s,a,w,m,i,h=>by
  obtain⟨D,rfl,_,j,i⟩:=i;have c:w.heap[D]?=some xl:=m.H D _ j;obtain⟨n,l⟩:=AF (o':=.deferred none) (y:=.obj (.deferred none)) m.H j c (λ_ _ _ h=>by cases h) (sq c);refine⟨by simp [oN],.inl ⟨D,_,rfl,run_takeDeferred c,?_⟩⟩;exact JY ds (s.cJ (s.H.aU D (.obj (.deferred none)))) a _ (m.go n l) i h
theorem OT {Z:Type}{P:Program}{f:FuncId}{fn:Func}{c:Code}{r:List D}{p:Z->List D}{o:List Z}{ok:aA->Prop}(N:Nat)(hf:P.funcs[f]?=some fn)(mh:(fn.name== "runtime.NumGoroutine")=false)(hb:fn.body=some c)(hN:fn.ntmps=N)(xv:fn.results= #[])(hl:r.length+1<=N)
  (h:∀(l:Nat) (J j:List Z->aA->Prop) (H:aA) (X:World) (g0:wW X H) (Q:Exit->St->Prop),ok H->J [] H->yN H J->yN H j->YC P l H X J j p o->(∀e s,e=.normal\/e=.ret->Xq H s.df s.H->(J o s.H\/∃a,j a s.H)->Q e s)->W ⟨P,none,N,H,X,g0⟩ c Q (St.init (yD l::r) H)):BY P f r p o ok:=And.intro (jH hf mh hb) λl J j H w F dC hH S hJ hC x _ hY V=>by
 have I:Calls P f F.toArray w λe i=>∃v d g,e=.returned v/\D.is i g.others d v/\eF i g/\Ev H w g i/\(J o g\/∃a,j a g):=by
  refine mf (ro:=none) (n:=9) (callsIn_of_wp_marks hf hb trivial ?_ rfl);have cd:=fo V;obtain⟨k,y⟩:∃k,k=yD l::r:=⟨_,rfl⟩;have a0:k.length<=N:=by rw[y];exact hl
  have m:bj ⟨P,none,N,H,w,S⟩ (St.init (yD l::r) H) {tmps:=F.toArray++Array.replicate (fn.ntmps - F.toArray.size) undef,defers:=[]} w:=by
   rw[<-y] at cd V ⊢;refine⟨by simp;omega,rfl,λt=>?_,hH,dr _ _⟩;simp only[St.init];rcases fv t k.length with z|wY
   ·obtain⟨v,u,L⟩:=iO V t k[t] (by simp [z])
    have K:k.getD t (.val undef)=k[t]:=by simp [List.getD,z]
    have e2:(F.toArray++Array.replicate (fn.ntmps - F.toArray.size) undef).getD t undef=v:=by
     rw[nK,wF (by simp;omega)];simp [u]
    rw[K,e2];exact L
   ·have K:k.getD t (.val undef)=.val undef:=by simp [List.getD,wY]
    rw[K];simp only[D.is];rw[nK,wD (by simp;omega),wG];split <;> rfl
  refine wpIn_mono (h l J j H w S (λe s=>(e=.normal\/e=.ret)/\Xq H s.df s.H/\(J o s.H\/∃a,j a s.H)) dC hJ hC x hY (λe s T A hr=>⟨T,A,hr⟩) _ _ m) λe G i ⟨E,m',T,A,q⟩=>?_;have B:LeavesInM (FR none) 9 P fn G.tmps (λe i=>∃v d g,e=.returned v/\D.is i g.others d v/\eF i g/\Ev H w g i/\(J o g\/∃a,j a g)) G.defers .returning i:=by
   rw[m'.df];refine JY E.df E G i m' A λa2 w2 ht m2=>?_;have hq:LK ⟨P,none,N,H,w,S⟩ fn (λ_ g=>J o g\/∃a,j a g) .normal {E with H:=PG E.df E.H,df:=[]}:=sG (.inl rfl) rfl (by
    rw[xv];refine⟨_,aF _,?_⟩;rcases q with q|⟨a,q⟩
    ·exact .inl (zo hC _ _ A q)
    ·exact .inr ⟨a,zo x _ _ A q⟩)
   obtain⟨v,d,g,u,L,M,R⟩:=hq.2 a2 w2 m2;have m3:=m2.less M;exact⟨v,u,v,d,g,rfl,L,m3.H,m3.ev,R⟩
  rcases T with rfl|rfl
  ·exact B
  ·exact B
 refine I.mono ?_;rintro e i ⟨v,d,g,u,_,M,R,h5⟩;exact⟨v,g,u,M,R,h5.imp (λh=>⟨_,rfl,h⟩) id⟩
end Go.Proofs.YtffgfafbffdgaaaGreatDoor
