/- Lemmas and contracts of functions, several texts in one. -/
import Derived.Test.YtffgfafbffdgaaaGreatDoorR22
set_option maxRecDepth 100000
set_option maxHeartbeats 4000000
set_option linter.all false
namespace Go.Proofs.YtffgfafbffdgaaaGreatDoor
open Go.RowKit
open Tryz
variable {b:bn}
theorem TZ {l:List (Int×Int)}{a c:Nat}{H H':aA}(h:oc l a c H)(h1:H' a=H a)(h2:H' c=H c):oc l a c H':=by
 obtain⟨j,k,e,f,g,i⟩:=h;exact⟨j,k,h1.trans e,f,h2.trans g,i⟩
theorem Wx (b:bn)(H:aA)(hn:b.rg.length<=1000000)(hc:fc b.ol b.rg.length=0):aN prog 65 [.agg (cu b)] H λd H'=>∃a f p r,d=.agg (rz b b.rg.length a f)/\H a=none/\H f=none/\a≠f/\H'=(H.aU a (.map p)).aU f (.map r)/\oc b.ol a f H'/\H.le H':=by
 have w:=lm sD b.rg;rw[jB];refine dO func65 ntmps65 results65 λM L Q B=>?_;refine t0 ?_;intro U Y O C;intro K v m n;refine Y _ ?_;obtain⟨J,s⟩:=bF.1 n;refine Yc 1 v n ?_;refine tq w ?_;intro U Y O C;refine(Up b.ol b.rg.length _ (by omega) hc).mono ?_;rintro d I ⟨a,f,p,r,rfl,h,i,j,rfl,G,E⟩;obtain⟨n1,h⟩:=bF.1 h;obtain⟨n2,i⟩:=bF.1 i;obtain⟨R,u⟩:∃R:cY,(H.aU m R) m=some R/\R=.row 126 0 8 [[.val (.string ByteArray.empty),.val (.slice none 0 0),.val (.slice none 0 0),.val (.slice none 0 0),.val (.slice none 0 0),i64 0,.val (.slice none 0 0),.val (.pointer none)]]:=⟨_,aK _ _ _,rfl⟩;obtain⟨x,g⟩:=oX (((H.aU m R).aU a (.map p)).aU f (.map r));have l:x m=some R:=by rw[g,aJ n2.symm,aJ n1.symm,aK]
 rw[u.2] at g l;simp only[i64] at g l ⊢;rw[<-g];refine ur B (av @fJ.eq_1 l) trivial ?_;have t:((H.aU a (.map p)).aU f (.map r)).le (x.aU m (.row 126 0 8 [[bC b.nm,.seq 1 (b.rg.map sD),.seq 2 (b.ol.map pD),.seq 5 (b.ty.map bS),.seq 2 (b.lc.map eQ),i64 b.ag,.seq 7 (b.bl.map dM),fJ b.rg.length a f]])):=λc z k=>by
  have o:c≠m:=λe=>by rw[e,aJ n2.symm,aJ n1.symm,s] at k;cases k
  rw[aJ o,g];by_cases A:c=f
  ·subst A;rw[aK] at k ⊢;exact k
  ·rw[aJ A] at k ⊢
   by_cases y:c=a
   ·subst y;rw[aK] at k ⊢;exact k
   ·rw[aJ y] at k ⊢;rw[aJ o];exact k
 refine⟨_,t,a,f,p,r,rfl,h,i,j,rfl,TZ G ?_ ?_,?_⟩
 ·rw[aJ j,aK,aJ j,aK]
 ·rw[aK,aK]
 ·exact j5 (j5 (aF _) h) ((aJ j.symm).trans i)
def yS (t:ra) (x y:Int):Bool:=decide ((t.tg.length:Int)=x)&&decide ((t.ar.length:Int)=y)
theorem NP (t:ra)(x y:Int)(H:aA)(hp:Ht t):aN prog 210 [i64 x,i64 y,.rp (G2 t)] H λd H'=>d=.val (.bool (yS t x y))/\H=H':=by
 refine aq (K:=λd=>d=.val (.bool (yS t x y))) ?_;have k:=aF H;have a:=lm iD t.tg;have c:=lm db t.ar;obtain⟨z,f⟩:=oX (yS t x y);rw[<-f];unfold yS at f;refine dO func210 ntmps210 results210 λn m Q j=>?_;by_cases g:(t.tg.length:Int)=x
 case neg=>
  have i:((t.tg.length:Int)=x)=False:=aI g;have e:z=false:=by rw[f,af g];rfl
  exact oz j (bQ @G2.eq_1 a i) k e
 have i:((t.tg.length:Int)=x)=True:=aG g;by_cases h:(t.ar.length:Int)=y
 ·have l:((t.ar.length:Int)=y)=True:=aG h
  have e:z=true:=by rw[f,ah g,ah h];rfl
  exact oz j (cw @G2.eq_1 a c i l) k e
 ·have l:((t.ar.length:Int)=y)=False:=aI h
  have e:z=false:=by rw[f,af h,fq]
  exact oz j (cw @G2.eq_1 a c i l) k e
theorem JD (t:ra):nX t=if t.k=0 then yS t 1 0&&dU t.pl&&decide (t.nm=ByteArray.empty)
  else if t.k=1 then yS t 2 1&&dU t.pl&&decide (t.nm=ByteArray.empty)
  else if t.k=3 then decide ((t.tg.length:Int)=1)
  else if t.k=4 then yS t 1 0&&decide (t.nm=ByteArray.empty)
  else yS t 0 0&&dU t.pl&&decide (t.nm=ByteArray.empty):=by
 unfold nX yS;have e:∀(n m:Nat),decide ((n:Int)=(m:Int))=decide (n=m):=λn m=>by
  by_cases h:n=m
  ·subst h;simp
  ·rw[af h,af (by omega)]
 have a:∀n:Nat,decide ((n:Int)=0)=decide (n=0):=λn=>e n 0;have c:∀n:Nat,decide ((n:Int)=1)=decide (n=1):=λn=>e n 1;have f:∀n:Nat,decide ((n:Int)=2)=decide (n=2):=λn=>e n 2;simp only[a,c,f]
theorem Nt (t:ra)(H:aA)(hp:Ht t):aN prog 145 [.agg (G2 t)] H λd H'=>d=.val (.bool (nX t))/\H=H':=by
 refine aq (K:=λd=>d=.val (.bool (nX t))) ?_;have l:=aF H;have s:∀x y,aN prog 210 [i64 x,i64 y,.rp (G2 t)] H λd H'=>d=.val (.bool (yS t x y))/\H=H':=λx y=>NP t x y H hp;have w:=BQ t.pl H hp.2.2;have p:=lm iD t.tg;obtain⟨y,a⟩:=oX (nX t);rw[<-a];rw[JD] at a;obtain⟨o,I⟩:=oX (yS t);rw[<-I] at s a;clear I;obtain⟨Z,J⟩:=oX (dU t.pl);rw[<-J] at w a;clear J;obtain⟨k,G,L,P,m⟩:=t;simp only at a p;simp only[G2] at s ⊢;simp only[ee] at w;refine dO func145 ntmps145 results145 λR N Q j=>?_;refine t0 ?_;intro U Y O C;intro M B;refine Y _ ?_;refine cm 1 B ?_;by_cases f:k=0
 ·have r:(k=0)=True:=aG f
  rw[aD f] at a;have c:=s 1 0;obtain⟨v,n⟩:=oX (o 1 0);rw[<-n] at c a;clear n;refine tq r ?_;intro U Y O C;refine c.q ?_;cases v
  ·have e:y=false:=by rw[a];rfl
   exact oz j @bC.eq_1 l e
  rw[cV] at a;refine t0 ?_;intro U Y O C;refine w.q ?_;cases Z
  ·have e:y=false:=by rw[a];rfl
   exact oz j @bC.eq_1 l e
  rw[cV] at a;by_cases g:m=ByteArray.empty
  ·have i:decide (m.toList=(ByteArray.mk #[]).toList)=true:=ah (eA.2 g)
   have e:y=true:=by rw[a,ah g]
   exact oz j (av @bC.eq_1 i) l e
  ·have i:decide (m.toList=(ByteArray.mk #[]).toList)=false:=af (λh=>g (eA.1 h))
   have e:y=false:=by rw[a,af g]
   exact oz j (av @bC.eq_1 i) l e
 have r:(k=0)=False:=aI f;rw[aC f] at a;by_cases f:k=1
 ·have u:(k=1)=True:=aG f
  rw[aD f] at a;have c:=s 2 1;obtain⟨v,n⟩:=oX (o 2 1);rw[<-n] at c a;clear n;refine tq (av r u) ?_;intro U Y O C;refine c.q ?_;cases v
  ·have e:y=false:=by rw[a];rfl
   exact oz j @bC.eq_1 l e
  rw[cV] at a;refine t0 ?_;intro U Y O C;refine w.q ?_;cases Z
  ·have e:y=false:=by rw[a];rfl
   exact oz j @bC.eq_1 l e
  rw[cV] at a;by_cases g:m=ByteArray.empty
  ·have i:decide (m.toList=(ByteArray.mk #[]).toList)=true:=ah (eA.2 g)
   have e:y=true:=by rw[a,ah g]
   exact oz j (av @bC.eq_1 i) l e
  ·have i:decide (m.toList=(ByteArray.mk #[]).toList)=false:=af (λh=>g (eA.1 h))
   have e:y=false:=by rw[a,af g]
   exact oz j (av @bC.eq_1 i) l e
 have u:(k=1)=False:=aI f;rw[aC f] at a;by_cases f:k=3
 ·have z:(k=3)=True:=aG f
  rw[aD f] at a;by_cases A:(G.length:Int)=1
  ·have i:((G.length:Int)=1)=True:=aG A
   have e:y=true:=by rw[a,ah A]
   exact oz j (cw r u z i p) l e
  ·have i:((G.length:Int)=1)=False:=aI A
   have e:y=false:=by rw[a,af A]
   exact oz j (cw r u z i p) l e
 have z:(k=3)=False:=aI f;rw[aC f] at a;by_cases f:k=4
 ·have E:(k=4)=True:=aG f
  rw[aD f] at a;have c:=s 1 0;obtain⟨v,n⟩:=oX (o 1 0);rw[<-n] at c a;clear n;refine tq (cA r u z E) ?_;intro U Y O C;refine c.q ?_;cases v
  ·have e:y=false:=by rw[a];rfl
   exact oz j @bC.eq_1 l e
  rw[cV] at a;by_cases g:m=ByteArray.empty
  ·have i:decide (m.toList=(ByteArray.mk #[]).toList)=true:=ah (eA.2 g)
   have e:y=true:=by rw[a,ah g]
   exact oz j (av @bC.eq_1 i) l e
  ·have i:decide (m.toList=(ByteArray.mk #[]).toList)=false:=af (λh=>g (eA.1 h))
   have e:y=false:=by rw[a,af g]
   exact oz j (av @bC.eq_1 i) l e
 have E:(k=4)=False:=aI f;rw[aC f] at a;have c:=s 0 0;obtain⟨v,n⟩:=oX (o 0 0);rw[<-n] at c a;clear n;refine tq (cA r u z E) ?_;intro U Y O C;refine c.q ?_;cases v
 ·have e:y=false:=by rw[a];rfl
  exact oz j @bC.eq_1 l e
 rw[cV] at a;refine t0 ?_;intro U Y O C;refine w.q ?_;cases Z
 ·have e:y=false:=by rw[a];rfl
  exact oz j @bC.eq_1 l e
 rw[cV] at a;by_cases g:m=ByteArray.empty
 ·have i:decide (m.toList=(ByteArray.mk #[]).toList)=true:=ah (eA.2 g)
  have e:y=true:=by rw[a,ah g]
  exact oz j (av @bC.eq_1 i) l e
 ·have i:decide (m.toList=(ByteArray.mk #[]).toList)=false:=af (λh=>g (eA.1 h))
  have e:y=false:=by rw[a,af g]
  exact oz j (av @bC.eq_1 i) l e
theorem Nu {t:ra}(h:nX t=true)(hk:t.k=1):t.ar.length=1:=by
 unfold nX at h;rw[aC (by omega),aD hk] at h;simp only[cX,dF] at h;exact h.1.1.2
theorem TL {t:ra}(h:t.ar.length=1):(t.ar.map db)[0]?=some (db (BS t)):=by
 rw[sQ (by omega:0<t.ar.length)];unfold BS;rw[gZ,az (by omega)];rfl
theorem Jg {t:ra}(h:t.ar.length=1):BS t∈t.ar:=by
 unfold BS;rw[gZ,az (by omega)];exact ao _
theorem X3 (b:bn)(n:Int)(R V:Nat)(t:ra)(H:aA)(ck:Ck b)(hn:n=b.rg.length)(hR:oc b.ol R V H)(hp:Ht t)(be:cH t.nm.size):aN prog 67 [.agg (rz b n R V),.agg (G2 t)] H λd H'=>d=i64 (tw b t)/\H=H':=by
 refine aq (K:=λd=>d=i64 (tw b t)) ?_;have aM:=aF H;have ak:=Nt t H hp;have J:=(qc b n R V t.ar [] H ck hn hR hp.2.1.1 hp.2.1.2 (by unfold cH;simp) (λf hf=>by cases hf)).imp (ds:=[.agg (rz b n R V),.seq 4 (t.ar.map db),.val (.slice none 0 0)]) ⟨fG _,fG _,fO,trivial⟩;have N:t.ar.length=1->∀H1,cP prog 146 [.agg (rz b n R V),.agg (db (BS t))] H1 λd A=>A=aA.none/\d=i64 (kx b (BS t)):=λh H1=>an λP am=>C3 b n R V (BS t) P ck (hp.2.1.2 _ (Jg h));have l:t.ar.length=1->kx b (BS t)=0->∀H1,cP prog 148 [.agg (rz b n R V),.agg (db (BS t))] H1 λd A=>A=aA.none/\d=i64 (tc b (BS t)):=λh hz H1=>an λP am=>AS b n R V (BS t) P ck (hp.2.1.2 _ (Jg h)) hz;have b0:∀x H1,cP prog 147 [.val (.bool x)] H1 λd A=>A=aA.none/\d=i64 (if x=true then 22 else 0):=λx H1=>an λP am=>qA x P;have a9:=λx=>qA x H;have a1:=λa c=>AH a c H;have al:=xG t.nm H be;have z:=BP b n R V t.pl H ck hp.2.2;have a4:=ny b n R V t.pl H ck hp.2.2;have a0:=JL t.pl H hp.2.2;have a3:=lm iD t.tg;have w:=lm db t.ar;have b4:=lm dM b.bl;obtain⟨y,g⟩:=oX (tw b t);rw[<-g];unfold tw at g;have p:t.ar.length=1->(t.ar.map db)[0]?=some (db (BS t)):=TL;have ae:nX t=true->t.k=1->t.ar.length=1:=Nu;obtain⟨b7,hO⟩:=oX (BS t);rw[<-hO] at N l g p;obtain⟨oE,b5⟩:=oX (kx b b7);rw[<-b5] at N l g;obtain⟨kE,b3⟩:=oX (tc b b7);rw[<-b3] at l g;obtain⟨F,hF⟩:=oX (nX t);rw[<-hF] at ak g ae;obtain⟨I,hI⟩:=oX (eY t.nm);rw[<-hI] at al g;obtain⟨S,hS⟩:=oX (eM b t.ar []);rw[<-hS] at J g;obtain⟨E,hE⟩:=oX (qy b t.pl);rw[<-hE] at z g;obtain⟨T,hT⟩:=oX (mB b t.pl);rw[<-hT] at z a4 g;obtain⟨Z,hZ⟩:=oX (pC t.pl 0);rw[<-hZ] at a0 g;clear hO b5 b3 hF hI hS hE hT hZ;have b6:=hp.1;have aw:=hp.2.1.1;have b9:=ck.YS;unfold cH at b6 aw b9;rw[sA] at J N l z a4 ⊢;obtain⟨k,tg,ar,pl,nm⟩:=t;simp only at g a3 w b6 aw ae p N l J;simp only[G2] at ak ⊢;simp only[ee] at z a4 a0;simp only[db] at p N l;refine dO func67 ntmps67 results67 λw0 g0 Q B=>?_;refine t0 ?_;intro U Y O C;intro c2 ba c3 bb;refine Y _ ?_;refine uB 2 3 ba bb ?_;by_cases h1:k<0
 ·have q1:(k<0)=True:=aG h1
  have e:y=14:=g.trans (aD (.inl h1));exact oz B q1 aM e
 have q1:(k<0)=False:=aI h1;by_cases h2:5<k
 ·have q2:(5<k)=True:=aG h2
  have e:y=14:=g.trans (aD (.inr h2));exact oz B (av q1 q2) aM e
 have q2:(5<k)=False:=aI h2;rw[aC (by omega)] at g;refine tq (av q1 q2) ?_;intro U Y O C;refine ak.q ?_;cases F
 ·have e:y=2:=g
  exact oz B q1 aM e
 rw[aC (λh=>by cases h)] at g;refine tn a3 ?_;refine aO tg.length (λi s=>s.df=[]/\s.fr 2=.rp [bC b.nm,.seq 1 (b.rg.map sD),.seq 2 (b.ol.map pD),.seq 5 (b.ty.map bS),.seq 2 (b.lc.map eQ),i64 b.ag,.seq 7 (b.bl.map dM),fJ n R V]/\s.fr 3=.rp [i64 k,.seq 1 (tg.map iD),.seq 4 (ar.map db),i64 pl.lo,.seq 2 (pl.pr.map pD),bC nm]/\s.fr 25=.seq 1 (tg.map iD)/\s.fr 26=i64 tg.length/\s.fr 27=i64 i/\s.H=H/\(tg.all λx=>decide (bN b.bl.length x))=((tg.drop i).all λx=>decide (bN b.bl.length x))) ⟨rfl,rfl,rfl,rfl,rfl,rfl,rfl,rfl⟩ ?_;rintro i s hi ⟨bc,r,G,a7,o,u,hH,ha⟩;have hx:=aX i;have ad:=aZ i;have j:H.le s.H:=by rw[hH];exact aF _
 by_cases M:i<tg.length
 case pos=>
  have a6:(i:Int)<(tg.length:Int):=by omega
  have q6:((i:Int)<(tg.length:Int))=True:=aG a6;have w3:=wS i;have aa:=bT M;rw[cL M,jQ] at ha;obtain⟨v,hv⟩:=oX tg[i];rw[<-hv] at aa ha;have ap:¬bN b.bl.length v->y=3:=λh=>by rw[af h,dq] at ha;rw[g,ha];rfl
  by_cases h3:v<0
  ·have q3:(v<0)=True:=aG h3
   have e:=ap (by unfold bN;omega);exact oz B (bG r a7 o u a3 q6 aa (cw hx ad M a6 q3)) j e
  have q3:(v<0)=False:=aI h3;by_cases h4:(b.bl.length:Int)<=v
  ·have q4:(v≥(b.bl.length:Int))=True:=aG h4
   have e:=ap (by unfold bN;omega);exact oz B (bG r a7 o u a3 b4 q6 (ej aa hx ad M a6 q3 q4)) j e
  have q4:(v≥(b.bl.length:Int))=False:=aI h4;rw[ah (by unfold bN;omega:bN b.bl.length v),cV] at ha;refine tn (bG r a7 o u a3 b4 q6 (bG aa hx ad M a6 q3 q4 w3)) ?_;exact⟨M,bc,r,G,a7,o,rfl,hH,ha⟩
 have q6:=lF i tg.length;rw[cb (by omega),lh] at ha;rw[ha,aC (λh=>by cases h)] at g;clear ha;by_cases a2:k=1
 ·have k1:(k=1)=True:=aG a2
  rw[aD a2] at g;have hl:=ae rfl a2;have p:=p hl;have bf:0<(ar.map db).length:=by rw[w];omega
  have bi:(0:Int)<((ar.map db).length:Int):=by omega
  refine tq (eP r G o u q6 k1) ?_;intro U Y O C;refine dE (λ_ _ d A=>A=.none/\d=i64 oE) λU Y=>?_;refine dst (cw r G p w hl) ?_;intro U Y O C;refine⟨N hl _,?_⟩;refine nx ?_;by_cases h5:oE=0
  case neg=>
   have q5:(oE=0)=False:=aI h5;have e:y=oE:=g.trans (aD h5);exact oz B q5 j e
  have q5:(oE=0)=True:=aG h5;rw[aC (λh=>h h5)] at g;have l:=l hl h5;by_cases h7:kE=1
  ·have q7:(kE=1)=True:=aG h7
   have e:y=0:=g.trans (aC (λh=>h h7));refine tq q5 ?_;intro U Y O C;refine dE (λa5 _ d A=>A=.none/\d=(if a5=some 60 then i64 kE else i64 0)) λU Y=>?_;refine dst (eP r G p w hl q7) ?_;intro U Y O C;refine⟨l _,b0 _ _,?_⟩;refine nx ?_;exact oz B q7 j e
  ·have q7:(kE=1)=False:=aI h7
   have e:y=22:=g.trans (aD h7);refine tq q5 ?_;intro U Y O C;refine dE (λa5 _ d A=>A=.none/\d=(if a5=some 60 then i64 kE else i64 22)) λU Y=>?_;refine dst (eP r G p w hl q7) ?_;intro U Y O C;refine⟨l _,b0 _ _,?_⟩;refine nx ?_;exact oz B q7 j e
 have k1:(k=1)=False:=aI a2;rw[aC a2] at g;by_cases ab:k=3
 ·have k3:(k=3)=True:=aG ab
  rw[aD ab] at g;rw[<-hH] at al J z;refine tq (ej r G o u q6 k1 k3) ?_;intro U Y O C;refine al.mono ?_;rintro d _ ⟨rfl,m⟩;cases I
  ·have e:y=12:=g
   rw[m] at j;exact oz B q6 j e
  rw[aC (λh=>by cases h)] at g;by_cases h5:65535<ar.length
  ·have q5:=nT ((65535:Int)<(ar.length:Int))
   have e:y=15:=g.trans (aD h5);rw[m] at j;exact oz B (bQ G q5 w) j e
  have q5:=nF ((65535:Int)<(ar.length:Int));rw[aC h5] at g;rw[m] at J;refine tq (cA r G q5 w) ?_;intro U Y O C;refine J.mono ?_;rintro d _ ⟨rfl,L⟩;by_cases h6:S=0
  case neg=>
   have q7:(S=0)=False:=aI h6;have e:y=S:=g.trans (aD h6);rw[m,L] at j;exact oz B q7 j e
  have q7:(S=0)=True:=aG h6;rw[aC (λh=>h h6)] at g;rw[m,L] at z;refine tq (bQ r G q7) ?_;intro U Y O C;refine z.mono ?_;rintro d _ ⟨rfl,a8⟩;have e:=g;rw[m,L,a8] at j;exact oz B q7 j e
 have k3:(k=3)=False:=aI ab;rw[aC ab] at g;by_cases ac:k=4
 ·have k4:(k=4)=True:=aG ac
  rw[aD ac] at g;rw[<-hH] at a4 a0 a9 a1;refine tq (bG r G o u q6 k1 k3 k4) ?_;intro U Y O C;refine a4.mono ?_;rintro d _ ⟨rfl,m⟩;rw[m] at a0 a9 a1;refine tq (av r G) ?_;intro U Y O C;refine a0.mono ?_;rintro d _ ⟨rfl,L⟩;rw[L] at a9 a1;refine tq (av r G) ?_;intro U Y O C;refine(a9 _).mono ?_;rintro d _ ⟨rfl,a8⟩;rw[a8] at a1;refine tq (av r G) ?_;intro U Y O C;refine(a1 _ _).mono ?_;rintro d _ ⟨rfl,b8⟩;have e:=g;rw[m,L,a8,b8] at j;exact oz B q6 j e
 have k4:(k=4)=False:=aI ac;rw[aC ac] at g;have e:=g;exact oz B (ej G o u q6 k1 k3 k4) j e
theorem DR (h:nC b=0):eY b.nm=true/\kP b.rg=0/\fc b.ol b.rg.length=0/\rT b.ty b.rg.length=0/\th b=0/\b.bl.length≠0/\b.bl.length<=65535:=by
 unfold nC at h;by_cases g:eY b.nm=false
 ·rw[aD g] at h;cases h
 rw[aC g] at h;by_cases a:kP b.rg=0
 case neg=>rw[aD a] at h;exact absurd h a
 rw[aC (λk=>k a)] at h;by_cases c:fc b.ol b.rg.length=0
 case neg=>rw[aD c] at h;exact absurd (by omega) c
 rw[aC (λk=>k c)] at h;by_cases e:rT b.ty b.rg.length=0
 case neg=>rw[aD e] at h;exact absurd (by omega) e
 rw[aC (λk=>k e)] at h;by_cases f:th b=0
 case neg=>rw[aD f] at h;exact absurd h f
 rw[aC (λk=>k f)] at h;by_cases i:b.bl.length=0\/65535<b.bl.length
 ·rw[aD i] at h;cases h
 exact⟨by cases h:eY b.nm;exact absurd h g;rfl,a,c,e,f,by omega,by omega⟩
theorem NT (h:nC b=0):fc b.ol b.rg.length=0:=(DR h).2.2.1
theorem Mv {l:List im}{i:Nat}(h:i<l.length):(l.map dM)[i]?=some (dM l[i]):=by rw[bg,az h];rfl
theorem QB {l:List qO}{i:Nat}(h:i<l.length):(l.map ji)[i]?=some (ji l[i]):=by rw[bg,az h];rfl
theorem wm (b:bn)(H:aA)(sb:Sb b)(P:nC b=0->Ck b):aN prog 35 [.agg (cu b)] H λd H'=>d=i64 (oM b)/\H=H':=by
 refine aq (K:=λd=>d=i64 (oM b)) ?_;have aM:=aF H;obtain⟨o1,o2,⟨o3,o4⟩,o5,o6,o7⟩:=sb.ok;have Dl:=sb.ts;have R:=WE b H sb;have a5:=lm dM b.bl;unfold cH at o6;obtain⟨y,G⟩:=oX (oM b);rw[<-G];unfold oM at G;have a0:nC b=0->aN prog 65 [.agg (cu b)] H λd H'=>∃w z m1 m2,d=.agg (rz b b.rg.length w z)/\H w=none/\H z=none/\w≠z/\H'=(H.aU w (.map m1)).aU z (.map m2)/\oc b.ol w z H'/\H.le H':=λh=>Wx b H (P h).MX (NT h);obtain⟨D0,hD⟩:=oX (nC b);rw[<-hD] at R P a0 G;rw[jB] at R a0 ⊢;refine dO func35 ntmps35 results35 λw0 g0 Q aB=>?_;refine t0 ?_;intro U Y O C;intro c1 ac;refine Y _ ?_;refine cm 1 ac ?_;refine t0 ?_;intro U Y O C;refine R.q ?_;by_cases N:D0=0
 case neg=>
  have q0:(D0=0)=False:=aI N;have e:y=D0:=G.trans (aD N);refine ur aB q0 trivial ?_;exact zf aM (by rw[e])
 have q0:(D0=0)=True:=aG N;rw[aC (λh=>h N)] at G;have ck:=P N;refine tq q0 ?_;intro U Y O C;refine(a0 N).mono ?_;rintro d H1 ⟨w,z,m1,m2,rfl,am,ap,aw,ab,hR,a2⟩;rw[sA];clear ab;refine t0 ?_;intro U Y O C;intro c4 ad;refine Y _ ?_;refine cm 4 ad ?_;refine tn a5 ?_;refine aO b.bl.length (λi s=>s.df=[]/\s.fr 3=i64 0/\s.fr 4=.rp [bC b.nm,.seq 1 (b.rg.map sD),.seq 2 (b.ol.map pD),.seq 5 (b.ty.map bS),.seq 2 (b.lc.map eQ),i64 b.ag,.seq 7 (b.bl.map dM),fJ (b.rg.length:Int) w z]/\s.fr 17=.seq 7 (b.bl.map dM)/\s.fr 18=i64 b.bl.length/\s.fr 19=i64 i/\s.H=H1/\rn b b.bl=rn b (b.bl.drop i)) ⟨rfl,by rw[N] <;> rfl,rfl,rfl,rfl,rfl,rfl,rfl⟩ ?_;rintro i s hi ⟨B,f3,f4,r,l,m,I,g⟩;have hx:=aX i;have aa:=aZ i;have f:H.le s.H:=by rw[I];exact a2
 by_cases n:i<b.bl.length
 case neg=>
  have q6:=lF i b.bl.length;rw[cb (by omega)] at g;have e:y=0:=by rw[G,g];rfl
  exact oz aB (cA f3 l m q6) f e
 have a1:(i:Int)<(b.bl.length:Int):=by omega
 have q6:((i:Int)<(b.bl.length:Int))=True:=aG a1;have w3:=wS i;have S:=Mv n;have dC:=o7 b.bl[i] (ao n);have Z:=Dl b.bl[i] (ao n);rw[cL n,rn] at g;obtain⟨x,a8⟩:=oX b.bl[i];rw[<-a8] at S dC Z g;clear a8;obtain⟨c,J⟩:=x;obtain⟨⟨ye,a6⟩,a7⟩:=dC;simp only at ye a6 a7 g Z;have tY:=X3 b b.rg.length w z J H1 ck rfl hR a7 Z;have a:=λs hs=>XZ b b.rg.length w z s H1 ck rfl hR (a6 s hs);rw[sA] at tY a;have V:=lm ji c;unfold cH at ye;simp only[dM] at S;simp only[G2] at tY;refine tq (bG r l m a5 q6 S hx (bQ aa n a1)) ?_;intro U Y O C;intro c6 ae;refine Y _ ?_;refine cm 6 ae ?_;by_cases h1:65535<c.length
 ·have q1:=nT ((65535:Int)<(c.length:Int))
  have e:y=15:=by rw[G,g,aD h1]
  exact oz aB (av V q1) f e
 have q1:=nF ((65535:Int)<(c.length:Int));rw[aC h1] at g;refine tn (av V q1) ?_;refine aO c.length (λj o=>o.df=[]/\o.fr 3=i64 0/\o.fr 4=.rp [bC b.nm,.seq 1 (b.rg.map sD),.seq 2 (b.ol.map pD),.seq 5 (b.ty.map bS),.seq 2 (b.lc.map eQ),i64 b.ag,.seq 7 (b.bl.map dM),fJ (b.rg.length:Int) w z]/\o.fr 6=.rp [.seq 11 (c.map ji),i64 J.k,.seq 1 (J.tg.map iD),.seq 4 (J.ar.map db),i64 J.pl.lo,.seq 2 (J.pl.pr.map pD),bC J.nm]/\o.fr 17=.seq 7 (b.bl.map dM)/\o.fr 18=i64 b.bl.length/\o.fr 19=i64 i/\o.fr 28=.seq 11 (c.map ji)/\o.fr 29=i64 c.length/\o.fr 30=i64 j/\o.H=H1/\rZ b c=rZ b (c.drop j)) ⟨B,f3,f4,rfl,r,l,m,rfl,rfl,rfl,I,rfl⟩ ?_;rintro j o hj ⟨B,f3,f4,f6,r,l,m,a4,L,M,I,A⟩;have al:=aX j;have a9:=aZ j;have f:H.le o.H:=by rw[I];exact a2
 by_cases u:j<c.length
 case pos=>
  have a3:(j:Int)<(c.length:Int):=by omega
  have p6:((j:Int)<(c.length:Int))=True:=aG a3;have w4:=wS j;have T:=QB u;have a:=a c[j] (ao u);rw[cL u,rZ] at A;obtain⟨v,hv⟩:=oX c[j];rw[<-hv] at T a A;clear hv;obtain⟨E,hE⟩:=oX (yY b v);rw[<-hE] at a A;clear hE;simp only[ji] at T a;rw[<-I] at a;refine tq (bG a4 L M V p6 T al (bQ a9 u a3)) ?_;intro U Y O C;intro c8 ak;refine Y _ ?_;refine cm 8 ak ?_;refine tq f4 ?_;intro U Y O C;refine a.mono ?_;rintro d _ ⟨rfl,t⟩;by_cases p:E=0
  ·have q2:(E=0)=True:=aG p
   rw[aC (λh=>h p)] at A;refine tn (bQ M q2 w4) ?_;exact⟨u,B,by rw[p] <;> rfl,f4,f6,r,l,m,a4,L,rfl,by rw[<-t];exact I,A⟩
  ·have q2:(E=0)=False:=aI p
   rw[aD p] at A;have e:y=E:=by rw[G,g,A,aD p]
   rw[t] at f;exact oz aB q2 f e
 have p6:=lF j c.length;rw[cb (by omega),rZ] at A;rw[A,aC (λh=>h rfl)] at g;clear A;obtain⟨E,hE⟩:=oX (tw b J);rw[<-hE] at tY g;clear hE;rw[<-I] at tY;refine tq (cw f4 f6 L M p6) ?_;intro U Y O C;refine tY.mono ?_;rintro d _ ⟨rfl,t⟩;by_cases p:E=0
 ·have q2:(E=0)=True:=aG p
  rw[aC (λh=>h p)] at g;refine tn (bQ m q2 w3) ?_;exact⟨n,B,by rw[p] <;> rfl,f4,r,l,rfl,by rw[<-t];exact I,g⟩
 ·have q2:(E=0)=False:=aI p
  rw[aD p] at g;have e:y=E:=by rw[G,g]
  rw[t] at f;exact oz aB q2 f e
structure Sm (b:bn):Prop where
 tt:Jz b<=3000
 ol:b.ol.length<=200
 rg:b.rg.length<=200
 bl:b.bl.length<=200
theorem u9 {a:Type}{f:a->Nat}(hf:∀x,1<=f x):∀l:List a,l.length<=sm f l
 |[]=>bh _
 |x::l=>by
  have:=u9 hf l;have:=hf x;simp only[sm,bx];omega
theorem qk (b:bn):Jz b=b.nm.size+b.ol.length+sm (λs:ByteArray=>1+s.size) b.rg+sm (λt:bp=>1+t.ar.length) b.ty+sm (λl:mQ=>1+l.nm.size) b.lc+sm vw b.bl:=by
 unfold Jz t4 t3 t2 t1;simp only[dI]
theorem Pm (ok:xM b)(h:Sm b):Sb b where
 ok:=ok
 nm:=by have:=h.tt;rw[qk] at this;unfold cH;omega
 rs:=λs hs=>by have:=h.tt;rw[qk] at this;have:=jh (f:=λs:ByteArray=>1+s.size) hs;unfold cH;omega
 ls:=λs hs=>by have:=h.tt;rw[qk] at this;have:=jh (f:=λl:mQ=>1+l.nm.size) hs;unfold cH;omega
 ts:=λs hs=>by
  have h1:=h.tt;rw[qk] at h1;have h2:=jh (f:=vw) hs;have h3:s.tm.nm.size<=vw s:=by unfold vw;omega
  unfold cH;omega
theorem NG (ok:xM b)(h:Sm b)(hd:nC b=0):Ck b:=by
 obtain⟨n,o,g,i,a,r,s⟩:=DR hd;obtain⟨u,v,⟨w,y⟩,k,l,z⟩:=ok;have j:=h.tt;rw[qk] at j;obtain⟨-,e⟩:=DG.1 i;have c:oV b.ty.length [] b.lc=0:=by
  unfold th at a;by_cases p:65535<b.lc.length
  ·rw[aD p] at a;cases a
  rw[aC p] at a;exact eC λq=>by rw[aD q] at a;exact q a
 exact {
  wt:=wA e
  rf:=Lq e
  wl:=Oc c
  ar:=λt m=>by have:=jh (f:=λt:bp=>1+t.ar.length) m;omega
  tl:=by have:=u9 (f:=λt:bp=>1+t.ar.length) (λx=>by omega) b.ty;omega
  ol:=(wo g).2
  Qm:=by have:=h.ol;omega
  MX:=by have:=h.rg;omega
  Xp:=k
  YS:=l}
theorem Ps (b:bn)(H:aA)(ok:xM b):aN prog 15 [.agg (cu b)] H λd H'=>(d=i64 1\/(d=i64 0/\Sm b))/\H=H':=by
 refine aq (K:=λd=>d=i64 1\/(d=i64 0/\Sm b)) ?_;have g:=aF H;obtain⟨o1,o2,⟨P,R⟩,o5,o6,o7⟩:=id ok;have m:=Sa b H ok;have M:=Tz b.ty H P R;have v:=OX b.ty b.rg.length H P R;have dC:rT b.ty b.rg.length=0->pI b.ty:=λh=>wA (DG.1 h).2;have n:=lm sD b.rg;have a:=lm pD b.ol;have J:=lm bS b.ty;have w:=lm dM b.bl;unfold cH at o1 o2 P o6;obtain⟨L,p⟩:=oX (lg b);rw[<-p] at m;unfold lg at p;obtain⟨o,hC⟩:=oX (rT b.ty b.rg.length);rw[<-hC] at v dC;clear hC;rw[jB] at m ⊢;refine dO func15 ntmps15 results15 λw0 g0 Q c=>?_;refine t0 ?_;intro U Y O C;intro c1 G;refine Y _ ?_;refine cm 1 G ?_;refine t0 ?_;intro U Y O C;refine m.q ?_;by_cases E:3000<Jz b
 ·rw[aD E] at p
  subst p;refine u0 c ?_;exact zf g (.inl rfl)
 rw[aC E] at p;subst p;refine t0 ?_;intro U Y O C;refine M.mono ?_;rintro d _ ⟨hd,rfl⟩;rcases hd with rfl|⟨rfl,h6⟩
 ·refine u0 c ?_;exact zf g (.inl rfl)
 by_cases h2:200<b.ol.length
 ·have z:=nT ((200:Int)<(b.ol.length:Int))
  refine ur c (av a z) trivial ?_;exact zf g (.inl rfl)
 have z:=nF ((200:Int)<(b.ol.length:Int));by_cases h3:200<b.rg.length
 ·have A:=nT ((200:Int)<(b.rg.length:Int))
  refine ur c (cA a n z A) trivial ?_;exact zf g (.inl rfl)
 have A:=nF ((200:Int)<(b.rg.length:Int));by_cases h4:200<b.bl.length
 ·have S:=nT ((200:Int)<(b.bl.length:Int))
  refine ur c (eP a n w z A S) trivial ?_;exact zf g (.inl rfl)
 have S:=nF ((200:Int)<(b.bl.length:Int));have y:Sm b:=⟨by omega,by omega,by omega,by omega⟩;have N:b.ty.length<=1000000:=by
  have:=E;rw[qk] at this;have:=u9 (f:=λt:bp=>1+t.ar.length) (λx=>by omega) b.ty;omega
 refine tq (eP a n w z A S) ?_;intro U Y O C;refine v.q ?_;by_cases h5:o=0
 case neg=>
  have T:=nF ((o:Int)=0);refine ur c T trivial ?_;exact zf g (.inr ⟨rfl,y⟩)
 have T:=nT ((o:Int)=0);have hw:=dC h5;refine tn (av T J) ?_;refine aO b.ty.length (λi s=>s.df=[]/\s.fr 1=.rp [bC b.nm,.seq 1 (b.rg.map sD),.seq 2 (b.ol.map pD),.seq 5 (b.ty.map bS),.seq 2 (b.lc.map eQ),i64 b.ag,.seq 7 (b.bl.map dM)]/\s.fr 40=i64 b.ty.length/\s.fr 41=i64 i/\s.H=H) ⟨rfl,rfl,rfl,rfl,rfl⟩ ?_;rintro i s hi ⟨l,f1,j,k,hH⟩;have e:H.le s.H:=by rw[hH];exact g
 by_cases I:i<b.ty.length
 case neg=>
  have V:=lF i b.ty.length;refine ur c (bQ j k V) l ?_;exact zf e (.inr ⟨rfl,y⟩)
 have V:=lT i b.ty.length;have w3:=wS i;have u:=Wf b.ty i s.H N R hw;obtain⟨B,hD⟩:=oX (zw b.ty i);rw[<-hD] at u;clear hD;refine tq (cA f1 j k V) ?_;intro U Y O C;refine u.mono ?_;rintro d _ ⟨rfl,r⟩;by_cases h8:8<B
 ·have Z:=nT ((8:Int)<(B:Int))
  rw[r] at e;refine ur c Z l ?_;exact zf e (.inl rfl)
 ·have Z:=nF ((8:Int)<(B:Int))
  refine tn (bQ k Z w3) ?_;exact⟨I,l,f1,j,rfl,r▸hH⟩
theorem Vp:oM zS=0:=by
 have c:nC zS=0:=by
  have a:eY oA=true:=by decide
  unfold nC zS;simp [a,kP,rY,fc,ry,rT,pU,th,oV]
 have e:tw zS Xs=0:=by unfold tw;simp [Xs,nX,dU]
 unfold oM;rw[aC (by rw[c];simp)];show rn zS [⟨[],Xs⟩]=0;simp [rn,rZ,e]
theorem Us:xM zS:=by
 refine⟨by unfold cH;decide,by unfold cH;decide,⟨by unfold cH;decide,λt f=>by simp [zS] at f⟩,by unfold cH;decide,by unfold cH;decide,λx a=>?_⟩;simp only[zS,bM] at a;subst a;exact⟨⟨by unfold cH;decide,λs e=>by simp at e⟩,by unfold cH;decide,⟨by unfold cH;decide,λo c=>by simp [Xs] at c⟩,by unfold xN cH;decide⟩
theorem Ux:Sm zS:=⟨by decide,by decide,by decide,by decide⟩
theorem aBQ (H:aA):aN prog 35 [.agg (cu zS)] H λd H'=>d=i64 0/\H=H':=by
 have:=wm zS H (Pm Us Ux) λa=>NG Us Ux a;rwa[Vp] at this
theorem nu {y:Type}{j:Cx}{o:Oper}{K:St->Prop}{s:St}{c:Call}{f:Operand}{l:Nat}{z:aA}{T:World}{J I:List y->aA->Prop}{r:y->List D}{L:List y->Prop}(h:List y)(x:y)
  (v:o.op=.call c) (B:c.callee=.value f) (hf:s.ev f=yD l) (hd:qP j.n o.dst) (hY:Xm j.P l z T J I r L) (hE:Ev z T j.H0 j.w0) (hx:L (h++[x])) (V:J h s.H) (ha:s.rh c.args=r x)
  (ht:∀H',J (h++[x]) H'->(∀b o,z b=none->s.H b=some (.obj o)->H' b=some (.obj o))->K ((s.cJ H').put o.dst (.val (.bool true)))) (hn:∀H',I (h++[x]) H'->(∀b o,z b=none->s.H b=some (.obj o)->H' b=some (.obj o))->K ((s.cJ H').put o.dst (.val (.bool false)))):WO j o K s:=λa w m=>by
 refine⟨gw,?_⟩;rw[u7 (by simp [v])];have p:=m.nz f;rw[hf] at p;simp only[yD,D.is] at p;have t:=m.Db c.args;rw[ha] at t;obtain⟨M,k,g,i,hy,Z⟩:=hY h x s.H w _ hx V m.H (hE.trans m.ev) t;have A:(execOp a.eval o).run j.P w=.ok (.round l M k g i) w:=by
  simp only[execOp,v,resolve,B,p,Deferred.ofValue,Sem.run_bind,Sem.run_pure,Result.andThen,invoke];have e:(c.args.map a.eval).toList.toArray=c.args.map a.eval:=Array.toArray_toList;rw[e] at hy;simpa using hy
 rw[A,Oper.uponIn_round];refine⟨λG=>(by cases G),?_⟩;have E:RoundIn (FR j.ro) 8 j.P l M k g i w _:=Z;refine E.mono λe w' ⟨H',N,R,S,u⟩=>?_;rcases u with⟨rfl,u⟩|⟨rfl,u⟩
 ·exact⟨_,(m.go R N).put (fI hd) (by simp only[D.is]),ht H' u S⟩
 ·exact⟨_,(m.go R N).put (fI hd) (by simp only[D.is]),hn H' u S⟩
def Xq (a:aA):List Deferred->aA->Prop
 |[],_=>True
 |d::ds,H=>∃D,d=oN D/\a D=none/\H D=some (.obj xl)/\Xq a ds (H.aU D (.obj (.deferred none)))
def PG:List Deferred->aA->aA
 |[],H=>H
 |d::ds,H=>match d.target with
  | .collected D=>PG ds (H.aU D (.obj (.deferred none)))
  |_=>PG ds H
theorem zo {g:Type}{e:aA}{J:List g->aA->Prop}(f:yN e J){a:List g}:∀(ds:List Deferred) (H:aA),Xq e ds H->J a H->J a (PG ds H)
 |[],_,_,h=>h
 |d::ds,H,hm,h=>by
  obtain⟨D,rfl,h0,i,hm⟩:=hm;exact zo f ds _ hm (f _ _ _ _ h0 (λz c=>⟨_,by rw[i] at c;injection c with c;exact c.symm⟩) h)
theorem JY {e:Cx}{fn:Func}{R:Ending->World->Prop}{j:aA}:∀(ds:List Deferred) (s:St) (a:Act) (w:World),bj e s a w->Xq j ds s.H->
  (∀g f,g.tmps=a.tmps->bj e {s with H:=PG ds s.H,df:=[]} g f->∃v,(results fn g.tmps).run e.P f=.ok v f/\R (.returned v) f)->LeavesInM (FR none) 9 e.P fn a.tmps R ds .returning w
 |[],s,a,w,m,_,h=>by
  obtain⟨v,h1,h2⟩:=h {a with defers:=[]} w rfl (m.ZM []);exact⟨v,h1,h2⟩
 |d::ds,s,a,w,m,hm,h=>by
  obtain⟨D,rfl,_,i,hm⟩:=hm;have c:w.heap[D]?=some xl:=m.H D _ i;obtain⟨l,k⟩:=AF (o':=.deferred none) (y:=.obj (.deferred none)) m.H i c (λ_ _ _ h=>by cases h) (sq c);refine⟨by simp [oN],.inl ⟨D,_,rfl,run_takeDeferred c,?_⟩⟩;exact JY ds (s.cJ (s.H.aU D (.obj (.deferred none)))) a _ (m.go l k) hm h
theorem OT {α:Type}{P:Program}{f:FuncId}{fn:Func}{c:Code}{r:List D}{p:α->List D}{o:List α}{ok:aA->Prop}(N:Nat)(hf:P.funcs[f]?=some fn)(mh:(fn.name== "runtime.NumGoroutine")=false)(hb:fn.body=some c)(hN:fn.ntmps=N)(xv:fn.results= #[])(hl:r.length+1<=N)
  (h:∀(l:Nat) (J j:List α->aA->Prop) (H:aA) (w0:World) (g0:wW w0 H) (Q:Exit->St->Prop),ok H->J [] H->yN H J->yN H j->YC P l H w0 J j p o->(∀e s,e=.normal\/e=.ret->Xq H s.df s.H->(J o s.H\/∃a,j a s.H)->Q e s)->W ⟨P,none,N,H,w0,g0⟩ c Q (St.init (yD l::r) H)):BY P f r p o ok:=And.intro (jH hf mh hb) λl J j H w G dC hH T hJ hC x _ hY Z=>by
 have K:Calls P f G.toArray w λe i=>∃v d g,e=.returned v/\D.is i g.others d v/\eF i g/\Ev H w g i/\(J o g\/∃a,j a g):=by
  refine mf (ro:=none) (n:=9) (callsIn_of_wp_marks hf hb trivial ?_ rfl);have cd:=fo Z;obtain⟨k,y⟩:∃k,k=yD l::r:=⟨_,rfl⟩;have a0:k.length<=N:=by rw[y];exact hl
  have m:bj ⟨P,none,N,H,w,T⟩ (St.init (yD l::r) H) {tmps:=G.toArray++Array.replicate (fn.ntmps - G.toArray.size) undef,defers:=[]} w:=by
   rw[<-y] at cd Z ⊢;refine⟨by simp;omega,rfl,λt=>?_,hH,dr _ _⟩;simp only[St.init];rcases fv t k.length with z|wY
   ·obtain⟨v,u,M⟩:=iO Z t k[t] (by simp [z])
    have L:k.getD t (.val undef)=k[t]:=by simp [List.getD,z]
    have e2:(G.toArray++Array.replicate (fn.ntmps - G.toArray.size) undef).getD t undef=v:=by
     rw[nK,wF (by simp;omega)];simp [u]
    rw[L,e2];exact M
   ·have L:k.getD t (.val undef)=.val undef:=by simp [List.getD,wY]
    rw[L];simp only[D.is];rw[nK,wD (by simp;omega),wG];split <;> rfl
  refine wpIn_mono (h l J j H w T (λe s=>(e=.normal\/e=.ret)/\Xq H s.df s.H/\(J o s.H\/∃a,j a s.H)) dC hJ hC x hY (λe s V A hr=>⟨V,A,hr⟩) _ _ m) λe I i ⟨E,m',V,A,q⟩=>?_;have B:LeavesInM (FR none) 9 P fn I.tmps (λe i=>∃v d g,e=.returned v/\D.is i g.others d v/\eF i g/\Ev H w g i/\(J o g\/∃a,j a g)) I.defers .returning i:=by
   rw[m'.df];refine JY E.df E I i m' A λa2 w2 ht m2=>?_;have hq:LK ⟨P,none,N,H,w,T⟩ fn (λ_ g=>J o g\/∃a,j a g) .normal {E with H:=PG E.df E.H,df:=[]}:=sG (.inl rfl) rfl (by
    rw[xv];refine⟨_,aF _,?_⟩;rcases q with q|⟨a,q⟩
    ·exact .inl (zo hC _ _ A q)
    ·exact .inr ⟨a,zo x _ _ A q⟩)
   obtain⟨v,d,g,u,M,R,S⟩:=hq.2 a2 w2 m2;have m3:=m2.less R;exact⟨v,u,v,d,g,rfl,M,m3.H,m3.ev,S⟩
  rcases V with rfl|rfl
  ·exact B
  ·exact B
 refine K.mono ?_;rintro e i ⟨v,d,g,u,_,R,S,h5⟩;exact⟨v,g,u,R,S,h5.imp (λh=>⟨_,rfl,h⟩) id⟩
end Go.Proofs.YtffgfafbffdgaaaGreatDoor
