/- Lemmas and contracts of functions, several texts in one. -/
import Derived.Test.YtffgfafbffdgaaaGreatDoorR18
import Derived.Test.YtffgfafbffdgaaaGreatDoorR15
set_option maxRecDepth 100000
set_option maxHeartbeats 4000000
set_option linter.all false
namespace Go.Proofs.YtffgfafbffdgaaaGreatDoor
open Go.RowKit
variable {m:List (Value×D)}{f:ByteArray->Option D}{x:ByteArray}{l:List (Int×Int)}
structure tU (m:List (Value×D)) (f:ByteArray->Option D):Prop where
 keys:∀p∈m,∃s:ByteArray,cH s.size/\p.1=.string s
 get:∀s:ByteArray,iC m (.string s)=f s
theorem tU.nil:tU [] λ_=>Option.none:=⟨(λp a=>by cases a),(λx=>rfl)⟩
theorem tU.set (h:tU m f)(hx:cH x.size)(d:D):tU (eJ m (.string x) d) λy=>if y=x then some d else f y where
 keys:=λp hp=>by
  rcases vf hp with rfl|hp
  ·exact⟨x,hx,rfl⟩
  ·exact h.keys p hp
 get:=λy=>by
  by_cases e:y=x
  ·subst e;rw[jJ,aD rfl]
  ·rw[n9 _ _ (λhe=>e (by injection he with he;exact he.symm)),aC e];exact h.get y
theorem CT {P:Program}{k:TypeId}(hk:P.underlying k=some .string)(hx:cH x.size):∃l,keyOf P k (.string x)=some l:=by
 unfold keyOf;rw[hk];simp only[mapKey,hk];unfold cH at hx;rw[aD (by unfold maxLen;omega)];exact⟨_,rfl⟩
theorem tU.ok {P:Program}{k:TypeId}(hk:P.underlying k=some .string)(h:tU m f)(hx:cH x.size):SP P k m (.string x):=
 ⟨Go.Maps.string_keyed hk,CT hk hx,λp a=>by obtain⟨y,b,e⟩:=h.keys p a;rw[e];exact CT hk b⟩
theorem tU.congr {g:ByteArray->Option D}(h:tU m f)(a:∀x,f x=g x):tU m g:=⟨h.keys,λx=>(h.get x).trans (a x)⟩
open Classical in
noncomputable def qH (S:List ByteArray) (x:ByteArray):Option D:=if x∈S then some (.val (.bool true)) else none
theorem Ce (x:ByteArray):none=qH [] x:=by unfold qH;rw[aC (by simp)]
theorem Av (y:ByteArray)(S:List ByteArray)(x:ByteArray):(if x=y then some (D.val (.bool true)) else qH S x)=qH (S++[y]) x:=by
 unfold qH;by_cases h:x=y
 ·rw[aD h,aD (by rw[h];simp)]
 ·rw[aC h]
  by_cases a:x∈S
  ·rw[aD a,aD (by simp [a])]
  ·rw[aC a,aC (by simp [h,a])]
open Tryz
theorem Sy (l:List ByteArray)(H:aA)(hl:cH l.length)(hs:∀s∈l,cH s.size):aN prog 137 [.seq 1 (l.map sD)] H λd H'=>d=i64 (kP l)/\H=H':=by
 refine aq (K:=λd=>d=i64 (kP l)) ?_;have aM:=aF H;have n:=lm sD l;unfold cH at hl;refine dO func137 ntmps137 results137 λw0 g0 Q I=>?_;by_cases h1:65535<l.length
 ·have q1:=nT ((65535:Int)<(l.length:Int))
  have e:kP l=15:=aD h1;refine ur I (av n q1) trivial ?_;exact zf aM (by rw[e])
 have q1:=nF ((65535:Int)<(l.length:Int));have e:kP l=rY [] l:=aC h1;refine tq (av n q1) ?_;intro U Y O C;intro o B;refine Y _ ?_;have N:(H.aU o (.map [])) o=some (.map []):=aK _ _ _;refine tn n ?_;refine aO l.length (λi s=>s.df=[]/\s.fr 3=.val (.map (some o))/\s.fr 10=.seq 1 (l.map sD)/\s.fr 11=i64 l.length/\s.fr 12=i64 i/\H.le s.H/\∃M,s.H o=some (.map M)/\tU M (qH (l.take i))/\rY [] l=rY (l.take i) (l.drop i)) ⟨rfl,rfl,rfl,rfl,rfl,j5 aM B,[],N,tU.nil.congr Ce,rfl⟩ ?_;rintro i s hi ⟨j,z,y,p,r,a,M,S,V,c⟩;have hx:=aX i;have R:=aZ i;by_cases b:i<l.length
 case neg=>
  have q6:=lF i l.length;rw[cb (by omega)] at c;refine ur I (bQ p r q6) j ?_;exact⟨_,aF _,a,_,aL a,by rw[e,c] <;> rfl⟩
 have w:(i:Int)<(l.length:Int):=by omega
 have q6:((i:Int)<(l.length:Int))=True:=aG w;have w3:=wS i;have E:=fg b;have g:=hs l[i] (ao b);rw[cL b,rY] at c;have u:=bw b;obtain⟨x,a1⟩:=oX l[i];rw[<-a1] at E g c u;have t:=xG x s.H g;simp only[bC] at t;obtain⟨v,hv⟩:=oX (eY x);rw[<-hv] at t c;refine tq (bG z y p r n q6 E (cA hx R b w)) ?_;intro U Y O C;refine t.q ?_;cases v
 ·rw[aD rfl] at c
  refine ur I trivial j ?_;exact⟨_,aF _,a,_,aL a,by rw[e,c] <;> rfl⟩
 rw[aC (λh=>by cases h)] at c;have Z:=V.ok (P:=prog) underlying9 g;have k:=V.get x;by_cases J:x∈l.take i
 ·rw[show qH (l.take i) x=some (.val (.bool true)) from aD J] at k
  rw[aD (mN.2 J)] at c;refine tq (bQ z S k) ?_;intro U Y O C;refine⟨Z,?_⟩;refine ur I trivial j ?_;exact⟨_,aF _,a,_,aL a,by rw[e,c] <;> rfl⟩
 rw[show qH (l.take i) x=none from aC J] at k;rw[aC (λh=>J (mN.1 h))] at c;refine tq (bQ z S k) ?_;intro U Y O C;refine⟨Z,?_⟩;refine tq (av z S) ?_;intro U Y O C;refine⟨Z,?_⟩;have A:tU (eJ M (.string x) (.val (.bool true))) (qH (l.take i++[x])):=(V.set g (.val (.bool true))).congr (Av x _);obtain⟨G,T⟩:=oX (eJ M (.string x) (.val (.bool true)));rw[<-T] at A ⊢;have a0:(s.H.aU o (.map G)) o=some (.map G):=aK _ _ _;have L:H.le (s.H.aU o (.map G)):=aQ a B;refine tn (av r w3) ?_;exact⟨b,j,z,y,p,rfl,L,G,a0,by rw[u];exact A,by rw[c,u]⟩
theorem O8 {l:List mQ}{i:Nat}(h:i<l.length):(l.map eQ)[i]?=some (eQ l[i]):=by rw[bg,az h];rfl
theorem jB (b:bn):cu b=[bC b.nm,.seq 1 (b.rg.map sD),.seq 2 (b.ol.map pD),.seq 5 (b.ty.map bS),.seq 2 (b.lc.map eQ),i64 b.ag,.seq 7 (b.bl.map dM)]:=rfl
theorem Oi (b:bn)(H:aA)(hl:cH b.lc.length)(hs:∀x∈b.lc,cH x.nm.size):aN prog 140 [.agg (cu b)] H λd H'=>d=i64 (th b)/\H=H':=by
 refine aq (K:=λd=>d=i64 (th b)) ?_;have aM:=aF H;have k:=lm eQ b.lc;have a2:=lm bS b.ty;unfold cH at hl;obtain⟨y,t⟩:=oX (th b);rw[<-t];unfold th at t;rw[jB];refine dO func140 ntmps140 results140 λw0 g0 Q A=>?_;refine t0 ?_;intro U Y O C;intro c1 a8;refine Y _ ?_;refine cm 1 a8 ?_;by_cases h1:65535<b.lc.length
 ·have q1:=nT ((65535:Int)<(b.lc.length:Int))
  have e:y=15:=t.trans (aD h1);refine ur A (av k q1) trivial ?_;exact zf aM (by rw[e])
 have q1:=nF ((65535:Int)<(b.lc.length:Int));rw[aC h1] at t;refine tq (av k q1) ?_;intro U Y O C;intro B a1;refine Y _ ?_;have a5:(H.aU B (.map [])) B=some (.map []):=aK _ _ _;refine tn k ?_;refine aO b.lc.length (λi s=>s.df=[]/\s.fr 1=.rp [bC b.nm,.seq 1 (b.rg.map sD),.seq 2 (b.ol.map pD),.seq 5 (b.ty.map bS),.seq 2 (b.lc.map eQ),i64 b.ag,.seq 7 (b.bl.map dM)]/\s.fr 3=.val (.map (some B))/\s.fr 12=.seq 2 (b.lc.map eQ)/\s.fr 13=i64 b.lc.length/\s.fr 14=i64 i/\H.le s.H/\∃M S,s.H B=some (.map M)/\tU M (qH S)/\oV b.ty.length [] b.lc=oV b.ty.length S (b.lc.drop i)) ⟨rfl,rfl,rfl,rfl,rfl,rfl,j5 aM a1,[],[],a5,tU.nil.congr Ce,rfl⟩ ?_;rintro i s hi ⟨g,E,G,Z,n,o,a,M,S,hM,hS,c⟩;have hx:=aX i;have a6:=aZ i;by_cases r:i<b.lc.length
 case neg=>
  have q6:=lF i b.lc.length;rw[cb (by omega),oV] at c;rw[c,aC (λh=>h rfl)] at t;by_cases N:b.ag<0
  ·have w:(b.ag<0)=True:=aG N
   have e:y=3:=t.trans (aD (.inl N));refine ur A (cw E n o q6 w) g ?_;exact⟨_,aF _,a,_,aL a,by rw[e] <;> rfl⟩
  have w:(b.ag<0)=False:=aI N;by_cases R:(b.lc.length:Int)<b.ag
  ·have L:((b.lc.length:Int)<b.ag)=True:=aG R
   have e:y=3:=t.trans (aD (.inr R));refine ur A (ej E n o q6 w L k) g ?_;exact⟨_,aF _,a,_,aL a,by rw[e] <;> rfl⟩
  have L:((b.lc.length:Int)<b.ag)=False:=aI R;have e:y=0:=t.trans (aC (by omega));refine ur A (ej E n o q6 w L k) g ?_;exact⟨_,aF _,a,_,aL a,by rw[e] <;> rfl⟩
 have V:(i:Int)<(b.lc.length:Int):=by omega
 have q6:((i:Int)<(b.lc.length:Int))=True:=aG V;have w3:=wS i;have I:=O8 r;have p:=hs b.lc[i] (ao r);rw[cL r,oV] at c;obtain⟨x,a3⟩:=oX b.lc[i];rw[<-a3] at I p c;clear a3;obtain⟨x,T⟩:=x;simp only at p c;simp only[eQ,bC] at I;have J:=xG x s.H p;simp only[bC] at J;obtain⟨v,hv⟩:=oX (eY x);rw[<-hv] at J c;have u:∀z:Int,z≠0->oV b.ty.length [] b.lc=z->y=z:=λz hz h=>by rw[h,aD hz] at t;exact t
 refine tq (bG G Z n o k q6 I (cA hx a6 r V)) ?_;intro U Y O C;intro c5 a9;refine Y _ ?_;refine cm 5 a9 ?_;refine t0 ?_;intro U Y O C;refine J.q ?_;cases v
 ·rw[aD rfl] at c
  have e:=u 12 (by decide) c;refine ur A trivial g ?_;exact⟨_,aF _,a,_,aL a,by rw[e] <;> rfl⟩
 rw[aC (λh=>by cases h)] at c;have hk:=hS.ok (P:=prog) underlying9 p;have j:=hS.get x;by_cases hm:x∈S
 ·rw[show qH S x=some (.val (.bool true)) from aD hm] at j
  rw[aD (mN.2 hm)] at c;have e:=u 21 (by decide) c;refine tq (bQ G hM j) ?_;intro U Y O C;refine⟨hk,?_⟩;refine ur A trivial g ?_;exact⟨_,aF _,a,_,aL a,by rw[e] <;> rfl⟩
 rw[show qH S x=none from aC hm] at j;rw[aC (λh=>hm (mN.1 h))] at c;by_cases N:T<0
 ·have w:(T<0)=True:=aG N
  rw[aD (by unfold bN;omega)] at c;have e:=u 3 (by decide) c;refine tq (bQ G hM j) ?_;intro U Y O C;refine⟨hk,?_⟩;refine ur A (av E w) g ?_;exact⟨_,aF _,a,_,aL a,by rw[e] <;> rfl⟩
 have w:(T<0)=False:=aI N;by_cases R:(b.ty.length:Int)<=T
 ·have L:(T≥(b.ty.length:Int))=True:=aG R
  rw[aD (by unfold bN;omega)] at c;have e:=u 3 (by decide) c;refine tq (bQ G hM j) ?_;intro U Y O C;refine⟨hk,?_⟩;refine ur A (cA E w L a2) g ?_;exact⟨_,aF _,a,_,aL a,by rw[e] <;> rfl⟩
 have L:(T≥(b.ty.length:Int))=False:=aI R;rw[aC (by unfold bN;omega)] at c;refine tq (bQ G hM j) ?_;intro U Y O C;refine⟨hk,?_⟩;refine tq (eP E G hM w L a2) ?_;intro U Y O C;refine⟨hk,?_⟩;have a0:tU (eJ M (.string x) (.val (.bool true))) (qH (S++[x])):=(hS.set p (.val (.bool true))).congr (Av x _);obtain⟨M4,a7⟩:=oX (eJ M (.string x) (.val (.bool true)));rw[<-a7] at a0 ⊢;have aa:(s.H.aU B (.map M4)) B=some (.map M4):=aK _ _ _;have a4:H.le (s.H.aU B (.map M4)):=aQ a a1;refine tn (av o w3) ?_;exact⟨r,g,E,G,Z,n,rfl,a4,M4,_,aa,a0,c⟩
theorem s9 {i:Nat}(h:i<l.length):(l.map pD)[i]?=some [.val (.int .i64 l[i].1),.val (.int .i64 l[i].2)]:=by rw[bg,az h];rfl
theorem zk {i:Nat}(h:i<l.length):mg (l.drop i)=if B4 l[i]≠0 then B4 l[i] else mg (l.drop (i+1)):=by rw[cL h];rfl
theorem PU (p:gR)(H:aA)(hp:cH p.pr.length):aN prog 342 [.agg (ee p)] H λd H'=>d=i64 (gC p)/\H=H':=by
 unfold cH at hp;have z:=lm pD p.pr;refine aq (K:=λd=>d=i64 (gC p)) ?_;refine dO func342 ntmps342 results342 λw0 g0 Q v=>?_;refine tq @ee.eq_1 ?_;intro U Y O C;intro c1 V;refine Y _ ?_;refine cm 1 V ?_;by_cases o:p.lo<0
 ·have P:(p.lo<0)=True:=aG o
  have E:gC p=3:=aD o;refine ur v P trivial ?_;exact⟨_,aF _,aF _,_,aL (aF _),by rw[E]⟩
 have P:(p.lo<0)=False:=aI o;by_cases u:32<p.pr.length
 ·have p2:=nT ((p.pr.length:Int)>32)
  have E:gC p=19:=by unfold gC;rw[aC o,aD u]
  refine ur v (bQ P z p2) trivial ?_;exact⟨_,aF _,aF _,_,aL (aF _),by rw[E]⟩
 have p2:=nF ((p.pr.length:Int)>32);have E:gC p=mg p.pr:=by unfold gC;rw[aC o,aC u]
 rw[E] at v;refine tn (bQ P z p2) ?_;refine aO p.pr.length (λi s=>s.df=[]/\s.fr 15=.seq 2 (p.pr.map pD)/\s.fr 16=i64 p.pr.length/\s.fr 17=i64 i/\H.le s.H/\mg p.pr=mg (p.pr.drop i)) ⟨rfl,rfl,rfl,rfl,aF _,rfl⟩ ?_;rintro i s hi ⟨r,c,g,n,L,a⟩;have hx:=aX i;have T:=aZ i;by_cases t:i<p.pr.length
 case neg=>
  have q1:=lF i p.pr.length;rw[cb (by omega)] at a;refine ur v (cA c g n q1) r ?_;exact⟨_,aF _,L,_,aL L,by rw[a] <;> rfl⟩
 have R:(i:Int)<(p.pr.length:Int):=by omega
 have q1:((i:Int)<(p.pr.length:Int))=True:=aG R;have I:=wS i;have w:=s9 t;rw[zk t] at a;rcases he:p.pr[i] with⟨k,f⟩;rw[he] at a w;simp only at w;refine tq (bG c g n q1 z w hx (av T t)) ?_;intro U Y O C;intro A B;refine Y _ ?_;have S:H A=none:=by
  cases e:H A with
  |none=>rfl
  |some y=>rw[L A y e] at B;cases B
 have j:=aQ (x:=.row 117 0 2 [[i64 k,i64 f]]) L S;have J:(s.H.aU A (.row 117 0 2 [[i64 k,i64 f]])) A=some (.row 117 0 2 [[i64 k,i64 f]]):=aK _ _ _;have b:B4 (k,f)=if k≠0/\k≠1 then 14 else if k=0/\f≠0 then 2 else if f<0 then 3 else 0:=rfl
 rcases G0 (k=0) with⟨_,G,⟨rfl,o⟩|⟨rfl,o⟩⟩
 ·rcases G0 (f=0) with⟨_,f0,⟨rfl,u⟩|⟨rfl,u⟩⟩
  ·have M:=nF (f<0)
   rw[aC (λh=>h.1 o),aC (λh=>h.2 u),aC (by omega)] at b;rw[aC (λh=>h b)] at a;refine tq (bG c g n I G J f0 M) ?_;intro U Y O C;exact⟨t,r,c,g,rfl,j,a⟩
  ·rw[aC (λh=>h.1 o),aD ⟨o,u⟩] at b
   rw[aD (by rw[b];decide),b] at a;refine ur v (ej c g n I G J f0) r ?_;exact⟨_,aF _,j,_,aL j,by rw[a] <;> rfl⟩
 rcases G0 (k=1) with⟨_,Z,⟨rfl,N⟩|⟨rfl,N⟩⟩
 case inr=>
  rw[aD ⟨o,N⟩] at b;rw[aD (by rw[b];decide),b] at a;refine ur v (ej c g n I G J Z) r ?_;exact⟨_,aF _,j,_,aL j,by rw[a] <;> rfl⟩
 rcases G0 (f<0) with⟨_,M,⟨rfl,u⟩|⟨rfl,u⟩⟩
 ·rw[aC (λh=>h.2 N),aC (λh=>o h.1),aD u] at b
  rw[aD (by rw[b];decide),b] at a;refine ur v (bG c g n I G J Z M) r ?_;exact⟨_,aF _,j,_,aL j,by rw[a] <;> rfl⟩
 ·rw[aC (λh=>h.2 N),aC (λh=>o h.1),aC u] at b
  rw[aC (λh=>h b)] at a;refine tq (bG c g n I G J Z M) ?_;intro U Y O C;exact⟨t,r,c,g,rfl,j,a⟩
theorem XG (ts:List bp)(i:Int)(x:Int×Int)(H:aA)(hi:bN ts.length i)(hx:0<=x.2)(ha:(bY ts i).ar.length<=1000000):aN prog 343 [.seq 5 (ts.map bS),i64 i,.agg [i64 x.1,i64 x.2]] H λd H'=>d=.agg [i64 (gG ts i x).1,i64 (gG ts i x).2]/\H=H':=by
 refine aq (K:=λd=>d=.agg [i64 (gG ts i x).1,i64 (gG ts i x).2]) ?_;obtain⟨t,ht⟩:=oX (bY ts i);have g:=gY hi;have J:i.toNat<ts.length:=by unfold bN at hi;omega
 have G:0<=i:=by unfold bN at hi;omega
 have L:=lm bS ts;obtain⟨k,f⟩:=x;have j:gG ts i (k,f)=if k=0/\t.k=3 then (t.e,0) else if k=1/\t.k=4 then (if f<t.ar.length then (t.ar.getD f.toNat 0,0) else (0,3)) else (0,22):=by rw[ht];rfl
 rw[<-ht] at g ha;obtain⟨y,hy⟩:=oX (gG ts i (k,f));rw[<-hy] at j ⊢;clear hy ht;obtain⟨n,tm,tr,te,w⟩:=t;simp only[bS] at g;simp only at ha hx j;have a:=lm iD w;refine dO func343 ntmps343 results343 λw0 g0 Q r=>?_;refine tq (cA g J G L) ?_;intro U Y O C;intro N a0 c I;refine Y _ ?_;have M:N≠c:=lj (aK _ _ _) I;obtain⟨_,B⟩:=bF.1 I;refine dZ 5 rfl ((aJ M).trans (aK _ _ _)) rfl ?_;refine lB (H.aU c (.row 383 0 2 [[i64 0,i64 0]])) (λx z s=>?_) ?_
 ·show(((H.aU N _).aU c _).del N) x=_
  by_cases P:x=c
  ·subst P
   rw[aK] at s;rw[bL M.symm,aK];exact s
  rw[aJ P] at s;have e5:x≠N:=λe=>by rw[e,a0] at s;cases s
  rw[bL e5,aJ P,aJ e5];exact s
 simp only[St.ku,List.drop];have A:H.le (H.aU c (.row 383 0 2 [[i64 0,i64 0]])):=aQ (aF _) B;have p:(H.aU c (.row 383 0 2 [[i64 0,i64 0]])) c=some (.row 383 0 2 [[i64 0,i64 0]]):=aK _ _ _;obtain⟨H6,Z⟩:=oX (H.aU c (.row 383 0 2 [[i64 0,i64 0]]));rw[<-Z] at A p ⊢;refine tq (cA g J G L) ?_;intro U Y O C;intro c7 a1;refine Y _ ?_;refine cm 7 a1 ?_;have fin:∀(y:Int×Int),H.le (H6.aU c (.row 383 0 2 [[i64 y.1,i64 y.2]])):=λy b x hb=>by
  rw[aJ (λe=>by rw[e,B] at hb;cases hb)];exact A b x hb
 rcases G0 (k=0) with⟨_,u,⟨rfl,E⟩|⟨rfl,E⟩⟩
 ·have v:=nF (k=1)
  rcases G0 (n=3) with⟨_,q3,⟨rfl,S⟩|⟨rfl,S⟩⟩
  ·have e:y=(te,0):=j.trans (aD ⟨E,S⟩)
   refine ur r (cA u p a q3) trivial ?_;exact⟨_,aF _,fin (_,_),_,aL (fin (_,_)),by rw[e]⟩
  ·have e:y=(0,22):=j.trans (by rw[aC (λh=>S h.2),aC (λh=>by omega)])
   refine ur r (cw u p a q3 v) trivial ?_;exact⟨_,aF _,fin (_,_),_,aL (fin (_,_)),by rw[e]⟩
 rcases G0 (k=1) with⟨_,v,⟨rfl,R⟩|⟨rfl,R⟩⟩
 case inr=>
  have e:y=(0,22):=j.trans (by rw[aC (λh=>E h.1),aC (λh=>R h.1)]);refine ur r (cA u p a v) trivial ?_;exact⟨_,aF _,fin (_,_),_,aL (fin (_,_)),by rw[e]⟩
 rcases G0 (n=4) with⟨_,q4,⟨rfl,T⟩|⟨rfl,T⟩⟩
 case inr=>
  have e:y=(0,22):=j.trans (by rw[aC (λh=>E h.1),aC (λh=>T h.2)]);refine ur r (cw u p a v q4) trivial ?_;exact⟨_,aF _,fin (_,_),_,aL (fin (_,_)),by rw[e]⟩
 rw[aC (λh=>E h.1),aD ⟨R,T⟩] at j;rcases G0 (f<(w.length:Int)) with⟨_,f1,⟨rfl,V⟩|⟨rfl,V⟩⟩
 ·have o:f.toNat<w.length:=by omega
  have a2:(w.map iD)[f.toNat]?=some [i64 w[f.toNat]]:=bT o;have e:y=(w[f.toNat],0):=j.trans (by rw[aD V,gZ,az o] <;> rfl);refine ur r (bG u p a v q4 f1 a2 (av hx o)) trivial ?_;exact⟨_,aF _,fin (_,_),_,aL (fin (_,_)),by rw[e]⟩
 ·have e:y=(0,3):=j.trans (aC V)
  refine ur r (eP u p a v q4 f1) trivial ?_;exact⟨_,aF _,fin (_,_),_,aL (fin (_,_)),by rw[e]⟩
def rfN (ts:List bp):Prop:=∀t∈ts,t.k=3->t.ar=[]
theorem ni {ts:List bp}{a:Int}(h:bN ts.length a):bY ts a∈ts:=by
 obtain⟨b,c⟩:=qM h;rw[c];exact ao b
theorem Lq {ts:List bp}{n:Int}(h:∀i (h:i<ts.length),VS (ts.take i) n ts[i]):rfN ts:=λt b c=>by
 obtain⟨i,a,rfl⟩:=kV b;exact(h i a).fl (by omega)
def XH (x:Nat×Int×Int):List D:=[i64 x.1,.agg [i64 x.2.1,i64 x.2.2]]
theorem JJ {lc:List mQ}{a:Int}(h:0<=a/\a<lc.length):(lc.map eQ)[a.toNat]?=some (eQ (mj lc a)):=by
 obtain⟨b,e⟩:=Fc h;rw[bg,az b,e];rfl
def K3 (ts:List bp):Prop:=∀t∈ts,t.ar.length<=1000000
theorem Ji (ts:List bp)(lc:List mQ)(p:gR)(hw:pI ts)(hl:Gi ts lc)(ha:K3 ts)(hp:cH p.pr.length):BY prog 341 [.rp (ee p),.rp [.seq 2 (lc.map eQ)],.rp [.seq 5 (ts.map bS)]] XH (nI ts lc p) λ_=>True:=by
 have a0:=lm eQ lc;have L:=lm pD p.pr;refine OS _ func341 rfl rfl ntmps341 results341 (by simp) λl J Jx H w0 g0 Q dC hJ hC ag V u=>?_;refine tq @ee.eq_1 ?_;intro U Y O C;refine(PU p _ hp).q ?_;by_cases S:gC p=0
 case neg=>
  have q1:(gC p=0)=False:=aI S;have k:nI ts lc p=[(0,0,gC p)]:=aD S;rw[k] at V u;(iterate 6 (refine tk q1 ?_;intro U Y O C));refine oI [] (0,0,gC p) rfl rfl rfl (by simp [qP]) V (by simp) hJ rfl (λt c=>?_) λt c=>?_
  ·refine t0 ?_;intro U Y O C
   exact u _ _ (.inr rfl) rfl (.inl (.inl c))
  ·refine t0 ?_;intro U Y O C
   exact u _ _ (.inr rfl) rfl (.inl (.inr ⟨_,c⟩))
 have q1:(gC p=0)=True:=aG S;have M:=mS S;have a1:¬gC p≠0:=λh=>h S;by_cases h2:(lc.length:Int)<=p.lo
 ·have q2:(p.lo≥(lc.length:Int))=True:=aG h2
  have k:nI ts lc p=[(0,0,3)]:=by unfold nI;rw[aC a1,aD h2]
  rw[k] at V u;(iterate 11 (refine tk (bQ q1 q2 a0) ?_;intro U Y O C));refine oI [] (0,0,3) rfl rfl rfl (by simp [qP]) V (by simp) hJ rfl (λt c=>?_) λt c=>?_
  ·refine t0 ?_;intro U Y O C
   exact u _ _ (.inr rfl) rfl (.inl (.inl c))
  ·refine t0 ?_;intro U Y O C
   exact u _ _ (.inr rfl) rfl (.inl (.inr ⟨_,c⟩))
 have q2:(p.lo≥(lc.length:Int))=False:=aI h2;have K:0<=p.lo/\p.lo<lc.length:=⟨M.1,by omega⟩;have a6:=K.1;have a9:p.lo.toNat<lc.length:=by omega
 have Z:=JJ K;have ab:=yj hl K;simp only[eQ] at Z;have k:nI ts lc p=[]++mr ts 0 ((mj lc p.lo).ty,0) (p.pr.drop 0):=by unfold nI;rw[aC a1,aC h2];rfl
 refine tq (eP q1 q2 a0 Z a6 a9) ?_;intro U Y O C;intro r j;refine Y _ ?_;refine t0 ?_;intro U Y O C;have ak:p.pr.length<=32:=M.2.1;have o:YJ J [] r (.row 383 0 2 [[i64 (mj lc p.lo).ty,i64 0]]) (H.aU r (.row 383 0 2 [[i64 (mj lc p.lo).ty,i64 0]])):=⟨H,rfl,λz hz=>by rw[j] at hz;(cases hz),hJ⟩;refine aO p.pr.length (λi s=>s.df=[]/\s.fr 0=yD l/\s.fr 1=.rp [i64 p.lo,.seq 2 (p.pr.map pD)]/\s.fr 3=.rp [.seq 5 (ts.map bS)]/\s.fr 6=.ep r 0 2 0 0/\s.fr 7=i64 i/\∃(y:Int×Int) (b:List (Nat×Int×Int)),(y.2=0->bN ts.length y.1)/\nI ts lc p=b++mr ts i y (p.pr.drop i)/\YJ J b r (.row 383 0 2 [[i64 y.1,i64 y.2]]) s.H) ⟨rfl,rfl,rfl,rfl,rfl,rfl,_,_,λ_=>ab,k,o⟩ ?_;clear k o;rintro i s hi ⟨v,P,B,E,G,I,y,b,ad,k,o⟩;have ac:=aX i;have a7:=aZ i;have a4:(b++[(i,y)])<+:nI ts lc p:=by
  rw[k];cases p.pr.drop i with
  |nil=>exact List.prefix_rfl
  |cons a m=>exact⟨_,by rw[bE] <;> rfl⟩
 have N:∀{J':List (Nat×Int×Int)->aA->Prop}{a5 t},YJ J' a5 r (.row 383 0 2 [[i64 y.1,i64 y.2]]) t->t r=some (.row 383 0 2 [[i64 y.1,i64 y.2]]):=λ⟨_,e,_⟩=>by rw[e,aK]
 have z6:=N o;(iterate 3 (refine tk (eP P B E G I z6) ?_;intro U Y O C));refine KY b (i,y) rfl rfl rfl (by simp [qP]) V hC j a4 o rfl (λt c=>?_) λt c=>?_
 case refine_2=>
  have R:=N c;refine tq (eP P B E G I R) ?_;intro U Y O C;exact u _ _ (.inl rfl) v (.inr ⟨r,_,_,_,_,j,.inr ⟨_,c⟩⟩)
 have R:=N c;by_cases T:y.2=0
 case neg=>
  have q3:(y.2=0)=False:=aI T;have n:nI ts lc p=b++[(i,y)]:=by
   rw[k];cases p.pr.drop i with
   |nil=>rfl
   |cons a m=>simp only[mr];rw[aD T]
  rw[<-n] at c;refine tq (ej P B E G I R q3) ?_;intro U Y O C;exact u _ _ (.inl rfl) v (.inr ⟨r,_,_,_,_,j,.inl c⟩)
 have q3:(y.2=0)=True:=aG T;by_cases g:i<p.pr.length
 case neg=>
  have q4:=lF i p.pr.length;have n:nI ts lc p=b++[(i,y)]:=by rw[k,cb (by omega)];rfl
  rw[<-n] at c;refine tq (bG P B E G I R q3 (av q4 L)) ?_;intro U Y O C;exact u _ _ (.inl rfl) v (.inr ⟨r,_,_,_,_,j,.inl c⟩)
 have q4:=lT i p.pr.length;have w3:=wS i;have a8:=s9 g;have w:=ad T;have a3:∀H1,cP prog 343 [.seq 5 (ts.map bS),i64 y.1,.agg [i64 p.pr[i].1,i64 p.pr[i].2]] H1 λd A=>A=aA.none/\d=.agg [i64 (gG ts y.1 p.pr[i]).1,i64 (gG ts y.1 p.pr[i]).2]:=λH1=>an λa2 ae=>XG ts y.1 p.pr[i] a2 w (zm M.2.2 _ (ao g)).2 (ha _ (ni w));have n:nI ts lc p=(b++[(i,y)])++mr ts (i+1) (gG ts y.1 p.pr[i]) (p.pr.drop (i+1)):=by
  rw[k,cL g,bE];simp only[mr];rw[aC (λh=>h T)];rfl
 refine tq (bG P B E G I R q3 (av q4 L)) ?_;intro U Y O C;refine wE (λ_=>false) (λ_=>false) (λ_ _ d A=>A=.none/\d=.agg [i64 (gG ts y.1 p.pr[i]).1,i64 (gG ts y.1 p.pr[i]).2]) (λ_ _ _ _ _=>False) λU Y=>?_;have fs:=And.intro B (And.intro E (And.intro G (And.intro I (And.intro R (And.intro L (And.intro a8 (And.intro ac (And.intro a7 g))))))));refine uj ?_;refine nx ?_;(try clear fs);refine⟨a3 _,?_⟩;refine tq (av I w3) ?_;intro U Y O C;obtain⟨Hc,e,hz,aa⟩:=c;refine⟨g,v,P,B,E,G,rfl,gG ts y.1 p.pr[i],b++[(i,y)],λh=>IC hw w h,n,Hc,?_,hz,aa⟩;show t.aU r _=_;rw[e,wV];rfl
theorem PT (ts:List bp)(lc:List mQ)(p:gR)(H:aA):aN prog 290 [.seq 5 (ts.map bS),.seq 2 (lc.map eQ),.agg (ee p)] H λd H'=>d=.fn 341 [.rp (ee p),.rp [.seq 2 (lc.map eQ)],.rp [.seq 5 (ts.map bS)]]/\H=H':=by
 refine dO func290 ntmps290 results290 λw v Q u=>?_;refine tq @ee.eq_1 ?_;intro U Y O C;intro j o k b n a;refine Y _ ?_;obtain⟨g,b⟩:=bF.1 b;obtain⟨i,a⟩:=bF.1 a;obtain⟨h,a⟩:=bF.1 a;refine dZ 3 rfl ((aJ h.symm).trans ((aJ g.symm).trans (aK _ _ _))) rfl ?_;refine dZ 4 rfl ((bL g).trans ((aJ i.symm).trans (aK _ _ _))) rfl ?_;refine dZ 5 rfl ((bL i).trans ((bL h).trans (aK _ _ _))) rfl ?_;refine lB H (λx z c=>?_) ?_
 ·have r:x≠j:=λe=>by rw[e,o] at c;cases c
  have s:x≠k:=λe=>by rw[e,b] at c;cases c
  have t:x≠n:=λe=>by rw[e,a] at c;cases c
  show((((((H.aU j _).aU k _).aU n _).del j).del k).del n) x=_;rw[bL t,bL s,bL r,aJ t,aJ s,aJ r];exact c
 simp only[St.ku,List.drop];refine u0 u ?_;exact⟨_,aF _,rfl,rfl⟩
def Fi (a:List (Nat×Int×Int)):Int×Int:=match a.getLast? with
 |some x=>x.2
 |none=>(0,0)
theorem Lg (a:List (Nat×Int×Int))(x:Nat×Int×Int):Fi (a++[x])=x.2:=by unfold Fi;rw[List.getLast?_concat]
theorem Ol (ts:List bp)(lc:List mQ)(p:gR):Fi (nI ts lc p)=bJ ts lc p:=by
 obtain⟨j,h⟩:=Cm ts lc p;unfold Fi;rw[h]
def ToI (c:Nat) (a:List (Nat×Int×Int)) (b:aA):Prop:=b c=some (.row 383 0 2 [[i64 (Fi a).1,i64 (Fi a).2]])
theorem QR (ts:List bp)(lc:List mQ)(p:gR)(hw:pI ts)(hl:Gi ts lc)(ha:K3 ts)(hp:cH p.pr.length):aN prog 213 [.seq 5 (ts.map bS),.seq 2 (lc.map eQ),.agg (ee p)] .none λd _=>d=.eO [i64 (bJ ts lc p).1,i64 (bJ ts lc p).2]:=by
 refine lH _ _ func213 rfl rfl ntmps213 results213 (by simp) λw0 g0 Q N=>?_;refine tq @ee.eq_1 ?_;intro U Y O C;intro c5 G;refine Y _ ?_;refine cm 5 G ?_;refine t0 ?_;intro U Y O C;intro g a0;refine Y _ ?_;refine t0 ?_;intro U Y O C;have t:=PT ts lc p (aA.none.aU g (.row 383 0 2 [[i64 0,i64 0]]));simp only[ee] at t;refine t.qt ?_;intro U Y O C;obtain⟨v,a⟩:=oX (aA.none.aU g (.row 383 0 2 [[i64 0,i64 0]]));have B:v g=some (.row 383 0 2 [[i64 0,i64 0]]):=by rw[a];exact aK _ _ _
 have R:∀b,b≠g->v b=none:=λb Z=>by rw[a,aJ Z];rfl
 simp only[i64] at a;rw[<-a];clear a;refine iz (λs=>s.df=[]/\s.fr 8=.ep g 0 2 0 0/\s.fr 14=.fn 341 [.rp (ee p),.rp [.seq 2 (lc.map eQ)],.rp [.seq 5 (ts.map bS)]]/\s.H=v) ⟨rfl,rfl,rfl,rfl⟩ ?_;rintro s ⟨u,z,E,J⟩;refine kZ rfl (Ji ts lc p hw hl ha hp) E (λ_ _=>trivial) (by simp) (λ_=>rfl) (ToI g) (λ_ _ _=>False) ?_ ?_ ?_ ?_ ?_ ?_
 ·intro i H1 v hr h
  exact hr _ _ h (by simp)
 ·intro _ _ _ _ _ h
  exact h
 ·show s.H g=_
  rw[J];exact B
 ·rintro l w1 i x w o g1 P j I r
  rw[XH,T4];refine tq (cw cR cO cE au u) ?_;intro U Y O C;intro n k;refine Y _ ?_;simp only[cF];refine⟨rfl,gE.new (jU _) k,λw2 y g2=>?_⟩;have K:l≠n:=λe=>by rw[e,k] at r;cases r
  have n8:g≠l:=λe=>by unfold ToI at j;rw[e,r] at j;cases j
  refine dZ 10 rfl (b:=n) (by simp only[iN,cO,fS];rw[aJ (Ne.symm K),aK]) rfl ?_;simp only[St.ku,iN,cO,fS,fC,au,eL,kC (Ne.symm K),kX,iy k,List.drop];have A:=λ(x:cY) (hx:∀o,x≠ .obj o)=>oC (H:=w) (b:=n) (l:=l) (y:=y) hx;have L:(w.aU l (.obj y)) g=some (.row 383 0 2 [[i64 (Fi i).1,i64 (Fi i).2]]):=(aJ n8).trans j;refine tq (eP z cR cO cE au L) ?_;intro U Y O C;simp only[fK,cp];refine⟨rfl,(A _ (by simp)).row L (by simp),?_⟩;unfold ToI;rw[Lg];exact aK _ _ _
 ·rintro w M j I T V
  rw[mK,cp,cF,u];unfold ToI at j;rw[Ol] at j;refine bW ?_;refine dE (λ_ _ _ _=>False) λU Y=>?_;refine dst (eP z cR cO cE au j) ?_;intro U Y O C;rw[cF];refine zZ ?_;refine N _ _ (.inr rfl) ?_ ?_
  ·refine eG z ?_
   exact Ql T
  ·simp only[u5,cE,sP]
   refine eG z ?_;exact⟨aA.none,pQ _⟩
 ·rintro e c i w M hj S
  exact S.elim
theorem QS (ts:List bp)(lc:List mQ)(p:gR)(H:aA)(a:pI ts)(hl:Gi ts lc)(ha:K3 ts)(hp:cH p.pr.length):aN prog 213 [.seq 5 (ts.map bS),.seq 2 (lc.map eQ),.agg (ee p)] H λd H'=>d=.eO [i64 (bJ ts lc p).1,i64 (bJ ts lc p).2]/\H=H':=
 qf (QR ts lc p a hl ha hp) rfl (aDJ (iU _ _) (iU _ _) (iU _ _))
theorem SD (l:List (Int×Int))(f:FuncId)(g:(Int×Int)->Bool)(H:aA)(hl:cH l.length)(hf:∀x∈l,∀H1,aN prog f [.agg (pD x)] H1 λd H'=>d=.val (.bool (g x))/\H1=H'):
  aN prog 291 [.seq 2 (l.map pD),.fn f []] H λd H'=>∃r,d=i64 r/\decide (0<=r)=l.any g/\H=H':=by
 have h:=lm pD l;unfold cH at hl;refine dO func291 ntmps291 results291 λK I Q w=>?_;refine tn h ?_;refine aO l.length (λi s=>s.df=[]/\s.fr 0=.seq 2 (l.map pD)/\s.fr 1=.fn f []/\s.fr 7=i64 l.length/\s.fr 8=i64 i/\s.H=H/\l.any g=(l.drop i).any g) ⟨rfl,rfl,rfl,rfl,rfl,rfl,rfl⟩ ?_;rintro i s J ⟨c,y,z,n,j,p,b⟩;have E:=aX i;have o:=aZ i;by_cases a:i<l.length
 case neg=>
  have v:=lF i l.length;rw[cb (by omega)] at b;refine ur w (bQ n j v) c ?_;exact⟨H,(by show H.le s.H;rw[p];exact aF _),-1,rfl,by rw[b] <;> rfl,rfl⟩
 have v:=lT i l.length;have G:=wS i;have e:(l.map pD)[i]?=some (pD l[i]):=by rw[bg,az a];rfl
 have k:=hf l[i] (ao a) s.H;rw[cL a,List.any_cons] at b;obtain⟨u,B⟩:=oX l[i];rw[<-B] at e b k;obtain⟨A,t⟩:=oX (g u);rw[<-t] at b k;clear hf;simp only[pD] at e k;refine tq (bG y z n j h v e (bQ E o a)) ?_;intro U Y O C;refine k.q ?_;cases A
 ·rw[nq] at b
  refine tn (av j G) ?_;exact⟨a,c,y,z,n,rfl,p,b⟩
 ·refine ur w j c ?_
  exact⟨H,(by show H.le s.H;rw[p];exact aF _),i,rfl,by rw[b];simp,rfl⟩
theorem Io (l:List (Int×Int))(f:FuncId)(g:(Int×Int)->Bool)(H:aA)(hl:cH l.length)(hf:∀x∈l,∀H1,aN prog f [.agg (pD x)] H1 λd H'=>d=.val (.bool (g x))/\H1=H'):
  aN prog 214 [.seq 2 (l.map pD),.fn f []] H λd H'=>d=.val (.bool (l.any g))/\H=H':=by
 have b:=SD l f g H hl hf;refine dO func214 ntmps214 results214 λh e Q a=>?_;refine t0 ?_;intro U Y O C;refine b.mono ?_;rintro d _ ⟨r,rfl,c,rfl⟩;refine u0 a ?_;exact⟨_,aF _,by rw[<-c],rfl⟩
theorem SE (l:List bp)(f:FuncId)(g:bp->Bool)(H:aA)(hl:cH l.length)(hf:∀x∈l,∀H1,aN prog f [.agg (bS x)] H1 λd H'=>d=.val (.bool (g x))/\H1=H'):
  aN prog 278 [.seq 5 (l.map bS),.fn f []] H λd H'=>∃r,d=i64 r/\decide (0<=r)=l.any g/\H=H':=by
 have h:=lm bS l;unfold cH at hl;refine dO func278 ntmps278 results278 λK I Q w=>?_;refine tn h ?_;refine aO l.length (λi s=>s.df=[]/\s.fr 0=.seq 5 (l.map bS)/\s.fr 1=.fn f []/\s.fr 7=i64 l.length/\s.fr 8=i64 i/\s.H=H/\l.any g=(l.drop i).any g) ⟨rfl,rfl,rfl,rfl,rfl,rfl,rfl⟩ ?_;rintro i s J ⟨c,y,z,n,j,p,b⟩;have E:=aX i;have o:=aZ i;by_cases a:i<l.length
 case neg=>
  have v:=lF i l.length;rw[cb (by omega)] at b;refine ur w (bQ n j v) c ?_;exact⟨H,(by show H.le s.H;rw[p];exact aF _),-1,rfl,by rw[b] <;> rfl,rfl⟩
 have v:=lT i l.length;have G:=wS i;have e:(l.map bS)[i]?=some (bS l[i]):=by rw[bg,az a];rfl
 have k:=hf l[i] (ao a) s.H;rw[cL a,List.any_cons] at b;obtain⟨u,B⟩:=oX l[i];rw[<-B] at e b k;obtain⟨A,t⟩:=oX (g u);rw[<-t] at b k;clear hf;simp only[bS] at e k;refine tq (bG y z n j h v e (bQ E o a)) ?_;intro U Y O C;refine k.q ?_;cases A
 ·rw[nq] at b
  refine tn (av j G) ?_;exact⟨a,c,y,z,n,rfl,p,b⟩
 ·refine ur w j c ?_
  exact⟨H,(by show H.le s.H;rw[p];exact aF _),i,rfl,by rw[b];simp,rfl⟩
theorem Ri (l:List bp)(f:FuncId)(g:bp->Bool)(H:aA)(hl:cH l.length)(hf:∀x∈l,∀H1,aN prog f [.agg (bS x)] H1 λd H'=>d=.val (.bool (g x))/\H1=H'):
  aN prog 282 [.seq 5 (l.map bS),.fn f []] H λd H'=>d=.val (.bool (l.any g))/\H=H':=by
 have b:=SE l f g H hl hf;refine dO func282 ntmps282 results282 λh e Q a=>?_;refine t0 ?_;intro U Y O C;refine b.mono ?_;rintro d _ ⟨r,rfl,c,rfl⟩;refine u0 a ?_;exact⟨_,aF _,by rw[<-c],rfl⟩
theorem Uj (x:Int×Int)(H:aA):aN prog 215 [.agg (pD x)] H λd H'=>d=.val (.bool (decide (x.1=0)))/\H=H':=by
 refine aq (K:=λd=>d=.val (.bool (decide (x.1=0)))) ?_;have c:=aF H;refine dO func215 ntmps215 results215 λh g Q b=>?_;refine tq @pD.eq_1 ?_;intro U Y O C;intro e a;refine Y _ ?_;refine cm 1 a ?_;refine u0 b ?_;exact zf c rfl
theorem Yy (x:bp)(H:aA):aN prog 283 [.agg (bS x)] H λd H'=>d=.val (.bool (!x.m))/\H=H':=by
 refine aq (K:=λd=>d=.val (.bool (!x.m))) ?_;have c:=aF H;refine dO func283 ntmps283 results283 λh g Q b=>?_;refine tq @bS.eq_1 ?_;intro U Y O C;intro e a;refine Y _ ?_;refine cm 1 a ?_;refine u0 b ?_;exact zf c rfl
theorem JL (p:gR)(H:aA)(hp:cH p.pr.length):aN prog 151 [.agg (ee p),i64 0] H λd H'=>d=.val (.bool (pC p 0))/\H=H':=by
 refine aq (K:=λd=>d=.val (.bool (pC p 0))) ?_;have e:=aF H;have c:=lm pD p.pr;have a:=Io p.pr 215 (λx=>decide (x.1=0)) H hp (λx _ g=>Uj x g);unfold cH at hp;refine dO func151 ntmps151 results151 λo n Q h=>?_;refine tq @ee.eq_1 ?_;intro U Y O C;intro k b;refine Y _ ?_;refine cm 2 b ?_;have i:max (0:Int) 0=0:=rfl;have j:min (0:Int) (p.pr.length:Int)=0:=by omega
 refine tq (bQ c i j) ?_;intro U Y O C;refine⟨by omega,a.mono ?_⟩;rintro d _ ⟨rfl,rfl⟩;refine u0 h ?_;exact⟨_,aF _,e,_,aL e,by unfold pC;rfl⟩
theorem PY {k:Nat}(h:k<l.length):(l.map pD)[k]?=some [i64 (l.getD k (1,0)).1,i64 (l.getD k (1,0)).2]:=by rw[gZ,az h];exact s9 h
theorem Pa (ts:List bp)(b:List (Int×Int))(a:List (Nat×Int×Int)):(tp ts b a).length<=a.length:=by
 unfold tp
 induction a with
 |nil=>simp
 |cons x l c=>
  rw[lz,aV,bx]
  have:(if x.1<b.length/\(b.getD x.1 (1,0)).1=0 then [bY ts x.2.1] else []).length<=1:=by split <;> simp
  omega
def RfI (H:aA) (ts:List bp) (i:List (Int×Int)) (e g h:Nat) (b:List (Nat×Int×Int)) (a:aA):Prop:=
 (∀x∈b,x.2.2=0)/\H.le a/\a e=some (.row 24 0 1 [[.val (.slice none 0 0)]])/\a g=some (.row 4 0 1 [[.val (.bool false)]])/\∃x c,a h=some (.row 24 0 1 [[x]])/\Gl H 71 5 ((tp ts i b).map bS) x a c/\c≠some e/\c≠some g/\c≠some h
def RfX (H:aA) (b c:Nat) (g:Int) (e:Exit) (a:aA):Prop:=
 e=.ret/\g≠0/\H.le a/\a b=some (.row 24 0 1 [[.val (.slice none 0 0)]])/\a c=some (.row 4 0 1 [[.val (.bool false)]])
theorem P8 (ts:List bp)(lc:List mQ)(p:gR)(H:aA)(hw:pI ts)(hl:Gi ts lc)(ha:K3 ts)(hp:cH p.pr.length):aN prog 281 [.seq 5 (ts.map bS),.seq 2 (lc.map eQ),.agg (ee p)] H λd H'=>d=.eO [.seq 5 ((jN ts lc p).map bS),.val (.bool (decide ((bJ ts lc p).2=0)))]/\H=H':=by
 have ag:=lm pD p.pr;have c4:=lm bS ts;refine aq (K:=λd=>d=.eO [.seq 5 ((jN ts lc p).map bS),.val (.bool (decide ((bJ ts lc p).2=0)))]) ?_;refine lH _ _ func281 rfl rfl ntmps281 results281 (by simp) λw0 g0 Q aB=>?_;refine tq @ee.eq_1 ?_;intro U Y O C;intro c3 c0 c5 ab i v k r;refine Y _ ?_;obtain⟨b8,ab⟩:=bF.1 ab;obtain⟨ba,v⟩:=bF.1 v;obtain⟨b9,v⟩:=bF.1 v;obtain⟨E,r⟩:=bF.1 r;obtain⟨bc,r⟩:=bF.1 r;obtain⟨bb,r⟩:=bF.1 r;refine dZ 3 rfl ((aJ bb.symm).trans ((aJ b9.symm).trans ((aJ b8.symm).trans (aK _ _ _)))) rfl ?_;refine dZ 5 rfl ((bL b8).trans ((aJ bc.symm).trans ((aJ ba.symm).trans (aK _ _ _)))) rfl ?_;refine lB ((H.aU i (.row 24 0 1 [[.val (.slice none 0 0)]])).aU k (.row 4 0 1 [[.val (.bool false)]])) (λx z hz=>?_) ?_
 ·show((((((H.aU c3 _).aU c5 _).aU i _).aU k _).del c3).del c5) x=_
  by_cases e7:x=k
  ·subst e7
   rw[aK] at hz;rw[bL bc,bL bb,aK];exact hz
  rw[aJ e7] at hz;by_cases e6:x=i
  ·subst e6
   rw[aK] at hz;rw[bL ba,bL b9,aJ E.symm,aK];exact hz
  rw[aJ e6] at hz;have e3:x≠c3:=λe=>by rw[e,c0] at hz;cases hz
  have e5:x≠c5:=λe=>by rw[e,ab] at hz;cases hz
  rw[bL e5,bL e3,aJ e7,aJ e6,aJ e5,aJ e3];exact hz
 have T:H.le ((H.aU i (.row 24 0 1 [[.val (.slice none 0 0)]])).aU k (.row 4 0 1 [[.val (.bool false)]])):=aQ (aQ (aF _) v) r;have a8:((H.aU i (.row 24 0 1 [[.val (.slice none 0 0)]])).aU k (.row 4 0 1 [[.val (.bool false)]])) i=some (.row 24 0 1 [[.val (.slice none 0 0)]]):=(aJ E.symm).trans (aK _ _ _);have a9:((H.aU i (.row 24 0 1 [[.val (.slice none 0 0)]])).aU k (.row 4 0 1 [[.val (.bool false)]])) k=some (.row 4 0 1 [[.val (.bool false)]]):=aK _ _ _;obtain⟨H2,b1⟩:=oX ((H.aU i (.row 24 0 1 [[.val (.slice none 0 0)]])).aU k (.row 4 0 1 [[.val (.bool false)]]));rw[<-b1] at T a8 a9 ⊢;clear b1;simp only[St.ku,List.drop];refine t0 ?_;intro U Y O C;intro J I;refine Y _ ?_;have be:J≠i:=λe=>by rw[e,a8] at I;cases I
 have bf:J≠k:=λe=>by rw[e,a9] at I;cases I
 have a7:H J=none:=iY T I;refine t0 ?_;intro U Y O C;have ar:=PT ts lc p (H2.aU J (.row 24 0 1 [[.val (.slice none 0 0)]]));simp only[ee] at ar;refine ar.qt ?_;intro U Y O C;refine iz (λs=>s.df=[]/\s.fr 3=.rp [.seq 5 (ts.map bS)]/\s.fr 5=.rp [i64 p.lo,.seq 2 (p.pr.map pD)]/\s.fr 6=.ep i 0 1 0 0/\s.fr 7=.ep k 0 1 0 0/\s.fr 8=.ep J 0 1 0 0/\s.fr 14=.fn 341 [.rp (ee p),.rp [.seq 2 (lc.map eQ)],.rp [.seq 5 (ts.map bS)]]/\H.le s.H/\RfI H.qb ts p.pr i k J [] s.H) ⟨rfl,rfl,rfl,rfl,rfl,rfl,rfl,aQ T a7,λx h=>by(cases h),iL (uV H) (aQ T a7),(aJ be.symm).trans a8,(aJ bf.symm).trans a9,_,none,aK _ _ _,eB _ _ _ _,by simp,by simp,by simp⟩ ?_;rintro s ⟨ac,f3,f5,f6,f7,f8,bm,R,bs⟩;refine kZ rfl (Ji ts lc p hw hl ha hp) bm (λ_ _=>trivial) (by simp) (λ_=>rfl) (RfI H.qb ts p.pr i k J) (λe _=>RfX H.qb i k (bJ ts lc p).2 e) ?_ ?_ ?_ ?_ ?_ ?_
 ·rintro a H1 H2 hr ⟨h0,N,h6,h7,x,ob,h2,Z,P⟩
  refine⟨h0,gO (jK H) N hr,hr _ _ h6 (by simp),hr _ _ h7 (by simp),x,ob,hr _ _ h2 (by simp),?_,P⟩;rcases Z with Z|⟨c,o,g1,L,g3,g4⟩
  ·exact .inl Z
  ·exact .inr ⟨c,o,g1,L,g3,hr _ _ g4 (by simp)⟩
 ·rintro e a H1 H2 hr ⟨N,h2,Z,P,h5⟩
  exact⟨N,h2,gO (jK H) Z hr,hr _ _ P (by simp),hr _ _ h5 (by simp)⟩
 ·exact bs
 ·rintro l w1 a x u o g9 am ⟨g1,L,g3,g4,xs,ob,g5,g6,k6,k7,k8⟩ a2 w
  rw[XH,T4];refine tq (cw cR cO cE au ac) ?_;intro U Y O C;intro V a5;refine Y _ ?_;simp only[cF];refine⟨rfl,gE.new (jU _) a5,λw2 y ch=>?_⟩;have l5:l≠V:=λe=>by rw[e,a5] at w;cases w
  have nl:∀c t o sz G,u c=some (.row t o sz G)->c≠l:=λc t o sz G h e=>by rw[e,w] at h;cases h
  have n6:=nl _ _ _ _ _ g3;have n7:=nl _ _ _ _ _ g4;have n8:=nl _ _ _ _ _ g5;have b7:x∈nI ts lc p:=am.subset (by simp);refine dZ 10 rfl (b:=V) (by simp only[iN,cO,fS];rw[aJ (Ne.symm l5),aK]) rfl ?_;simp only[St.ku,iN,cO,fS,fC,au,eL,kC (Ne.symm l5),kX,iy a5,List.drop];have a6:=λ(x:cY) (hx:∀o,x≠ .obj o)=>oC (H:=u) (b:=V) (l:=l) (y:=y) hx;have r6:(u.aU l (.obj y)) i=_:=(aJ n6).trans g3;have r7:(u.aU l (.obj y)) k=_:=(aJ n7).trans g4;have r8:(u.aU l (.obj y)) J=_:=(aJ n8).trans g5;have bk:∀z,((u.aU l (.obj y)).aU i z) k=_:=λz=>(aJ E).trans r7;by_cases h0:x.2.2=0
  case neg=>
   have q1:(x.2.2=0)=False:=aI h0;refine tq (bG f6 f7 cR cO cE au q1 (av r6 bk)) ?_;intro U Y O C;simp only[fL,eU,fW];refine⟨rfl,((a6 _ (by simp)).row r6 (by simp)).row (bk _) (by simp),rfl,GY b7 h0,aQ (aQ (gO (jK H) L (kA w)) (jL v)) (jL r),(aJ E.symm).trans (aK _ _ _),aK _ _ _⟩
  have q1:(x.2.2=0)=True:=aG h0;have hx:(x.1:Int).toNat=x.1:=aX _;have b0:(0:Int)<=(x.1:Int):=aZ _;have al:∀z∈a++[x],z.2.2=0:=λz hz=>by
   rcases bB.1 hz with hz|hz
   ·exact g1 z hz
   ·rw[bM] at hz;subst hz;exact h0
  have ae:=UE hw hl b7 h0;have a0:Gl H.qb 71 5 ((tp ts p.pr a).map bS) xs (u.aU l (.obj y)) ob:=g6.obj w;have A:=Lr ts p.pr a x;have ap:tp ts p.pr (a++[x])=tp ts p.pr a->gE (((u.aU V (.row 383 0 2 [[i64 x.2.1,i64 x.2.2]])).aU l (.obj y))) (u.aU l (.obj y))/\RfI H.qb ts p.pr i k J (a++[x]) (u.aU l (.obj y)):=λe=>⟨a6 _ (by simp),al,gO (jK H) L (kA w),r6,r7,xs,ob,r8,by rw[e];exact a0,k6,k7,k8⟩;by_cases hk:x.1<p.pr.length
  case neg=>
   have q2:=nF ((x.1:Int)<(p.pr.length:Int));rw[aC (λh=>hk h.1),bz] at A;have a4:=ap A;refine tn (bG f5 cR cO cE au q1 q2 ag) ?_;exact⟨rfl,a4⟩
  have q2:=nT ((x.1:Int)<(p.pr.length:Int));have b6:=PY hk;by_cases a1:(p.pr.getD x.1 (1,0)).1=0
  case neg=>
   rw[aC (λh=>a1 h.2),bz] at A;have a4:=ap A;have q3:((p.pr.getD x.1 (1,0)).1=0)=False:=aI a1;refine tn (bG f5 cR cO cE au q1 q2 (eP q3 ag b6 hx b0 hk)) ?_;exact⟨rfl,a4⟩
  have q3:((p.pr.getD x.1 (1,0)).1=0)=True:=aG a1;rw[aD ⟨hk,a1⟩] at A;have ck:a.length<=33:=by
   have N:=am.length_le;have h2:=QD (ts:=ts) (lc:=lc) (p:=p);rw[aV,eE] at N;omega
  have cl:=Pa ts p.pr a;have ad:=gY ae;have cc:x.2.1.toNat<ts.length:=by unfold bN at ae;omega
  have c9:0<=x.2.1:=by unfold bN at ae;omega
  obtain⟨t,ht⟩:=oX (bY ts x.2.1);rw[<-ht] at A ad;obtain⟨G,S⟩:=oX ((tp ts p.pr a).map bS);have ce:G.length<=33:=by rw[S,aS];omega
  have aw:(tp ts p.pr (a++[x])).map bS=G++[bS t]:=by rw[A,bI,S];rfl
  rw[<-S] at a0;clear S;simp only[bS] at ad aw;refine tq (bG f5 cR cO cE au q1 q2 (eP q3 ag b6 hx b0 hk)) ?_;intro U Y O C;refine wE (λ_=>false) (λ_=>false) (λ_ _ _ _=>False) (λ_ _ _ _ _=>False) λU Y=>?_;have fs:=And.intro f3 (And.intro f8 (And.intro cR (And.intro cO (And.intro cE (And.intro au (And.intro r8 (And.intro ad (And.intro c4 (And.intro cc c9)))))))));refine uj ?_;refine nx ?_;(try clear fs);refine ax (e:=71) IU rfl IU rfl UO rfl (by decide) (gO (jK H) L (kA w)) a0 (new:=[bS t]) (by exact⟨rfl,rfl⟩) (by show(_+1) * 56<=_;omega) λd H6 cd b5 bl a3=>?_;have p6:=a3 _ _ r6 k6;have p7:=a3 _ _ r7 k7;have p8:=a3 _ _ r8 k8;have bi:=p8.1;have c1:∃c o n,d=.os c o 5 0 n:=by
   rcases b5 with⟨_,_,h⟩|⟨c,o,_,h,_⟩
   ·simp at h
   ·exact⟨c,o,_,h⟩
  obtain⟨c',o',n',rfl⟩:=c1;refine eV bi ?_;refine nx ?_;exact⟨rfl,(qD (a6 _ (by simp)) a0 a3).row bi (by simp),al,aQ bl (jL a7),(aJ be.symm).trans p6.1,(aJ bf.symm).trans p7.1,_,cd,aK _ _ _,by rw[aw];exact b5.cM λc h=>aJ λe=>p8.2 (by rw[h,e]),p6.2,p7.2,p8.2⟩
 ·rintro u M ⟨g1,L,g3,g4,xs,ob,g5,g6,k6,k7,k8⟩ a2 hD aa
  rw[mK,cp,cF,ac];have b2:i≠M:=λe=>by rw[e,hD] at g3;cases g3
  have b3:k≠M:=λe=>by rw[e,hD] at g4;cases g4
  have ci:J≠M:=λe=>by rw[e,hD] at g5;cases g5
  have L:=lO L R a2;have g6:=Di g6 L;have b4:=g6.cells;simp only[D.cells] at b4;have bo:∀z,(u.aU i z) k=_:=λz=>(aJ E).trans g4;refine tq (ej f6 f7 f8 g3 bo g5 b4) ?_;intro U Y O C;have dC:(bJ ts lc p).2=0:=by
   obtain⟨j,hj⟩:=Cm ts lc p;exact g1 _ (wK hj)
  have ak:tp ts p.pr (nI ts lc p)=jN ts lc p:=by rw[P9 dC];unfold jN;rw[aC (λh=>h dC)]
  rw[ak] at g6;refine aB _ _ (.inr rfl) ?_ ?_
  ·refine eG f6 ?_
   refine Ql ?_;rw[aJ b3.symm,aJ b2.symm];exact hD
  ·refine eG f6 ?_
   rw[sP];have bt:∀c,ob=some c->c≠M:=λc h e=>by
    rcases g6 with⟨g,_⟩|⟨c2,o2,N,_,_,P⟩
    ·rw[g] at h;cases h
    ·rw[h] at N;injection N with N;rw[<-N,e,hD] at P;cases P
   have B:H.le (((u.aU i (.row 24 0 1 [[xs]])).aU k (.row 4 0 1 [[.val (.bool true)]])).aU M .hid):=aQ (aQ (aQ L v) r) (iY R aa);simp (maxSteps:=4000000) only[vX,vB,vT,vZ,ij,fh,Fp,yk,AX,gV,fE,fj,↓iR,yb,cU,DJ,ze,By,oi,od,pn,po,ki,j8,kh,ic,D.nilPtr,D.iM,D.iF,fH,Bj,CE,wX,gy,jw,fieldsOf,gU,B6,B7,B8,B9,sL,BT,D.cells,jx,DE,DB,pv,eK,eH,B3,BR,jd,EC,rS,Be,gP,TD.gX,TD.agg,Eo,rU,oe,FI,nZ,pY,pX,Ba,B5,mF,pZ,dR,eT,Value.oneCell',iX,iV,gp,reduceCtorEq,kY,iZ,dN,dY,↓reduceIte,Nat.reduceEqDiff,Int.reduceLE,Int.reduceLT,Int.reduceNeg,Int.reduceToNat,Nat.reduceAdd,Nat.reduceMul,Nat.reduceLeDiff,Nat.reduceMod,Nat.reduceSub,Int.reduceEq,Int.reduceNe,Int.reduceAdd,Int.reduceSub,Int.reduceMul,iW,cR,cO,cE,au,cF,fW,cp,eU,fK,fL,fQ,fR,fP,i64,f6,f7,aJ b2,aJ b3,aJ E.symm];exact⟨_,aF _,B,_,lI (HP (da B (g6.cM λc h=>by rw[aJ (bt c h),aJ (λe=>k7 (by rw[h,e])),aJ (λe=>k6 (by rw[h,e]))])) (aL B)),by rw[ah dC]⟩
 ·rintro e c a u M hj ⟨rfl,h2,Z,P,h5⟩ a2 hD aa
  rw[mK,ac];have bq:i≠M:=λe=>by rw[e,hD] at P;cases P
  have br:k≠M:=λe=>by rw[e,hD] at h5;cases h5
  refine eG f6 ?_;refine aB _ _ (.inr rfl) ?_ ?_
  ·refine eG f6 ?_
   exact Ql hD
  ·rw[cE,sP]
   have Z:=lO Z R a2;have B:H.le (u.aU M .hid):=aQ Z (iY R aa);have ak:jN ts lc p=[]:=aD h2;simp (maxSteps:=4000000) only[vX,vB,vT,vZ,ij,fh,Fp,yk,AX,gV,fE,fj,↓iR,yb,cU,DJ,ze,By,oi,od,pn,po,ki,j8,kh,ic,D.nilPtr,D.iM,D.iF,fH,Bj,CE,wX,gy,jw,fieldsOf,gU,B6,B7,B8,B9,sL,BT,D.cells,jx,DE,DB,pv,eK,eH,B3,BR,jd,EC,rS,Be,gP,TD.gX,TD.agg,Eo,rU,oe,FI,nZ,pY,pX,Ba,B5,mF,pZ,dR,eT,Value.oneCell',iX,iV,gp,reduceCtorEq,kY,iZ,dN,dY,↓reduceIte,Nat.reduceEqDiff,Int.reduceLE,Int.reduceLT,Int.reduceNeg,Int.reduceToNat,Nat.reduceAdd,Nat.reduceMul,Nat.reduceLeDiff,Nat.reduceMod,Nat.reduceSub,Int.reduceEq,Int.reduceNe,Int.reduceAdd,Int.reduceSub,Int.reduceMul,iW,cR,cO,cE,au,cF,fW,cp,eU,fK,fL,fQ,fR,fP,i64,f6,f7,aJ bq,aJ br,P,h5,i64];exact⟨_,aF _,B,_,lI (HP iq (aL B)),by rw[ak,af h2] <;> rfl⟩
theorem Ak (ts:List bp):∀(l:List (Int×Int)) (i:Int),(qg ts i l).length<=l.length
 |[],_=>by simp [qg]
 |x::l,i=>by
  have:=Ak ts l (gG ts i x).1;simp only[qg,aV,bx];split <;> simp <;> omega
theorem oF (ts:List bp)(lc:List mQ)(p:gR):(jN ts lc p).length<=32:=by
 unfold jN;by_cases h:(bJ ts lc p).2=0
 ·rw[aC (λa=>a h)]
  obtain⟨b,_,_⟩:=oH h;have c:=(mS b).2.1;have:=Ak ts p.pr (mj lc p.lo).ty;omega
 ·rw[aD h];simp
theorem RS (l:List bp):(!l.any λx=> !x.m)=l.all (·.m):=by
 induction l with
 |nil=>rfl
 |cons x l a=>rw[List.any_cons,jQ,<-a];cases x.m <;> simp
theorem Un (ts:List bp)(lc:List mQ)(p:gR)(H:aA)(n:pI ts)(hl:Gi ts lc)(ha:K3 ts)(hp:cH p.pr.length):aN prog 206 [.seq 5 (ts.map bS),.seq 2 (lc.map eQ),.agg (ee p)] H λd H'=>d=.val (.bool (ml ts lc p))/\H=H':=by
 refine aq (K:=λd=>d=.val (.bool (ml ts lc p))) ?_;have h:=aF H;have k:=oF ts lc p;have c:=Ri (jN ts lc p) 283 (λx=> !x.m) H (by unfold cH;omega) (λx _ j=>Yy x j);have i:=P8 ts lc p H n hl ha hp;simp only[ee] at i;refine dO func206 ntmps206 results206 λs r Q g=>?_;refine tq @ee.eq_1 ?_;intro U Y O C;intro o e;refine Y _ ?_;refine cm 5 e ?_;refine t0 ?_;intro U Y O C;refine i.q ?_;by_cases b:(bJ ts lc p).2=0
 ·rw[ah b]
  have a:ml ts lc p=(!(jN ts lc p).any λx=> !x.m):=by unfold ml;rw[ah b,cV,RS]
  refine t0 ?_;intro U Y O C;refine c.q ?_;refine u0 g ?_;exact zf h (by rw[a])
 ·rw[af b]
  have a:ml ts lc p=false:=by unfold ml;rw[af b,dq]
  refine u0 g ?_;exact zf h (by rw[a])
theorem XL (ts:List bp)(lc:List mQ)(p:gR)(H:aA)(T:pI ts)(hl:Gi ts lc)(ha:K3 ts)(hp:cH p.pr.length):aN prog 284 [.seq 5 (ts.map bS),.seq 2 (lc.map eQ),.agg (ee p)] H λd H'=>d=.seq 1 ((tj ts lc p).map iD)/\H=H':=by
 refine aq (K:=λd=>d=.seq 1 ((tj ts lc p).map iD)) ?_;have I:=oF ts lc p;have G:=P8 ts lc p H T hl ha hp;simp only[ee] at G;obtain⟨l,A⟩:=oX (jN ts lc p);have h:tj ts lc p=l.map (·.r):=by rw[A];rfl
 rw[<-A] at I G;rw[h];clear A h;have o:=lm bS l;refine dO func284 ntmps284 results284 λw0 g0 Q N=>?_;refine tq @ee.eq_1 ?_;intro U Y O C;intro c5 B;refine Y _ ?_;refine cm 5 B ?_;refine t0 ?_;intro U Y O C;refine G.qs o ?_;intro U Y O C;refine aO l.length (λi s=>s.df=[]/\s.fr 19=.seq 5 (l.map bS)/\s.fr 20=i64 l.length/\s.fr 21=i64 i/\H.le s.H/\∃M,Gl H 3 1 (((l.take i).map (·.r)).map iD) (s.fr 7) s.H M) ⟨rfl,rfl,rfl,rfl,aF _,none,eB _ _ _ _⟩ ?_;rintro i s hi ⟨k,j,b,c,y,M,E⟩;have V:=aX i;have z:=aZ i;by_cases a:i<l.length
 case neg=>
  have L:=lF i l.length;rw[bK (by omega)] at E;refine ur N (bQ b c L) k ?_;exact⟨_,aF _,y,_,da y E,rfl⟩
 have L:=lT i l.length;have Z:=wS i;have g:(l.map bS)[i]?=some (bS l[i]):=by rw[bg,az a];rfl
 have t:((l.take (i+1)).map (·.r)).map iD=((l.take i).map (·.r)).map iD++[iD l[i].r]:=by rw[bw a];simp only[bI,cC,fw]
 obtain⟨u,S⟩:=oX l[i];rw[<-S] at g t;simp only[bS] at g;refine tq (bG j b c o L g V (av z a)) ?_;intro U Y O C;intro P w;refine Y _ ?_;refine cm 11 w ?_;refine t0 ?_;intro U Y O C;refine ax (e:=3) fk rfl fk rfl yv rfl (by decide) y E (new:=[iD u.r]) (by exact⟨rfl,rfl⟩) (by rw[aS,aS,bX];show(_+1) * 8<=_;omega) λd H6 J n v R=>?_;rw[<-t] at n;refine tn (av c Z) ?_;exact⟨a,k,j,b,rfl,v,J,n⟩
end Go.Proofs.YtffgfafbffdgaaaGreatDoor
