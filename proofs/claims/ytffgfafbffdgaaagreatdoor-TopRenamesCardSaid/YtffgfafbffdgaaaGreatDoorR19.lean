/- Lemmas and contracts of functions, several texts in one. -/
import Derived.Test.YtffgfafbffdgaaaGreatDoorR18
import Derived.Test.YtffgfafbffdgaaaGreatDoorR15
set_option maxRecDepth 100000
set_option maxHeartbeats 4000000
set_option linter.all false
namespace Go.Proofs.YtffgfafbffdgaaaGreatDoor
open Go.RowKit
variable {m:List (Value×D)}{f:ByteArray->Option D}{x:ByteArray}{l:List (Int×Int)}
structure tU (m:List (Value×D)) (f:ByteArray->Option D):Prop where
 keys:∀p∈m,∃s:ByteArray,cH s.size/\p.1=.string s
 get:∀s:ByteArray,iC m (.string s)=f s
theorem tU.nil:tU [] λ_=>Option.none:=⟨(λp a=>by cases a),(λx=>rfl)⟩
theorem tU.set (h:tU m f)(hx:cH x.size)(d:D):tU (eJ m (.string x) d) λy=>if y=x then some d else f y where
 keys:=λp hp=>by
  rcases vf hp with rfl|hp
  ·exact⟨x,hx,rfl⟩
  ·exact h.keys p hp
 get:=λy=>by
  by_cases e:y=x
  ·subst e;rw[jJ,aD rfl]
  ·rw[n9 _ _ (λhe=>e (by injection he with he;exact he.symm)),aC e];exact h.get y
theorem CT {P:Program}{k:TypeId}(hk:P.underlying k=some .string)(hx:cH x.size):∃l,keyOf P k (.string x)=some l:=by
 unfold keyOf;rw[hk];simp only[mapKey,hk];unfold cH at hx;rw[aD (by unfold maxLen;omega)];exact⟨_,rfl⟩
theorem tU.ok {P:Program}{k:TypeId}(hk:P.underlying k=some .string)(h:tU m f)(hx:cH x.size):SP P k m (.string x):=
 ⟨Go.Maps.string_keyed hk,CT hk hx,λp a=>by obtain⟨y,b,e⟩:=h.keys p a;rw[e];exact CT hk b⟩
theorem tU.congr {g:ByteArray->Option D}(h:tU m f)(a:∀x,f x=g x):tU m g:=⟨h.keys,λx=>(h.get x).trans (a x)⟩
open Classical in
noncomputable def qH (S:List ByteArray) (x:ByteArray):Option D:=if x∈S then some (.val (.bool true)) else none
theorem Ce (x:ByteArray):none=qH [] x:=by unfold qH;rw[aC (by simp)]
theorem Av (y:ByteArray)(S:List ByteArray)(x:ByteArray):(if x=y then some (D.val (.bool true)) else qH S x)=qH (S++[y]) x:=by
 unfold qH;by_cases h:x=y
 ·rw[aD h,aD (by rw[h];simp)]
 ·rw[aC h]
  by_cases a:x∈S
  ·rw[aD a,aD (by simp [a])]
  ·rw[aC a,aC (by simp [h,a])]
open Tryz
theorem Sy (l:List ByteArray)(H:aA)(hl:cH l.length)(hs:∀s∈l,cH s.size):aN prog 137 [.seq 1 (l.map sD)] H λd H'=>d=i64 (kP l)/\H=H':=by
 refine aq (K:=λd=>d=i64 (kP l)) ?_;have aM:=aF H;have n:=lm sD l;unfold cH at hl;refine dO func137 ntmps137 results137 λw0 g0 Q F=>?_;by_cases h1:65535<l.length
 ·have X:=nT ((65535:Int)<(l.length:Int))
  have e:kP l=15:=aD h1;refine ur F (av n X) trivial ?_;exact zf aM (by rw[e])
 have X:=nF ((65535:Int)<(l.length:Int));have e:kP l=rY [] l:=aC h1;refine tq (av n X) ?_;intro U Y O C;intro o B;refine Y _ ?_;have J:(H.aU o (.map [])) o=some (.map []):=aK _ _ _;refine tn n ?_;refine aO l.length (λi s=>s.df=[]/\s.fr 3=.val (.map (some o))/\s.fr 10=.seq 1 (l.map sD)/\s.fr 11=i64 l.length/\s.fr 12=i64 i/\H.le s.H/\∃M,s.H o=some (.map M)/\tU M (qH (l.take i))/\rY [] l=rY (l.take i) (l.drop i)) ⟨rfl,rfl,rfl,rfl,rfl,j5 aM B,[],J,tU.nil.congr Ce,rfl⟩ ?_;rintro i s hi ⟨j,z,y,p,r,a,M,N,S,c⟩;have hx:=aX i;have L:=aZ i;by_cases b:i<l.length
 case neg=>
  have Z:=lF i l.length;rw[cb (by omega)] at c;refine ur F (bQ p r Z) j ?_;exact⟨_,aF _,a,_,aL a,by rw[e,c] <;> rfl⟩
 have w:(i:Int)<(l.length:Int):=by omega
 have Z:((i:Int)<(l.length:Int))=True:=aG w;have w3:=wS i;have D:=fg b;have g:=hs l[i] (ao b);rw[cL b,rY] at c;have u:=bw b;obtain⟨x,W⟩:=oX l[i];rw[<-W] at D g c u;have t:=xG x s.H g;simp only[bC] at t;obtain⟨v,hv⟩:=oX (eY x);rw[<-hv] at t c;refine tq (bG z y p r n Z D (cA hx L b w)) ?_;intro U Y O C;refine t.q ?_;cases v
 ·rw[aD rfl] at c
  refine ur F trivial j ?_;exact⟨_,aF _,a,_,aL a,by rw[e,c] <;> rfl⟩
 rw[aC (λh=>by cases h)] at c;have T:=S.ok (P:=prog) underlying9 g;have k:=S.get x;by_cases G:x∈l.take i
 ·rw[show qH (l.take i) x=some (.val (.bool true)) from aD G] at k
  rw[aD (mN.2 G)] at c;refine tq (bQ z N k) ?_;intro U Y O C;refine⟨T,?_⟩;refine ur F trivial j ?_;exact⟨_,aF _,a,_,aL a,by rw[e,c] <;> rfl⟩
 rw[show qH (l.take i) x=none from aC G] at k;rw[aC (λh=>G (mN.1 h))] at c;refine tq (bQ z N k) ?_;intro U Y O C;refine⟨T,?_⟩;refine tq (av z N) ?_;intro U Y O C;refine⟨T,?_⟩;have A:tU (eJ M (.string x) (.val (.bool true))) (qH (l.take i++[x])):=(S.set g (.val (.bool true))).congr (Av x _);obtain⟨E,R⟩:=oX (eJ M (.string x) (.val (.bool true)));rw[<-R] at A ⊢;have V:(s.H.aU o (.map E)) o=some (.map E):=aK _ _ _;have I:H.le (s.H.aU o (.map E)):=aQ a B;refine tn (av r w3) ?_;exact⟨b,j,z,y,p,rfl,I,E,V,by rw[u];exact A,by rw[c,u]⟩
theorem O8 {l:List mQ}{i:Nat}(h:i<l.length):(l.map eQ)[i]?=some (eQ l[i]):=by rw[bg,az h];rfl
theorem jB (b:bn):cu b=[bC b.nm,.seq 1 (b.rg.map sD),.seq 2 (b.ol.map pD),.seq 5 (b.ty.map bS),.seq 2 (b.lc.map eQ),i64 b.ag,.seq 7 (b.bl.map dM)]:=rfl
theorem Oi (b:bn)(H:aA)(hl:cH b.lc.length)(hs:∀x∈b.lc,cH x.nm.size):aN prog 140 [.agg (cu b)] H λd H'=>d=i64 (th b)/\H=H':=by
 refine aq (K:=λd=>d=i64 (th b)) ?_;have aM:=aF H;have k:=lm eQ b.lc;have a0:=lm bS b.ty;unfold cH at hl;obtain⟨y,t⟩:=oX (th b);rw[<-t];unfold th at t;rw[jB];refine dO func140 ntmps140 results140 λw0 g0 Q A=>?_;refine t0 ?_;intro U Y O C;intro c1 a6;refine Y _ ?_;refine cm 1 a6 ?_;by_cases h1:65535<b.lc.length
 ·have q1:=nT ((65535:Int)<(b.lc.length:Int))
  have e:y=15:=t.trans (aD h1);refine ur A (av k q1) trivial ?_;exact zf aM (by rw[e])
 have q1:=nF ((65535:Int)<(b.lc.length:Int));rw[aC h1] at t;refine tq (av k q1) ?_;intro U Y O C;intro B X;refine Y _ ?_;have a3:(H.aU B (.map [])) B=some (.map []):=aK _ _ _;refine tn k ?_;refine aO b.lc.length (λi s=>s.df=[]/\s.fr 1=.rp [bC b.nm,.seq 1 (b.rg.map sD),.seq 2 (b.ol.map pD),.seq 5 (b.ty.map bS),.seq 2 (b.lc.map eQ),i64 b.ag,.seq 7 (b.bl.map dM)]/\s.fr 3=.val (.map (some B))/\s.fr 12=.seq 2 (b.lc.map eQ)/\s.fr 13=i64 b.lc.length/\s.fr 14=i64 i/\H.le s.H/\∃M S,s.H B=some (.map M)/\tU M (qH S)/\oV b.ty.length [] b.lc=oV b.ty.length S (b.lc.drop i)) ⟨rfl,rfl,rfl,rfl,rfl,rfl,j5 aM X,[],[],a3,tU.nil.congr Ce,rfl⟩ ?_;rintro i s hi ⟨g,D,E,T,n,o,a,M,S,V,hS,c⟩;have hx:=aX i;have a4:=aZ i;by_cases r:i<b.lc.length
 case neg=>
  have q6:=lF i b.lc.length;rw[cb (by omega),oV] at c;rw[c,aC (λh=>h rfl)] at t;by_cases J:b.ag<0
  ·have w:(b.ag<0)=True:=aG J
   have e:y=3:=t.trans (aD (.inl J));refine ur A (cw D n o q6 w) g ?_;exact⟨_,aF _,a,_,aL a,by rw[e] <;> rfl⟩
  have w:(b.ag<0)=False:=aI J;by_cases L:(b.lc.length:Int)<b.ag
  ·have I:((b.lc.length:Int)<b.ag)=True:=aG L
   have e:y=3:=t.trans (aD (.inr L));refine ur A (ej D n o q6 w I k) g ?_;exact⟨_,aF _,a,_,aL a,by rw[e] <;> rfl⟩
  have I:((b.lc.length:Int)<b.ag)=False:=aI L;have e:y=0:=t.trans (aC (by omega));refine ur A (ej D n o q6 w I k) g ?_;exact⟨_,aF _,a,_,aL a,by rw[e] <;> rfl⟩
 have R:(i:Int)<(b.lc.length:Int):=by omega
 have q6:((i:Int)<(b.lc.length:Int))=True:=aG R;have w3:=wS i;have F:=O8 r;have p:=hs b.lc[i] (ao r);rw[cL r,oV] at c;obtain⟨x,a1⟩:=oX b.lc[i];rw[<-a1] at F p c;clear a1;obtain⟨x,N⟩:=x;simp only at p c;simp only[eQ,bC] at F;have G:=xG x s.H p;simp only[bC] at G;obtain⟨v,hv⟩:=oX (eY x);rw[<-hv] at G c;have u:∀z:Int,z≠0->oV b.ty.length [] b.lc=z->y=z:=λz hz h=>by rw[h,aD hz] at t;exact t
 refine tq (bG E T n o k q6 F (cA hx a4 r R)) ?_;intro U Y O C;intro c5 a7;refine Y _ ?_;refine cm 5 a7 ?_;refine t0 ?_;intro U Y O C;refine G.q ?_;cases v
 ·rw[aD rfl] at c
  have e:=u 12 (by decide) c;refine ur A trivial g ?_;exact⟨_,aF _,a,_,aL a,by rw[e] <;> rfl⟩
 rw[aC (λh=>by cases h)] at c;have Z:=hS.ok (P:=prog) underlying9 p;have j:=hS.get x;by_cases hm:x∈S
 ·rw[show qH S x=some (.val (.bool true)) from aD hm] at j
  rw[aD (mN.2 hm)] at c;have e:=u 21 (by decide) c;refine tq (bQ E V j) ?_;intro U Y O C;refine⟨Z,?_⟩;refine ur A trivial g ?_;exact⟨_,aF _,a,_,aL a,by rw[e] <;> rfl⟩
 rw[show qH S x=none from aC hm] at j;rw[aC (λh=>hm (mN.1 h))] at c;by_cases J:N<0
 ·have w:(N<0)=True:=aG J
  rw[aD (by unfold bN;omega)] at c;have e:=u 3 (by decide) c;refine tq (bQ E V j) ?_;intro U Y O C;refine⟨Z,?_⟩;refine ur A (av D w) g ?_;exact⟨_,aF _,a,_,aL a,by rw[e] <;> rfl⟩
 have w:(N<0)=False:=aI J;by_cases L:(b.ty.length:Int)<=N
 ·have I:(N≥(b.ty.length:Int))=True:=aG L
  rw[aD (by unfold bN;omega)] at c;have e:=u 3 (by decide) c;refine tq (bQ E V j) ?_;intro U Y O C;refine⟨Z,?_⟩;refine ur A (cA D w I a0) g ?_;exact⟨_,aF _,a,_,aL a,by rw[e] <;> rfl⟩
 have I:(N≥(b.ty.length:Int))=False:=aI L;rw[aC (by unfold bN;omega)] at c;refine tq (bQ E V j) ?_;intro U Y O C;refine⟨Z,?_⟩;refine tq (eP D E V w I a0) ?_;intro U Y O C;refine⟨Z,?_⟩;have W:tU (eJ M (.string x) (.val (.bool true))) (qH (S++[x])):=(hS.set p (.val (.bool true))).congr (Av x _);obtain⟨M4,a5⟩:=oX (eJ M (.string x) (.val (.bool true)));rw[<-a5] at W ⊢;have a8:(s.H.aU B (.map M4)) B=some (.map M4):=aK _ _ _;have a2:H.le (s.H.aU B (.map M4)):=aQ a X;refine tn (av o w3) ?_;exact⟨r,g,D,E,T,n,rfl,a2,M4,_,a8,W,c⟩
theorem s9 {i:Nat}(h:i<l.length):(l.map pD)[i]?=some [.val (.int .i64 l[i].1),.val (.int .i64 l[i].2)]:=by rw[bg,az h];rfl
theorem zk {i:Nat}(h:i<l.length):mg (l.drop i)=if B4 l[i]≠0 then B4 l[i] else mg (l.drop (i+1)):=by rw[cL h];rfl
theorem PU (p:gR)(H:aA)(hp:cH p.pr.length):aN prog 342 [.agg (ee p)] H λd H'=>d=i64 (gC p)/\H=H':=by
 unfold cH at hp;have w:=lm pD p.pr;refine aq (K:=λd=>d=i64 (gC p)) ?_;refine dO func342 ntmps342 results342 λw0 g0 Q u=>?_;refine tq @ee.eq_1 ?_;intro U Y O C;intro c1 R;refine Y _ ?_;refine cm 1 R ?_;by_cases o:p.lo<0
 ·have L:(p.lo<0)=True:=aG o
  have B:gC p=3:=aD o;refine ur u L trivial ?_;exact⟨_,aF _,aF _,_,aL (aF _),by rw[B]⟩
 have L:(p.lo<0)=False:=aI o;by_cases t:32<p.pr.length
 ·have T:=nT ((p.pr.length:Int)>32)
  have B:gC p=19:=by unfold gC;rw[aC o,aD t]
  refine ur u (bQ L w T) trivial ?_;exact⟨_,aF _,aF _,_,aL (aF _),by rw[B]⟩
 have T:=nF ((p.pr.length:Int)>32);have B:gC p=mg p.pr:=by unfold gC;rw[aC o,aC t]
 rw[B] at u;refine tn (bQ L w T) ?_;refine aO p.pr.length (λi s=>s.df=[]/\s.fr 15=.seq 2 (p.pr.map pD)/\s.fr 16=i64 p.pr.length/\s.fr 17=i64 i/\H.le s.H/\mg p.pr=mg (p.pr.drop i)) ⟨rfl,rfl,rfl,rfl,aF _,rfl⟩ ?_;rintro i s hi ⟨q,c,g,n,G,a⟩;have Z:=aX i;have P:=aZ i;by_cases r:i<p.pr.length
 case neg=>
  have V:=lF i p.pr.length;rw[cb (by omega)] at a;refine ur u (cA c g n V) q ?_;exact⟨_,aF _,G,_,aL G,by rw[a] <;> rfl⟩
 have M:(i:Int)<(p.pr.length:Int):=by omega
 have V:((i:Int)<(p.pr.length:Int))=True:=aG M;have E:=wS i;have v:=s9 r;rw[zk r] at a;rcases X:p.pr[i] with⟨k,f⟩;rw[X] at a v;simp only at v;refine tq (bG c g n V w v Z (av P r)) ?_;intro U Y O C;intro z A;refine Y _ ?_;have N:H z=none:=by
  cases e:H z with
  |none=>rfl
  |some y=>rw[G z y e] at A;cases A
 have j:=aQ (x:=.row 117 0 2 [[i64 k,i64 f]]) G N;have F:(s.H.aU z (.row 117 0 2 [[i64 k,i64 f]])) z=some (.row 117 0 2 [[i64 k,i64 f]]):=aK _ _ _;have b:B4 (k,f)=if k≠0/\k≠1 then 14 else if k=0/\f≠0 then 2 else if f<0 then 3 else 0:=rfl
 rcases G0 (k=0) with⟨_,D,⟨rfl,o⟩|⟨rfl,o⟩⟩
 ·rcases G0 (f=0) with⟨_,W,⟨rfl,t⟩|⟨rfl,t⟩⟩
  ·have I:=nF (f<0)
   rw[aC (λh=>h.1 o),aC (λh=>h.2 t),aC (by omega)] at b;rw[aC (λh=>h b)] at a;refine tq (bG c g n E D F W I) ?_;intro U Y O C;exact⟨r,q,c,g,rfl,j,a⟩
  ·rw[aC (λh=>h.1 o),aD ⟨o,t⟩] at b
   rw[aD (by rw[b];decide),b] at a;refine ur u (ej c g n E D F W) q ?_;exact⟨_,aF _,j,_,aL j,by rw[a] <;> rfl⟩
 rcases G0 (k=1) with⟨_,S,⟨rfl,J⟩|⟨rfl,J⟩⟩
 case inr=>
  rw[aD ⟨o,J⟩] at b;rw[aD (by rw[b];decide),b] at a;refine ur u (ej c g n E D F S) q ?_;exact⟨_,aF _,j,_,aL j,by rw[a] <;> rfl⟩
 rcases G0 (f<0) with⟨_,I,⟨rfl,t⟩|⟨rfl,t⟩⟩
 ·rw[aC (λh=>h.2 J),aC (λh=>o h.1),aD t] at b
  rw[aD (by rw[b];decide),b] at a;refine ur u (bG c g n E D F S I) q ?_;exact⟨_,aF _,j,_,aL j,by rw[a] <;> rfl⟩
 ·rw[aC (λh=>h.2 J),aC (λh=>o h.1),aC t] at b
  rw[aC (λh=>h b)] at a;refine tq (bG c g n E D F S I) ?_;intro U Y O C;exact⟨r,q,c,g,rfl,j,a⟩
theorem XG (ts:List bp)(i:Int)(x:Int×Int)(H:aA)(hi:bN ts.length i)(hx:0<=x.2)(ha:(bY ts i).ar.length<=1000000):aN prog 343 [.seq 5 (ts.map bS),i64 i,.agg [i64 x.1,i64 x.2]] H λd H'=>d=.agg [i64 (gG ts i x).1,i64 (gG ts i x).2]/\H=H':=by
 refine aq (K:=λd=>d=.agg [i64 (gG ts i x).1,i64 (gG ts i x).2]) ?_;obtain⟨t,X⟩:=oX (bY ts i);have g:=gY hi;have E:i.toNat<ts.length:=by unfold bN at hi;omega
 have B:0<=i:=by unfold bN at hi;omega
 have F:=lm bS ts;obtain⟨k,f⟩:=x;have j:gG ts i (k,f)=if k=0/\t.k=3 then (t.e,0) else if k=1/\t.k=4 then (if f<t.ar.length then (t.ar.getD f.toNat 0,0) else (0,3)) else (0,22):=by rw[X];rfl
 rw[<-X] at g ha;obtain⟨y,hy⟩:=oX (gG ts i (k,f));rw[<-hy] at j ⊢;clear hy X;obtain⟨tk,tm,tr,te,u⟩:=t;simp only[bS] at g;simp only at ha hx j;have a:=lm iD u;refine dO func343 ntmps343 results343 λw0 g0 Q p=>?_;refine tq (cA g E B F) ?_;intro U Y O C;intro I T c D;refine Y _ ?_;have G:I≠c:=lj (aK _ _ _) D;obtain⟨_,w⟩:=bF.1 D;refine dZ 5 rfl ((aJ G).trans (aK _ _ _)) rfl ?_;refine lB (H.aU c (.row 383 0 2 [[i64 0,i64 0]])) (λx z q=>?_) ?_
 ·show(((H.aU I _).aU c _).del I) x=_
  by_cases J:x=c
  ·subst J
   rw[aK] at q;rw[bL G.symm,aK];exact q
  rw[aJ J] at q;have e5:x≠I:=λe=>by rw[e,T] at q;cases q
  rw[bL e5,aJ J,aJ e5];exact q
 simp only[St.ku,List.drop];have v:H.le (H.aU c (.row 383 0 2 [[i64 0,i64 0]])):=aQ (aF _) w;have o:(H.aU c (.row 383 0 2 [[i64 0,i64 0]])) c=some (.row 383 0 2 [[i64 0,i64 0]]):=aK _ _ _;obtain⟨H6,R⟩:=oX (H.aU c (.row 383 0 2 [[i64 0,i64 0]]));rw[<-R] at v o ⊢;refine tq (cA g E B F) ?_;intro U Y O C;intro c7 V;refine Y _ ?_;refine cm 7 V ?_;have fin:∀(y:Int×Int),H.le (H6.aU c (.row 383 0 2 [[i64 y.1,i64 y.2]])):=λy b x S=>by
  rw[aJ (λe=>by rw[e,w] at S;cases S)];exact v b x S
 rcases G0 (k=0) with⟨_,r,⟨rfl,A⟩|⟨rfl,A⟩⟩
 ·have s:=nF (k=1)
  rcases G0 (tk=3) with⟨_,q3,⟨rfl,M⟩|⟨rfl,M⟩⟩
  ·have e:y=(te,0):=j.trans (aD ⟨A,M⟩)
   refine ur p (cA r o a q3) trivial ?_;exact⟨_,aF _,fin (_,_),_,aL (fin (_,_)),by rw[e]⟩
  ·have e:y=(0,22):=j.trans (by rw[aC (λh=>M h.2),aC (λh=>by omega)])
   refine ur p (cw r o a q3 s) trivial ?_;exact⟨_,aF _,fin (_,_),_,aL (fin (_,_)),by rw[e]⟩
 rcases G0 (k=1) with⟨_,s,⟨rfl,L⟩|⟨rfl,L⟩⟩
 case inr=>
  have e:y=(0,22):=j.trans (by rw[aC (λh=>A h.1),aC (λh=>L h.1)]);refine ur p (cA r o a s) trivial ?_;exact⟨_,aF _,fin (_,_),_,aL (fin (_,_)),by rw[e]⟩
 rcases G0 (tk=4) with⟨_,Z,⟨rfl,N⟩|⟨rfl,N⟩⟩
 case inr=>
  have e:y=(0,22):=j.trans (by rw[aC (λh=>A h.1),aC (λh=>N h.2)]);refine ur p (cw r o a s Z) trivial ?_;exact⟨_,aF _,fin (_,_),_,aL (fin (_,_)),by rw[e]⟩
 rw[aC (λh=>A h.1),aD ⟨L,N⟩] at j;rcases G0 (f<(u.length:Int)) with⟨_,f1,⟨rfl,P⟩|⟨rfl,P⟩⟩
 ·have n:f.toNat<u.length:=by omega
  have W:(u.map iD)[f.toNat]?=some [i64 u[f.toNat]]:=bT n;have e:y=(u[f.toNat],0):=j.trans (by rw[aD P,gZ,az n] <;> rfl);refine ur p (bG r o a s Z f1 W (av hx n)) trivial ?_;exact⟨_,aF _,fin (_,_),_,aL (fin (_,_)),by rw[e]⟩
 ·have e:y=(0,3):=j.trans (aC P)
  refine ur p (eP r o a s Z f1) trivial ?_;exact⟨_,aF _,fin (_,_),_,aL (fin (_,_)),by rw[e]⟩
def rfN (ts:List bp):Prop:=∀t∈ts,t.k=3->t.ar=[]
theorem ni {ts:List bp}{a:Int}(h:bN ts.length a):bY ts a∈ts:=by
 obtain⟨b,c⟩:=qM h;rw[c];exact ao b
theorem Lq {ts:List bp}{n:Int}(h:∀i (h:i<ts.length),VS (ts.take i) n ts[i]):rfN ts:=λt b c=>by
 obtain⟨i,a,rfl⟩:=kV b;exact(h i a).fl (by omega)
def XH (x:Nat×Int×Int):List D:=[i64 x.1,.agg [i64 x.2.1,i64 x.2.2]]
theorem JJ {lc:List mQ}{a:Int}(h:0<=a/\a<lc.length):(lc.map eQ)[a.toNat]?=some (eQ (mj lc a)):=by
 obtain⟨b,e⟩:=Fc h;rw[bg,az b,e];rfl
def K3 (ts:List bp):Prop:=∀t∈ts,t.ar.length<=1000000
theorem Ji (ts:List bp)(lc:List mQ)(p:gR)(hw:pI ts)(hl:Gi ts lc)(ha:K3 ts)(hp:cH p.pr.length):BY prog 341 [.rp (ee p),.rp [.seq 2 (lc.map eQ)],.rp [.seq 5 (ts.map bS)]] XH (nI ts lc p) λ_=>True:=by
 have V:=lm eQ lc;have I:=lm pD p.pr;refine OS _ func341 rfl rfl ntmps341 results341 (by simp) λl J Jx H w0 g0 Q dC hJ hC ad S u=>?_;refine tq @ee.eq_1 ?_;intro U Y O C;refine(PU p _ hp).q ?_;by_cases P:gC p=0
 case neg=>
  have q1:(gC p=0)=False:=aI P;have k:nI ts lc p=[(0,0,gC p)]:=aD P;rw[k] at S u;(iterate 6 (refine tk q1 ?_;intro U Y O C));refine oI [] (0,0,gC p) rfl rfl rfl (by simp [qP]) S (by simp) hJ rfl (λt c=>?_) λt c=>?_
  ·refine t0 ?_;intro U Y O C
   exact u _ _ (.inr rfl) rfl (.inl (.inl c))
  ·refine t0 ?_;intro U Y O C
   exact u _ _ (.inr rfl) rfl (.inl (.inr ⟨_,c⟩))
 have q1:(gC p=0)=True:=aG P;have K:=mS P;have W:¬gC p≠0:=λh=>h P;by_cases X:(lc.length:Int)<=p.lo
 ·have q2:(p.lo≥(lc.length:Int))=True:=aG X
  have k:nI ts lc p=[(0,0,3)]:=by unfold nI;rw[aC W,aD X]
  rw[k] at S u;(iterate 11 (refine tk (bQ q1 q2 V) ?_;intro U Y O C));refine oI [] (0,0,3) rfl rfl rfl (by simp [qP]) S (by simp) hJ rfl (λt c=>?_) λt c=>?_
  ·refine t0 ?_;intro U Y O C
   exact u _ _ (.inr rfl) rfl (.inl (.inl c))
  ·refine t0 ?_;intro U Y O C
   exact u _ _ (.inr rfl) rfl (.inl (.inr ⟨_,c⟩))
 have q2:(p.lo≥(lc.length:Int))=False:=aI X;have G:0<=p.lo/\p.lo<lc.length:=⟨K.1,by omega⟩;have a4:=G.1;have a7:p.lo.toNat<lc.length:=by omega
 have T:=JJ G;have a9:=yj hl G;simp only[eQ] at T;have k:nI ts lc p=[]++mr ts 0 ((mj lc p.lo).ty,0) (p.pr.drop 0):=by unfold nI;rw[aC W,aC X];rfl
 refine tq (eP q1 q2 V T a4 a7) ?_;intro U Y O C;intro r j;refine Y _ ?_;refine t0 ?_;intro U Y O C;have ae:p.pr.length<=32:=K.2.1;have o:YJ J [] r (.row 383 0 2 [[i64 (mj lc p.lo).ty,i64 0]]) (H.aU r (.row 383 0 2 [[i64 (mj lc p.lo).ty,i64 0]])):=⟨H,rfl,λz Z=>by rw[j] at Z;(cases Z),hJ⟩;refine aO p.pr.length (λi s=>s.df=[]/\s.fr 0=yD l/\s.fr 1=.rp [i64 p.lo,.seq 2 (p.pr.map pD)]/\s.fr 3=.rp [.seq 5 (ts.map bS)]/\s.fr 6=.ep r 0 2 0 0/\s.fr 7=i64 i/\∃(y:Int×Int) (b:List (Nat×Int×Int)),(y.2=0->bN ts.length y.1)/\nI ts lc p=b++mr ts i y (p.pr.drop i)/\YJ J b r (.row 383 0 2 [[i64 y.1,i64 y.2]]) s.H) ⟨rfl,rfl,rfl,rfl,rfl,rfl,_,_,λ_=>a9,k,o⟩ ?_;clear k o;rintro i s hi ⟨v,M,B,D,E,F,y,b,ab,k,o⟩;have aa:=aX i;have a5:=aZ i;have a2:(b++[(i,y)])<+:nI ts lc p:=by
  rw[k];cases p.pr.drop i with
  |nil=>exact List.prefix_rfl
  |cons a m=>exact⟨_,by rw[bE] <;> rfl⟩
 have L:∀{J':List (Nat×Int×Int)->aA->Prop}{a3 t},YJ J' a3 r (.row 383 0 2 [[i64 y.1,i64 y.2]]) t->t r=some (.row 383 0 2 [[i64 y.1,i64 y.2]]):=λ⟨_,e,_⟩=>by rw[e,aK]
 have z6:=L o;(iterate 3 (refine tk (eP M B D E F z6) ?_;intro U Y O C));refine KY b (i,y) rfl rfl rfl (by simp [qP]) S hC j a2 o rfl (λt c=>?_) λt c=>?_
 case refine_2=>
  have N:=L c;refine tq (eP M B D E F N) ?_;intro U Y O C;exact u _ _ (.inl rfl) v (.inr ⟨r,_,_,_,_,j,.inr ⟨_,c⟩⟩)
 have N:=L c;by_cases R:y.2=0
 case neg=>
  have q3:(y.2=0)=False:=aI R;have n:nI ts lc p=b++[(i,y)]:=by
   rw[k];cases p.pr.drop i with
   |nil=>rfl
   |cons a m=>simp only[mr];rw[aD R]
  rw[<-n] at c;refine tq (ej M B D E F N q3) ?_;intro U Y O C;exact u _ _ (.inl rfl) v (.inr ⟨r,_,_,_,_,j,.inl c⟩)
 have q3:(y.2=0)=True:=aG R;by_cases g:i<p.pr.length
 case neg=>
  have q4:=lF i p.pr.length;have n:nI ts lc p=b++[(i,y)]:=by rw[k,cb (by omega)];rfl
  rw[<-n] at c;refine tq (bG M B D E F N q3 (av q4 I)) ?_;intro U Y O C;exact u _ _ (.inl rfl) v (.inr ⟨r,_,_,_,_,j,.inl c⟩)
 have q4:=lT i p.pr.length;have w3:=wS i;have a6:=s9 g;have w:=ab R;have a1:∀H1,cP prog 343 [.seq 5 (ts.map bS),i64 y.1,.agg [i64 p.pr[i].1,i64 p.pr[i].2]] H1 λd A=>A=aA.none/\d=.agg [i64 (gG ts y.1 p.pr[i]).1,i64 (gG ts y.1 p.pr[i]).2]:=λH1=>an λa0 ac=>XG ts y.1 p.pr[i] a0 w (zm K.2.2 _ (ao g)).2 (ha _ (ni w));have n:nI ts lc p=(b++[(i,y)])++mr ts (i+1) (gG ts y.1 p.pr[i]) (p.pr.drop (i+1)):=by
  rw[k,cL g,bE];simp only[mr];rw[aC (λh=>h R)];rfl
 refine tq (bG M B D E F N q3 (av q4 I)) ?_;intro U Y O C;refine wE (λ_=>false) (λ_=>false) (λ_ _ d A=>A=.none/\d=.agg [i64 (gG ts y.1 p.pr[i]).1,i64 (gG ts y.1 p.pr[i]).2]) (λ_ _ _ _ _=>False) λU Y=>?_;have fs:=And.intro B (And.intro D (And.intro E (And.intro F (And.intro N (And.intro I (And.intro a6 (And.intro aa (And.intro a5 g))))))));refine uj ?_;refine nx ?_;(try clear fs);refine⟨a1 _,?_⟩;refine tq (av F w3) ?_;intro U Y O C;obtain⟨Hc,e,Z,a8⟩:=c;refine⟨g,v,M,B,D,E,rfl,gG ts y.1 p.pr[i],b++[(i,y)],λh=>IC hw w h,n,Hc,?_,Z,a8⟩;show t.aU r _=_;rw[e,wV];rfl
theorem PT (ts:List bp)(lc:List mQ)(p:gR)(H:aA):aN prog 290 [.seq 5 (ts.map bS),.seq 2 (lc.map eQ),.agg (ee p)] H λd H'=>d=.fn 341 [.rp (ee p),.rp [.seq 2 (lc.map eQ)],.rp [.seq 5 (ts.map bS)]]/\H=H':=by
 refine dO func290 ntmps290 results290 λv u Q t=>?_;refine tq @ee.eq_1 ?_;intro U Y O C;intro j o k b n a;refine Y _ ?_;obtain⟨g,b⟩:=bF.1 b;obtain⟨i,a⟩:=bF.1 a;obtain⟨h,a⟩:=bF.1 a;refine dZ 3 rfl ((aJ h.symm).trans ((aJ g.symm).trans (aK _ _ _))) rfl ?_;refine dZ 4 rfl ((bL g).trans ((aJ i.symm).trans (aK _ _ _))) rfl ?_;refine dZ 5 rfl ((bL i).trans ((bL h).trans (aK _ _ _))) rfl ?_;refine lB H (λx z c=>?_) ?_
 ·have q:x≠j:=λe=>by rw[e,o] at c;cases c
  have r:x≠k:=λe=>by rw[e,b] at c;cases c
  have s:x≠n:=λe=>by rw[e,a] at c;cases c
  show((((((H.aU j _).aU k _).aU n _).del j).del k).del n) x=_;rw[bL s,bL r,bL q,aJ s,aJ r,aJ q];exact c
 simp only[St.ku,List.drop];refine u0 t ?_;exact⟨_,aF _,rfl,rfl⟩
def Fi (a:List (Nat×Int×Int)):Int×Int:=match a.getLast? with
 |some x=>x.2
 |none=>(0,0)
theorem Lg (a:List (Nat×Int×Int))(x:Nat×Int×Int):Fi (a++[x])=x.2:=by unfold Fi;rw[List.getLast?_concat]
theorem Ol (ts:List bp)(lc:List mQ)(p:gR):Fi (nI ts lc p)=bJ ts lc p:=by
 obtain⟨j,h⟩:=Cm ts lc p;unfold Fi;rw[h]
def ToI (c:Nat) (a:List (Nat×Int×Int)) (b:aA):Prop:=b c=some (.row 383 0 2 [[i64 (Fi a).1,i64 (Fi a).2]])
theorem QR (ts:List bp)(lc:List mQ)(p:gR)(W:pI ts)(hl:Gi ts lc)(ha:K3 ts)(hp:cH p.pr.length):aN prog 213 [.seq 5 (ts.map bS),.seq 2 (lc.map eQ),.agg (ee p)] .none λd _=>d=.eO [i64 (bJ ts lc p).1,i64 (bJ ts lc p).2]:=by
 refine lH _ _ func213 rfl rfl ntmps213 results213 (by simp) λw0 g0 Q J=>?_;refine tq @ee.eq_1 ?_;intro U Y O C;intro c5 D;refine Y _ ?_;refine cm 5 D ?_;refine t0 ?_;intro U Y O C;intro g T;refine Y _ ?_;refine t0 ?_;intro U Y O C;have r:=PT ts lc p (aA.none.aU g (.row 383 0 2 [[i64 0,i64 0]]));simp only[ee] at r;refine r.qt ?_;intro U Y O C;obtain⟨u,a⟩:=oX (aA.none.aU g (.row 383 0 2 [[i64 0,i64 0]]));have A:u g=some (.row 383 0 2 [[i64 0,i64 0]]):=by rw[a];exact aK _ _ _
 have L:∀b,b≠g->u b=none:=λb S=>by rw[a,aJ S];rfl
 simp only[i64] at a;rw[<-a];clear a;refine iz (λs=>s.df=[]/\s.fr 8=.ep g 0 2 0 0/\s.fr 14=.fn 341 [.rp (ee p),.rp [.seq 2 (lc.map eQ)],.rp [.seq 5 (ts.map bS)]]/\s.H=u) ⟨rfl,rfl,rfl,rfl⟩ ?_;rintro s ⟨t,w,B,F⟩;refine kZ rfl (Ji ts lc p W hl ha hp) B (λ_ _=>trivial) (by simp) (λ_=>rfl) (ToI g) (λ_ _ _=>False) ?_ ?_ ?_ ?_ ?_ ?_
 ·intro i H1 u V h
  exact V _ _ h (by simp)
 ·intro _ _ _ _ _ h
  exact h
 ·show s.H g=_
  rw[F];exact A
 ·rintro l w1 i x v o g1 K j E q
  rw[XH,T4];refine tq (cw cR cO cE au t) ?_;intro U Y O C;intro n k;refine Y _ ?_;simp only[cF];refine⟨rfl,gE.new (jU _) k,λw2 y g2=>?_⟩;have G:l≠n:=λe=>by rw[e,k] at q;cases q
  have Z:g≠l:=λe=>by unfold ToI at j;rw[e,q] at j;cases j
  refine dZ 10 rfl (b:=n) (by simp only[iN,cO,fS];rw[aJ (Ne.symm G),aK]) rfl ?_;simp only[St.ku,iN,cO,fS,fC,au,eL,kC (Ne.symm G),kX,iy k,List.drop];have z:=λ(x:cY) (X:∀o,x≠ .obj o)=>oC (H:=v) (b:=n) (l:=l) (y:=y) X;have I:(v.aU l (.obj y)) g=some (.row 383 0 2 [[i64 (Fi i).1,i64 (Fi i).2]]):=(aJ Z).trans j;refine tq (eP w cR cO cE au I) ?_;intro U Y O C;simp only[fK,cp];refine⟨rfl,(z _ (by simp)).row I (by simp),?_⟩;unfold ToI;rw[Lg];exact aK _ _ _
 ·rintro v M j E P R
  rw[mK,cp,cF,t];unfold ToI at j;rw[Ol] at j;refine bW ?_;refine dE (λ_ _ _ _=>False) λU Y=>?_;refine dst (eP w cR cO cE au j) ?_;intro U Y O C;rw[cF];refine zZ ?_;refine J _ _ (.inr rfl) ?_ ?_
  ·refine eG w ?_
   exact Ql P
  ·simp only[u5,cE,sP]
   refine eG w ?_;exact⟨aA.none,pQ _⟩
 ·rintro e c i v M hj N
  exact N.elim
theorem QS (ts:List bp)(lc:List mQ)(p:gR)(H:aA)(a:pI ts)(hl:Gi ts lc)(ha:K3 ts)(hp:cH p.pr.length):aN prog 213 [.seq 5 (ts.map bS),.seq 2 (lc.map eQ),.agg (ee p)] H λd H'=>d=.eO [i64 (bJ ts lc p).1,i64 (bJ ts lc p).2]/\H=H':=
 qf (QR ts lc p a hl ha hp) rfl (aDJ (iU _ _) (iU _ _) (iU _ _))
theorem SD (l:List (Int×Int))(f:FuncId)(g:(Int×Int)->Bool)(H:aA)(hl:cH l.length)(hf:∀x∈l,∀H1,aN prog f [.agg (pD x)] H1 λd H'=>d=.val (.bool (g x))/\H1=H'):
  aN prog 291 [.seq 2 (l.map pD),.fn f []] H λd H'=>∃r,d=i64 r/\decide (0<=r)=l.any g/\H=H':=by
 have h:=lm pD l;unfold cH at hl;refine dO func291 ntmps291 results291 λI F Q w=>?_;refine tn h ?_;refine aO l.length (λi s=>s.df=[]/\s.fr 0=.seq 2 (l.map pD)/\s.fr 1=.fn f []/\s.fr 7=i64 l.length/\s.fr 8=i64 i/\s.H=H/\l.any g=(l.drop i).any g) ⟨rfl,rfl,rfl,rfl,rfl,rfl,rfl⟩ ?_;rintro i s G ⟨c,y,z,n,j,p,b⟩;have D:=aX i;have o:=aZ i;by_cases a:i<l.length
 case neg=>
  have v:=lF i l.length;rw[cb (by omega)] at b;refine ur w (bQ n j v) c ?_;exact⟨H,(by show H.le s.H;rw[p];exact aF _),-1,rfl,by rw[b] <;> rfl,rfl⟩
 have v:=lT i l.length;have E:=wS i;have e:(l.map pD)[i]?=some (pD l[i]):=by rw[bg,az a];rfl
 have k:=hf l[i] (ao a) s.H;rw[cL a,List.any_cons] at b;obtain⟨u,B⟩:=oX l[i];rw[<-B] at e b k;obtain⟨A,t⟩:=oX (g u);rw[<-t] at b k;clear hf;simp only[pD] at e k;refine tq (bG y z n j h v e (bQ D o a)) ?_;intro U Y O C;refine k.q ?_;cases A
 ·rw[nq] at b
  refine tn (av j E) ?_;exact⟨a,c,y,z,n,rfl,p,b⟩
 ·refine ur w j c ?_
  exact⟨H,(by show H.le s.H;rw[p];exact aF _),i,rfl,by rw[b];simp,rfl⟩
theorem Io (l:List (Int×Int))(f:FuncId)(g:(Int×Int)->Bool)(H:aA)(hl:cH l.length)(hf:∀x∈l,∀H1,aN prog f [.agg (pD x)] H1 λd H'=>d=.val (.bool (g x))/\H1=H'):
  aN prog 214 [.seq 2 (l.map pD),.fn f []] H λd H'=>d=.val (.bool (l.any g))/\H=H':=by
 have b:=SD l f g H hl hf;refine dO func214 ntmps214 results214 λh e Q a=>?_;refine t0 ?_;intro U Y O C;refine b.mono ?_;rintro d _ ⟨r,rfl,c,rfl⟩;refine u0 a ?_;exact⟨_,aF _,by rw[<-c],rfl⟩
theorem SE (l:List bp)(f:FuncId)(g:bp->Bool)(H:aA)(hl:cH l.length)(hf:∀x∈l,∀H1,aN prog f [.agg (bS x)] H1 λd H'=>d=.val (.bool (g x))/\H1=H'):
  aN prog 278 [.seq 5 (l.map bS),.fn f []] H λd H'=>∃r,d=i64 r/\decide (0<=r)=l.any g/\H=H':=by
 have h:=lm bS l;unfold cH at hl;refine dO func278 ntmps278 results278 λI F Q w=>?_;refine tn h ?_;refine aO l.length (λi s=>s.df=[]/\s.fr 0=.seq 5 (l.map bS)/\s.fr 1=.fn f []/\s.fr 7=i64 l.length/\s.fr 8=i64 i/\s.H=H/\l.any g=(l.drop i).any g) ⟨rfl,rfl,rfl,rfl,rfl,rfl,rfl⟩ ?_;rintro i s G ⟨c,y,z,n,j,p,b⟩;have D:=aX i;have o:=aZ i;by_cases a:i<l.length
 case neg=>
  have v:=lF i l.length;rw[cb (by omega)] at b;refine ur w (bQ n j v) c ?_;exact⟨H,(by show H.le s.H;rw[p];exact aF _),-1,rfl,by rw[b] <;> rfl,rfl⟩
 have v:=lT i l.length;have E:=wS i;have e:(l.map bS)[i]?=some (bS l[i]):=by rw[bg,az a];rfl
 have k:=hf l[i] (ao a) s.H;rw[cL a,List.any_cons] at b;obtain⟨u,B⟩:=oX l[i];rw[<-B] at e b k;obtain⟨A,t⟩:=oX (g u);rw[<-t] at b k;clear hf;simp only[bS] at e k;refine tq (bG y z n j h v e (bQ D o a)) ?_;intro U Y O C;refine k.q ?_;cases A
 ·rw[nq] at b
  refine tn (av j E) ?_;exact⟨a,c,y,z,n,rfl,p,b⟩
 ·refine ur w j c ?_
  exact⟨H,(by show H.le s.H;rw[p];exact aF _),i,rfl,by rw[b];simp,rfl⟩
theorem Ri (l:List bp)(f:FuncId)(g:bp->Bool)(H:aA)(hl:cH l.length)(hf:∀x∈l,∀H1,aN prog f [.agg (bS x)] H1 λd H'=>d=.val (.bool (g x))/\H1=H'):
  aN prog 282 [.seq 5 (l.map bS),.fn f []] H λd H'=>d=.val (.bool (l.any g))/\H=H':=by
 have b:=SE l f g H hl hf;refine dO func282 ntmps282 results282 λh e Q a=>?_;refine t0 ?_;intro U Y O C;refine b.mono ?_;rintro d _ ⟨r,rfl,c,rfl⟩;refine u0 a ?_;exact⟨_,aF _,by rw[<-c],rfl⟩
theorem Uj (x:Int×Int)(H:aA):aN prog 215 [.agg (pD x)] H λd H'=>d=.val (.bool (decide (x.1=0)))/\H=H':=by
 refine aq (K:=λd=>d=.val (.bool (decide (x.1=0)))) ?_;have c:=aF H;refine dO func215 ntmps215 results215 λh g Q b=>?_;refine tq @pD.eq_1 ?_;intro U Y O C;intro e a;refine Y _ ?_;refine cm 1 a ?_;refine u0 b ?_;exact zf c rfl
theorem Yy (x:bp)(H:aA):aN prog 283 [.agg (bS x)] H λd H'=>d=.val (.bool (!x.m))/\H=H':=by
 refine aq (K:=λd=>d=.val (.bool (!x.m))) ?_;have c:=aF H;refine dO func283 ntmps283 results283 λh g Q b=>?_;refine tq @bS.eq_1 ?_;intro U Y O C;intro e a;refine Y _ ?_;refine cm 1 a ?_;refine u0 b ?_;exact zf c rfl
theorem JL (p:gR)(H:aA)(hp:cH p.pr.length):aN prog 151 [.agg (ee p),i64 0] H λd H'=>d=.val (.bool (pC p 0))/\H=H':=by
 refine aq (K:=λd=>d=.val (.bool (pC p 0))) ?_;have e:=aF H;have c:=lm pD p.pr;have a:=Io p.pr 215 (λx=>decide (x.1=0)) H hp (λx _ g=>Uj x g);unfold cH at hp;refine dO func151 ntmps151 results151 λo n Q h=>?_;refine tq @ee.eq_1 ?_;intro U Y O C;intro k b;refine Y _ ?_;refine cm 2 b ?_;have i:max (0:Int) 0=0:=rfl;have j:min (0:Int) (p.pr.length:Int)=0:=by omega
 refine tq (bQ c i j) ?_;intro U Y O C;refine⟨by omega,a.mono ?_⟩;rintro d _ ⟨rfl,rfl⟩;refine u0 h ?_;exact⟨_,aF _,e,_,aL e,by unfold pC;rfl⟩
theorem PY {k:Nat}(h:k<l.length):(l.map pD)[k]?=some [i64 (l.getD k (1,0)).1,i64 (l.getD k (1,0)).2]:=by rw[gZ,az h];exact s9 h
theorem Pa (ts:List bp)(b:List (Int×Int))(a:List (Nat×Int×Int)):(tp ts b a).length<=a.length:=by
 unfold tp
 induction a with
 |nil=>simp
 |cons x l c=>
  rw[lz,aV,bx]
  have:(if x.1<b.length/\(b.getD x.1 (1,0)).1=0 then [bY ts x.2.1] else []).length<=1:=by split <;> simp
  omega
def RfI (H:aA) (ts:List bp) (h:List (Int×Int)) (d e g:Nat) (b:List (Nat×Int×Int)) (a:aA):Prop:=
 (∀x∈b,x.2.2=0)/\H.le a/\a d=some (.row 24 0 1 [[.val (.slice none 0 0)]])/\a e=some (.row 4 0 1 [[.val (.bool false)]])/\∃x c,a g=some (.row 24 0 1 [[x]])/\Gl H 71 5 ((tp ts h b).map bS) x a c/\c≠some d/\c≠some e/\c≠some g
def RfX (H:aA) (b c:Nat) (d:Int) (e:Exit) (a:aA):Prop:=
 e=.ret/\d≠0/\H.le a/\a b=some (.row 24 0 1 [[.val (.slice none 0 0)]])/\a c=some (.row 4 0 1 [[.val (.bool false)]])
theorem P8 (ts:List bp)(lc:List mQ)(p:gR)(H:aA)(hw:pI ts)(hl:Gi ts lc)(ha:K3 ts)(hp:cH p.pr.length):aN prog 281 [.seq 5 (ts.map bS),.seq 2 (lc.map eQ),.agg (ee p)] H λd H'=>d=.eO [.seq 5 ((jN ts lc p).map bS),.val (.bool (decide ((bJ ts lc p).2=0)))]/\H=H':=by
 have ac:=lm pD p.pr;have bt:=lm bS ts;refine aq (K:=λd=>d=.eO [.seq 5 ((jN ts lc p).map bS),.val (.bool (decide ((bJ ts lc p).2=0)))]) ?_;refine lH _ _ func281 rfl rfl ntmps281 results281 (by simp) λw0 g0 Q aB=>?_;refine tq @ee.eq_1 ?_;intro U Y O C;intro c3 br c5 a8 i u k q;refine Y _ ?_;obtain⟨b5,a8⟩:=bF.1 a8;obtain⟨b7,u⟩:=bF.1 u;obtain⟨b6,u⟩:=bF.1 u;obtain⟨B,q⟩:=bF.1 q;obtain⟨b9,q⟩:=bF.1 q;obtain⟨b8,q⟩:=bF.1 q;refine dZ 3 rfl ((aJ b8.symm).trans ((aJ b6.symm).trans ((aJ b5.symm).trans (aK _ _ _)))) rfl ?_;refine dZ 5 rfl ((bL b5).trans ((aJ b9.symm).trans ((aJ b7.symm).trans (aK _ _ _)))) rfl ?_;refine lB ((H.aU i (.row 24 0 1 [[.val (.slice none 0 0)]])).aU k (.row 4 0 1 [[.val (.bool false)]])) (λx z hz=>?_) ?_
 ·show((((((H.aU c3 _).aU c5 _).aU i _).aU k _).del c3).del c5) x=_
  by_cases e7:x=k
  ·subst e7
   rw[aK] at hz;rw[bL b9,bL b8,aK];exact hz
  rw[aJ e7] at hz;by_cases e6:x=i
  ·subst e6
   rw[aK] at hz;rw[bL b7,bL b6,aJ B.symm,aK];exact hz
  rw[aJ e6] at hz;have e3:x≠c3:=λe=>by rw[e,br] at hz;cases hz
  have e5:x≠c5:=λe=>by rw[e,a8] at hz;cases hz
  rw[bL e5,bL e3,aJ e7,aJ e6,aJ e5,aJ e3];exact hz
 have R:H.le ((H.aU i (.row 24 0 1 [[.val (.slice none 0 0)]])).aU k (.row 4 0 1 [[.val (.bool false)]])):=aQ (aQ (aF _) u) q;have a5:((H.aU i (.row 24 0 1 [[.val (.slice none 0 0)]])).aU k (.row 4 0 1 [[.val (.bool false)]])) i=some (.row 24 0 1 [[.val (.slice none 0 0)]]):=(aJ B.symm).trans (aK _ _ _);have a6:((H.aU i (.row 24 0 1 [[.val (.slice none 0 0)]])).aU k (.row 4 0 1 [[.val (.bool false)]])) k=some (.row 4 0 1 [[.val (.bool false)]]):=aK _ _ _;obtain⟨H2,ar⟩:=oX ((H.aU i (.row 24 0 1 [[.val (.slice none 0 0)]])).aU k (.row 4 0 1 [[.val (.bool false)]]));rw[<-ar] at R a5 a6 ⊢;clear ar;simp only[St.ku,List.drop];refine t0 ?_;intro U Y O C;intro G F;refine Y _ ?_;have ba:G≠i:=λe=>by rw[e,a5] at F;cases F
 have bb:G≠k:=λe=>by rw[e,a6] at F;cases F
 have a4:H G=none:=iY R F;refine t0 ?_;intro U Y O C;have al:=PT ts lc p (H2.aU G (.row 24 0 1 [[.val (.slice none 0 0)]]));simp only[ee] at al;refine al.qt ?_;intro U Y O C;refine iz (λs=>s.df=[]/\s.fr 3=.rp [.seq 5 (ts.map bS)]/\s.fr 5=.rp [i64 p.lo,.seq 2 (p.pr.map pD)]/\s.fr 6=.ep i 0 1 0 0/\s.fr 7=.ep k 0 1 0 0/\s.fr 8=.ep G 0 1 0 0/\s.fr 14=.fn 341 [.rp (ee p),.rp [.seq 2 (lc.map eQ)],.rp [.seq 5 (ts.map bS)]]/\H.le s.H/\RfI H.qb ts p.pr i k G [] s.H) ⟨rfl,rfl,rfl,rfl,rfl,rfl,rfl,aQ R a4,λx h=>by(cases h),iL (uV H) (aQ R a4),(aJ ba.symm).trans a5,(aJ bb.symm).trans a6,_,none,aK _ _ _,eB _ _ _ _,by simp,by simp,by simp⟩ ?_;rintro s ⟨a9,f3,f5,f6,f7,f8,bi,N,bo⟩;refine kZ rfl (Ji ts lc p hw hl ha hp) bi (λ_ _=>trivial) (by simp) (λ_=>rfl) (RfI H.qb ts p.pr i k G) (λe _=>RfX H.qb i k (bJ ts lc p).2 e) ?_ ?_ ?_ ?_ ?_ ?_
 ·rintro a H1 H2 hr ⟨h0,J,h6,h7,x,ob,h2,T,L⟩
  refine⟨h0,gO (jK H) J hr,hr _ _ h6 (by simp),hr _ _ h7 (by simp),x,ob,hr _ _ h2 (by simp),?_,L⟩;rcases T with T|⟨c,o,g1,I,g3,g4⟩
  ·exact .inl T
  ·exact .inr ⟨c,o,g1,I,g3,hr _ _ g4 (by simp)⟩
 ·rintro e a H1 H2 hr ⟨J,h2,T,L,h5⟩
  exact⟨J,h2,gO (jK H) T hr,hr _ _ L (by simp),hr _ _ h5 (by simp)⟩
 ·exact bo
 ·rintro l w1 a x r o g9 ag ⟨g1,I,g3,g4,xs,ob,g5,g6,k6,k7,k8⟩ Z v
  rw[XH,T4];refine tq (cw cR cO cE au a9) ?_;intro U Y O C;intro S a2;refine Y _ ?_;simp only[cF];refine⟨rfl,gE.new (jU _) a2,λw2 y cc=>?_⟩;have l5:l≠S:=λe=>by rw[e,a2] at v;cases v
  have nl:∀c t o sz E,r c=some (.row t o sz E)->c≠l:=λc t o sz E h e=>by rw[e,v] at h;cases h
  have n6:=nl _ _ _ _ _ g3;have n7:=nl _ _ _ _ _ g4;have n8:=nl _ _ _ _ _ g5;have b4:x∈nI ts lc p:=ag.subset (by simp);refine dZ 10 rfl (b:=S) (by simp only[iN,cO,fS];rw[aJ (Ne.symm l5),aK]) rfl ?_;simp only[St.ku,iN,cO,fS,fC,au,eL,kC (Ne.symm l5),kX,iy a2,List.drop];have a3:=λ(x:cY) (hx:∀o,x≠ .obj o)=>oC (H:=r) (b:=S) (l:=l) (y:=y) hx;have r6:(r.aU l (.obj y)) i=_:=(aJ n6).trans g3;have r7:(r.aU l (.obj y)) k=_:=(aJ n7).trans g4;have r8:(r.aU l (.obj y)) G=_:=(aJ n8).trans g5;have be:∀z,((r.aU l (.obj y)).aU i z) k=_:=λz=>(aJ B).trans r7;by_cases h0:x.2.2=0
  case neg=>
   have q1:(x.2.2=0)=False:=aI h0;refine tq (bG f6 f7 cR cO cE au q1 (av r6 be)) ?_;intro U Y O C;simp only[fL,eU,fW];refine⟨rfl,((a3 _ (by simp)).row r6 (by simp)).row (be _) (by simp),rfl,GY b4 h0,aQ (aQ (gO (jK H) I (kA v)) (jL u)) (jL q),(aJ B.symm).trans (aK _ _ _),aK _ _ _⟩
  have q1:(x.2.2=0)=True:=aG h0;have hx:(x.1:Int).toNat=x.1:=aX _;have ap:(0:Int)<=(x.1:Int):=aZ _;have ae:∀z∈a++[x],z.2.2=0:=λz hz=>by
   rcases bB.1 hz with hz|hz
   ·exact g1 z hz
   ·rw[bM] at hz;subst hz;exact h0
  have ab:=UE hw hl b4 h0;have W:Gl H.qb 71 5 ((tp ts p.pr a).map bS) xs (r.aU l (.obj y)) ob:=g6.obj v;have w:=Lr ts p.pr a x;have ak:tp ts p.pr (a++[x])=tp ts p.pr a->gE (((r.aU S (.row 383 0 2 [[i64 x.2.1,i64 x.2.2]])).aU l (.obj y))) (r.aU l (.obj y))/\RfI H.qb ts p.pr i k G (a++[x]) (r.aU l (.obj y)):=λe=>⟨a3 _ (by simp),ae,gO (jK H) I (kA v),r6,r7,xs,ob,r8,by rw[e];exact W,k6,k7,k8⟩;by_cases hk:x.1<p.pr.length
  case neg=>
   have q2:=nF ((x.1:Int)<(p.pr.length:Int));rw[aC (λh=>hk h.1),bz] at w;have a1:=ak w;refine tn (bG f5 cR cO cE au q1 q2 ac) ?_;exact⟨rfl,a1⟩
  have q2:=nT ((x.1:Int)<(p.pr.length:Int));have b3:=PY hk;by_cases X:(p.pr.getD x.1 (1,0)).1=0
  case neg=>
   rw[aC (λh=>X h.2),bz] at w;have a1:=ak w;have q3:((p.pr.getD x.1 (1,0)).1=0)=False:=aI X;refine tn (bG f5 cR cO cE au q1 q2 (eP q3 ac b3 hx ap hk)) ?_;exact⟨rfl,a1⟩
  have q3:((p.pr.getD x.1 (1,0)).1=0)=True:=aG X;rw[aD ⟨hk,X⟩] at w;have ce:a.length<=33:=by
   have J:=ag.length_le;have h2:=QD (ts:=ts) (lc:=lc) (p:=p);rw[aV,eE] at J;omega
  have ch:=Pa ts p.pr a;have aa:=gY ab;have c1:x.2.1.toNat<ts.length:=by unfold bN at ab;omega
  have c0:0<=x.2.1:=by unfold bN at ab;omega
  obtain⟨t,ht⟩:=oX (bY ts x.2.1);rw[<-ht] at w aa;obtain⟨E,P⟩:=oX ((tp ts p.pr a).map bS);have c9:E.length<=33:=by rw[P,aS];omega
  have am:(tp ts p.pr (a++[x])).map bS=E++[bS t]:=by rw[w,bI,P];rfl
  rw[<-P] at W;clear P;simp only[bS] at aa am;refine tq (bG f5 cR cO cE au q1 q2 (eP q3 ac b3 hx ap hk)) ?_;intro U Y O C;refine wE (λ_=>false) (λ_=>false) (λ_ _ _ _=>False) (λ_ _ _ _ _=>False) λU Y=>?_;have fs:=And.intro f3 (And.intro f8 (And.intro cR (And.intro cO (And.intro cE (And.intro au (And.intro r8 (And.intro aa (And.intro bt (And.intro c1 c0)))))))));refine uj ?_;refine nx ?_;(try clear fs);refine ax (e:=71) IU rfl IU rfl UO rfl (by decide) (gO (jK H) I (kA v)) W (new:=[bS t]) (by exact⟨rfl,rfl⟩) (by show(_+1) * 56<=_;omega) λd H6 c4 b2 bf a0=>?_;have p6:=a0 _ _ r6 k6;have p7:=a0 _ _ r7 k7;have p8:=a0 _ _ r8 k8;have bc:=p8.1;have bs:∃c o n,d=.os c o 5 0 n:=by
   rcases b2 with⟨_,_,h⟩|⟨c,o,_,h,_⟩
   ·simp at h
   ·exact⟨c,o,_,h⟩
  obtain⟨c',o',n',rfl⟩:=bs;refine eV bc ?_;refine nx ?_;exact⟨rfl,(qD (a3 _ (by simp)) W a0).row bc (by simp),ae,aQ bf (jL a4),(aJ ba.symm).trans p6.1,(aJ bb.symm).trans p7.1,_,c4,aK _ _ _,by rw[am];exact b2.cM λc h=>aJ λe=>p8.2 (by rw[h,e]),p6.2,p7.2,p8.2⟩
 ·rintro r M ⟨g1,I,g3,g4,xs,ob,g5,g6,k6,k7,k8⟩ Z V a7
  rw[mK,cp,cF,a9];have aw:i≠M:=λe=>by rw[e,V] at g3;cases g3
  have b0:k≠M:=λe=>by rw[e,V] at g4;cases g4
  have cd:G≠M:=λe=>by rw[e,V] at g5;cases g5
  have I:=lO I N Z;have g6:=Di g6 I;have b1:=g6.cells;simp only[D.cells] at b1;have bk:∀z,(r.aU i z) k=_:=λz=>(aJ B).trans g4;refine tq (ej f6 f7 f8 g3 bk g5 b1) ?_;intro U Y O C;have dC:(bJ ts lc p).2=0:=by
   obtain⟨j,hj⟩:=Cm ts lc p;exact g1 _ (wK hj)
  have ad:tp ts p.pr (nI ts lc p)=jN ts lc p:=by rw[P9 dC];unfold jN;rw[aC (λh=>h dC)]
  rw[ad] at g6;refine aB _ _ (.inr rfl) ?_ ?_
  ·refine eG f6 ?_
   refine Ql ?_;rw[aJ b0.symm,aJ aw.symm];exact V
  ·refine eG f6 ?_
   rw[sP];have bq:∀c,ob=some c->c≠M:=λc h e=>by
    rcases g6 with⟨g,_⟩|⟨c2,o2,J,_,_,L⟩
    ·rw[g] at h;cases h
    ·rw[h] at J;injection J with J;rw[<-J,e,V] at L;cases L
   have A:H.le (((r.aU i (.row 24 0 1 [[xs]])).aU k (.row 4 0 1 [[.val (.bool true)]])).aU M .hid):=aQ (aQ (aQ I u) q) (iY N a7);simp (maxSteps:=4000000) only[vX,vB,vT,vZ,ij,fh,Fp,yk,AX,gV,fE,fj,↓iR,yb,cU,DJ,ze,By,oi,od,pn,po,ki,j8,kh,ic,D.nilPtr,D.iM,D.iF,fH,Bj,CE,wX,gy,jw,fieldsOf,gU,B6,B7,B8,B9,sL,BT,D.cells,jx,DE,DB,pv,eK,eH,B3,BR,jd,EC,rS,Be,gP,TD.gX,TD.agg,Eo,rU,oe,FI,nZ,pY,pX,Ba,B5,mF,pZ,dR,eT,Value.oneCell',iX,iV,gp,reduceCtorEq,kY,iZ,dN,dY,↓reduceIte,Nat.reduceEqDiff,Int.reduceLE,Int.reduceLT,Int.reduceNeg,Int.reduceToNat,Nat.reduceAdd,Nat.reduceMul,Nat.reduceLeDiff,Nat.reduceMod,Nat.reduceSub,Int.reduceEq,Int.reduceNe,Int.reduceAdd,Int.reduceSub,Int.reduceMul,iW,cR,cO,cE,au,cF,fW,cp,eU,fK,fL,fQ,fR,fP,i64,f6,f7,aJ aw,aJ b0,aJ B.symm];exact⟨_,aF _,A,_,lI (HP (da A (g6.cM λc h=>by rw[aJ (bq c h),aJ (λe=>k7 (by rw[h,e])),aJ (λe=>k6 (by rw[h,e]))])) (aL A)),by rw[ah dC]⟩
 ·rintro e c a r M hj ⟨rfl,h2,T,L,h5⟩ Z V a7
  rw[mK,a9];have bl:i≠M:=λe=>by rw[e,V] at L;cases L
  have bm:k≠M:=λe=>by rw[e,V] at h5;cases h5
  refine eG f6 ?_;refine aB _ _ (.inr rfl) ?_ ?_
  ·refine eG f6 ?_
   exact Ql V
  ·rw[cE,sP]
   have T:=lO T N Z;have A:H.le (r.aU M .hid):=aQ T (iY N a7);have ad:jN ts lc p=[]:=aD h2;simp (maxSteps:=4000000) only[vX,vB,vT,vZ,ij,fh,Fp,yk,AX,gV,fE,fj,↓iR,yb,cU,DJ,ze,By,oi,od,pn,po,ki,j8,kh,ic,D.nilPtr,D.iM,D.iF,fH,Bj,CE,wX,gy,jw,fieldsOf,gU,B6,B7,B8,B9,sL,BT,D.cells,jx,DE,DB,pv,eK,eH,B3,BR,jd,EC,rS,Be,gP,TD.gX,TD.agg,Eo,rU,oe,FI,nZ,pY,pX,Ba,B5,mF,pZ,dR,eT,Value.oneCell',iX,iV,gp,reduceCtorEq,kY,iZ,dN,dY,↓reduceIte,Nat.reduceEqDiff,Int.reduceLE,Int.reduceLT,Int.reduceNeg,Int.reduceToNat,Nat.reduceAdd,Nat.reduceMul,Nat.reduceLeDiff,Nat.reduceMod,Nat.reduceSub,Int.reduceEq,Int.reduceNe,Int.reduceAdd,Int.reduceSub,Int.reduceMul,iW,cR,cO,cE,au,cF,fW,cp,eU,fK,fL,fQ,fR,fP,i64,f6,f7,aJ bl,aJ bm,L,h5,i64];exact⟨_,aF _,A,_,lI (HP iq (aL A)),by rw[ad,af h2] <;> rfl⟩
theorem Ak (ts:List bp):∀(l:List (Int×Int)) (i:Int),(qg ts i l).length<=l.length
 |[],_=>by simp [qg]
 |x::l,i=>by
  have:=Ak ts l (gG ts i x).1;simp only[qg,aV,bx];split <;> simp <;> omega
theorem oF (ts:List bp)(lc:List mQ)(p:gR):(jN ts lc p).length<=32:=by
 unfold jN;by_cases h:(bJ ts lc p).2=0
 ·rw[aC (λa=>a h)]
  obtain⟨b,_,_⟩:=oH h;have c:=(mS b).2.1;have:=Ak ts p.pr (mj lc p.lo).ty;omega
 ·rw[aD h];simp
theorem RS (l:List bp):(!l.any λx=> !x.m)=l.all (·.m):=by
 induction l with
 |nil=>rfl
 |cons x l a=>rw[List.any_cons,jQ,<-a];cases x.m <;> simp
theorem Un (ts:List bp)(lc:List mQ)(p:gR)(H:aA)(n:pI ts)(hl:Gi ts lc)(ha:K3 ts)(hp:cH p.pr.length):aN prog 206 [.seq 5 (ts.map bS),.seq 2 (lc.map eQ),.agg (ee p)] H λd H'=>d=.val (.bool (ml ts lc p))/\H=H':=by
 refine aq (K:=λd=>d=.val (.bool (ml ts lc p))) ?_;have h:=aF H;have k:=oF ts lc p;have c:=Ri (jN ts lc p) 283 (λx=> !x.m) H (by unfold cH;omega) (λx _ j=>Yy x j);have i:=P8 ts lc p H n hl ha hp;simp only[ee] at i;refine dO func206 ntmps206 results206 λs r Q g=>?_;refine tq @ee.eq_1 ?_;intro U Y O C;intro o e;refine Y _ ?_;refine cm 5 e ?_;refine t0 ?_;intro U Y O C;refine i.q ?_;by_cases b:(bJ ts lc p).2=0
 ·rw[ah b]
  have a:ml ts lc p=(!(jN ts lc p).any λx=> !x.m):=by unfold ml;rw[ah b,cV,RS]
  refine t0 ?_;intro U Y O C;refine c.q ?_;refine u0 g ?_;exact zf h (by rw[a])
 ·rw[af b]
  have a:ml ts lc p=false:=by unfold ml;rw[af b,dq]
  refine u0 g ?_;exact zf h (by rw[a])
theorem XL (ts:List bp)(lc:List mQ)(p:gR)(H:aA)(P:pI ts)(hl:Gi ts lc)(ha:K3 ts)(hp:cH p.pr.length):aN prog 284 [.seq 5 (ts.map bS),.seq 2 (lc.map eQ),.agg (ee p)] H λd H'=>d=.seq 1 ((tj ts lc p).map iD)/\H=H':=by
 refine aq (K:=λd=>d=.seq 1 ((tj ts lc p).map iD)) ?_;have E:=oF ts lc p;have D:=P8 ts lc p H P hl ha hp;simp only[ee] at D;obtain⟨l,z⟩:=oX (jN ts lc p);have h:tj ts lc p=l.map (·.r):=by rw[z];rfl
 rw[<-z] at E D;rw[h];clear z h;have o:=lm bS l;refine dO func284 ntmps284 results284 λZ W Q J=>?_;refine tq @ee.eq_1 ?_;intro U Y O C;intro V A;refine Y _ ?_;refine cm 5 A ?_;refine t0 ?_;intro U Y O C;refine D.qs o ?_;intro U Y O C;refine aO l.length (λi s=>s.df=[]/\s.fr 19=.seq 5 (l.map bS)/\s.fr 20=i64 l.length/\s.fr 21=i64 i/\H.le s.H/\∃I,Gl H 3 1 (((l.take i).map (·.r)).map iD) (s.fr 7) s.H I) ⟨rfl,rfl,rfl,rfl,aF _,none,eB _ _ _ _⟩ ?_;rintro i s X ⟨k,j,b,c,w,I,B⟩;have R:=aX i;have y:=aZ i;by_cases a:i<l.length
 case neg=>
  have G:=lF i l.length;rw[bK (by omega)] at B;refine ur J (bQ b c G) k ?_;exact⟨_,aF _,w,_,da w B,rfl⟩
 have G:=lT i l.length;have S:=wS i;have g:(l.map bS)[i]?=some (bS l[i]):=by rw[bg,az a];rfl
 have q:((l.take (i+1)).map (·.r)).map iD=((l.take i).map (·.r)).map iD++[iD l[i].r]:=by rw[bw a];simp only[bI,cC,fw]
 obtain⟨u,N⟩:=oX l[i];rw[<-N] at g q;simp only[bS] at g;refine tq (bG j b c o G g R (av y a)) ?_;intro U Y O C;intro L v;refine Y _ ?_;refine cm 11 v ?_;refine t0 ?_;intro U Y O C;refine ax (e:=3) fk rfl fk rfl yv rfl (by decide) w B (new:=[iD u.r]) (by exact⟨rfl,rfl⟩) (by rw[aS,aS,bX];show(_+1) * 8<=_;omega) λd T F n t M=>?_;rw[<-q] at n;refine tn (av c S) ?_;exact⟨a,k,j,b,rfl,t,F,n⟩
end Go.Proofs.YtffgfafbffdgaaaGreatDoor
