/- Lemmas and contracts of functions, several texts in one. -/
import Derived.Test.YtffgfafbffdgaaaGreatDoorR32
set_option maxRecDepth 100000
set_option maxHeartbeats 4000000
set_option linter.all false
namespace Go.Proofs.YtffgfafbffdgaaaGreatDoor
open Go.RowKit
open Tryz
variable {b:bn}
theorem CR (l:List ByteArray)(t:ByteArray)(H:aA)(hl:cH l.length):aN prog 108 [.seq 1 (l.map sD),bC t] H λd H'=>d=i64 (if rQ l t<l.length then (rQ l t:Int) else -1)/\H=H':=by
 have c:=lm sD l;unfold cH at hl;refine dO func108 ntmps108 results108 λM K Q A=>?_;refine tn @bC.eq_1 ?_;refine aO l.length (λi s=>s.df=[]/\s.fr 0=.seq 1 (l.map sD)/\s.fr 1=.val (.string t)/\s.fr 5=i64 i/\s.H=H/\∀(k:Nat) (h:k<l.length),k<i->l[k]≠t) ⟨rfl,rfl,rfl,rfl,rfl,λk _ h=>absurd h (by omega)⟩ ?_;rintro i s L ⟨g,m,n,o,v,w⟩;have B:=aX i;have f:=aZ i;by_cases a:i<l.length
 case neg=>
  have r:=lF i l.length;have I:¬rQ l t<l.length:=λh=>by
   obtain⟨k,y,e⟩:=kV (mN.1 h);exact w k y (by omega) e
  refine ur A (cw m n o r c) g ?_;exact⟨_,aF _,by rw[aC I] <;> rfl,v.symm⟩
 have u:(i:Int)<(l.length:Int):=by omega
 have r:((i:Int)<(l.length:Int))=True:=aG u;have j:=fg a;have J:=wS i;by_cases p:l[i]=t
 ·have z:(l[i].toList=t.toList)=True:=aG (by rw[p])
  have x:=OU a p w;refine ur A (bG m n o r c j B (bQ f a z)) o ?_;exact⟨_,aF _,by rw[x,aD a] <;> rfl,v.symm⟩
 ·have z:(l[i].toList=t.toList)=False:=aI λh=>p (eA.1 h)
  refine tq (bG m n o r c j B (cA f a z J)) ?_;intro U Y O C;refine⟨a,g,m,n,rfl,v,λk y G=>?_⟩;by_cases E:k=i
  ·subst E;exact p
  ·exact w k y (by omega)
def RkI (l:List (Int×Int)) (n:Int) (H:aA) (i:Nat) (s:St):Prop:=s.df=[]/\s.fr 0=.seq 2 (l.map pD)/\s.fr 1=i64 n/\s.fr 5=i64 i/\s.H=H/\ry n none l=ry n (qE l i) (l.drop i)
theorem OW (l:List (Int×Int))(n:Int)(H:aA)(hl:l.length<=140737488351232):aN prog 109 [.seq 2 (l.map pD),i64 n] H λd H'=>d=i64 (fc l n)/\H=H':=by
 have h:=lm pD l;refine dO func109 ntmps109 results109 λw0 g0 Q v=>?_;by_cases hb:65535<l.length
 ·have q0:=nT ((65535:Int)<(l.length:Int))
  have Z:fc l n=15:=aD hb;rw[Z] at v;refine ur v (av h q0) h ?_;exact⟨_,aF _,by first|rfl|exact⟨rfl,rfl⟩⟩
 have q0:=nF ((65535:Int)<(l.length:Int));have Z:fc l n=ry n none l:=aC hb;rw[Z] at v;refine tn (av h q0) ?_;refine aO l.length (RkI l n H) ⟨rfl,rfl,rfl,rfl,rfl,rfl⟩ ?_;rintro i s hi ⟨k,p,r,w,M,f⟩;have y:=aX i;have o:=aZ i;by_cases g:i<l.length
 case neg=>
  have u:=lF i l.length;rw[cb (show l.length<=i by omega)] at f;refine ur v (cw p r w u h) k ?_;exact⟨_,aF _,by rw[f] <;> rfl,M.symm⟩
 have u:=lT i l.length;have m:=il g;have w3:=wS i;rw[cL g] at f;simp only[ry] at f;have fin:∀(e:Nat),ry n none l=e->∃H',H'.le s.H/\i64 e=i64 (ry n none l)/\H=H':=λe he=>⟨_,aF _,by rw[he],M.symm⟩;obtain⟨a,ha⟩:=oX l[i].1;obtain⟨c,N⟩:=oX l[i].2;rw[<-ha,<-N] at m f;by_cases h1:a<0
 ·rw[aD (by omega)] at f
  have x:(a<0)=True:=aG h1;refine ur v (bG p r w u m y o (bQ g h x)) k ?_;exact fin 3 f
 have x:(a<0)=False:=aI h1;by_cases h2:n<=a
 ·rw[aD (by omega)] at f
  have z:(n<=a)=True:=aG h2;refine ur v (bG p r w u m y o (cA g h x z)) k ?_;exact fin 3 f
 have z:(n<=a)=False:=aI h2;by_cases h3:c<0
 ·rw[aD (by omega)] at f
  have G:(c<0)=True:=aG h3;refine ur v (bG p r w u m y o (cw g h x z G)) k ?_;exact fin 3 f
 have G:(c<0)=False:=aI h3;by_cases h4:n<=c
 ·rw[aD (by omega)] at f
  have I:(n<=c)=True:=aG h4;refine ur v (bG p r w u m y o (eP g h x z G I)) k ?_;exact fin 3 f
 have I:(n<=c)=False:=aI h4;rw[aC (by omega)] at f;by_cases S:a=c
 ·rw[aD S] at f
  have K:(a=c)=True:=aG S;refine ur v (bG p r w u m y o (ej g h x z G I K)) k ?_;exact fin 2 f
 have K:(a=c)=False:=aI S;rw[aC S] at f;by_cases a0:i=0
 ·have L:=nF ((0:Int)<(i:Int))
  have J:qE l i=none:=by rw[a0];rfl
  rw[J] at f;simp only[GD,dN] at f;refine tn (bG p r w u m y o (bG g h x z G I K (av L w3))) ?_;exact⟨g,k,p,r,rfl,M,by rw[f,qE,az g]⟩
 obtain⟨j,hj⟩:∃j,i=j+1:=⟨i - 1,by omega⟩;have t:j<l.length:=by omega
 have L:=nT ((0:Int)<(i:Int));have B:=il t;have T:IntKind.i64.wrap ((i:Int) - 1)=(j:Int):=by rw[aP (by omega)];omega
 have A:=aZ j;have E:=aX j;have J:qE l i=some l[j]:=by rw[hj,qE,az t]
 rw[J] at f;simp only[GD,dF,mH,<-ha,<-N] at f;by_cases h7:a<l[j].1
 ·rw[aC (by omega)] at f
  have P:(a<l[j].1)=True:=aG h7;refine ur v (bG p r w u m y o (bG g h x z G I K (ej L T B A E t P))) k ?_;exact fin 21 f
 have P:(a<l[j].1)=False:=aI h7;by_cases V:a=l[j].1
 ·by_cases h9:c<=l[j].2
  ·rw[aC (by omega)] at f
   have R:(a=l[j].1)=True:=aG V;have p9:(c<=l[j].2)=True:=aG h9;refine ur v (bG p r w u m y o (bG g h x z G I K (bG L T B A E t P (av R p9)))) k ?_;exact fin 21 f
  ·rw[aD (by omega)] at f
   have R:(a=l[j].1)=True:=aG V;have p9:(c<=l[j].2)=False:=aI h9;refine tn (bG p r w u m y o (bG g h x z G I K (bG L T B A E t P (bQ R p9 w3)))) ?_;exact⟨g,k,p,r,rfl,M,by rw[f,qE,az g]⟩
 ·rw[aD (by omega)] at f
  have R:(a=l[j].1)=False:=aI V;refine tn (bG p r w u m y o (bG g h x z G I K (bG L T B A E t P (av R w3)))) ?_;exact⟨g,k,p,r,rfl,M,by rw[f,qE,az g]⟩
theorem Gl.gy {a:aA}{e:TypeId}{sz:Nat}{els:List (List D)}{d:D}{H:aA}{ob:Option Nat}(h:Gl a e sz els d H ob):gy H sz d (·=els):=by
 rcases h with⟨_,rfl,rfl⟩|⟨c,o,_,rfl,_,f⟩
 ·simp [Go.Proofs.YtffgfafbffdgaaaGreatDoor.gy]
 ·exact Iv f rfl
theorem Wh (l:List ByteArray)(x:ByteArray)(d:D)(H a:aA)(ob:Option Nat)(hl:cH l.length)(hg:Gl a 9 1 (l.map sD) d H ob):aN prog 108 [d,bC x] H λd H'=>d=i64 (if rQ l x<l.length then (rQ l x:Int) else -1)/\H=H':=
 qf ((CR l x .none hl).mono λ_ _ h=>h.1) rfl (MM (Q4 hg.gy) (iU _ _))
theorem UH (l:List ByteArray)(i:Nat):List.take i (List.map sD l)=List.map sD (l.take i):=(iK).symm
theorem SS (b:bn)(H:aA)(sb:Sb b):aN prog 51 [.agg (cu b)] H λd H'=>d=i64 (nC b)/\H=H':=by
 refine aq (K:=λd=>d=i64 (nC b)) ?_;have aM:=aF H;obtain⟨o1,o2,⟨o3,o4⟩,o5,o6,o7⟩:=sb.ok;have u:=va b.nm H sb.nm;have a6:=OW b.ol b.rg.length H o2;have a4:=OX b.ty b.rg.length H o3 o4;have xv:=sb.rs;have ak:=sb.ls;have J:=lm sD b.rg;have j:=lm eQ b.lc;have aa:=lm bS b.ty;have a7:=lm dM b.bl;unfold cH at o1 o5 o6;obtain⟨y,m⟩:=oX (nC b);rw[<-m];unfold nC kP th at m;obtain⟨I,hI⟩:=oX (eY b.nm);rw[<-hI] at m u;clear hI;obtain⟨R,hR⟩:=oX (fc b.ol b.rg.length);rw[<-hR] at m a6;obtain⟨T,hT⟩:=oX (rT b.ty b.rg.length);rw[<-hT] at m a4;clear hR hT;rw[jB];refine dO func51 ntmps51 results51 λw0 g0 Q w=>?_;refine t0 ?_;intro U Y O C;intro c1 ad;refine Y _ ?_;refine cm 1 ad ?_;refine t0 ?_;intro U Y O C;refine u.q ?_;cases I
 ·have e:y=12:=m
  exact oz w trivial aM e
 rw[aC (λh=>by cases h)] at m;by_cases h1:65535<b.rg.length
 ·have q1:=nT ((65535:Int)<(b.rg.length:Int))
  have e:y=15:=by rw[m,aD h1];rfl
  exact oz w (av q1 J) aM e
 have q1:=nF ((65535:Int)<(b.rg.length:Int));rw[aC h1] at m;refine tn (av q1 J) ?_;refine aO b.rg.length (λi s=>s.df=[]/\s.fr 1=.rp [bC b.nm,.seq 1 (b.rg.map sD),.seq 2 (b.ol.map pD),.seq 5 (b.ty.map bS),.seq 2 (b.lc.map eQ),i64 b.ag,.seq 7 (b.bl.map dM)]/\s.fr 3=i64 i/\s.H=H/\rY [] b.rg=rY (b.rg.take i) (b.rg.drop i)) ⟨rfl,rfl,rfl,rfl,rfl⟩ ?_;rintro i s hi ⟨a1,t,f3,hH,f⟩;have V:=aX i;have o:=aZ i;have a:H.le s.H:=by rw[hH];exact aF _
 by_cases c:i<b.rg.length
 case pos=>
  have k:(i:Int)<(b.rg.length:Int):=by omega
  have a8:(i:Int)<=(b.rg.length:Int):=by omega
  have Z:((i:Int)<(b.rg.length:Int))=True:=aG k;have w3:=wS i;have g:=fg c;have P:=xv b.rg[i] (ao c);rw[cL c,rY] at f;have a2:=bw c;obtain⟨x,a5⟩:=oX b.rg[i];rw[<-a5] at g P f a2;have B:∀z:Int,z≠0->rY [] b.rg=z->y=z:=λz hz h=>by rw[h,aD hz] at m;exact m
  have u:=va x s.H P;simp only[bC] at u;obtain⟨v,hv⟩:=oX (eY x);rw[<-hv] at u f;refine tq (bG t f3 J Z g V o (av c k)) ?_;intro U Y O C;refine u.mono ?_;rintro d _ ⟨rfl,E⟩;rw[E] at a;cases v
  ·rw[aD rfl] at f
   have e:=B 12 (by decide) f;exact oz w trivial a e
  rw[aC (λh=>by cases h)] at f;have r:∀H1,cP prog 108 [.seq 1 ((b.rg.take i).map sD),.val (.string x)] H1 λd A=>A=aA.none/\d=i64 (if rQ (b.rg.take i) x<(b.rg.take i).length then (rQ (b.rg.take i) x:Int) else -1):=λH1=>an λab am=>CR (b.rg.take i) x ab (by unfold cH;rw[bX];omega);have tY:=UH b.rg i;have a9:=dj (l:=List.map sD (b.rg.take i));by_cases hm:x∈b.rg.take i
  ·have G:=mN.2 hm
   rw[aD G] at f r;have e:=B 21 (by decide) f;obtain⟨n,hn⟩:∃n:Int,n=(rQ (b.rg.take i) x:Int):=⟨_,rfl⟩;rw[<-hn] at r;have qn:=nT (n≥0);refine t0 ?_;intro U Y O C;(try refine bW ?_);refine dE (λ_ _ d A=>A=.none/\d=i64 n) λU Y=>?_;refine dst (bG t f3 J g V o c (cA k a8 tY a9)) ?_;intro U Y O C;refine⟨r _,?_⟩;refine nx ?_;exact oz w qn a e
  ·have G:¬rQ (b.rg.take i) x<(b.rg.take i).length:=λh=>hm (mN.1 h)
   rw[aC G] at f r;refine t0 ?_;intro U Y O C;(try refine bW ?_);refine dE (λ_ _ d A=>A=.none/\d=i64 (-1)) λU Y=>?_;refine dst (bG t f3 J g V o c (cA k a8 tY a9)) ?_;intro U Y O C;refine⟨r _,?_⟩;refine nx ?_;refine tn (av f3 w3) ?_;exact⟨c,a1,t,rfl,E▸hH,by rw[f,a2]⟩
 have Z:=lF i b.rg.length;rw[cb (by omega),rY] at f;rw[f,aC (λh=>h rfl)] at m;clear f;rw[<-hH] at a6 a4;refine tq (cA t f3 J Z) ?_;intro U Y O C;refine a6.mono ?_;rintro d _ ⟨rfl,E⟩;rw[E] at a a4;by_cases h2:R=0
 case neg=>
  have L:=nF ((R:Int)=0);have e:y=R:=by rw[m,aD h2]
  exact oz w L a e
 have L:=nT ((R:Int)=0);rw[aC (λh=>h h2)] at m;refine tq (bQ t L J) ?_;intro U Y O C;refine a4.mono ?_;rintro d _ ⟨rfl,a0⟩;rw[a0] at a;by_cases h3:T=0
 case neg=>
  have M:=nF ((T:Int)=0);have e:y=T:=by rw[m,aD h3]
  exact oz w M a e
 have M:=nT ((T:Int)=0);rw[aC (λh=>h h3)] at m;by_cases h4:65535<b.lc.length
 ·have q4:=nT ((65535:Int)<(b.lc.length:Int))
  have e:y=15:=by rw[m,aD h4];rfl
  exact oz w (cA t M q4 j) a e
 have q4:=nF ((65535:Int)<(b.lc.length:Int));rw[aC h4] at m;refine tq (cA t M q4 j) ?_;intro U Y O C;clear hi V o Z c f3;refine aO b.lc.length (λi s=>s.df=[]/\s.fr 1=.rp [bC b.nm,.seq 1 (b.rg.map sD),.seq 2 (b.ol.map pD),.seq 5 (b.ty.map bS),.seq 2 (b.lc.map eQ),i64 b.ag,.seq 7 (b.bl.map dM)]/\s.fr 6=i64 i/\H.le s.H/\∃ob,Gl H 9 1 (((b.lc.take i).map (·.nm)).map sD) (s.fr 5) s.H ob/\oV b.ty.length [] b.lc=oV b.ty.length ((b.lc.take i).map (·.nm)) (b.lc.drop i)) ⟨a1,t,rfl,a,none,eB _ _ _ _,rfl⟩ ?_;clear a1 t a;rintro i s hi ⟨a1,t,N,a,ob,hg,f⟩;have V:=aX i;have o:=aZ i;by_cases c:i<b.lc.length
 case neg=>
  have Z:=lF i b.lc.length;rw[cb (by omega),oV] at f;rw[f,aC (λh=>h rfl:¬((0:Int)≠0))] at m;by_cases h2:b.ag<0
  ·have L:(b.ag<0)=True:=aG h2
   have e:y=3:=by rw[m,aD (.inl h2:b.ag<0\/(b.lc.length:Int)<b.ag)];rfl
   exact oz w (cw t N j Z L) a e
  have L:(b.ag<0)=False:=aI h2;by_cases h3:(b.lc.length:Int)<b.ag
  ·have M:((b.lc.length:Int)<b.ag)=True:=aG h3
   have e:y=3:=by rw[m,aD (.inr h3:b.ag<0\/(b.lc.length:Int)<b.ag)];rfl
   exact oz w (eP t N j Z L M) a e
  have M:((b.lc.length:Int)<b.ag)=False:=aI h3;rw[aC (by omega:¬(b.ag<0\/(b.lc.length:Int)<b.ag)),aC (λh=>h rfl:¬((0:Int)≠0))] at m;by_cases p:b.bl.length=0
  ·have p1:=nT ((b.bl.length:Int)=0)
   have e:y=15:=m.trans (aD (.inl p));exact oz w (bG t N j Z L M p1 a7) a e
  have p1:=nF ((b.bl.length:Int)=0);by_cases p2:65535<b.bl.length
  ·have p3:=nT ((65535:Int)<(b.bl.length:Int))
   have e:y=15:=m.trans (aD (.inr p2));exact oz w (bG t N j Z L M p1 (av p3 a7)) a e
  have p3:=nF ((65535:Int)<(b.bl.length:Int));have e:y=0:=m.trans (aC (by omega));exact oz w (bG t N j Z L M p1 (av p3 a7)) a e
 have k:(i:Int)<(b.lc.length:Int):=by omega
 have Z:((i:Int)<(b.lc.length:Int))=True:=aG k;have w3:=wS i;have g:=O8 c;have P:=ak b.lc[i] (ao c);rw[cL c,oV] at f;have a2:=bw c;obtain⟨S,hS⟩:=oX ((b.lc.take i).map (·.nm));have ap:S.length=i:=by rw[hS,aS,bX];omega
 have a3:(b.lc.take (i+1)).map (·.nm)=S++[b.lc[i].nm]:=by rw[a2,bI,<-hS];rfl
 rw[<-hS] at hg f;obtain⟨x,a5⟩:=oX b.lc[i];rw[<-a5] at g P f a3;clear a5 hS a2;obtain⟨x,xt⟩:=x;simp only at P f a3;simp only[eQ,bC] at g;have u:=va x s.H P;simp only[bC] at u;obtain⟨v,hv⟩:=oX (eY x);rw[<-hv] at u f;have B:∀z:Int,z≠0->oV b.ty.length [] b.lc=z->y=z:=λz hz h=>by rw[h,aD hz,aD hz] at m;exact m
 refine tq (bG t N j Z g V o (av c k)) ?_;intro U Y O C;refine u.mono ?_;rintro d _ ⟨rfl,E⟩;cases v
 ·rw[aD rfl] at f
  have e:=B 12 (by decide) f;rw[E] at a;exact oz w trivial a e
 rw[aC (λh=>by cases h)] at f;rw[E] at hg a;have r:=Wh S x (s.fr 5) _ H ob (by unfold cH;omega) hg;simp only[bC] at r;by_cases hm:x∈S
 ·have G:=mN.2 hm
  rw[aD G] at f r;have e:=B 21 (by decide) f;obtain⟨n,hn⟩:∃n:Int,n=(rQ S x:Int):=⟨_,rfl⟩;rw[<-hn] at r;have qn:=nT (n≥0);refine tq (bG t N j g V o c k) ?_;intro U Y O C;refine r.mono ?_;rintro d _ ⟨rfl,a0⟩;rw[a0] at a;exact oz w qn a e
 have G:¬rQ S x<S.length:=λh=>hm (mN.1 h);rw[aC G] at f r;refine tq (bG t N j g V o c k) ?_;intro U Y O C;refine r.mono ?_;rintro d _ ⟨rfl,a0⟩;rw[a0] at hg a;refine t0 ?_;intro U Y O C;(try refine bW ?_);by_cases h2:xt<0
 ·have L:(xt<0)=True:=aG h2
  rw[aD (by unfold bN;omega)] at f;have e:=B 3 (by decide) f;refine dE (λ_ _ _ _=>False) λU Y=>?_;refine dst (bG t N j g V o c (av k L)) ?_;intro U Y O C;exact oz w trivial a e
 have L:(xt<0)=False:=aI h2;by_cases h3:(b.ty.length:Int)<=xt
 ·have M:(xt≥(b.ty.length:Int))=True:=aG h3
  rw[aD (by unfold bN;omega)] at f;have e:=B 3 (by decide) f;refine dE (λ_ _ _ _=>False) λU Y=>?_;refine dst (bG t N j g V o c (cA k L M aa)) ?_;intro U Y O C;exact oz w trivial a e
 have M:(xt≥(b.ty.length:Int))=False:=aI h3;rw[aC (by unfold bN;omega)] at f;refine dE (λ_ _ _ _=>False) λU Y=>?_;refine dst (bG t N j g V o c (cA k L M aa)) ?_;intro U Y O C;refine tq (bG t N j g V o c k) ?_;intro U Y O C;refine ax (e:=9) kR rfl kR rfl G5 rfl (by decide) a hg (new:=[sD x]) (by exact⟨rfl,rfl⟩) (by rw[aS];show(_+1) * 16<=_;omega) λd H6 al ae ac _=>?_;refine tq (av N w3) ?_;intro U Y O C;refine⟨c,a1,t,rfl,ac,al,?_,by rw[f,a3]⟩;rw[a3,bI];exact ae
theorem Ha (b:bn)(H:aA)(sb:Sb b)(a0:nC b=0->Ck b):aN prog 17 [.agg (cu b)] H λd H'=>d=i64 (oM b)/\H=H':=by
 refine aq (K:=λd=>d=i64 (oM b)) ?_;have aM:=aF H;obtain⟨o1,o2,⟨o3,o4⟩,o5,o6,o7⟩:=sb.ok;have Dl:=sb.ts;have I:=SS b H sb;have a1:=lm dM b.bl;unfold cH at o6;obtain⟨y,u⟩:=oX (oM b);rw[<-u];unfold oM at u;obtain⟨D0,hD⟩:=oX (nC b);rw[<-hD] at I a0 u;clear hD;rw[jB] at I ⊢;refine dO func17 ntmps17 results17 λw0 g0 Q P=>?_;refine t0 ?_;intro U Y O C;intro c1 a8;refine Y _ ?_;refine cm 1 a8 ?_;refine t0 ?_;intro U Y O C;refine I.q ?_;by_cases T:D0=0
 case neg=>
  have q0:(D0=0)=False:=aI T;have e:y=D0:=u.trans (aD T);refine ur P q0 trivial ?_;exact zf aM (by rw[e])
 have q0:(D0=0)=True:=aG T;rw[aC (λh=>h T)] at u;have ck:=a0 T;refine tn q0 ?_;refine aO b.bl.length (λi s=>s.df=[]/\s.fr 1=.rp [bC b.nm,.seq 1 (b.rg.map sD),.seq 2 (b.ol.map pD),.seq 5 (b.ty.map bS),.seq 2 (b.lc.map eQ),i64 b.ag,.seq 7 (b.bl.map dM)]/\s.fr 4=i64 i/\s.H=H/\rn b b.bl=rn b (b.bl.drop i)) ⟨rfl,rfl,rfl,rfl,rfl⟩ ?_;rintro i s hi ⟨m,t,G,z,g⟩;have hx:=aX i;have a7:=aZ i;have a:H.le s.H:=by rw[z];exact aM
 by_cases l:i<b.bl.length
 case neg=>
  have q6:=lF i b.bl.length;rw[cb (by omega)] at g;have e:y=0:=by rw[u,g];rfl
  exact oz P (cA t G a1 q6) a e
 have R:(i:Int)<(b.bl.length:Int):=by omega
 have q6:((i:Int)<(b.bl.length:Int))=True:=aG R;have w3:=wS i;have J:=Mv l;have dC:=o7 b.bl[i] (ao l);have M:=Dl b.bl[i] (ao l);rw[cL l,rn] at g;obtain⟨x,a4⟩:=oX b.bl[i];rw[<-a4] at J dC M g;clear a4;obtain⟨f,B⟩:=x;obtain⟨⟨ye,a2⟩,a3⟩:=dC;simp only at ye a2 a3 g M;have tY:=S9 b B H ck a3 M;have c:∀s∈f,∀H1,cP prog 52 [.agg (cu b),.agg (ji s)] H1 λd A=>A=aA.none/\d=i64 (yY b s):=λs hs H1=>an λa5 ab=>S8 b s a5 ck (a2 s hs);rw[jB] at tY c;have o:=lm ji f;unfold cH at ye;simp only[dM] at J;simp only[G2] at tY;refine tq (bG t G a1 q6 J hx a7 (av l R)) ?_;intro U Y O C;intro c5 a9;refine Y _ ?_;refine cm 5 a9 ?_;by_cases h1:65535<f.length
 ·have q1:=nT ((65535:Int)<(f.length:Int))
  have e:y=15:=by rw[u,g,aD h1]
  exact oz P (av o q1) a e
 have q1:=nF ((65535:Int)<(f.length:Int));rw[aC h1] at g;refine tn (av o q1) ?_;refine aO f.length (λj w=>w.df=[]/\w.fr 1=.rp [bC b.nm,.seq 1 (b.rg.map sD),.seq 2 (b.ol.map pD),.seq 5 (b.ty.map bS),.seq 2 (b.lc.map eQ),i64 b.ag,.seq 7 (b.bl.map dM)]/\w.fr 4=i64 i/\w.fr 5=.rp [.seq 11 (f.map ji),i64 B.k,.seq 1 (B.tg.map iD),.seq 4 (B.ar.map db),i64 B.pl.lo,.seq 2 (B.pl.pr.map pD),bC B.nm]/\w.fr 6=i64 j/\w.H=H/\rZ b f=rZ b (f.drop j)) ⟨m,t,G,rfl,rfl,z,rfl⟩ ?_;clear m t G z a;rintro j w hj ⟨m,t,G,f5,f6,z,r⟩;have aa:=aX j;have a6:=aZ j;have a:H.le w.H:=by rw[z];exact aM
 by_cases n:j<f.length
 case pos=>
  have S:(j:Int)<(f.length:Int):=by omega
  have p6:((j:Int)<(f.length:Int))=True:=aG S;have w4:=wS j;have L:=QB n;have c:=c f[j] (ao n) w.H;rw[cL n,rZ] at r;obtain⟨v,hv⟩:=oX f[j];rw[<-hv] at L c r;clear hv;obtain⟨E,V⟩:=oX (yY b v);rw[<-V] at c r;clear V;simp only[ji] at L c;refine tq (cA f5 f6 o p6) ?_;intro U Y O C;(try refine bW ?_);refine dE (λ_ _ d A=>A=.none/\d=i64 E) λU Y=>?_;refine dst (bG t f5 f6 o L aa a6 (av n S)) ?_;intro U Y O C;refine⟨c,?_⟩;refine nx ?_;by_cases p:E=0
  ·have N:(E=0)=True:=aG p
   rw[aC (λh=>h p)] at r;refine tn (bQ f6 N w4) ?_;exact⟨n,m,t,G,f5,rfl,z,r⟩
  ·have N:(E=0)=False:=aI p
   rw[aD p] at r;have e:y=E:=by rw[u,g,r,aD p]
   exact oz P N a e
 have p6:=lF j f.length;rw[cb (by omega),rZ] at r;rw[r,aC (λh=>h rfl)] at g;clear r;obtain⟨E,V⟩:=oX (tw b B);rw[<-V] at tY g;clear V;rw[<-z] at tY;refine tq (cw t f5 f6 o p6) ?_;intro U Y O C;refine tY.mono ?_;rintro d _ ⟨rfl,Z⟩;by_cases p:E=0
 ·have N:(E=0)=True:=aG p
  rw[aC (λh=>h p)] at g;refine tn (bQ G N w3) ?_;exact⟨l,m,t,rfl,by rw[<-Z];exact z,g⟩
 ·have N:(E=0)=False:=aI p
  rw[aD p] at g;have e:y=E:=by rw[u,g]
  rw[Z] at a;exact oz P N a e
structure Ts (b:bn):Prop where
 ok:xM b
 sk:Sm b
 cn:bu (fD b)<=60
 lc:b.lc.length<=20
 rg:b.rg.length<=10
 ch:oM b=0
theorem NN:∀l:List im,bu (l.map λx=>(x.st.length,x.tm.tg))<=sm vw l
 |[]=>bh _
 |x::l=>by
  have:=NN l;have e:vw x=1+x.st.length+x.tm.tg.length+x.tm.pl.pr.length+x.tm.nm.size+sm yH x.st+uZ x.tm.ar:=rfl;simp only[cC,bu,sm];omega
theorem Sm.cn (h:Sm b):bu (fD b)<=3000:=by
 have a:=h.tt;rw[qk] at a;have c:=NN b.bl;have e:fD b=b.bl.map λx=>(x.st.length,x.tm.tg):=rfl;rw[e];omega
theorem Ts.tb (h:Ts b):Tb b where
 ok:=h.ok
 sb:=Pm h.ok h.sk
 ck:=NG h.ok h.sk (nU h.ch).1
 ch:=h.ch
 cn:=by have:=h.cn;omega
 lc:=h.lc
 rg:=h.rg
 ar:=λx hx=>by
  have h1:=h.sk.tt;rw[qk] at h1;have h2:=jh (f:=vw) hx;have e:vw x=1+x.st.length+x.tm.tg.length+x.tm.pl.pr.length+x.tm.nm.size+sm yH x.st+uZ x.tm.ar:=rfl;have e2:uZ x.tm.ar=x.tm.ar.length+sm (λo=>o.pl.pr.length) x.tm.ar:=rfl;refine⟨λs hs=>?_,by omega⟩;have h3:=jh (f:=yH) hs;have e3:yH s=s.pl.pr.length+s.rv.pl.pr.length+uZ s.rv.ar:=rfl;have e4:uZ s.rv.ar=s.rv.ar.length+sm (λo=>o.pl.pr.length) s.rv.ar:=rfl;omega
theorem Wd (b:bn)(H:aA)(h:bu (fD b)<=1000000):aN prog 16 [.agg (cu b)] H λd H'=>d=i64 (bu (fD b))/\H=H':=by
 have h:=OY (gB b) H (by rw[F3];exact h);rwa[Dh,F3] at h
theorem Pt (b:bn)(H:aA)(ok:xM b):aN prog 4 [.agg (cu b)] H λd H'=>(d=i64 1\/(d=i64 0/\Ts b))/\H=H':=by
 refine aq (K:=λd=>d=i64 1\/(d=i64 0/\Ts b)) ?_;have f:=aF H;have j:=Ps b H ok;have c:=λe:Sm b=>Wd b H (by have:=e.cn;omega);have a:=λe:Sm b=>Ha b H (Pm ok e) λp=>NG ok e p;have g:=lm eQ b.lc;have i:=lm sD b.rg;obtain⟨l,s⟩:=oX (oM b);rw[<-s] at a;unfold cu at j c a ⊢;refine dO func4 ntmps4 results4 λz y Q h=>?_;refine t0 ?_;intro U Y O C;intro x o;refine Y _ ?_;refine cm 1 o ?_;refine t0 ?_;intro U Y O C;refine j.mono ?_;rintro d _ ⟨p,rfl⟩;rcases p with rfl|⟨rfl,e⟩
 ·refine u0 h ?_
  exact zf f (.inl rfl)
 have c:=c e;have a:=a e;refine t0 ?_;intro U Y O C;refine c.q ?_;by_cases t:bu (fD b)<=60
 case neg=>
  have k:=nT ((60:Int)<(bu (fD b):Int));refine ur h k trivial ?_;exact zf f (.inl rfl)
 have k:=nF ((60:Int)<(bu (fD b):Int));by_cases u:b.lc.length<=20
 case neg=>
  have m:=nT ((20:Int)<(b.lc.length:Int));refine ur h (bQ k m g) trivial ?_;exact zf f (.inl rfl)
 have m:=nF ((20:Int)<(b.lc.length:Int));by_cases v:b.rg.length<=10
 case neg=>
  have r:=nT ((10:Int)<(b.rg.length:Int));refine ur h (cw k m r g i) trivial ?_;exact zf f (.inl rfl)
 have r:=nF ((10:Int)<(b.rg.length:Int));refine tq (cw k m r g i) ?_;intro U Y O C;refine a.q ?_;by_cases n:l=0
 ·refine ur h n trivial ?_
  exact⟨_,aF _,f,_,aL f,.inr ⟨rfl,ok,e,t,u,v,by rw[<-s];exact n⟩⟩
 ·have w:(l=0)=False:=aI n
  refine ur h w trivial ?_;exact zf f (.inl rfl)
theorem iG (n:Int):(fy n).length<=10:=(eX _ (by have:=Ed n;omega)).2
theorem JC {a c:Type}(f:a->List c):∀l:List a,(l.flatMap f).length=sm (λx=>(f x).length) l
 |[]=>rfl
 |x::l=>by rw[lz,aV,JC f l];rfl
theorem yc {a c:Type}{f:a->List c}{g:a->Nat}(k:Nat)(h:∀x,(f x).length<=k * g x)(l:List a):(l.flatMap f).length<=k * sm g l:=by
 rw[JC,<-BA];exact vq λx _=>h x
theorem Om {a:Type}{f:a->List UInt8}{g:a->Nat}(k:Nat)(h:∀x,(f x).length<=k * g x)(l:List a):(eW f l).length<=10+k * sm g l:=by
 unfold eW;rw[aV];have:=yc k h l;have:=iG l.length;omega
theorem Fj {a:Type}{f:a->List UInt8}(k:Nat)(h:∀x,(f x).length<=k)(l:List a):(eW f l).length<=10+k * l.length:=by
 have:=Om (f:=f) (g:=λ_=>1) k (λx=>by rw[jZ];exact h x) l;rwa[Az] at this
theorem Jj (p:gR):(yr p).length<=20+10 * p.pr.length:=by
 unfold yr;rw[aV];have:=iG p.lo;have:=Fj (f:=Ut) 10 (λx=>iG _) p.pr;omega
theorem ZG (o:gq):(TM o).length<=21 * (1+o.pl.pr.length):=by
 have a:=Jj o.pl;have c:=(eX (VI o.n) (VJ o.n).1).2;unfold TM;rw[bx];split
 ·omega
 ·split
  ·omega
  ·split
   ·rw[eE];omega
   ·rw[dX];omega
theorem PQ (f:Bool)(l:List gq):(uX f l).length<=10+21 * uZ l:=by
 have a:=yc (f:=TM) 21 ZG l;rw[E2,Az] at a;have c:=iG l.length;unfold uX uZ;rw[aV];split
 ·omega
 ·rw[dX];omega
theorem ZR (s:qO):(MD s).length<=90 * (1+yH s):=by
 have a:=Jj s.pl;have c:=Jj s.rv.pl;have e:=PQ (decide (s.rv.k=4)) s.rv.ar;have f:=iG s.rv.rg;have g:=iG s.lo;have h:(Wv s.rv).length<=31+10 * s.rv.pl.pr.length:=by
  unfold Wv;split
  ·rw[aV,bx];omega
  ·rw[dX];omega
 have i:(Wu s.rv).length<=1:=by
  unfold Wu;split
  ·exact bh _
  ·exact jY _
 unfold MD yH;rw[bx];split
 ·omega
 ·split
  ·rw[aV,bx,aV,aV];omega
  ·rw[dX];omega
theorem Z4 (t:List ByteArray)(m:ra):(MI t m).length<=90 * (1+m.tg.length+m.pl.pr.length+uZ m.ar):=by
 have a:=Jj m.pl;have c:=PQ (decide (m.k=3)) m.ar;have e:=iG (rQ t m.nm);have g:=oP (f:=fy) (n:=10) (l:=m.tg) λx _=>iG x;unfold MI;rw[bx,aV,aV,aV];have h:([]:List UInt8).length=0:=rfl;split <;> split <;> omega
theorem Vg (t:List ByteArray)(x:im):(FA t x).length<=200 * vw x:=by
 have c:=Z4 t x.tm;have g:=iG x.st.length;have a:=yc (f:=MD) 90 ZR x.st;rw[E2,Az] at a;have e:vw x=1+x.st.length+x.tm.tg.length+x.tm.pl.pr.length+x.tm.nm.size+sm yH x.st+uZ x.tm.ar:=rfl;unfold FA;rw[aV,aV];omega
theorem aBH (x:bp):(BU x).length<=30 * (1+x.ar.length):=by
 have a:=iG x.r;have c:=iG x.e;have g:=Fj (f:=fy) 10 iG x.ar;unfold BU;rw[bx];split
 ·rw[aV];omega
 ·split
  ·omega
  ·rw[dX];omega
theorem Y6 (t:List ByteArray)(b:bn):(CF t b).length<=60+10 * b.rg.length+20 * b.ol.length+30 * sm (λx:bp=>1+x.ar.length) b.ty+20 * b.lc.length:=by
 have a:=iG (rQ t b.nm);have c:=Fj (f:=tZ t) 10 (λx=>iG _) b.rg;have e:=Fj (f:=Bd) 20 (λx=>by have:=iG x.1;have:=iG x.2;unfold Bd;rw[aV];omega) b.ol;have g:=Om (f:=BU) 30 aBH b.ty;have h:=Fj (f:=AV t) 20 (λx=>by have:=iG (rQ t x.nm);have:=iG x.ty;unfold AV tZ;rw[aV];omega) b.lc;have i:=iG b.ag;unfold CF;simp only[aV];have j:(tZ t b.nm).length<=10:=a;omega
structure Sz (b:bn):Prop where
 rg:b.rg.length<=3000
 ol:b.ol.length<=3000
 ty:b.ty.length<=3000
 lc:b.lc.length<=3000
 bl:b.bl.length<=3000
 ar:∀x∈b.ty,x.ar.length<=3000
 st:∀x∈b.bl,x.st.length<=3000/\(∀s∈x.st,SzS s)/\x.tm.pl.pr.length<=3000/\x.tm.ar.length<=3000/\(∀o∈x.tm.ar,o.pl.pr.length<=3000)/\x.tm.tg.length<=3000
 id:∀s∈vV b,eY s=true
 l2:(CF (cI b) b).length<=1000000
 l3:(tV (cI b) b.bl).length<=1000000
theorem PC:∀{l seen:List ByteArray},rY seen l=0->∀s∈l,eY s=true
 |[],_,_,_,h=>by cases h
 |x::l,seen,h,s,hs=>by
  simp only[rY] at h;split at h
  ·cases h
  ·rename_i h1
   split at h
   ·cases h
   ·rcases bV.1 hs with rfl|hs
    ·simpa using h1
    ·exact PC h s hs
theorem Oa {n:Nat}:∀{l:List mQ}{seen:List ByteArray},oV n seen l=0->∀x∈l,eY x.nm=true
 |[],_,_,_,h=>by cases h
 |x::l,seen,h,s,hs=>by
  simp only[oV] at h;split at h
  ·cases h
  ·rename_i h1
   split at h
   ·cases h
   ·split at h
    ·cases h
    ·rcases bV.1 hs with rfl|hs
     ·simpa using h1
     ·exact Oa h s hs
theorem Z3 {m:ra}(h:tw b m=0)(hk:m.k=3):eY m.nm=true:=by
 cases hid:eY m.nm with
 |true=>rfl
 |false=>
  unfold tw at h
  simp only[hk,hid] at h
  simp at h
  split at h
  ·cases h
  ·split at h <;> cases h
theorem W3 (h:oM b=0):∀s∈vV b,eY s=true:=by
 obtain⟨a,i⟩:=nU h;unfold nC at a;split at a
 ·cases a
 rename_i q1;split at a
 ·rename_i q;exact absurd a q
 rename_i e;have e:=fp.1 e;split at a
 ·rename_i q;exact absurd (by exact_mod_cast a) q
 split at a
 ·rename_i q;exact absurd (by exact_mod_cast a) q
 split at a
 ·rename_i q;exact absurd a q
 rename_i c;have c:=fp.1 c;unfold kP at e;split at e
 ·cases e
 unfold th at c;split at c
 ·cases c
 split at c
 ·rename_i q;exact absurd c q
 rename_i g;have g:=fp.1 g;intro s hs;unfold vV uC MT at hs;rw[dI,dI] at hs;rcases bV.1 hs with rfl|hs
 ·simpa using q1
 rcases bB.1 hs with hs|hs
 ·exact PC e s hs
 rcases bB.1 hs with hs|hs
 ·obtain⟨x,f,rfl⟩:=cD.1 hs
  exact Oa g x f
 ·obtain⟨x,f,rfl⟩:=cD.1 hs
  obtain⟨f,j⟩:=fN.1 f;exact Z3 (i x f).2.2 (rD j)
theorem Uy (h:Sm b)(ch:oM b=0):Sz b:=by
 have i:=h.tt;rw[qk] at i;have n:=u9 (f:=λs:ByteArray=>1+s.size) (λx=>by omega) b.rg;have p:=u9 (f:=λt:bp=>1+t.ar.length) (λx=>by omega) b.ty;have r:=u9 (f:=λl:mQ=>1+l.nm.size) (λx=>by omega) b.lc;have u:=u9 (f:=vw) (λx=>by unfold vw;omega) b.bl;exact {
  rg:=by omega
  ol:=by omega
  ty:=by omega
  lc:=by omega
  bl:=by omega
  ar:=λx c=>by have:=jh (f:=λt:bp=>1+t.ar.length) c;omega
  st:=λx c=>by
   have v:=jh (f:=vw) c;have e:vw x=1+x.st.length+x.tm.tg.length+x.tm.pl.pr.length+x.tm.nm.size+sm yH x.st+uZ x.tm.ar:=rfl;have j:uZ x.tm.ar=x.tm.ar.length+sm (λo=>o.pl.pr.length) x.tm.ar:=rfl;refine⟨by omega,λs g=>?_,by omega,by omega,λo a=>?_,by omega⟩
   ·have w:=jh (f:=yH) g
    have k:yH s=s.pl.pr.length+s.rv.pl.pr.length+uZ s.rv.ar:=rfl;have m:uZ s.rv.ar=s.rv.ar.length+sm (λo=>o.pl.pr.length) s.rv.ar:=rfl;exact⟨by omega,by omega,by omega,λo a=>by have:=jh (f:=λo:gq=>o.pl.pr.length) a;omega⟩
   ·have:=jh (f:=λo:gq=>o.pl.pr.length) a;omega
  id:=W3 ch
  l2:=by have:=Y6 (cI b) b;omega
  l3:=by
   have:=yc (f:=FA (cI b)) 200 (Vg _) b.bl;have:=iG b.bl.length;unfold tV;rw[aV];omega}
theorem ZX {p:ByteArray}(z:Sz b)(hn:∀s∈cI b,s.size<=200)(hp:eY p=true)(h1:p.size<=20):Sz (jR p b) where
 rg:=by rw[qh];exact z.rg
 ol:=z.ol
 ty:=z.ty
 lc:=by rw[uT];exact z.lc
 bl:=by rw[uL];exact z.bl
 ar:=z.ar
 st:=λs h=>by
  obtain⟨y,hy,rfl⟩:=cD.1 h;have:=z.st y hy;show y.st.length<=3000/\(∀s∈y.st,SzS s)/\(yE p y.tm).pl.pr.length<=3000/\(yE p y.tm).ar.length<=3000/\(∀o∈(yE p y.tm).ar,o.pl.pr.length<=3000)/\(yE p y.tm).tg.length<=3000;unfold yE;split <;> exact this
 id:=λs h=>by
  rw[Ul] at h;obtain⟨y,hy,rfl⟩:=cD.1 h;exact OL hp h1 (z.id y hy) (hn y (fT.2 hy))
 l2:=by rw[AZ,NS];exact z.l2
 l3:=by rw[AZ,Ii];exact z.l3
theorem JN {s:ByteArray}(h:eY s=true):s.size<=255:=by
 unfold eY oU at h;simp only[cX,dF] at h;exact h.1.1.2
theorem Dm (z:Sz b):(vV b).length<=9001:=by
 have h:=vW b b.lc.length b.bl.length;have:=z.rg;have:=z.lc;have:=z.bl;unfold vV;omega
theorem Nj (z:Sz b):(nD (cI b)).length<=3000000:=by
 have c:=qY (vV b);have g:=Dm z;have h:=oP (f:=ox) (n:=265) (l:=cI b) λs a=>by
  have:=JN (z.id s (fT.1 a));have:=(eX s.size (by omega)).2;unfold ox;rw[aV];have e:s.data.toList.length=s.size:=rfl;omega
 have e:(cI b).length=(jf (vV b)).length:=rfl;have i:=(eX (cI b).length (by omega)).2;unfold nD;rw[aV];omega
def As (b:bn):List (List UInt8):=[nD (cI b),CF (cI b) b,tV (cI b) b.bl]
theorem Au (z:Sz b):(gz (As b)).length<=1000000000:=by
 have a:=Nj z;have c:=z.l2;have f:=z.l3;have g:=(eX (nD (cI b)).length (by omega)).2;have h:=(eX (CF (cI b) b).length (by omega)).2;have i:=(eX (tV (cI b) b.bl).length (by omega)).2;unfold As gz jq jq jq jq;simp only[aV,vo,dX];have e:Sq.length=5:=rfl;omega
theorem Ue (b:bn)(H:aA)(t:Tb b)(z:Sz b):aN prog 10 [.agg (cu b)] H λd H'=>d=.eO [.seq 1 ((gz (As b)).map bD),i64 0]/\H=H':=by
 have c:∀a,aN prog 35 [.agg (cu b)] a λd H'=>d=i64 0/\a=H':=λa=>by
  have:=wm b a t.sb λ_=>t.ck;rwa[t.ch] at this
 have i:(cI b).Pairwise xx:=pW _;have k:(cI b).length<=9001:=ma (qY _) (Dm z);have g:∀{s},s∈vV b->s∈cI b:=fT.2;have j:jf (cI b)=cI b:=ub (pW _) i λx=>fT;have r:=z.rg;have u:=z.ol;have v:=z.ty;have w:=z.lc;have y:=z.bl;have f:∀s∈cI b,eY s=true:=λs e=>z.id s (fT.1 e);refine Bv b (cI b) (cI b) _ _ H c (λa=>zg b a ⟨by omega,by omega,by omega⟩) (λa=>?_)
  (λa=>CG b _ a c i (by omega) (g jm) (λs e=>g (J5 s e)) (λs e=>g (J6 s e)) (λx h=>by have:=z.ar x h;omega) (by omega) (by omega) (by omega) (by omega) (by have:=z.l2;omega))
  (λa=>Bu b _ a i (by omega) ⟨by omega,λx h=>?_,by have:=z.l3;omega⟩ c) (by omega) (Au z)
 ·have:=ON (cI b) a (by omega) λs e=>by have:=JN (f s e);unfold cH;omega
  unfold AO at this;rwa[aD f,j] at this
 ·obtain⟨s1,n,A,s4,p,s6⟩:=z.st x h
  exact⟨by omega,n,⟨by omega,by omega,λo m=>by have:=p o m;omega,by omega,λl=>g (J7 x h l)⟩⟩
end Go.Proofs.YtffgfafbffdgaaaGreatDoor
