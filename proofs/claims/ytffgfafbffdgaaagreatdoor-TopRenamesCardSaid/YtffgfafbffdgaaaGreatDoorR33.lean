/- Lemmas and contracts of functions, several texts in one. -/
import Derived.Test.YtffgfafbffdgaaaGreatDoorR32
set_option maxRecDepth 100000
set_option maxHeartbeats 4000000
set_option linter.all false
namespace Go.Proofs.YtffgfafbffdgaaaGreatDoor
open Go.RowKit
open Tryz
variable {b:bn}
theorem CR (l:List ByteArray)(t:ByteArray)(H:aA)(hl:cH l.length):aN prog 108 [.seq 1 (l.map sD),bC t] H λd H'=>d=i64 (if rQ l t<l.length then (rQ l t:Int) else -1)/\H=H':=by
 have c:=lm sD l;unfold cH at hl;refine dO func108 ntmps108 results108 λJ G Q z=>?_;refine tn @bC.eq_1 ?_;refine aO l.length (λi s=>s.df=[]/\s.fr 0=.seq 1 (l.map sD)/\s.fr 1=.val (.string t)/\s.fr 5=i64 i/\s.H=H/\∀(k:Nat) (h:k<l.length),k<i->l[k]≠t) ⟨rfl,rfl,rfl,rfl,rfl,λk _ h=>absurd h (by omega)⟩ ?_;rintro i s I ⟨g,m,n,o,u,v⟩;have A:=aX i;have f:=aZ i;by_cases a:i<l.length
 case neg=>
  have q:=lF i l.length;have E:¬rQ l t<l.length:=λh=>by
   obtain⟨k,x,e⟩:=kV (mN.1 h);exact v k x (by omega) e
  refine ur z (cw m n o q c) g ?_;exact⟨_,aF _,by rw[aC E] <;> rfl,u.symm⟩
 have r:(i:Int)<(l.length:Int):=by omega
 have q:((i:Int)<(l.length:Int))=True:=aG r;have j:=fg a;have F:=wS i;by_cases p:l[i]=t
 ·have y:(l[i].toList=t.toList)=True:=aG (by rw[p])
  have w:=OU a p v;refine ur z (bG m n o q c j A (bQ f a y)) o ?_;exact⟨_,aF _,by rw[w,aD a] <;> rfl,u.symm⟩
 ·have y:(l[i].toList=t.toList)=False:=aI λh=>p (eA.1 h)
  refine tq (bG m n o q c j A (cA f a y F)) ?_;intro U Y O C;refine⟨a,g,m,n,rfl,u,λk x D=>?_⟩;by_cases B:k=i
  ·subst B;exact p
  ·exact v k x (by omega)
def RkI (l:List (Int×Int)) (n:Int) (H:aA) (i:Nat) (s:St):Prop:=s.df=[]/\s.fr 0=.seq 2 (l.map pD)/\s.fr 1=i64 n/\s.fr 5=i64 i/\s.H=H/\ry n none l=ry n (qE l i) (l.drop i)
theorem OW (l:List (Int×Int))(n:Int)(H:aA)(hl:l.length<=140737488351232):aN prog 109 [.seq 2 (l.map pD),i64 n] H λd H'=>d=i64 (fc l n)/\H=H':=by
 have h:=lm pD l;refine dO func109 ntmps109 results109 λw0 g0 Q u=>?_;by_cases hb:65535<l.length
 ·have W:=nT ((65535:Int)<(l.length:Int))
  have S:fc l n=15:=aD hb;rw[S] at u;refine ur u (av h W) h ?_;exact⟨_,aF _,by first|rfl|exact⟨rfl,rfl⟩⟩
 have W:=nF ((65535:Int)<(l.length:Int));have S:fc l n=ry n none l:=aC hb;rw[S] at u;refine tn (av h W) ?_;refine aO l.length (RkI l n H) ⟨rfl,rfl,rfl,rfl,rfl,rfl⟩ ?_;rintro i s hi ⟨k,p,q,v,J,f⟩;have x:=aX i;have o:=aZ i;by_cases g:i<l.length
 case neg=>
  have t:=lF i l.length;rw[cb (show l.length<=i by omega)] at f;refine ur u (cw p q v t h) k ?_;exact⟨_,aF _,by rw[f] <;> rfl,J.symm⟩
 have t:=lT i l.length;have m:=il g;have X:=wS i;rw[cL g] at f;simp only[ry] at f;have fin:∀(e:Nat),ry n none l=e->∃H',H'.le s.H/\i64 e=i64 (ry n none l)/\H=H':=λe he=>⟨_,aF _,by rw[he],J.symm⟩;obtain⟨a,ha⟩:=oX l[i].1;obtain⟨c,K⟩:=oX l[i].2;rw[<-ha,<-K] at m f;by_cases Z:a<0
 ·rw[aD (by omega)] at f
  have w:(a<0)=True:=aG Z;refine ur u (bG p q v t m x o (bQ g h w)) k ?_;exact fin 3 f
 have w:(a<0)=False:=aI Z;by_cases h2:n<=a
 ·rw[aD (by omega)] at f
  have y:(n<=a)=True:=aG h2;refine ur u (bG p q v t m x o (cA g h w y)) k ?_;exact fin 3 f
 have y:(n<=a)=False:=aI h2;by_cases h3:c<0
 ·rw[aD (by omega)] at f
  have D:(c<0)=True:=aG h3;refine ur u (bG p q v t m x o (cw g h w y D)) k ?_;exact fin 3 f
 have D:(c<0)=False:=aI h3;by_cases h4:n<=c
 ·rw[aD (by omega)] at f
  have E:(n<=c)=True:=aG h4;refine ur u (bG p q v t m x o (eP g h w y D E)) k ?_;exact fin 3 f
 have E:(n<=c)=False:=aI h4;rw[aC (by omega)] at f;by_cases N:a=c
 ·rw[aD N] at f
  have G:(a=c)=True:=aG N;refine ur u (bG p q v t m x o (ej g h w y D E G)) k ?_;exact fin 2 f
 have G:(a=c)=False:=aI N;rw[aC N] at f;by_cases T:i=0
 ·have I:=nF ((0:Int)<(i:Int))
  have F:qE l i=none:=by rw[T];rfl
  rw[F] at f;simp only[GD,dN] at f;refine tn (bG p q v t m x o (bG g h w y D E G (av I X))) ?_;exact⟨g,k,p,q,rfl,J,by rw[f,qE,az g]⟩
 obtain⟨j,hj⟩:∃j,i=j+1:=⟨i - 1,by omega⟩;have r:j<l.length:=by omega
 have I:=nT ((0:Int)<(i:Int));have A:=il r;have P:IntKind.i64.wrap ((i:Int) - 1)=(j:Int):=by rw[aP (by omega)];omega
 have z:=aZ j;have B:=aX j;have F:qE l i=some l[j]:=by rw[hj,qE,az r]
 rw[F] at f;simp only[GD,dF,mH,<-ha,<-K] at f;by_cases h7:a<l[j].1
 ·rw[aC (by omega)] at f
  have L:(a<l[j].1)=True:=aG h7;refine ur u (bG p q v t m x o (bG g h w y D E G (ej I P A z B r L))) k ?_;exact fin 21 f
 have L:(a<l[j].1)=False:=aI h7;by_cases R:a=l[j].1
 ·by_cases h9:c<=l[j].2
  ·rw[aC (by omega)] at f
   have M:(a=l[j].1)=True:=aG R;have V:(c<=l[j].2)=True:=aG h9;refine ur u (bG p q v t m x o (bG g h w y D E G (bG I P A z B r L (av M V)))) k ?_;exact fin 21 f
  ·rw[aD (by omega)] at f
   have M:(a=l[j].1)=True:=aG R;have V:(c<=l[j].2)=False:=aI h9;refine tn (bG p q v t m x o (bG g h w y D E G (bG I P A z B r L (bQ M V X)))) ?_;exact⟨g,k,p,q,rfl,J,by rw[f,qE,az g]⟩
 ·rw[aD (by omega)] at f
  have M:(a=l[j].1)=False:=aI R;refine tn (bG p q v t m x o (bG g h w y D E G (bG I P A z B r L (av M X)))) ?_;exact⟨g,k,p,q,rfl,J,by rw[f,qE,az g]⟩
theorem Gl.gy {a:aA}{e:TypeId}{sz:Nat}{els:List (List D)}{d:D}{H:aA}{ob:Option Nat}(h:Gl a e sz els d H ob):gy H sz d (·=els):=by
 rcases h with⟨_,rfl,rfl⟩|⟨c,o,_,rfl,_,f⟩
 ·simp [Go.Proofs.YtffgfafbffdgaaaGreatDoor.gy]
 ·exact Iv f rfl
theorem Wh (l:List ByteArray)(x:ByteArray)(d:D)(H a:aA)(ob:Option Nat)(hl:cH l.length)(hg:Gl a 9 1 (l.map sD) d H ob):aN prog 108 [d,bC x] H λd H'=>d=i64 (if rQ l x<l.length then (rQ l x:Int) else -1)/\H=H':=
 qf ((CR l x .none hl).mono λ_ _ h=>h.1) rfl (MM (Q4 hg.gy) (iU _ _))
theorem UH (l:List ByteArray)(i:Nat):List.take i (List.map sD l)=List.map sD (l.take i):=(iK).symm
theorem SS (b:bn)(H:aA)(sb:Sb b):aN prog 51 [.agg (cu b)] H λd H'=>d=i64 (nC b)/\H=H':=by
 refine aq (K:=λd=>d=i64 (nC b)) ?_;have aM:=aF H;obtain⟨o1,o2,⟨o3,o4⟩,o5,o6,o7⟩:=sb.ok;have u:=va b.nm H sb.nm;have a3:=OW b.ol b.rg.length H o2;have a1:=OX b.ty b.rg.length H o3 o4;have xv:=sb.rs;have ac:=sb.ls;have F:=lm sD b.rg;have j:=lm eQ b.lc;have a7:=lm bS b.ty;have a4:=lm dM b.bl;unfold cH at o1 o5 o6;obtain⟨y,m⟩:=oX (nC b);rw[<-m];unfold nC kP th at m;obtain⟨I,hI⟩:=oX (eY b.nm);rw[<-hI] at m u;clear hI;obtain⟨R,hR⟩:=oX (fc b.ol b.rg.length);rw[<-hR] at m a3;obtain⟨T,hT⟩:=oX (rT b.ty b.rg.length);rw[<-hT] at m a1;clear hR hT;rw[jB];refine dO func51 ntmps51 results51 λw0 g0 Q w=>?_;refine t0 ?_;intro U Y O C;intro c1 aa;refine Y _ ?_;refine cm 1 aa ?_;refine t0 ?_;intro U Y O C;refine u.q ?_;cases I
 ·have e:y=12:=m
  exact oz w trivial aM e
 rw[aC (λh=>by cases h)] at m;by_cases h1:65535<b.rg.length
 ·have q1:=nT ((65535:Int)<(b.rg.length:Int))
  have e:y=15:=by rw[m,aD h1];rfl
  exact oz w (av q1 F) aM e
 have q1:=nF ((65535:Int)<(b.rg.length:Int));rw[aC h1] at m;refine tn (av q1 F) ?_;refine aO b.rg.length (λi s=>s.df=[]/\s.fr 1=.rp [bC b.nm,.seq 1 (b.rg.map sD),.seq 2 (b.ol.map pD),.seq 5 (b.ty.map bS),.seq 2 (b.lc.map eQ),i64 b.ag,.seq 7 (b.bl.map dM)]/\s.fr 3=i64 i/\s.H=H/\rY [] b.rg=rY (b.rg.take i) (b.rg.drop i)) ⟨rfl,rfl,rfl,rfl,rfl⟩ ?_;rintro i s hi ⟨W,t,f3,hH,f⟩;have N:=aX i;have o:=aZ i;have a:H.le s.H:=by rw[hH];exact aF _
 by_cases c:i<b.rg.length
 case pos=>
  have k:(i:Int)<(b.rg.length:Int):=by omega
  have a5:(i:Int)<=(b.rg.length:Int):=by omega
  have P:((i:Int)<(b.rg.length:Int))=True:=aG k;have w3:=wS i;have g:=fg c;have M:=xv b.rg[i] (ao c);rw[cL c,rY] at f;have X:=bw c;obtain⟨x,a2⟩:=oX b.rg[i];rw[<-a2] at g M f X;have B:∀z:Int,z≠0->rY [] b.rg=z->y=z:=λz hz h=>by rw[h,aD hz] at m;exact m
  have u:=va x s.H M;simp only[bC] at u;obtain⟨v,hv⟩:=oX (eY x);rw[<-hv] at u f;refine tq (bG t f3 F P g N o (av c k)) ?_;intro U Y O C;refine u.mono ?_;rintro d _ ⟨rfl,D⟩;rw[D] at a;cases v
  ·rw[aD rfl] at f
   have e:=B 12 (by decide) f;exact oz w trivial a e
  rw[aC (λh=>by cases h)] at f;have r:∀H1,cP prog 108 [.seq 1 ((b.rg.take i).map sD),.val (.string x)] H1 λd A=>A=aA.none/\d=i64 (if rQ (b.rg.take i) x<(b.rg.take i).length then (rQ (b.rg.take i) x:Int) else -1):=λH1=>an λa8 ae=>CR (b.rg.take i) x a8 (by unfold cH;rw[bX];omega);have tY:=UH b.rg i;have a6:=dj (l:=List.map sD (b.rg.take i));by_cases hm:x∈b.rg.take i
  ·have E:=mN.2 hm
   rw[aD E] at f r;have e:=B 21 (by decide) f;obtain⟨n,hn⟩:∃n:Int,n=(rQ (b.rg.take i) x:Int):=⟨_,rfl⟩;rw[<-hn] at r;have qn:=nT (n≥0);refine t0 ?_;intro U Y O C;(try refine bW ?_);refine dE (λ_ _ d A=>A=.none/\d=i64 n) λU Y=>?_;refine dst (bG t f3 F g N o c (cA k a5 tY a6)) ?_;intro U Y O C;refine⟨r _,?_⟩;refine nx ?_;exact oz w qn a e
  ·have E:¬rQ (b.rg.take i) x<(b.rg.take i).length:=λh=>hm (mN.1 h)
   rw[aC E] at f r;refine t0 ?_;intro U Y O C;(try refine bW ?_);refine dE (λ_ _ d A=>A=.none/\d=i64 (-1)) λU Y=>?_;refine dst (bG t f3 F g N o c (cA k a5 tY a6)) ?_;intro U Y O C;refine⟨r _,?_⟩;refine nx ?_;refine tn (av f3 w3) ?_;exact⟨c,W,t,rfl,D▸hH,by rw[f,X]⟩
 have P:=lF i b.rg.length;rw[cb (by omega),rY] at f;rw[f,aC (λh=>h rfl)] at m;clear f;rw[<-hH] at a3 a1;refine tq (cA t f3 F P) ?_;intro U Y O C;refine a3.mono ?_;rintro d _ ⟨rfl,D⟩;rw[D] at a a1;by_cases Z:R=0
 case neg=>
  have G:=nF ((R:Int)=0);have e:y=R:=by rw[m,aD Z]
  exact oz w G a e
 have G:=nT ((R:Int)=0);rw[aC (λh=>h Z)] at m;refine tq (bQ t G F) ?_;intro U Y O C;refine a1.mono ?_;rintro d _ ⟨rfl,V⟩;rw[V] at a;by_cases h3:T=0
 case neg=>
  have J:=nF ((T:Int)=0);have e:y=T:=by rw[m,aD h3]
  exact oz w J a e
 have J:=nT ((T:Int)=0);rw[aC (λh=>h h3)] at m;by_cases h4:65535<b.lc.length
 ·have q4:=nT ((65535:Int)<(b.lc.length:Int))
  have e:y=15:=by rw[m,aD h4];rfl
  exact oz w (cA t J q4 j) a e
 have q4:=nF ((65535:Int)<(b.lc.length:Int));rw[aC h4] at m;refine tq (cA t J q4 j) ?_;intro U Y O C;clear hi N o P c f3;refine aO b.lc.length (λi s=>s.df=[]/\s.fr 1=.rp [bC b.nm,.seq 1 (b.rg.map sD),.seq 2 (b.ol.map pD),.seq 5 (b.ty.map bS),.seq 2 (b.lc.map eQ),i64 b.ag,.seq 7 (b.bl.map dM)]/\s.fr 6=i64 i/\H.le s.H/\∃ob,Gl H 9 1 (((b.lc.take i).map (·.nm)).map sD) (s.fr 5) s.H ob/\oV b.ty.length [] b.lc=oV b.ty.length ((b.lc.take i).map (·.nm)) (b.lc.drop i)) ⟨W,t,rfl,a,none,eB _ _ _ _,rfl⟩ ?_;clear W t a;rintro i s hi ⟨W,t,L,a,ob,hg,f⟩;have N:=aX i;have o:=aZ i;by_cases c:i<b.lc.length
 case neg=>
  have P:=lF i b.lc.length;rw[cb (by omega),oV] at f;rw[f,aC (λh=>h rfl:¬((0:Int)≠0))] at m;by_cases Z:b.ag<0
  ·have G:(b.ag<0)=True:=aG Z
   have e:y=3:=by rw[m,aD (.inl Z:b.ag<0\/(b.lc.length:Int)<b.ag)];rfl
   exact oz w (cw t L j P G) a e
  have G:(b.ag<0)=False:=aI Z;by_cases h3:(b.lc.length:Int)<b.ag
  ·have J:((b.lc.length:Int)<b.ag)=True:=aG h3
   have e:y=3:=by rw[m,aD (.inr h3:b.ag<0\/(b.lc.length:Int)<b.ag)];rfl
   exact oz w (eP t L j P G J) a e
  have J:((b.lc.length:Int)<b.ag)=False:=aI h3;rw[aC (by omega:¬(b.ag<0\/(b.lc.length:Int)<b.ag)),aC (λh=>h rfl:¬((0:Int)≠0))] at m;by_cases p:b.bl.length=0
  ·have p1:=nT ((b.bl.length:Int)=0)
   have e:y=15:=m.trans (aD (.inl p));exact oz w (bG t L j P G J p1 a4) a e
  have p1:=nF ((b.bl.length:Int)=0);by_cases p2:65535<b.bl.length
  ·have p3:=nT ((65535:Int)<(b.bl.length:Int))
   have e:y=15:=m.trans (aD (.inr p2));exact oz w (bG t L j P G J p1 (av p3 a4)) a e
  have p3:=nF ((65535:Int)<(b.bl.length:Int));have e:y=0:=m.trans (aC (by omega));exact oz w (bG t L j P G J p1 (av p3 a4)) a e
 have k:(i:Int)<(b.lc.length:Int):=by omega
 have P:((i:Int)<(b.lc.length:Int))=True:=aG k;have w3:=wS i;have g:=O8 c;have M:=ac b.lc[i] (ao c);rw[cL c,oV] at f;have X:=bw c;obtain⟨S,hS⟩:=oX ((b.lc.take i).map (·.nm));have ak:S.length=i:=by rw[hS,aS,bX];omega
 have a0:(b.lc.take (i+1)).map (·.nm)=S++[b.lc[i].nm]:=by rw[X,bI,<-hS];rfl
 rw[<-hS] at hg f;obtain⟨x,a2⟩:=oX b.lc[i];rw[<-a2] at g M f a0;clear a2 hS X;obtain⟨x,xt⟩:=x;simp only at M f a0;simp only[eQ,bC] at g;have u:=va x s.H M;simp only[bC] at u;obtain⟨v,hv⟩:=oX (eY x);rw[<-hv] at u f;have B:∀z:Int,z≠0->oV b.ty.length [] b.lc=z->y=z:=λz hz h=>by rw[h,aD hz,aD hz] at m;exact m
 refine tq (bG t L j P g N o (av c k)) ?_;intro U Y O C;refine u.mono ?_;rintro d _ ⟨rfl,D⟩;cases v
 ·rw[aD rfl] at f
  have e:=B 12 (by decide) f;rw[D] at a;exact oz w trivial a e
 rw[aC (λh=>by cases h)] at f;rw[D] at hg a;have r:=Wh S x (s.fr 5) _ H ob (by unfold cH;omega) hg;simp only[bC] at r;by_cases hm:x∈S
 ·have E:=mN.2 hm
  rw[aD E] at f r;have e:=B 21 (by decide) f;obtain⟨n,hn⟩:∃n:Int,n=(rQ S x:Int):=⟨_,rfl⟩;rw[<-hn] at r;have qn:=nT (n≥0);refine tq (bG t L j g N o c k) ?_;intro U Y O C;refine r.mono ?_;rintro d _ ⟨rfl,V⟩;rw[V] at a;exact oz w qn a e
 have E:¬rQ S x<S.length:=λh=>hm (mN.1 h);rw[aC E] at f r;refine tq (bG t L j g N o c k) ?_;intro U Y O C;refine r.mono ?_;rintro d _ ⟨rfl,V⟩;rw[V] at hg a;refine t0 ?_;intro U Y O C;(try refine bW ?_);by_cases Z:xt<0
 ·have G:(xt<0)=True:=aG Z
  rw[aD (by unfold bN;omega)] at f;have e:=B 3 (by decide) f;refine dE (λ_ _ _ _=>False) λU Y=>?_;refine dst (bG t L j g N o c (av k G)) ?_;intro U Y O C;exact oz w trivial a e
 have G:(xt<0)=False:=aI Z;by_cases h3:(b.ty.length:Int)<=xt
 ·have J:(xt≥(b.ty.length:Int))=True:=aG h3
  rw[aD (by unfold bN;omega)] at f;have e:=B 3 (by decide) f;refine dE (λ_ _ _ _=>False) λU Y=>?_;refine dst (bG t L j g N o c (cA k G J a7)) ?_;intro U Y O C;exact oz w trivial a e
 have J:(xt≥(b.ty.length:Int))=False:=aI h3;rw[aC (by unfold bN;omega)] at f;refine dE (λ_ _ _ _=>False) λU Y=>?_;refine dst (bG t L j g N o c (cA k G J a7)) ?_;intro U Y O C;refine tq (bG t L j g N o c k) ?_;intro U Y O C;refine ax (e:=9) kR rfl kR rfl G5 rfl (by decide) a hg (new:=[sD x]) (by exact⟨rfl,rfl⟩) (by rw[aS];show(_+1) * 16<=_;omega) λd H6 ad ab a9 _=>?_;refine tq (av L w3) ?_;intro U Y O C;refine⟨c,W,t,rfl,a9,ad,?_,by rw[f,a0]⟩;rw[a0,bI];exact ab
theorem Ha (b:bn)(H:aA)(sb:Sb b)(V:nC b=0->Ck b):aN prog 17 [.agg (cu b)] H λd H'=>d=i64 (oM b)/\H=H':=by
 refine aq (K:=λd=>d=i64 (oM b)) ?_;have aM:=aF H;obtain⟨o1,o2,⟨o3,o4⟩,o5,o6,o7⟩:=sb.ok;have Dl:=sb.ts;have F:=SS b H sb;have W:=lm dM b.bl;unfold cH at o6;obtain⟨y,u⟩:=oX (oM b);rw[<-u];unfold oM at u;obtain⟨D0,hD⟩:=oX (nC b);rw[<-hD] at F V u;clear hD;rw[jB] at F ⊢;refine dO func17 ntmps17 results17 λw0 g0 Q M=>?_;refine t0 ?_;intro U Y O C;intro c1 a4;refine Y _ ?_;refine cm 1 a4 ?_;refine t0 ?_;intro U Y O C;refine F.q ?_;by_cases R:D0=0
 case neg=>
  have q0:(D0=0)=False:=aI R;have e:y=D0:=u.trans (aD R);refine ur M q0 trivial ?_;exact zf aM (by rw[e])
 have q0:(D0=0)=True:=aG R;rw[aC (λh=>h R)] at u;have ck:=V R;refine tn q0 ?_;refine aO b.bl.length (λi s=>s.df=[]/\s.fr 1=.rp [bC b.nm,.seq 1 (b.rg.map sD),.seq 2 (b.ol.map pD),.seq 5 (b.ty.map bS),.seq 2 (b.lc.map eQ),i64 b.ag,.seq 7 (b.bl.map dM)]/\s.fr 4=i64 i/\s.H=H/\rn b b.bl=rn b (b.bl.drop i)) ⟨rfl,rfl,rfl,rfl,rfl⟩ ?_;rintro i s hi ⟨m,t,D,z,g⟩;have hx:=aX i;have a3:=aZ i;have a:H.le s.H:=by rw[z];exact aM
 by_cases l:i<b.bl.length
 case neg=>
  have q6:=lF i b.bl.length;rw[cb (by omega)] at g;have e:y=0:=by rw[u,g];rfl
  exact oz M (cA t D W q6) a e
 have N:(i:Int)<(b.bl.length:Int):=by omega
 have q6:((i:Int)<(b.bl.length:Int))=True:=aG N;have w3:=wS i;have G:=Mv l;have dC:=o7 b.bl[i] (ao l);have J:=Dl b.bl[i] (ao l);rw[cL l,rn] at g;obtain⟨x,a0⟩:=oX b.bl[i];rw[<-a0] at G dC J g;clear a0;obtain⟨f,B⟩:=x;obtain⟨⟨ye,X⟩,Z⟩:=dC;simp only at ye X Z g J;have tY:=S9 b B H ck Z J;have c:∀s∈f,∀H1,cP prog 52 [.agg (cu b),.agg (ji s)] H1 λd A=>A=aA.none/\d=i64 (yY b s):=λs hs H1=>an λa1 a7=>S8 b s a1 ck (X s hs);rw[jB] at tY c;have o:=lm ji f;unfold cH at ye;simp only[dM] at G;simp only[G2] at tY;refine tq (bG t D W q6 G hx a3 (av l N)) ?_;intro U Y O C;intro c5 a5;refine Y _ ?_;refine cm 5 a5 ?_;by_cases h1:65535<f.length
 ·have q1:=nT ((65535:Int)<(f.length:Int))
  have e:y=15:=by rw[u,g,aD h1]
  exact oz M (av o q1) a e
 have q1:=nF ((65535:Int)<(f.length:Int));rw[aC h1] at g;refine tn (av o q1) ?_;refine aO f.length (λj w=>w.df=[]/\w.fr 1=.rp [bC b.nm,.seq 1 (b.rg.map sD),.seq 2 (b.ol.map pD),.seq 5 (b.ty.map bS),.seq 2 (b.lc.map eQ),i64 b.ag,.seq 7 (b.bl.map dM)]/\w.fr 4=i64 i/\w.fr 5=.rp [.seq 11 (f.map ji),i64 B.k,.seq 1 (B.tg.map iD),.seq 4 (B.ar.map db),i64 B.pl.lo,.seq 2 (B.pl.pr.map pD),bC B.nm]/\w.fr 6=i64 j/\w.H=H/\rZ b f=rZ b (f.drop j)) ⟨m,t,D,rfl,rfl,z,rfl⟩ ?_;clear m t D z a;rintro j w hj ⟨m,t,D,f5,f6,z,r⟩;have a6:=aX j;have a2:=aZ j;have a:H.le w.H:=by rw[z];exact aM
 by_cases n:j<f.length
 case pos=>
  have P:(j:Int)<(f.length:Int):=by omega
  have p6:((j:Int)<(f.length:Int))=True:=aG P;have w4:=wS j;have I:=QB n;have c:=c f[j] (ao n) w.H;rw[cL n,rZ] at r;obtain⟨v,hv⟩:=oX f[j];rw[<-hv] at I c r;clear hv;obtain⟨E,S⟩:=oX (yY b v);rw[<-S] at c r;clear S;simp only[ji] at I c;refine tq (cA f5 f6 o p6) ?_;intro U Y O C;(try refine bW ?_);refine dE (λ_ _ d A=>A=.none/\d=i64 E) λU Y=>?_;refine dst (bG t f5 f6 o I a6 a2 (av n P)) ?_;intro U Y O C;refine⟨c,?_⟩;refine nx ?_;by_cases p:E=0
  ·have L:(E=0)=True:=aG p
   rw[aC (λh=>h p)] at r;refine tn (bQ f6 L w4) ?_;exact⟨n,m,t,D,f5,rfl,z,r⟩
  ·have L:(E=0)=False:=aI p
   rw[aD p] at r;have e:y=E:=by rw[u,g,r,aD p]
   exact oz M L a e
 have p6:=lF j f.length;rw[cb (by omega),rZ] at r;rw[r,aC (λh=>h rfl)] at g;clear r;obtain⟨E,S⟩:=oX (tw b B);rw[<-S] at tY g;clear S;rw[<-z] at tY;refine tq (cw t f5 f6 o p6) ?_;intro U Y O C;refine tY.mono ?_;rintro d _ ⟨rfl,T⟩;by_cases p:E=0
 ·have L:(E=0)=True:=aG p
  rw[aC (λh=>h p)] at g;refine tn (bQ D L w3) ?_;exact⟨l,m,t,rfl,by rw[<-T];exact z,g⟩
 ·have L:(E=0)=False:=aI p
  rw[aD p] at g;have e:y=E:=by rw[u,g]
  rw[T] at a;exact oz M L a e
structure Ts (b:bn):Prop where
 ok:xM b
 sk:Sm b
 cn:bu (fD b)<=60
 lc:b.lc.length<=20
 rg:b.rg.length<=10
 ch:oM b=0
theorem NN:∀l:List im,bu (l.map λx=>(x.st.length,x.tm.tg))<=sm vw l
 |[]=>bh _
 |x::l=>by
  have:=NN l;have e:vw x=1+x.st.length+x.tm.tg.length+x.tm.pl.pr.length+x.tm.nm.size+sm yH x.st+uZ x.tm.ar:=rfl;simp only[cC,bu,sm];omega
theorem Sm.cn (h:Sm b):bu (fD b)<=3000:=by
 have a:=h.tt;rw[qk] at a;have c:=NN b.bl;have e:fD b=b.bl.map λx=>(x.st.length,x.tm.tg):=rfl;rw[e];omega
theorem Ts.tb (h:Ts b):Tb b where
 ok:=h.ok
 sb:=Pm h.ok h.sk
 ck:=NG h.ok h.sk (nU h.ch).1
 ch:=h.ch
 cn:=by have:=h.cn;omega
 lc:=h.lc
 rg:=h.rg
 ar:=λx hx=>by
  have h1:=h.sk.tt;rw[qk] at h1;have h2:=jh (f:=vw) hx;have e:vw x=1+x.st.length+x.tm.tg.length+x.tm.pl.pr.length+x.tm.nm.size+sm yH x.st+uZ x.tm.ar:=rfl;have e2:uZ x.tm.ar=x.tm.ar.length+sm (λo=>o.pl.pr.length) x.tm.ar:=rfl;refine⟨λs hs=>?_,by omega⟩;have h3:=jh (f:=yH) hs;have e3:yH s=s.pl.pr.length+s.rv.pl.pr.length+uZ s.rv.ar:=rfl;have e4:uZ s.rv.ar=s.rv.ar.length+sm (λo=>o.pl.pr.length) s.rv.ar:=rfl;omega
theorem Wd (b:bn)(H:aA)(h:bu (fD b)<=1000000):aN prog 16 [.agg (cu b)] H λd H'=>d=i64 (bu (fD b))/\H=H':=by
 have h:=OY (gB b) H (by rw[F3];exact h);rwa[Dh,F3] at h
theorem Pt (b:bn)(H:aA)(ok:xM b):aN prog 4 [.agg (cu b)] H λd H'=>(d=i64 1\/(d=i64 0/\Ts b))/\H=H':=by
 refine aq (K:=λd=>d=i64 1\/(d=i64 0/\Ts b)) ?_;have f:=aF H;have j:=Ps b H ok;have c:=λe:Sm b=>Wd b H (by have:=e.cn;omega);have a:=λe:Sm b=>Ha b H (Pm ok e) λp=>NG ok e p;have g:=lm eQ b.lc;have i:=lm sD b.rg;obtain⟨l,s⟩:=oX (oM b);rw[<-s] at a;unfold cu at j c a ⊢;refine dO func4 ntmps4 results4 λz y Q h=>?_;refine t0 ?_;intro U Y O C;intro x o;refine Y _ ?_;refine cm 1 o ?_;refine t0 ?_;intro U Y O C;refine j.mono ?_;rintro d _ ⟨p,rfl⟩;rcases p with rfl|⟨rfl,e⟩
 ·refine u0 h ?_
  exact zf f (.inl rfl)
 have c:=c e;have a:=a e;refine t0 ?_;intro U Y O C;refine c.q ?_;by_cases t:bu (fD b)<=60
 case neg=>
  have k:=nT ((60:Int)<(bu (fD b):Int));refine ur h k trivial ?_;exact zf f (.inl rfl)
 have k:=nF ((60:Int)<(bu (fD b):Int));by_cases u:b.lc.length<=20
 case neg=>
  have m:=nT ((20:Int)<(b.lc.length:Int));refine ur h (bQ k m g) trivial ?_;exact zf f (.inl rfl)
 have m:=nF ((20:Int)<(b.lc.length:Int));by_cases v:b.rg.length<=10
 case neg=>
  have r:=nT ((10:Int)<(b.rg.length:Int));refine ur h (cw k m r g i) trivial ?_;exact zf f (.inl rfl)
 have r:=nF ((10:Int)<(b.rg.length:Int));refine tq (cw k m r g i) ?_;intro U Y O C;refine a.q ?_;by_cases n:l=0
 ·refine ur h n trivial ?_
  exact⟨_,aF _,f,_,aL f,.inr ⟨rfl,ok,e,t,u,v,by rw[<-s];exact n⟩⟩
 ·have w:(l=0)=False:=aI n
  refine ur h w trivial ?_;exact zf f (.inl rfl)
theorem iG (n:Int):(fy n).length<=10:=(eX _ (by have:=Ed n;omega)).2
theorem JC {a c:Type}(f:a->List c):∀l:List a,(l.flatMap f).length=sm (λx=>(f x).length) l
 |[]=>rfl
 |x::l=>by rw[lz,aV,JC f l];rfl
theorem yc {a c:Type}{f:a->List c}{g:a->Nat}(k:Nat)(h:∀x,(f x).length<=k * g x)(l:List a):(l.flatMap f).length<=k * sm g l:=by
 rw[JC,<-BA];exact vq λx _=>h x
theorem Om {a:Type}{f:a->List UInt8}{g:a->Nat}(k:Nat)(h:∀x,(f x).length<=k * g x)(l:List a):(eW f l).length<=10+k * sm g l:=by
 unfold eW;rw[aV];have:=yc k h l;have:=iG l.length;omega
theorem Fj {a:Type}{f:a->List UInt8}(k:Nat)(h:∀x,(f x).length<=k)(l:List a):(eW f l).length<=10+k * l.length:=by
 have:=Om (f:=f) (g:=λ_=>1) k (λx=>by rw[jZ];exact h x) l;rwa[Az] at this
theorem Jj (p:gR):(yr p).length<=20+10 * p.pr.length:=by
 unfold yr;rw[aV];have:=iG p.lo;have:=Fj (f:=Ut) 10 (λx=>iG _) p.pr;omega
theorem ZG (o:gq):(TM o).length<=21 * (1+o.pl.pr.length):=by
 have a:=Jj o.pl;have c:=(eX (VI o.n) (VJ o.n).1).2;unfold TM;rw[bx];split
 ·omega
 ·split
  ·omega
  ·split
   ·rw[eE];omega
   ·rw[dX];omega
theorem PQ (f:Bool)(l:List gq):(uX f l).length<=10+21 * uZ l:=by
 have a:=yc (f:=TM) 21 ZG l;rw[E2,Az] at a;have c:=iG l.length;unfold uX uZ;rw[aV];split
 ·omega
 ·rw[dX];omega
theorem ZR (s:qO):(MD s).length<=90 * (1+yH s):=by
 have a:=Jj s.pl;have c:=Jj s.rv.pl;have d:=PQ (decide (s.rv.k=4)) s.rv.ar;have e:=iG s.rv.rg;have f:=iG s.lo;have g:(Wv s.rv).length<=31+10 * s.rv.pl.pr.length:=by
  unfold Wv;split
  ·rw[aV,bx];omega
  ·rw[dX];omega
 have h:(Wu s.rv).length<=1:=by
  unfold Wu;split
  ·exact bh _
  ·exact jY _
 unfold MD yH;rw[bx];split
 ·omega
 ·split
  ·rw[aV,bx,aV,aV];omega
  ·rw[dX];omega
theorem Z4 (t:List ByteArray)(m:ra):(MI t m).length<=90 * (1+m.tg.length+m.pl.pr.length+uZ m.ar):=by
 have a:=Jj m.pl;have c:=PQ (decide (m.k=3)) m.ar;have d:=iG (rQ t m.nm);have e:=oP (f:=fy) (n:=10) (l:=m.tg) λx _=>iG x;unfold MI;rw[bx,aV,aV,aV];have g:([]:List UInt8).length=0:=rfl;split <;> split <;> omega
theorem Vg (t:List ByteArray)(x:im):(FA t x).length<=200 * vw x:=by
 have c:=Z4 t x.tm;have d:=iG x.st.length;have a:=yc (f:=MD) 90 ZR x.st;rw[E2,Az] at a;have e:vw x=1+x.st.length+x.tm.tg.length+x.tm.pl.pr.length+x.tm.nm.size+sm yH x.st+uZ x.tm.ar:=rfl;unfold FA;rw[aV,aV];omega
theorem aBH (x:bp):(BU x).length<=30 * (1+x.ar.length):=by
 have a:=iG x.r;have c:=iG x.e;have d:=Fj (f:=fy) 10 iG x.ar;unfold BU;rw[bx];split
 ·rw[aV];omega
 ·split
  ·omega
  ·rw[dX];omega
theorem Y6 (t:List ByteArray)(b:bn):(CF t b).length<=60+10 * b.rg.length+20 * b.ol.length+30 * sm (λx:bp=>1+x.ar.length) b.ty+20 * b.lc.length:=by
 have a:=iG (rQ t b.nm);have c:=Fj (f:=tZ t) 10 (λx=>iG _) b.rg;have d:=Fj (f:=Bd) 20 (λx=>by have:=iG x.1;have:=iG x.2;unfold Bd;rw[aV];omega) b.ol;have e:=Om (f:=BU) 30 aBH b.ty;have g:=Fj (f:=AV t) 20 (λx=>by have:=iG (rQ t x.nm);have:=iG x.ty;unfold AV tZ;rw[aV];omega) b.lc;have h:=iG b.ag;unfold CF;simp only[aV];have i:(tZ t b.nm).length<=10:=a;omega
structure Sz (b:bn):Prop where
 rg:b.rg.length<=3000
 ol:b.ol.length<=3000
 ty:b.ty.length<=3000
 lc:b.lc.length<=3000
 bl:b.bl.length<=3000
 ar:∀x∈b.ty,x.ar.length<=3000
 st:∀x∈b.bl,x.st.length<=3000/\(∀s∈x.st,SzS s)/\x.tm.pl.pr.length<=3000/\x.tm.ar.length<=3000/\(∀o∈x.tm.ar,o.pl.pr.length<=3000)/\x.tm.tg.length<=3000
 id:∀s∈vV b,eY s=true
 l2:(CF (cI b) b).length<=1000000
 l3:(tV (cI b) b.bl).length<=1000000
theorem PC:∀{l seen:List ByteArray},rY seen l=0->∀s∈l,eY s=true
 |[],_,_,_,h=>by cases h
 |x::l,seen,h,s,hs=>by
  simp only[rY] at h;split at h
  ·cases h
  ·rename_i h1
   split at h
   ·cases h
   ·rcases bV.1 hs with rfl|hs
    ·simpa using h1
    ·exact PC h s hs
theorem Oa {n:Nat}:∀{l:List mQ}{seen:List ByteArray},oV n seen l=0->∀x∈l,eY x.nm=true
 |[],_,_,_,h=>by cases h
 |x::l,seen,h,s,hs=>by
  simp only[oV] at h;split at h
  ·cases h
  ·rename_i h1
   split at h
   ·cases h
   ·split at h
    ·cases h
    ·rcases bV.1 hs with rfl|hs
     ·simpa using h1
     ·exact Oa h s hs
theorem Z3 {m:ra}(h:tw b m=0)(hk:m.k=3):eY m.nm=true:=by
 cases a:eY m.nm with
 |true=>rfl
 |false=>
  unfold tw at h
  simp only[hk,a] at h
  simp at h
  split at h
  ·cases h
  ·split at h <;> cases h
theorem W3 (h:oM b=0):∀s∈vV b,eY s=true:=by
 obtain⟨a,g⟩:=nU h;unfold nC at a;split at a
 ·cases a
 rename_i q1;split at a
 ·rename_i q;exact absurd a q
 rename_i d;have d:=fp.1 d;split at a
 ·rename_i q;exact absurd (by exact_mod_cast a) q
 split at a
 ·rename_i q;exact absurd (by exact_mod_cast a) q
 split at a
 ·rename_i q;exact absurd a q
 rename_i c;have c:=fp.1 c;unfold kP at d;split at d
 ·cases d
 unfold th at c;split at c
 ·cases c
 split at c
 ·rename_i q;exact absurd c q
 rename_i f;have f:=fp.1 f;intro s hs;unfold vV uC MT at hs;rw[dI,dI] at hs;rcases bV.1 hs with rfl|hs
 ·simpa using q1
 rcases bB.1 hs with hs|hs
 ·exact PC d s hs
 rcases bB.1 hs with hs|hs
 ·obtain⟨x,e,rfl⟩:=cD.1 hs
  exact Oa f x e
 ·obtain⟨x,e,rfl⟩:=cD.1 hs
  obtain⟨e,i⟩:=fN.1 e;exact Z3 (g x e).2.2 (rD i)
theorem Uy (h:Sm b)(ch:oM b=0):Sz b:=by
 have g:=h.tt;rw[qk] at g;have m:=u9 (f:=λs:ByteArray=>1+s.size) (λx=>by omega) b.rg;have n:=u9 (f:=λt:bp=>1+t.ar.length) (λx=>by omega) b.ty;have p:=u9 (f:=λl:mQ=>1+l.nm.size) (λx=>by omega) b.lc;have q:=u9 (f:=vw) (λx=>by unfold vw;omega) b.bl;exact {
  rg:=by omega
  ol:=by omega
  ty:=by omega
  lc:=by omega
  bl:=by omega
  ar:=λx c=>by have:=jh (f:=λt:bp=>1+t.ar.length) c;omega
  st:=λx c=>by
   have r:=jh (f:=vw) c;have e:vw x=1+x.st.length+x.tm.tg.length+x.tm.pl.pr.length+x.tm.nm.size+sm yH x.st+uZ x.tm.ar:=rfl;have i:uZ x.tm.ar=x.tm.ar.length+sm (λo=>o.pl.pr.length) x.tm.ar:=rfl;refine⟨by omega,λs d=>?_,by omega,by omega,λo a=>?_,by omega⟩
   ·have u:=jh (f:=yH) d
    have j:yH s=s.pl.pr.length+s.rv.pl.pr.length+uZ s.rv.ar:=rfl;have k:uZ s.rv.ar=s.rv.ar.length+sm (λo=>o.pl.pr.length) s.rv.ar:=rfl;exact⟨by omega,by omega,by omega,λo a=>by have:=jh (f:=λo:gq=>o.pl.pr.length) a;omega⟩
   ·have:=jh (f:=λo:gq=>o.pl.pr.length) a;omega
  id:=W3 ch
  l2:=by have:=Y6 (cI b) b;omega
  l3:=by
   have:=yc (f:=FA (cI b)) 200 (Vg _) b.bl;have:=iG b.bl.length;unfold tV;rw[aV];omega}
theorem ZX {p:ByteArray}(z:Sz b)(hn:∀s∈cI b,s.size<=200)(hp:eY p=true)(h1:p.size<=20):Sz (jR p b) where
 rg:=by rw[qh];exact z.rg
 ol:=z.ol
 ty:=z.ty
 lc:=by rw[uT];exact z.lc
 bl:=by rw[uL];exact z.bl
 ar:=z.ar
 st:=λs h=>by
  obtain⟨y,hy,rfl⟩:=cD.1 h;have:=z.st y hy;show y.st.length<=3000/\(∀s∈y.st,SzS s)/\(yE p y.tm).pl.pr.length<=3000/\(yE p y.tm).ar.length<=3000/\(∀o∈(yE p y.tm).ar,o.pl.pr.length<=3000)/\(yE p y.tm).tg.length<=3000;unfold yE;split <;> exact this
 id:=λs h=>by
  rw[Ul] at h;obtain⟨y,hy,rfl⟩:=cD.1 h;exact OL hp h1 (z.id y hy) (hn y (fT.2 hy))
 l2:=by rw[AZ,NS];exact z.l2
 l3:=by rw[AZ,Ii];exact z.l3
theorem JN {s:ByteArray}(h:eY s=true):s.size<=255:=by
 unfold eY oU at h;simp only[cX,dF] at h;exact h.1.1.2
theorem Dm (z:Sz b):(vV b).length<=9001:=by
 have h:=vW b b.lc.length b.bl.length;have:=z.rg;have:=z.lc;have:=z.bl;unfold vV;omega
theorem Nj (z:Sz b):(nD (cI b)).length<=3000000:=by
 have c:=qY (vV b);have d:=Dm z;have g:=oP (f:=ox) (n:=265) (l:=cI b) λs a=>by
  have:=JN (z.id s (fT.1 a));have:=(eX s.size (by omega)).2;unfold ox;rw[aV];have e:s.data.toList.length=s.size:=rfl;omega
 have e:(cI b).length=(jf (vV b)).length:=rfl;have h:=(eX (cI b).length (by omega)).2;unfold nD;rw[aV];omega
def As (b:bn):List (List UInt8):=[nD (cI b),CF (cI b) b,tV (cI b) b.bl]
theorem Au (z:Sz b):(gz (As b)).length<=1000000000:=by
 have a:=Nj z;have c:=z.l2;have d:=z.l3;have f:=(eX (nD (cI b)).length (by omega)).2;have g:=(eX (CF (cI b) b).length (by omega)).2;have h:=(eX (tV (cI b) b.bl).length (by omega)).2;unfold As gz jq jq jq jq;simp only[aV,vo,dX];have e:Sq.length=5:=rfl;omega
theorem Ue (b:bn)(H:aA)(t:Tb b)(z:Sz b):aN prog 10 [.agg (cu b)] H λd H'=>d=.eO [.seq 1 ((gz (As b)).map bD),i64 0]/\H=H':=by
 have c:∀a,aN prog 35 [.agg (cu b)] a λd H'=>d=i64 0/\a=H':=λa=>by
  have:=wm b a t.sb λ_=>t.ck;rwa[t.ch] at this
 have i:(cI b).Pairwise xx:=pW _;have k:(cI b).length<=9001:=ma (qY _) (Dm z);have g:∀{s},s∈vV b->s∈cI b:=fT.2;have j:jf (cI b)=cI b:=ub (pW _) i λx=>fT;have q:=z.rg;have r:=z.ol;have u:=z.ty;have v:=z.lc;have w:=z.bl;have f:∀s∈cI b,eY s=true:=λs e=>z.id s (fT.1 e);refine Bv b (cI b) (cI b) _ _ H c (λa=>zg b a ⟨by omega,by omega,by omega⟩) (λa=>?_)
  (λa=>CG b _ a c i (by omega) (g jm) (λs e=>g (J5 s e)) (λs e=>g (J6 s e)) (λx h=>by have:=z.ar x h;omega) (by omega) (by omega) (by omega) (by omega) (by have:=z.l2;omega))
  (λa=>Bu b _ a i (by omega) ⟨by omega,λx h=>?_,by have:=z.l3;omega⟩ c) (by omega) (Au z)
 ·have:=ON (cI b) a (by omega) λs e=>by have:=JN (f s e);unfold cH;omega
  unfold AO at this;rwa[aD f,j] at this
 ·obtain⟨s1,n,y,s4,p,s6⟩:=z.st x h
  exact⟨by omega,n,⟨by omega,by omega,λo m=>by have:=p o m;omega,by omega,λl=>g (J7 x h l)⟩⟩
end Go.Proofs.YtffgfafbffdgaaaGreatDoor
