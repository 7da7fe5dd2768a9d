/- Lemmas and contracts of functions, several texts in one. -/
import Derived.Test.YtffgfafbffdgaaaGreatDoorR15
import Derived.OpenShut
set_option maxRecDepth 100000
set_option maxHeartbeats 4000000
set_option linter.all false
namespace Go.Proofs.YtffgfafbffdgaaaGreatDoor
open Go.RowKit
variable {i b r a:Nat}{H0 H K:aA}{t:List ByteArray}{l:List UInt8}
def sm {c:Type}(f:c->Nat):List c->Nat
 |[]=>0
 |x::l=>f x+sm f l
theorem xT {c:Type}(f:c->Nat):∀(l m:List c),sm f (l++m)=sm f l+sm f m
 |[],m=>by simp [sm]
 |x::l,m=>by simp only[dJ,sm];rw[xT f l m];omega
theorem su {c:Type}{f:c->Nat}{l:List c}(h:i<l.length):sm f (l.take (i+1))=sm f (l.take i)+f l[i]:=by rw[bw h,xT];simp [sm]
theorem Pw {c:Type}(f:c->Nat)(l:List c)(i:Nat):sm f (l.take i)<=sm f l:=by
 have:=xT f (l.take i) (l.drop i);rw[ga] at this;omega
theorem jh {c:Type}{f:c->Nat}{x:c}:∀{l:List c},x∈l->f x<=sm f l
 |y::l,h=>by
  simp only[sm];rcases bV.1 h with rfl|h
  ·omega
  ·have:=@jh c f x l h;omega
theorem vq {c:Type}{f g:c->Nat}:∀{l:List c},(∀x∈l,f x<=g x)->sm f l<=sm g l
 |[],_=>bh _
 |x::l,h=>by
  simp only[sm];have h1:=h x (by simp);have j:=@vq c f g l λy e=>h y (by simp [e]);omega
theorem Az {c:Type}(l:List c):sm (λ_=>1) l=l.length:=by
 induction l with
 |nil=>rfl
 |cons x l e=>simp only[sm,bx];omega
theorem BA {c:Type}(f:c->Nat)(k:Nat)(l:List c):sm (λx=>k * f x) l=k * sm f l:=by
 induction l with
 |nil=>simp [sm]
 |cons x l e=>simp only[sm];rw[e,Nat.mul_add]
theorem E2 {c:Type}(f g:c->Nat)(l:List c):sm (λx=>f x+g x) l=sm f l+sm g l:=by
 induction l with
 |nil=>simp [sm]
 |cons x l e=>simp only[sm];rw[e];omega
def Sx (l:List gq):Nat:=sm (λo=>2+o.pl.pr.length) l
def ZA (s:qO):Nat:=4+s.pl.pr.length+s.rv.pl.pr.length+Sx s.rv.ar
def nTm (t:ra):Nat:=2+t.tg.length+Sx t.ar+t.pl.pr.length
def Ww (x:im):Nat:=sm ZA x.st+nTm x.tm
def EE (b:bn):Nat:=1+b.rg.length+b.ol.length+b.lc.length+b.ty.length+b.bl.length+sm (λt=>t.ar.length) b.ty+sm Ww b.bl
def Uw (p:gR):Prop:=p.pr.length<=1000000
def smO (l:List gq):Prop:=l.length<=1000000/\∀o∈l,Uw o.pl
def XY (b:bn):Prop:=b.rg.length<=1000000/\b.lc.length<=1000000/\b.bl.length<=1000000
def aCs (x:im):Prop:=x.st.length<=1000000/\(∀s∈x.st,Uw s.pl/\Uw s.rv.pl/\smO s.rv.ar)/\x.tm.tg.length<=1000000/\smO x.tm.ar/\Uw x.tm.pl/\Ww x<=1000000
open Tryz
def MT (l:List im):List ByteArray:=(l.filter λx=>decide (x.tm.k=3)).map (·.tm.nm)
def uC (b:bn) (i j:Nat):List ByteArray:=b.nm::(b.rg++((b.lc.take i).map (·.nm)++MT (b.bl.take j)))
def vV (b:bn):List ByteArray:=uC b b.lc.length b.bl.length
theorem OK {b:bn}(h:i<b.lc.length):uC b (i+1) 0=uC b i 0++[b.lc[i].nm]:=by
 unfold uC MT;rw[bw h];simp only[bI,cC,fw,gK,List.filter_nil,bz,dJ,bE]
theorem OJ {b:bn}{j:Nat}(h:j<b.bl.length):uC b i (j+1)=uC b i j++(if b.bl[j].tm.k=3 then [b.bl[j].tm.nm] else []):=by
 unfold uC MT;rw[bw h,ly];by_cases e:b.bl[j].tm.k=3
 ·simp [e]
 ·simp [e]
theorem Rc (l:List im):(MT l).length<=l.length:=by unfold MT;rw[aS];exact kU _ _
theorem vW (b:bn)(i j:Nat):(uC b i j).length<=1+b.rg.length+b.lc.length+b.bl.length:=by
 have c:=Rc (b.bl.take j);unfold uC;rw[bx,aV,aV,aS,bX];rw[bX] at c;omega
theorem Yh (b:bn)(H:aA)(hs:XY b):aN prog 71 [.agg (cu b)] H λd H'=>Ge H (vV b) d H'/\H.le H':=by
 obtain⟨a5,a4,a3⟩:=hs;have P:=lm eQ b.lc;have L:=lm dM b.bl;have N:=vW b;refine dO func71 ntmps71 results71 λw0 g0 Q aB=>?_;refine tq (av @cu.eq_1 @bC.eq_1) ?_;intro U Y O C;intro c1 a0;refine Y _ ?_;refine cm 1 a0 ?_;refine to trivial ?_;intro U Y O C;intro c hc;have M:Gl H 9 1 [[bC b.nm]] (.os c 0 1 0 1) (H.aU c (.row 9 0 1 [[bC b.nm]])) (some c):=.inr ⟨c,0,rfl,rfl,hc,aK _ _ _⟩;refine ax (e:=9) kR rfl kR rfl G5 rfl (by decide) (aQ (aF _) hc) M (new:=b.rg.map sD) (by exact⟨rfl,rfl⟩) (by rw[aS,eE];show(_+_) * 16<=_;omega) λd H6 R o n _=>?_;have p:=Ge.of (l:=uC b 0 0) o (by simp [uC,MT,sD]) (by simp [uC]);refine tn P ?_;refine aO b.lc.length (λi s=>s.df=[]/\s.fr 1=.rp (cu b)/\s.fr 15=.seq 2 (b.lc.map eQ)/\s.fr 16=i64 b.lc.length/\s.fr 17=i64 i/\H.le s.H/\Ge H (uC b i 0) (s.fr 3) s.H) ⟨rfl,rfl,rfl,rfl,rfl,n,p⟩ ?_;clear M o n p;rintro i s hi ⟨j,S,E,u,v,B,p⟩;simp only[cu] at S;have Z:=aX i;have z:=aZ i;obtain⟨ob,T⟩:=p.gl;by_cases g:i<b.lc.length
 case pos=>
  have A:=lT i b.lc.length;have m:=bZ (f:=eQ) g;have w3:=wS i;have h:=OK g;obtain⟨x,J⟩:=oX b.lc[i];rw[<-J] at m h;simp only[eQ,bC] at m;have hb:=N i 0;refine tq (bG E u v A P m Z (av z g)) ?_;intro U Y O C;intro c5 a1;refine Y _ ?_;refine cm 5 a1 ?_;refine t0 ?_;intro U Y O C;refine ax (e:=9) kR rfl kR rfl G5 rfl (by decide) B T (new:=[sD x.nm]) (by exact⟨rfl,rfl⟩) (by rw[aS];show(_+1) * 16<=_;omega) λd H6 R o n _=>?_;have I:=Ge.of (l:=uC b (i+1) 0) o (by rw[h];simp) (by simp [uC]);refine tn (av v w3) ?_;exact⟨g,j,S,E,u,rfl,n,I⟩
 have A:=lF i b.lc.length;have e:i=b.lc.length:=by omega
 subst e;refine tn (cw S u v A L) ?_;refine aO b.bl.length (λi s=>s.df=[]/\s.fr 28=.seq 7 (b.bl.map dM)/\s.fr 29=i64 b.bl.length/\s.fr 30=i64 i/\H.le s.H/\Ge H (uC b b.lc.length i) (s.fr 3) s.H) ⟨j,rfl,rfl,rfl,B,p⟩ ?_;clear j S E u v B p T g A hi Z z;rintro i s hi ⟨j,G,w,y,B,p⟩;have Z:=aX i;have z:=aZ i;by_cases g:i<b.bl.length
 case neg=>
  have A:=lF i b.bl.length;have e:i=b.bl.length:=by omega
  subst e;refine ur aB (bQ w y A) j ?_;exact⟨_,aF _,p,B⟩
 obtain⟨ob,T⟩:=p.gl;have A:=lT i b.bl.length;have m:=bZ (f:=dM) g;have w3:=wS i;have h:=OJ (i:=b.lc.length) g;obtain⟨x,J⟩:=oX b.bl[i];rw[<-J] at m h;simp only[dM,bC] at m;have hb:=N b.lc.length i;refine tq (bG G w y A L m Z (av z g)) ?_;intro U Y O C;intro c7 a2;refine Y _ ?_;refine cm 7 a2 ?_;by_cases V:x.tm.k=3
 ·have p2:(x.tm.k=3)=True:=aG V
  rw[aD V] at h;refine tq p2 ?_;intro U Y O C;refine ax (e:=9) kR rfl kR rfl G5 rfl (by decide) B T (new:=[sD x.tm.nm]) (by exact⟨rfl,rfl⟩) (by rw[aS];show(_+1) * 16<=_;omega) λd H6 R o n _=>?_;have I:=Ge.of (l:=uC b b.lc.length (i+1)) o (by rw[h];simp) (by simp [uC]);refine tn (av y w3) ?_;exact⟨g,j,G,w,rfl,n,I⟩
 ·have p2:(x.tm.k=3)=False:=aI V
  rw[aC V,bz] at h;refine tn (bQ y w3 p2) ?_;exact⟨g,j,G,w,rfl,B,by rw[h];exact p⟩
theorem Wc (b:bn)(H:aA)(hs:XY b):aN prog 20 [.agg (cu b)] H λd H'=>Ge H (vV b) d H'/\H.le H':=by
 obtain⟨a2,a1,a0⟩:=hs;have A:=lm eQ b.lc;have w:=lm dM b.bl;have I:=vW b;refine dO func20 ntmps20 results20 λw0 g0 Q aB=>?_;refine tq (av @cu.eq_1 @bC.eq_1) ?_;intro U Y O C;intro c1 T;refine Y _ ?_;refine cm 1 T ?_;refine to trivial ?_;intro U Y O C;intro c hc;have G:Gl H 9 1 [[bC b.nm]] (.os c 0 1 0 1) (H.aU c (.row 9 0 1 [[bC b.nm]])) (some c):=.inr ⟨c,0,rfl,rfl,hc,aK _ _ _⟩;refine ax (e:=9) kR rfl kR rfl G5 rfl (by decide) (aQ (aF _) hc) G (new:=b.rg.map sD) (by exact⟨rfl,rfl⟩) (by rw[aS,eE];show(_+_) * 16<=_;omega) λd Z L p n _=>?_;have v:=Ge.of (l:=uC b 0 0) p (by simp [uC,MT,sD]) (by simp [uC]);refine tn A ?_;refine aO b.lc.length (λi s=>s.df=[]/\s.fr 1=.rp (cu b)/\s.fr 4=i64 i/\H.le s.H/\Ge H (uC b i 0) (s.fr 3) s.H) ⟨rfl,rfl,rfl,n,v⟩ ?_;clear G p n v;rintro i s hi ⟨m,o,M,z,v⟩;simp only[cu] at o;have J:=aX i;have u:=aZ i;obtain⟨ob,P⟩:=v.gl;by_cases g:i<b.lc.length
 case pos=>
  have y:=lT i b.lc.length;have h:=bZ (f:=eQ) g;have S:=wS i;have j:=OK g;obtain⟨x,E⟩:=oX b.lc[i];rw[<-E] at h j;simp only[eQ,bC] at h;have hb:=I i 0;refine tq (bG o M y A h J u g) ?_;intro U Y O C;refine ax (e:=9) kR rfl kR rfl G5 rfl (by decide) z P (new:=[sD x.nm]) (by exact⟨rfl,rfl⟩) (by rw[aS];show(_+1) * 16<=_;omega) λd Z L p n _=>?_;have B:=Ge.of (l:=uC b (i+1) 0) p (by rw[j];simp) (by simp [uC]);refine tn (av M S) ?_;exact⟨g,m,o,rfl,n,B⟩
 have y:=lF i b.lc.length;have e:i=b.lc.length:=by omega
 subst e;refine tn (cw o M y w A) ?_;refine aO b.bl.length (λi s=>s.df=[]/\s.fr 1=.rp (cu b)/\s.fr 5=i64 i/\H.le s.H/\Ge H (uC b b.lc.length i) (s.fr 3) s.H) ⟨m,o,rfl,z,v⟩ ?_;clear m o M z v P g y hi J u;rintro i s hi ⟨m,o,N,z,v⟩;simp only[cu] at o;have J:=aX i;have u:=aZ i;by_cases g:i<b.bl.length
 case neg=>
  have y:=lF i b.bl.length;have e:i=b.bl.length:=by omega
  subst e;refine ur aB (cA o N y w) m ?_;exact⟨_,aF _,v,z⟩
 obtain⟨ob,P⟩:=v.gl;have y:=lT i b.bl.length;have h:=bZ (f:=dM) g;have S:=wS i;have j:=OJ (i:=b.lc.length) g;obtain⟨x,E⟩:=oX b.bl[i];rw[<-E] at h j;simp only[dM,bC] at h;have hb:=I b.lc.length i;by_cases R:x.tm.k=3
 ·have V:(x.tm.k=3)=True:=aG R
  rw[aD R] at j;refine tq (bG o N y w h J u (av g V)) ?_;intro U Y O C;refine ax (e:=9) kR rfl kR rfl G5 rfl (by decide) z P (new:=[sD x.tm.nm]) (by exact⟨rfl,rfl⟩) (by rw[aS];show(_+1) * 16<=_;omega) λd Z L p n _=>?_;have B:=Ge.of (l:=uC b b.lc.length (i+1)) p (by rw[j];simp) (by simp [uC]);refine tn (av N S) ?_;exact⟨g,m,o,rfl,n,B⟩
 ·have V:(x.tm.k=3)=False:=aI R
  rw[aC R,bz] at j;refine tn (bG o N y w h J u (bQ g V S)) ?_;exact⟨g,m,o,rfl,z,by rw[j];exact v⟩
theorem SQ (b:bn)(H:aA)(hs:XY b):aN prog 20 [.agg (cu b)] H λd H'=>d=.seq 1 ((vV b).map sD)/\H=H':=
 aq (K:=λd=>d=.seq 1 ((vV b).map sD)) ((Wc b H hs).mono λd H' ⟨⟨c,o,f,g,h⟩,e⟩=>⟨e,_,da (ob:=some c) e (.inr ⟨c,o,rfl,by rw[f,aS],g,h⟩),rfl⟩)
def cI (b:bn):List ByteArray:=jf (vV b)
theorem zg (b:bn)(H:aA)(hs:XY b):aN prog 37 [.agg (cu b)] H λd H'=>d=.seq 1 ((cI b).map sD)/\H=H':=by
 refine aq (K:=λd=>d=.seq 1 ((cI b).map sD)) ?_;have G:=vW b b.lc.length b.bl.length;have n:=hs;obtain⟨B,z,y⟩:=hs;unfold cI;rw[<-AY];refine dO func37 ntmps37 results37 λJ I Q s=>?_;refine tq @cu.eq_1 ?_;intro U Y O C;intro E m;refine Y _ ?_;refine cm 1 m ?_;refine t0 ?_;intro U Y O C;refine(Yh b _ n).mono ?_;rintro d p ⟨⟨c,o,rfl,j,h⟩,w⟩;obtain⟨L,v⟩:=oX (vV b);have x:L.length<=3000001:=by rw[v];unfold vV;omega
 rw[<-v] at h s ⊢;refine t0 ?_;intro U Y O C;refine(Ci h (by omega)).mono ?_;rintro d _ ⟨rfl,rfl⟩;refine t0 ?_;intro U Y O C;have u:=vN (aK p c (.row 9 o 1 ((je L).map sD))) (by rw[iS];omega);rw[iS] at u;refine u.mono ?_;rintro d _ ⟨rfl,g,rfl,f⟩;refine u0 s ?_;have e:H.le (p.aU c (.row 9 o 1 (g.map sD))):=aQ w j;have A:(jo (je L)).length<=g.length:=by have:=ai List.length f;rw[bX] at this;omega
 exact⟨_,aF _,e,_,nY (k:=0) e (aK _ _ _) j (by rw[aS];omega),by rw[dj,<-iK,f]⟩
theorem O3 (b:bn)(H:aA)(hs:XY b):aN prog 7 [.agg (cu b)] H λd H'=>d=.seq 1 ((cI b).map sD)/\H=H':=by
 have P:=vW b b.lc.length b.bl.length;have p:=hs;obtain⟨G,E,B⟩:=hs;unfold cI;refine dO func7 ntmps7 results7 λT R Q x=>?_;refine tq @cu.eq_1 ?_;intro U Y O C;intro N n;refine Y _ ?_;refine cm 1 n ?_;refine t0 ?_;intro U Y O C;refine(SQ b _ p).q ?_;obtain⟨L,z⟩:=oX (vV b);have A:L.length<=3000001:=by rw[z];unfold vV;omega
 rw[<-z] at x ⊢;have f:=lm sD L;refine t0 ?_;intro U Y O C;refine RK 3 (.seq 1 ((jf (L.take 0)).map sD)) (λw v I=>by exact fO _ _ _ I) ?_;refine aO L.length (λi s=>s.df=[]/\s.fr 3=.seq 1 ((jf (L.take i)).map sD)/\s.fr 4=.seq 1 (L.map sD)/\s.fr 5=i64 i/\s.H=H) ⟨rfl,rfl,rfl,rfl,rfl⟩ ?_;rintro i s S ⟨e,h,j,k,y⟩;have J:=aX i;have m:=aZ i;by_cases c:i<L.length
 case neg=>
  have u:=lF i L.length;rw[bK (by omega)] at h;refine ur x (cw h j k u f) e ?_;exact⟨_,aF _,y.symm⟩
 have u:=lT i L.length;have o:=fg c;have g:=qY (L.take i);rw[bX] at g;have M:=wS i;refine tq (bG h j k u f o J (av m c)) ?_;intro U Y O C;refine(Yi (jf (L.take i)) L[i] _ (by omega)).q ?_;rw[<-pE,<-bw c];refine tn (av k M) ?_;exact⟨c,e,rfl,j,rfl,y⟩
def Ut (q:Int×Int):List UInt8:=fy (if q.1=1 then IntKind.i64.wrap (q.2+1) else 0)
def yr (p:gR):List UInt8:=fy p.lo++eW Ut p.pr
def VI (n:Int):Nat:=(bits .xor .u64 (IntKind.u64.wrap (IntKind.u64.wrap n * 2 ^ min 1 64)) (IntKind.u64.wrap (n.fdiv (2 ^ min 63 64)))).toNat
def TM (o:gq):List UInt8:=mv o.k::(if o.k=0\/o.k=1 then yr o.pl else if o.k=2 then put (VI o.n) else if o.k=3 then [mv o.n] else [])
def uX (f:Bool) (l:List gq):List UInt8:=(if f then fy l.length else [])++l.flatMap TM
theorem FT {c j:Type}(f:c->List j)(l:List c)(h:i<l.length):(∃r,l.flatMap f=(l.take i).flatMap f++f l[i]++r)/\(l.take (i+1)).flatMap f=(l.take i).flatMap f++f l[i]:=by
 refine⟨⟨(l.drop (i+1)).flatMap f,?_⟩,by rw[bw h,gb,rA]⟩;have e:l=l.take i++l[i]::l.drop (i+1):=by rw[qz,ga]
 have g:l.flatMap f=(l.take i++l[i]::l.drop (i+1)).flatMap f:=ai _ e;rw[g,gb,lz,bE]
theorem vF (p:gR)(h:WS H0 b l H)(hp:p.pr.length<=1000000)(hl:(l++yr p).length<=1000000000):aN prog 159 [qX b t,.agg (ee p)] H λd H'=>WS H0 b (l++yr p) H':=by
 unfold yr eW at hl ⊢;rw[<-bE,<-bE] at hl ⊢;have x:(l++fy p.lo++fy p.pr.length).length<=1000000000:=by rw[aV] at hl;omega
 have G:(l++fy p.lo).length<=1000000000:=by rw[aV] at x;omega
 have u:=lm pD p.pr;unfold ee;refine dO func159 ntmps159 results159 λw0 g0 Q N=>?_;refine t0 ?_;intro U Y O C;intro c R;refine Y _ ?_;refine cm 3 R ?_;refine t0 ?_;intro U Y O C;refine(qS p.lo (t:=t) h G).mono ?_;intro d V v;refine tq u ?_;intro U Y O C;refine(qS p.pr.length (t:=t) v x).mono ?_;intro d Z P;refine tn u ?_;refine aO p.pr.length (λi s=>s.df=[]/\s.fr 0=qX b t/\s.fr 16=.seq 2 (p.pr.map pD)/\s.fr 17=i64 p.pr.length/\s.fr 18=i64 i/\WS H0 b (l++fy p.lo++fy p.pr.length++(p.pr.take i).flatMap Ut) s.H) ⟨rfl,rfl,rfl,rfl,rfl,by rw[gK,nL,bz];exact P⟩ ?_;rintro i s hi ⟨n,w,m,j,k,y⟩;by_cases f:i<p.pr.length
 case neg=>
  have J:=lF i p.pr.length;rw[bK (by omega)] at y;refine ur N (bQ j k J) n ?_;exact⟨_,aF _,y⟩
 have z:(i:Int)<(p.pr.length:Int):=by omega
 have J:=lT i p.pr.length f;have T:=aX i;have A:=aZ i;have o:(p.pr.map pD)[i]?=some (pD p.pr[i]):=bZ f;have L:=wS i;obtain⟨⟨r,I⟩,g⟩:=FT Ut p.pr f;rw[I,<-bE,aV,<-bE] at hl;obtain⟨q,S⟩:=oX p.pr[i];rw[<-S] at o g hl;simp only[pD] at o;refine tq (bG w m j k J u o (cA T A f z)) ?_;intro U Y O C;intro c5 E;refine Y _ ?_;refine cm 5 E ?_;by_cases v:q.1=1
 ·have e:Ut q=fy (IntKind.i64.wrap (q.2+1)):=by unfold Ut;rw[aD v]
  rw[e] at hl g;refine tq (av w ((aG v))) ?_;intro U Y O C;refine(qS (IntKind.i64.wrap (q.2+1)) (t:=t) y (by omega)).mono ?_;intro d M B;refine tn (av k L) ?_;exact⟨f,n,w,m,j,rfl,by rw[g,<-bE];exact B⟩
 ·have e:Ut q=fy 0:=by unfold Ut;rw[aC v]
  rw[e] at hl g;refine tq (av w ((aI v))) ?_;intro U Y O C;refine(qS 0 (t:=t) y (by omega)).mono ?_;intro d M B;refine tn (av k L) ?_;exact⟨f,n,w,m,j,rfl,by rw[g,<-bE];exact B⟩
theorem VJ (n:Int):VI n<18446744073709551616/\bits .xor .u64 (IntKind.u64.wrap (IntKind.u64.wrap n * 2 ^ min 1 64)) (IntKind.u64.wrap (n.fdiv (2 ^ min 63 64)))=(VI n:Int):=by
 unfold VI;have h:=bounds_u64 (wf_bits .xor .u64 (IntKind.u64.wrap (IntKind.u64.wrap n * 2 ^ min 1 64)) (IntKind.u64.wrap (n.fdiv (2 ^ min 63 64))));omega
theorem Vf (n:Int)(h:WS H0 b l H)(hl:l.length<=1000000000):aN prog 305 [.ep b 0 1 0 0,i64 n] H λd H'=>WS H0 b (l++put (VI n)) H':=by
 obtain⟨m,k⟩:=VJ n;have f:∀c,aN prog 348 [i64 n] c λd H'=>d=.val (.int .u64 (VI n))/\c=H':=λc=>by
  refine dO func348 ntmps348 results348 λo g Q e=>?_;refine u0 e ?_;exact⟨_,aF _,by rw[k],rfl⟩
 refine dO func305 ntmps305 results305 λo g Q e=>?_;refine t0 ?_;intro U Y O C;refine(f _).qt ?_;intro U Y O C;refine(wB _ m h hl).mono ?_;intro d p j;refine u0 e ?_;exact⟨_,aF _,j⟩
theorem HD (o:gq)(h:WS H0 b l H)(hp:o.pl.pr.length<=1000000)(hl:(l++TM o).length<=1000000000):aN prog 237 [qX b t,.agg (db o)] H λd H'=>WS H0 b (l++TM o) H':=by
 have v:=λ{A:aA}{m:List UInt8}(E:WS H0 b m A)=>vF o.pl (t:=t) E hp;obtain⟨k,⟨G,I⟩,n⟩:=o;have J:=ud k;have L:=ud n;have z:l.length<=1000000000:=by rw[aV] at hl;omega
 unfold TM at hl ⊢;rw[show ∀m:List UInt8,l++mv k::m=l++[mv k]++m by simp] at hl ⊢;have u:(l++[mv k]).length<=1000000000:=by rw[aV] at hl;omega
 obtain⟨T,e⟩:=oX ((if k=0\/k=1 then yr ⟨G,I⟩ else if k=2 then put (VI n) else if k=3 then [mv n] else []));rw[<-e] at hl ⊢;unfold db;unfold qX fB ee at *;refine dO func237 ntmps237 results237 λN M Q j=>?_;refine t0 ?_;intro U Y O C;intro c B;refine Y _ ?_;refine cm 3 B ?_;refine t0 ?_;intro U Y O C;refine ik 7 (λ_ _ _ _=>False) (by kernel_rfl) (by kernel_rfl) (by kernel_rfl) (by kernel_rfl) (by kernel_rfl) λU Y=>?_;refine dst J ?_;intro U Y O C;refine nx ?_;show WL _ _ (_::_) _ _;refine t0 ?_;intro U Y O C;refine(mV (mv k) h z).mono ?_;intro d A s;by_cases g:k=0
 ·rw[aD (.inl g)] at e
  subst e;refine tq ((aG g)) ?_;intro U Y O C;refine(v s hl).mono ?_;intro d y f;refine u0 j ?_;exact⟨_,aF _,f⟩
 by_cases p:k=1
 ·rw[aD (.inr p)] at e
  subst e;refine tq (av ((aI g)) ((aG p))) ?_;intro U Y O C;refine(v s hl).mono ?_;intro d y f;refine u0 j ?_;exact⟨_,aF _,f⟩
 rw[aC (λh=>h.elim g p)] at e;by_cases w:k=2
 ·rw[aD w] at e
  subst e;refine tq (bQ ((aI g)) ((aI p)) ((aG w))) ?_;intro U Y O C;refine ik 6 (λ_ _ _ _=>False) (by kernel_rfl) (by kernel_rfl) (by kernel_rfl) (by kernel_rfl) (by kernel_rfl) λU Y=>?_;refine dst trivial ?_;intro U Y O C;refine nx ?_;show WL _ _ (_::_) _ _;refine t0 ?_;intro U Y O C;refine(Vf n s u).mono ?_;intro d y f;refine u0 j ?_;exact⟨_,aF _,f⟩
 rw[aC w] at e;by_cases x:k=3
 ·rw[aD x] at e
  subst e;refine tq (cA ((aI g)) ((aI p)) ((aI w)) ((aG x))) ?_;intro U Y O C;refine ik 7 (λ_ _ _ _=>False) (by kernel_rfl) (by kernel_rfl) (by kernel_rfl) (by kernel_rfl) (by kernel_rfl) λU Y=>?_;refine dst L ?_;intro U Y O C;refine nx ?_;show WL _ _ (_::_) _ _;refine t0 ?_;intro U Y O C;refine(mV (mv n) s u).mono ?_;intro d y f;refine u0 j ?_;exact⟨_,aF _,f⟩
 rw[aC x] at e;subst e;rw[bz] at j;refine ur j (cA ((aI g)) ((aI p)) ((aI w)) ((aI x))) trivial ?_;exact⟨_,aF _,s⟩
theorem xb (f:Bool)(z:List gq)(h:WS H0 b l H)(hz:z.length<=1000000)(hp:∀o∈z,o.pl.pr.length<=1000000)(hl:(l++uX f z).length<=1000000000):aN prog 160 [qX b t,.seq 4 (z.map db),.val (.bool f)] H λd H'=>WS H0 b (l++uX f z) H':=by
 have k:=lm db z;unfold uX at hl ⊢;rw[<-bE] at hl ⊢;refine dO func160 ntmps160 results160 λw0 V Q I=>?_;refine bW ?_;refine nR (λs=>s.df=[]/\s.fr 0=qX b t/\s.fr 1=.seq 4 (z.map db)/\WS H0 b (l++if f then fy z.length else []) s.H) ?_ ?_
 ·cases f
  ·refine tz ?_
   exact⟨rfl,rfl,rfl,by rw[aC (by decide),bz];exact h⟩
  ·rw[aD rfl] at hl
   refine tq k ?_;intro U Y O C;refine(qS z.length (t:=t) h (by rw[aV] at hl;omega)).mono ?_;intro d R L;refine tz ?_;exact⟨rfl,rfl,rfl,L⟩
 generalize (l++if f then fy z.length else [])=m at *;rintro s ⟨e,n,J,u⟩;refine tn (av J k) ?_;refine aO z.length (λi s=>s.df=[]/\s.fr 0=qX b t/\s.fr 13=.seq 4 (z.map db)/\s.fr 14=i64 z.length/\s.fr 15=i64 i/\WS H0 b (m++(z.take i).flatMap TM) s.H) ⟨e,n,rfl,rfl,rfl,by rw[gK,nL,bz];exact u⟩ ?_;rintro i s Z ⟨e,n,p,g,j,u⟩;by_cases c:i<z.length
 case neg=>
  have G:=lF i z.length;rw[bK (by omega)] at u;refine ur I (bQ g j G) e ?_;exact⟨_,aF _,u⟩
 have x:(i:Int)<(z.length:Int):=by omega
 have G:=lT i z.length c;have N:=aX i;have y:=aZ i;have v:(z.map db)[i]?=some (db z[i]):=bZ c;have P:=wS i;obtain⟨⟨r,B⟩,E⟩:=FT TM z c;rw[B,<-bE,aV,<-bE] at hl;have w:=HD z[i] (t:=t) u (hp _ (ao c)) (by omega);simp only[db] at v w;refine tq (bG n p g j G k v (cA N y c x)) ?_;intro U Y O C;intro T A;refine Y _ ?_;refine cm 7 A ?_;refine tq n ?_;intro U Y O C;refine w.mono ?_;intro d S M;refine tn (av j P) ?_;exact⟨c,e,n,p,g,rfl,by rw[E,<-bE];exact M⟩
def Wv (r:tx):List UInt8:=if r.k=1 then fy r.rg++((if r.mu then 1 else 0)::yr r.pl) else []
def Wu (r:tx):List UInt8:=if r.k=2\/r.k=3 then [mv r.op] else []
def MD (s:qO):List UInt8:=mv s.k::(if s.k=1 then fy s.lo else if s.k=0 then yr s.pl++(mv s.rv.k::(Wv s.rv++(Wu s.rv++uX (decide (s.rv.k=4)) s.rv.ar))) else [])
structure SzS (s:qO):Prop where
 p:s.pl.pr.length<=1000000
 r:s.rv.pl.pr.length<=1000000
 a:s.rv.ar.length<=1000000
 o:∀o∈s.rv.ar,o.pl.pr.length<=1000000
theorem RX (s:qO)(h:WS H0 b l H)(hp:SzS s)(hl:(l++MD s).length<=1000000000):aN prog 84 [qX b t,.agg (ji s)] H λd H'=>WS H0 b (l++MD s) H':=by
 have a2:=λ{u:aA}{m:List UInt8}(G:WS H0 b m u)=>vF s.pl (t:=t) G hp.p;have L:=λ{u:aA}{m:List UInt8}(G:WS H0 b m u)=>vF s.rv.pl (t:=t) G hp.r;have a1:=λ{u:aA}{m:List UInt8}(G:WS H0 b m u)=>xb (decide (s.rv.k=4)) s.rv.ar (t:=t) G hp.a hp.o;have a3:=λ{u:aA}{m:List UInt8}(G:WS H0 b m u)=>qS s.rv.rg (t:=t) G;have a0:=λ{u:aA}{m:List UInt8}(G:WS H0 b m u)=>qS s.lo (t:=t) G;clear hp;obtain⟨k,⟨w,z⟩,⟨f,y,rg,I,⟨g,j⟩,J⟩,x⟩:=s;have w1:=ud k;have w2:=ud f;have w4:=ud y;have a6:l.length<=1000000000:=by rw[aV] at hl;omega
 unfold MD at hl ⊢;rw[show ∀m:List UInt8,l++mv k::m=l++[mv k]++m by simp] at hl ⊢;have a8:(l++[mv k]).length<=1000000000:=by rw[aV] at hl;omega
 simp only at hl ⊢ a2 L a1 a3 a0;obtain⟨T,E⟩:=oX ((if k=1 then fy x else if k=0 then yr ⟨w,z⟩++(mv f::(Wv ⟨f,y,rg,I,⟨g,j⟩,J⟩++(Wu ⟨f,y,rg,I,⟨g,j⟩,J⟩++uX (decide (f=4)) J))) else []));rw[<-E] at hl ⊢;unfold ji;unfold qX fB ee at *;refine dO func84 ntmps84 results84 λw0 g0 Q V=>?_;refine t0 ?_;intro U Y O C;intro c hc;refine Y _ ?_;refine cm 3 hc ?_;refine t0 ?_;intro U Y O C;refine ik 7 (λ_ _ _ _=>False) (by kernel_rfl) (by kernel_rfl) (by kernel_rfl) (by kernel_rfl) (by kernel_rfl) λU Y=>?_;refine dst w1 ?_;intro U Y O C;refine nx ?_;show WL _ _ (_::_) _ _;refine t0 ?_;intro U Y O C;refine(mV (mv k) h a6).mono ?_;intro d u h1;refine t0 ?_;intro U Y O C;intro c4 a5;refine Y _ ?_;refine cm 4 a5 ?_;by_cases k1:k=1
 ·rw[aD k1] at E
  subst E;refine tq ((aG k1)) ?_;intro U Y O C;refine(a0 h1 hl).mono ?_;intro d H2 h2;refine u0 V ?_;exact⟨_,aF _,h2⟩
 rw[aC k1] at E;by_cases k0:k=0
 case neg=>
  rw[aC k0] at E;subst E;rw[bz] at V;refine ur V (av ((aI k1)) ((aI k0))) trivial ?_;exact⟨_,aF _,h1⟩
 rw[aD k0] at E;obtain⟨M,hM⟩:=oX (Wv ⟨f,y,rg,I,⟨g,j⟩,J⟩);obtain⟨P,hP⟩:=oX (Wu ⟨f,y,rg,I,⟨g,j⟩,J⟩);rw[<-hM,<-hP] at E;have a4:l++[mv k]++T=l++[mv k]++yr ⟨w,z⟩++[mv f]++M++P++uX (decide (f=4)) J:=by rw[E];simp
 rw[a4] at hl V;have l5:(l++[mv k]++yr ⟨w,z⟩++[mv f]++M++P).length<=1000000000:=by rw[aV] at hl;omega
 have N:(l++[mv k]++yr ⟨w,z⟩++[mv f]++M).length<=1000000000:=by rw[aV] at l5;omega
 have l3:(l++[mv k]++yr ⟨w,z⟩++[mv f]).length<=1000000000:=by rw[aV] at N;omega
 have l2:(l++[mv k]++yr ⟨w,z⟩).length<=1000000000:=by rw[aV] at l3;omega
 refine tq (av ((aI k1)) ((aG k0))) ?_;intro U Y O C;refine(a2 h1 l2).mono ?_;intro d H2 h2;refine t0 ?_;intro U Y O C;refine ik 7 (λ_ _ _ _=>False) (by kernel_rfl) (by kernel_rfl) (by kernel_rfl) (by kernel_rfl) (by kernel_rfl) λU Y=>?_;refine dst w2 ?_;intro U Y O C;refine nx ?_;show WL _ _ (_::_) _ _;refine t0 ?_;intro U Y O C;refine(mV (mv f) h2 l2).mono ?_;intro d H3 S;(iterate 2 (refine tk trivial ?_;intro U Y O C));refine nR (λs=>s.df=[]/\s.fr 0=.rp [.ep b 0 1 0 0,.rp [.seq 1 (t.map sD)],i64 0]/\s.fr 4=.rp [i64 f,i64 y,i64 rg,.val (.bool I),i64 g,.seq 2 (j.map pD),.seq 4 (J.map db)]/\WS H0 b (l++[mv k]++yr ⟨w,z⟩++[mv f]++M) s.H) ?_ ?_
 ·by_cases A:f=1
  ·have e:∀m:List UInt8,m++M=m++fy rg++[if I then 1 else 0]++yr ⟨g,j⟩:=λm=>by rw[hM];unfold Wv;rw[aD A];simp
   rw[e] at N ⊢;have a7:(l++[mv k]++yr ⟨w,z⟩++[mv f]++fy rg++[if I then 1 else 0]).length<=1000000000:=by rw[aV] at N;omega
   have R:(l++[mv k]++yr ⟨w,z⟩++[mv f]++fy rg).length<=1000000000:=by rw[aV] at a7;omega
   refine tq ((aG A)) ?_;intro U Y O C;refine(a3 S R).mono ?_;intro d H4 h4;cases I
   ·refine t0 ?_;intro U Y O C
    refine(mV 0 h4 R).mono ?_;intro d H5 Z;refine t0 ?_;intro U Y O C;refine(L Z N).mono ?_;intro d H6 h6;refine tz ?_;exact⟨rfl,rfl,rfl,h6⟩
   ·refine t0 ?_;intro U Y O C
    refine(mV 1 h4 R).mono ?_;intro d H5 Z;refine t0 ?_;intro U Y O C;refine(L Z N).mono ?_;intro d H6 h6;refine tz ?_;exact⟨rfl,rfl,rfl,h6⟩
  ·have e:M=[]:=by rw[hM];unfold Wv;rw[aC A]
   refine tn ((aI A)) ?_;exact⟨rfl,rfl,rfl,by rw[e,bz];exact S⟩
 rintro s ⟨n,B,v,hW⟩;refine bW ?_;refine nR (λs=>s.df=[]/\s.fr 0=.rp [.ep b 0 1 0 0,.rp [.seq 1 (t.map sD)],i64 0]/\s.fr 4=.rp [i64 f,i64 y,i64 rg,.val (.bool I),i64 g,.seq 2 (j.map pD),.seq 4 (J.map db)]/\WS H0 b (l++[mv k]++yr ⟨w,z⟩++[mv f]++M++P) s.H) ?_ ?_
 ·by_cases A:f=2\/f=3
  ·have e:P=[mv y]:=by rw[hP];unfold Wu;rw[aD A]
   rw[e] at l5 ⊢;have go:∀q:f=2\/f=3,True:=λ_=>trivial;by_cases r2:f=2
   ·refine tq (bQ B v ((aG r2))) ?_;intro U Y O C
    refine ik 7 (λ_ _ _ _=>False) (by kernel_rfl) (by kernel_rfl) (by kernel_rfl) (by kernel_rfl) (by kernel_rfl) λU Y=>?_;refine dst (bQ B v w4) ?_;intro U Y O C;refine nx ?_;show WL _ _ (_::_) _ _;refine t0 ?_;intro U Y O C;refine(mV (mv y) hW N).mono ?_;intro d H3 S;refine tz ?_;exact⟨n,B,v,S⟩
   ·refine tq (cA B v ((aI r2)) ((aG (A.resolve_left r2)))) ?_;intro U Y O C
    refine ik 7 (λ_ _ _ _=>False) (by kernel_rfl) (by kernel_rfl) (by kernel_rfl) (by kernel_rfl) (by kernel_rfl) λU Y=>?_;refine dst (bQ B v w4) ?_;intro U Y O C;refine nx ?_;show WL _ _ (_::_) _ _;refine t0 ?_;intro U Y O C;refine(mV (mv y) hW N).mono ?_;intro d H3 S;refine tz ?_;exact⟨n,B,v,S⟩
  ·have e:P=[]:=by rw[hP];unfold Wu;rw[aC A]
   refine tq (bQ v ((aI λh=>A (.inl h))) ((aI λh=>A (.inr h)))) ?_;intro U Y O C;exact⟨n,B,v,by rw[e,bz];exact hW⟩
 rintro s ⟨n,B,v,hW⟩;refine tq (av B v) ?_;intro U Y O C;refine(a1 hW hl).mono ?_;intro d H5 Z;refine ur V trivial n ?_;exact⟨_,aF _,Z⟩
def MI (t:List ByteArray) (m:ra):List UInt8:=mv m.k::((if m.k=3 then fy (rQ t m.nm) else [])++(uX (decide (m.k=3)) m.ar++((if m.k=3\/m.k=4 then yr m.pl else [])++m.tg.flatMap fy)))
structure SzT (t:List ByteArray) (m:ra):Prop where
 p:m.pl.pr.length<=1000000
 a:m.ar.length<=1000000
 o:∀o∈m.ar,o.pl.pr.length<=1000000
 g:m.tg.length<=1000000
 n:m.k=3->m.nm∈t
theorem RZ (s:ra)(ht:t.Pairwise xx)(a8:t.length<=1000000)(h:WS H0 b l H)(hp:SzT t s)(hl:(l++MI t s).length<=1000000000):aN prog 85 [qX b t,.agg (G2 s)] H λd H'=>WS H0 b (l++MI t s) H':=by
 have N:=λ{y:aA}{m:List UInt8}(B:WS H0 b m y)=>vF s.pl (t:=t) B hp.p;have a0:=λ{y:aA}{m:List UInt8}(B:WS H0 b m y)=>xb (decide (s.k=3)) s.ar (t:=t) B hp.a hp.o;have Z:=λ{y:aA}{m:List UInt8}(n:Int) (B:WS H0 b m y)=>qS n (t:=t) B;have L:=λy=>F7 t s.nm y (by omega) ht;have hg:=hp.g;have hn:=hp.n;clear hp;obtain⟨k,j,z,⟨lo,pr⟩,E⟩:=s;have w1:=ud k;have a4:l.length<=1000000000:=by rw[aV] at hl;omega
 unfold MI at hl ⊢;simp only at hl ⊢ N a0 L hg hn;obtain⟨M,hM⟩:=oX ((if k=3 then fy (rQ t E) else []));obtain⟨P,hP⟩:=oX ((if k=3\/k=4 then yr ⟨lo,pr⟩ else []));rw[<-hM,<-hP,show l++mv k::(M++(uX (decide (k=3)) z++(P++j.flatMap fy)))=l++[mv k]++M++uX (decide (k=3)) z++P++j.flatMap fy by simp] at hl ⊢;have l4:(l++[mv k]++M++uX (decide (k=3)) z++P).length<=1000000000:=by rw[aV] at hl;omega
 have l3:(l++[mv k]++M++uX (decide (k=3)) z).length<=1000000000:=by rw[aV] at l4;omega
 have l2:(l++[mv k]++M).length<=1000000000:=by rw[aV] at l3;omega
 have V:=lm iD j;unfold G2 bC at *;unfold qX fB ee at *;refine dO func85 ntmps85 results85 λw0 g0 Q aB=>?_;refine t0 ?_;intro U Y O C;intro c hc;refine Y _ ?_;refine cm 3 hc ?_;refine t0 ?_;intro U Y O C;refine ik 7 (λ_ _ _ _=>False) (by kernel_rfl) (by kernel_rfl) (by kernel_rfl) (by kernel_rfl) (by kernel_rfl) λU Y=>?_;refine dst w1 ?_;intro U Y O C;refine nx ?_;show WL _ _ (_::_) _ _;refine t0 ?_;intro U Y O C;refine(mV (mv k) h a4).mono ?_;intro d y h1;(iterate 2 (refine tk trivial ?_;intro U Y O C));refine nR (λs=>s.df=[]/\s.fr 0=.rp [.ep b 0 1 0 0,.rp [.seq 1 (t.map sD)],i64 0]/\s.fr 3=.rp [i64 k,.seq 1 (j.map iD),.seq 4 (z.map db),i64 lo,.seq 2 (pr.map pD),.val (.string E)]/\WS H0 b (l++[mv k]++M) s.H) ?_ ?_
 ·by_cases w:k=3
  ·have e:M=fy (rQ t E):=by rw[hM,aD w]
   have B:=mN.2 (hn w);have hd:sK t E=.eO [i64 (rQ t E),.val (.bool true)]:=by unfold sK;rw[aD B,ah B]
   rw[hd] at L;rw[e] at l2 ⊢;refine tq ((aG w)) ?_;intro U Y O C;refine dE (λ_ _ d A=>A=.none/\d=.eO [i64 (rQ t E),.val (.bool true)]) λU Y=>?_;refine dst trivial ?_;intro U Y O C;refine⟨an λa1 _=>L a1,?_⟩;refine dst trivial ?_;intro U Y O C;refine t0 ?_;intro U Y O C;refine(Z (rQ t E) h1 l2).mono ?_;intro d H2 h2;refine tz ?_;exact⟨rfl,rfl,rfl,h2⟩
  ·have e:M=[]:=by rw[hM,aC w]
   refine tn ((aI w)) ?_;exact⟨rfl,rfl,rfl,by rw[e,bz];exact h1⟩
 rintro s ⟨f,u,x,J⟩;refine tq (av u x) ?_;intro U Y O C;refine(a0 J l3).mono ?_;intro d H3 h3;(iterate 2 (refine tk (av u x) ?_;intro U Y O C));refine nR (λs=>s.df=[]/\s.fr 0=.rp [.ep b 0 1 0 0,.rp [.seq 1 (t.map sD)],i64 0]/\s.fr 3=.rp [i64 k,.seq 1 (j.map iD),.seq 4 (z.map db),i64 lo,.seq 2 (pr.map pD),.val (.string E)]/\WS H0 b (l++[mv k]++M++uX (decide (k=3)) z++P) s.H) ?_ ?_
 ·by_cases w:k=3
  ·have e:P=yr ⟨lo,pr⟩:=by rw[hP,aD (.inl w)]
   rw[e] at l4 ⊢;refine tq (bQ u x ((aG w))) ?_;intro U Y O C;refine(N h3 l4).mono ?_;intro d H4 S;refine tz ?_;exact⟨f,u,x,S⟩
  by_cases r2:k=4
  ·have e:P=yr ⟨lo,pr⟩:=by rw[hP,aD (.inr r2)]
   rw[e] at l4 ⊢;refine tq (cA u x ((aI w)) ((aG r2))) ?_;intro U Y O C;refine(N h3 l4).mono ?_;intro d H4 S;refine tz ?_;exact⟨f,u,x,S⟩
  ·have e:P=[]:=by rw[hP,aC λh=>h.elim w r2]
   refine tn (bQ x ((aI w)) ((aI r2))) ?_;exact⟨f,u,x,by rw[e,bz];exact h3⟩
 generalize (l++[mv k]++M++uX (decide (k=3)) z++P)=m at *;rintro s ⟨f,u,x,J⟩;refine tn (av x V) ?_;refine aO j.length (λi s=>s.df=[]/\s.fr 0=.rp [.ep b 0 1 0 0,.rp [.seq 1 (t.map sD)],i64 0]/\s.fr 57=.seq 1 (j.map iD)/\s.fr 58=i64 j.length/\s.fr 59=i64 i/\WS H0 b (m++(j.take i).flatMap fy) s.H) ⟨f,u,rfl,rfl,rfl,by rw[gK,nL,bz];exact J⟩ ?_;rintro i s hi ⟨f,u,R,G,I,J⟩;by_cases v:i<j.length
 case neg=>
  have p1:=lF i j.length;rw[bK (by omega)] at J;refine ur aB (bQ G I p1) f ?_;exact⟨_,aF _,J⟩
 have a2:(i:Int)<(j.length:Int):=by omega
 have p1:=lT i j.length v;have hx:=aX i;have a3:=aZ i;have T:(j.map iD)[i]?=some (iD j[i]):=bZ v;have w3:=wS i;obtain⟨⟨r,a6⟩,a7⟩:=FT fy j v;rw[a6,<-bE,aV,<-bE] at hl;have a5:=Z j[i] J (by omega);simp only[iD] at T;refine tq (bG u R G I p1 V T (cA hx a3 v a2)) ?_;intro U Y O C;refine a5.mono ?_;intro d H4 S;refine tn (av I w3) ?_;exact⟨v,f,u,R,G,rfl,by rw[a7,<-bE];exact S⟩
def FA (t:List ByteArray) (x:im):List UInt8:=fy x.st.length++(x.st.flatMap MD++MI t x.tm)
def tV (t:List ByteArray) (l:List im):List UInt8:=fy l.length++l.flatMap (FA t)
structure SzB (t:List ByteArray) (b:bn):Prop where
 bl:b.bl.length<=1000000
 st:∀x∈b.bl,x.st.length<=1000000/\(∀s∈x.st,SzS s)/\SzT t x.tm
 ln:(tV t b.bl).length<=1000000000
theorem Bu (b:bn)(t:List ByteArray)(H:aA)(ht:t.Pairwise xx)(al:t.length<=1000000)(hp:SzB t b)(Z:∀H1,aN prog 35 [.agg (cu b)] H1 λd H'=>d=i64 0/\H1=H'):aN prog 39 [.agg (cu b),fB t] H λd H'=>d=.eO [.seq 1 ((tV t b.bl).map bD),i64 0]/\H=H':=by
 have a2:=λ{w:Nat}{H1:aA}{m:List UInt8}(n:Int) (hm:WS H w m H1)=>qS n (t:=t) hm;obtain⟨p1,p2,k⟩:=hp;have J:=lm dM b.bl;unfold tV at k ⊢;have l1:(fy b.bl.length).length<=1000000000:=by rw[aV] at k;omega
 unfold cu at Z ⊢;unfold fB at *;refine dO func39 ntmps39 results39 λw0 g0 Q aB=>?_;refine t0 ?_;intro U Y O C;intro c hc;refine Y _ ?_;refine cm 2 hc ?_;refine t0 ?_;intro U Y O C;refine(Z _).qt ?_;intro U Y O C;refine(sO _).mono ?_;rintro d H1 ⟨w,rfl,hW⟩;refine t0 ?_;intro U Y O C;intro e he;refine Y _ ?_;refine cm 6 he ?_;refine tq J ?_;intro U Y O C;refine(a2 b.bl.length hW l1).mono ?_;intro d H2 V;rw[cz] at V;refine tn J ?_;refine aO b.bl.length (λi s=>s.df=[]/\s.fr 6=qX w t/\s.fr 28=.seq 7 (b.bl.map dM)/\s.fr 29=i64 b.bl.length/\s.fr 30=i64 i/\WS H w (fy b.bl.length++(b.bl.take i).flatMap (FA t)) s.H) ⟨rfl,rfl,rfl,rfl,rfl,by rw[gK,nL,bz];exact V⟩ ?_;rintro i s hi ⟨a0,M,o,u,v,B⟩;by_cases f:i<b.bl.length
 case neg=>
  have q1:=lF i b.bl.length;rw[bK (by omega)] at B;refine tq (eP M o u v @qX.eq_1 q1) ?_;intro U Y O C;refine(BM B k).q ?_;refine ur aB trivial a0 ?_;exact⟨_,aF _,rfl⟩
 have a6:(i:Int)<(b.bl.length:Int):=by omega
 have q1:=lT i b.bl.length f;have hx:=aX i;have a9:=aZ i;have I:(b.bl.map dM)[i]?=some (dM b.bl[i]):=bZ f;have w3:=wS i;obtain⟨⟨r,ag⟩,a3⟩:=FT (FA t) b.bl f;obtain⟨u1,u2,u3⟩:=p2 _ (ao f);rw[ag,<-bE,aV,<-bE] at k;obtain⟨x,am⟩:=oX b.bl[i];rw[<-am] at I a3 k u1 u2 u3;have L:=lm ji x.st;have a4:fy b.bl.length++(b.bl.take (i+1)).flatMap (FA t)=fy b.bl.length++(b.bl.take i).flatMap (FA t)++FA t x:=by rw[a3,<-bE]
 generalize (fy b.bl.length++(b.bl.take i).flatMap (FA t))=m0 at *;unfold FA at k;rw[<-bE,<-bE] at k;simp only[dM] at I;refine tq (bG M o u v J q1 I (cA hx a9 f a6)) ?_;intro U Y O C;intro c8 ac;refine Y _ ?_;refine cm 8 ac ?_;refine tq (av M L) ?_;intro U Y O C;obtain⟨n0,p⟩:=oX (m0++fy x.st.length);have ak:m0++FA t x=n0++x.st.flatMap MD++MI t x.tm:=by unfold FA;rw[<-bE,<-bE,<-p]
 rw[ak] at a4;rw[<-p] at k;have l2:(n0++x.st.flatMap MD).length<=1000000000:=by simp only[aV] at k ⊢;omega
 have l3:(n0++x.st.flatMap MD++MI t x.tm).length<=1000000000:=by simp only[aV] at k ⊢;omega
 refine(a2 x.st.length B (by rw[<-p];rw[aV] at l2;omega)).mono ?_;rw[<-p];intro d H4 ab;refine tn (av M L) ?_;refine aO x.st.length (λj h=>h.df=[]/\h.fr 6=qX w t/\h.fr 8=.rp (dM x)/\h.fr 28=s.fr 28/\h.fr 29=i64 b.bl.length/\h.fr 30=i64 i/\h.fr 40=.seq 11 (x.st.map ji)/\h.fr 41=i64 x.st.length/\h.fr 42=i64 j/\WS H w (n0++(x.st.take j).flatMap MD) h.H) ⟨a0,M,rfl,rfl,u,v,rfl,rfl,rfl,by rw[gK,nL,bz];exact ab⟩ ?_;rintro j h hj ⟨T,S,g8,y,N,P,R,z,A,E⟩;rw[o] at y;by_cases g:j<x.st.length
 case neg=>
  have q2:=lF j x.st.length;rw[bK (by omega)] at E;have tY:=RZ x.tm ht al E u3 l3;simp only[dM] at g8;simp only[G2] at tY;refine tq (cw S g8 z A q2) ?_;intro U Y O C;refine tY.mono ?_;intro d H6 G;refine tn (av P w3) ?_;exact⟨f,T,S,y,N,rfl,by rw[a4];exact G⟩
 have a7:(j:Int)<(x.st.length:Int):=by omega
 have q2:=lT j x.st.length g;have ap:=aX j;have aa:=aZ j;have a1:(x.st.map ji)[j]?=some (ji x.st[j]):=bZ g;have w4:=wS j;obtain⟨⟨r2,ad⟩,ae⟩:=FT MD x.st g;rw[ad,<-bE,aV,<-bE] at l2;have a5:=RX x.st[j] (t:=t) E (u2 _ (ao g)) (by omega);simp only[ji] at a1 a5;refine tq (bG S R z A q2 L a1 (cA ap aa g a7)) ?_;intro U Y O C;intro ar a8;refine Y _ ?_;refine cm 10 a8 ?_;refine tq S ?_;intro U Y O C;refine a5.mono ?_;intro d H6 G;refine tn (av A w4) ?_;exact⟨g,T,S,g8,y.trans o.symm,N,P,R,z,rfl,by rw[ae,<-bE];exact G⟩
theorem Bv (b:bn)(N T:List ByteArray)(g f:List UInt8)(H:aA)(n:∀H1,aN prog 35 [.agg (cu b)] H1 λd H'=>d=i64 0/\H1=H')
  (u:∀H1,aN prog 37 [.agg (cu b)] H1 λd H'=>d=.seq 1 (N.map sD)/\H1=H') (v:∀H1,aN prog 36 [.seq 1 (N.map sD)] H1 λd H'=>d=.eO [fB T,i64 0]/\H1=H')
  (o:∀H1,aN prog 38 [.agg (cu b),fB T] H1 λd H'=>d=.eO [.seq 1 (g.map bD),i64 0]/\H1=H') (m:∀H1,aN prog 39 [.agg (cu b),fB T] H1 λd H'=>d=.eO [.seq 1 (f.map bD),i64 0]/\H1=H')
  (k:T.length<=1000000000) (hl:(gz [nD T,g,f]).length<=1000000000):aN prog 10 [.agg (cu b)] H λd H'=>d=.eO [.seq 1 ((gz [nD T,g,f]).map bD),i64 0]/\H=H':=by
 have s:(nD T).length<=1000000000:=by
  have:=Ec (ds:=[nD T,g,f]) (i:=0) (by simp);have e:Gh [nD T,g,f] 0=FW [nD T,g,f] 0+(nD T).length:=rfl;omega
 have p:=λH1=>L5 T H1 s k;have h:=λH1=>NR [nD T,g,f] H1 (by simp) hl;have j:tu [nD T,g,f]=[[i64 1,.seq 1 ((nD T).map bD)],[i64 2,.seq 1 (g.map bD)],[i64 3,.seq 1 (f.map bD)]]:=rfl;rw[j] at h;generalize gz [nD T,g,f]=out at *;unfold cu at *;unfold fB at *;refine dO func10 ntmps10 results10 λz y Q w=>?_;refine t0 ?_;intro U Y O C;intro c x;refine Y _ ?_;refine cm 1 x ?_;refine t0 ?_;intro U Y O C;refine(n _).qt ?_;intro U Y O C;refine(u _).qt ?_;intro U Y O C;refine(v _).qt ?_;intro U Y O C;refine(o _).qt ?_;intro U Y O C;refine(m _).qt ?_;intro U Y O C;refine(p _).qt ?_;intro U Y O C;refine(h _).q ?_;refine u0 w ?_;exact⟨_,aF _,rfl⟩
def zB:List (List UInt8):=[[1,1,102],[0,0,0,0,0,0],[1,0,2]]
theorem Qf:(gz zB).length<=1000000000:=by
 unfold gz jq jq jq jq;simp only[aV,vo];decide
theorem K6 (H:aA)(e:∀H1,aN prog 35 [.agg (cu zS)] H1 λd H'=>d=i64 0/\H1=H'):aN prog 10 [.agg (cu zS)] H λd H'=>d=.eO [.seq 1 ((gz zB).map bD),i64 0]/\H=H':=by
 have n0:fy 0=[0]:=by decide
 have n:nD [oA]=[1,1,102]:=by decide
 have f:rQ [oA] oA=0:=by decide
 have j:CF [oA] zS=[0,0,0,0,0,0]:=by
  have g:tZ [oA] oA=[0]:=by unfold tZ;rw[f];exact n0
  unfold CF zS eW;simp only[dX,nL,bz];rw[g];rw[show fy ((0:Nat):Int)=[0] from n0,n0];rfl
 have k:tV [oA] zS.bl=[1,0,2]:=by decide
 have u:cI zS=[oA]:=by decide
 have p:AO [oA]=.eO [fB [oA],i64 0]:=by
  unfold AO;rw[aD (by decide)];rfl
 have sm:XY zS:=⟨by decide,by decide,by decide⟩;have m:=Qf;unfold zB at *;rw[<-n] at m ⊢;refine Bv zS [oA] [oA] _ _ H e (λH1=>?_) (λH1=>?_) (λH1=>?_) (λH1=>?_) (by decide) m
 ·have:=zg zS H1 sm
  rwa[u] at this
 ·have:=ON [oA] H1 (by decide) (λs c=>by rw[bM.1 c];unfold cH;decide)
  rwa[p] at this
 ·have:=CG zS [oA] H1 e (by simp) (by decide) jm (λs c=>by simp [zS] at c) (λs c=>by simp [zS] at c) (λs c=>by simp [zS] at c) (by decide) (by decide) (by decide) (by decide) (by rw[j];decide)
  rwa[j] at this
 ·have:=Bu zS [oA] H1 (List.pairwise_singleton _ _) (by decide) ⟨by decide,λx f=>by
   rw[bM.1 (show x∈[(⟨[],Xs⟩:im)] from f)];exact⟨by decide,λs c=>(by cases c),by decide,by decide,λo v=>(by cases v),by decide,λh=>absurd h (by decide)⟩,by rw[k];decide⟩ e
  rwa[k] at this
def I6 (r:Nat) (H K:aA):Prop:=∀c y,c≠r->H c=some y->K c=some y
theorem I6.refl (r:Nat)(H:aA):I6 r H H:=λ_ _ _ h=>h
theorem I6.put {c:Nat}{x:cY}(h:I6 r H K)(hc:H c=none):I6 r H (K.aU c x):=λb y g e=>by rw[aJ (λf=>by rw[f,hc] at e;cases e)];exact h b y g e
theorem I6.at {x:cY}(h:I6 r H K):I6 r H (K.aU r x):=λb y c e=>by rw[aJ c];exact h b y c e
theorem I6.le {x:cY}(h:I6 r H K):(H.aU r x).le (K.aU r x):=λb y e=>by
 by_cases c:b=r
 ·subst c;rw[aK] at e ⊢;exact e
 ·rw[aJ c] at e ⊢;exact h b y c e
def di:D:=.val (.slice none 0 0)
def wv (r:Nat) (t:List ByteArray):D:=.rp [.ep r 0 3 0 0,fB t]
theorem Nb {n:Nat}(h:zV l a n b)(r:Nat)(t:List ByteArray)(H:aA)(hb:H r=some (jc l a))(hl:l.length<=1000000000)(hm:n<=65535):aN prog 132 [wv r t] H λd H'=>d=i64 n/\H'=H.aU r (jc l b):=by
 have e:IntKind.i64.wrap (n:Int)=(n:Int):=aP (by omega);unfold wv fB;refine dO func132 ntmps132 results132 λg f Q c=>?_;refine t0 ?_;intro U Y O C;refine(Xd h r _ hb hl hm).mono ?_;rintro d _ ⟨rfl,rfl⟩;refine ur c e trivial ?_;exact⟨_,aF _,rfl⟩
theorem Rn (h:zV l a 0 b)(r:Nat)(H:aA)(hb:H r=some (jc l a))(hl:l.length<=1000000000):aN prog 124 [wv r [oA]] H λd H'=>d=bC oA/\H'=H.aU r (jc l b):=by
 have g:=Nb h r [oA] H hb hl (by decide);have c:=λj=>Yg [oA] 0 j;have e:HV [oA] 0=.eO [bC oA,.val (.bool true)]:=by
  unfold HV;rw[aD (by decide)];rfl
 rw[e] at c;unfold wv fB at *;refine dO func124 ntmps124 results124 λn m Q k=>?_;refine t0 ?_;intro U Y O C;refine wE (λt=>decide (t=some 9)) (λt=>decide (t=some 11)) (λ_ _ d A=>A=.none/\d=.eO [bC oA,.val (.bool true)]) (λ_ _ H d H'=>d=i64 0/\H'=H.aU r (jc l b)) λU Y=>?_;have fs:=trivial;refine uj ?_;refine nx ?_;(try clear fs);refine⟨g,an λf _=>c f,Y _ ?_⟩;refine u0 k ?_;exact⟨_,aF _,rfl⟩
theorem Kz (h:zV l a 0 b)(r:Nat)(t:List ByteArray)(x:D)(H:aA)(hb:H r=some (jc l a))(hl:l.length<=1000000000):aN prog 125 [wv r t,x] H λd H'=>d=di/\H'=H.aU r (jc l b):=by
 unfold wv fB;refine dO func125 ntmps125 results125 λo m Q g=>?_;refine t0 ?_;intro U Y O C;refine(ou h r _ hb hl (by decide) (by decide) (by have:=h.le;omega)).mono ?_;rintro d _ ⟨rfl,rfl⟩;refine tz ?_;refine aO 0 (λi s=>s.df=[]/\s.H=H.aU r (jc l b)/\s.fr 5=di/\s.fr 11=i64 0/\s.fr 12=i64 0) ⟨rfl,rfl,rfl,rfl,rfl⟩ ?_;rintro i s n ⟨f,k,j,c,e⟩;refine ur g (bQ j c e) f ?_;exact⟨_,aF _,k⟩
theorem Ky (h:zV l a 0 b)(r:Nat)(t:List ByteArray)(x:D)(H:aA)(hb:H r=some (jc l a))(hl:l.length<=1000000000):aN prog 126 [wv r t,x] H λd H'=>d=di/\H'=H.aU r (jc l b):=by
 unfold wv fB;refine dO func126 ntmps126 results126 λo m Q g=>?_;refine t0 ?_;intro U Y O C;refine(ou h r _ hb hl (by decide) (by decide) (by have:=h.le;omega)).mono ?_;rintro d _ ⟨rfl,rfl⟩;refine tz ?_;refine aO 0 (λi s=>s.df=[]/\s.H=H.aU r (jc l b)/\s.fr 5=di/\s.fr 11=i64 0/\s.fr 12=i64 0) ⟨rfl,rfl,rfl,rfl,rfl⟩ ?_;rintro i s n ⟨f,k,j,c,e⟩;refine ur g (bQ j c e) f ?_;exact⟨_,aF _,k⟩
theorem LA (h:zV l a 0 b)(r:Nat)(t:List ByteArray)(x:D)(H:aA)(hb:H r=some (jc l a))(hl:l.length<=1000000000):aN prog 128 [wv r t,x] H λd H'=>d=di/\H'=H.aU r (jc l b):=by
 unfold wv fB;refine dO func128 ntmps128 results128 λo m Q g=>?_;refine t0 ?_;intro U Y O C;refine(ou h r _ hb hl (by decide) (by decide) (by have:=h.le;omega)).mono ?_;rintro d _ ⟨rfl,rfl⟩;refine tz ?_;refine aO 0 (λi s=>s.df=[]/\s.H=H.aU r (jc l b)/\s.fr 5=di/\s.fr 11=i64 0/\s.fr 12=i64 0) ⟨rfl,rfl,rfl,rfl,rfl⟩ ?_;rintro i s n ⟨f,k,j,c,e⟩;refine ur g (bQ j c e) f ?_;exact⟨_,aF _,k⟩
theorem Kx (h:zV l a 0 b)(r:Nat)(t:List ByteArray)(x:D)(H:aA)(hb:H r=some (jc l a))(hl:l.length<=1000000000):aN prog 130 [wv r t,x] H λd H'=>d=di/\H'=H.aU r (jc l b):=by
 unfold wv fB;refine dO func130 ntmps130 results130 λo m Q g=>?_;refine t0 ?_;intro U Y O C;refine(ou h r _ hb hl (by decide) (by decide) (by have:=h.le;omega)).mono ?_;rintro d _ ⟨rfl,rfl⟩;refine tz ?_;refine aO 0 (λi s=>s.df=[]/\s.H=H.aU r (jc l b)/\s.fr 5=di/\s.fr 11=i64 0/\s.fr 12=i64 0) ⟨rfl,rfl,rfl,rfl,rfl⟩ ?_;rintro i s n ⟨f,k,j,c,e⟩;refine ur g (bQ j c e) f ?_;exact⟨_,aF _,k⟩
theorem Ks (H:aA):aN prog 55 [.seq 1 ([0,0,0,0,0,0].map bD),fB [oA]] H λd H'=>d=.eO [.agg [bC oA,di,di,di,di,i64 0,di],i64 0]/\H=H':=by
 have y:zV [0,0,0,0,0,0] 0 0 1:=⟨⟨[],[0,0,0,0,0],rfl,rfl,rfl⟩,by decide⟩;have z:zV [0,0,0,0,0,0] 1 0 2:=⟨⟨[0],[0,0,0,0],rfl,rfl,rfl⟩,by decide⟩;have A:zV [0,0,0,0,0,0] 2 0 3:=⟨⟨[0,0],[0,0,0],rfl,rfl,rfl⟩,by decide⟩;have B:zV [0,0,0,0,0,0] 3 0 4:=⟨⟨[0,0,0],[0,0],rfl,rfl,rfl⟩,by decide⟩;have E:zV [0,0,0,0,0,0] 4 0 5:=⟨⟨[0,0,0,0],[0],rfl,rfl,rfl⟩,by decide⟩;have G:zV [0,0,0,0,0,0] 5 0 6:=⟨⟨[0,0,0,0,0],[],rfl,rfl,rfl⟩,by decide⟩;obtain⟨h,n⟩:∃h:List UInt8,h=[0,0,0,0,0,0]:=⟨_,rfl⟩;have p:h.length=6:=by rw[n];rfl
 have c:h.length<=1000000000:=by omega
 rw[<-n] at y z A B E G ⊢;clear n;unfold fB;refine dO func55 ntmps55 results55 λR P Q I=>?_;refine t0 ?_;intro U Y O C;intro k J;refine Y _ ?_;refine t0 ?_;intro U Y O C;refine(sN h _ c).mono ?_;rintro d _ ⟨r,M,rfl,rfl⟩;obtain⟨s,N⟩:=bF.1 M;refine t0 ?_;intro U Y O C;intro e L;refine Y _ ?_;refine cm 6 L ?_;refine t0 ?_;intro U Y O C;refine(Rn y r _ (aK _ _ _) c).mono ?_;rintro d _ ⟨rfl,rfl⟩;refine t0 ?_;intro U Y O C;intro m o;obtain⟨f,j⟩:=bF.1 o;obtain⟨u,j⟩:=bF.1 j;have g:∀H x,(aA.aU H r x) m=H m:=λ_ _=>aJ f;have w:∀H x,(aA.aU H r x) k=H k:=λ_ _=>aJ (Ne.symm s);have v:∀H x,(aA.aU H m x) k=H k:=λ_ _=>aJ (Ne.symm u);refine eV trivial ?_;refine nx ?_;refine t0 ?_;intro U Y O C;refine gQ (Kz z r [oA] _ _ ((aJ (Ne.symm f)).trans (aK _ _ _)) c) ?_;rintro d _ ⟨rfl,rfl⟩;refine tq (av g @di.eq_1) ?_;intro U Y O C;refine gQ (Ky A r [oA] _ _ ((aJ (Ne.symm f)).trans (aK _ _ _)) c) ?_;rintro d _ ⟨rfl,rfl⟩;refine tq (av g @di.eq_1) ?_;intro U Y O C;refine gQ (LA B r [oA] _ _ ((aJ (Ne.symm f)).trans (aK _ _ _)) c) ?_;rintro d _ ⟨rfl,rfl⟩;refine tq (av g @di.eq_1) ?_;intro U Y O C;refine gQ (Kx E r [oA] _ _ ((aJ (Ne.symm f)).trans (aK _ _ _)) c) ?_;rintro d _ ⟨rfl,rfl⟩;refine tq (av g @di.eq_1) ?_;intro U Y O C;refine gQ (Nb G r [oA] _ ((aJ (Ne.symm f)).trans (aK _ _ _)) c (by decide)) ?_;rintro d _ ⟨rfl,rfl⟩;refine tq (av g @di.eq_1) ?_;intro U Y O C;refine(Nk h r _ (by rw[aJ (Ne.symm f),aK,p]) c).q ?_;refine ur I (bQ g w v) trivial ?_;refine⟨H,?_,?_⟩
 ·repeat(first|exact aF _|refine aQ ?_ (by assumption))
 ·exact⟨rfl,rfl⟩
theorem Vj (c:Nat)(ha:a<l.length)(r:Nat)(t:List ByteArray)(H:aA)(hb:H r=some (jc l a))(hl:l.length<=1000000000)(hc:l[a].toNat<c)(f:c<=1000):aN prog 268 [wv r t,i64 c] H λd H'=>d=i64 l[a].toNat/\H'=H.aU r (jc l (a+1)):=by
 have h:IntKind.i64.wrap (l[a].toNat:Int)=(l[a].toNat:Int):=aP (by omega);have g:=nF ((c:Int)<=(l[a].toNat:Int));unfold wv fB;refine dO func268 ntmps268 results268 λk j Q e=>?_;refine t0 ?_;intro U Y O C;refine(Vm ha r _ hb hl).mono ?_;rintro d _ ⟨rfl,rfl⟩;refine ur e (av h g) trivial ?_;exact⟨_,aF _,rfl⟩
def tmN:List D:=[i64 0,di,di,i64 0,di,bC ByteArray.empty]
theorem NA (r:Nat)(t:List ByteArray)(H:aA):aN prog 274 [wv r t] H λd H'=>d=.agg tmN/\H=H':=by
 unfold wv fB;refine dO func274 ntmps274 results274 λh g Q e=>?_;refine t0 ?_;intro U Y O C;intro c f;refine Y _ ?_;refine u0 e ?_;exact⟨H,aQ (aF _) f,rfl,rfl⟩
theorem RY (ha:a<l.length)(r:Nat)(t:List ByteArray)(H:aA)(hb:H r=some (jc l a))(hl:l.length<=1000000000)(hc:l[a]=2):aN prog 203 [wv r t] H λd H'=>d=.agg [i64 2,di,di,i64 0,di,bC ByteArray.empty]/\H'=H.aU r (jc l (a+1)):=by
 have h:=λn L=>Vj (a:=a) 6 ha r t n L hl (by rw[hc];decide) (by decide);have u:=λn=>NA r t n;rw[hc] at h;have J:((UInt8.toNat 2:Nat):Int)=2:=rfl;unfold wv fB tmN at *;refine dO func203 ntmps203 results203 λS N Q I=>?_;refine t0 ?_;intro U Y O C;intro f j;refine Y _ ?_;refine t0 ?_;intro U Y O C;intro m p;refine Y _ ?_;obtain⟨v,o⟩:=bF.1 p;have g:r≠f:=λe=>by rw[e,j] at hb;cases hb
 have k:r≠m:=λe=>by rw[e,o] at hb;cases hb
 have E:∀H x,(aA.aU H r x) m=H m:=λ_ _=>aJ (Ne.symm k);have B:∀H x,(aA.aU H r x) f=H f:=λ_ _=>aJ (Ne.symm g);have z:∀H x,(aA.aU H m x) f=H f:=λ_ _=>aJ (Ne.symm v);refine t0 ?_;intro U Y O C;refine gQ (h _ ((aJ k).trans ((aJ g).trans hb))) ?_;rintro d _ ⟨rfl,rfl⟩;refine tq J ?_;intro U Y O C;refine gQ (JA l (a+1) r _ (aK _ _ _)) ?_;rintro d _ ⟨rfl,rfl⟩;refine tq E ?_;intro U Y O C;refine(u _).qt ?_;intro U Y O C;intro G s;refine Y _ ?_;obtain⟨y,c⟩:=bF.1 s;obtain⟨M,c⟩:=bF.1 c;obtain⟨w,c⟩:=bF.1 c;have A:∀H x,(aA.aU H G x) f=H f:=λ_ _=>aJ (Ne.symm w);refine ur I (cA @di.eq_1 A B z) trivial ?_;have P:(H.aU r (jc l (a+1))) f=none:=by rw[aJ (Ne.symm g)];exact j
 have R:(H.aU r (jc l (a+1))) G=none:=by rw[aJ y];exact c
 refine⟨H.aU r (jc l (a+1)),?_,?_⟩
 ·repeat(first|exact aF _|refine aQ ?_ (by assumption)|refine aA.Wr ?_ _ _)
 ·exact⟨rfl,rfl⟩
theorem NB (g:FuncId)(r:Nat)(t:List ByteArray)(H:aA):aN prog 201 [wv r t,i64 0,.fn g []] H λd H'=>d=di/\H=H':=by
 unfold wv fB;refine dO func201 ntmps201 results201 λo m Q e=>?_;refine tz ?_;refine aO 0 (λi s=>s.df=[]/\s.H=H/\s.fr 1=i64 0/\s.fr 7=di/\s.fr 8=i64 0) ⟨rfl,rfl,rfl,rfl,rfl⟩ ?_;rintro i s n ⟨c,k,f,h,j⟩;refine ur e (bQ f h j) c ?_;exact⟨_,aF _,k.symm⟩
theorem Mp (r:Nat)(t:List ByteArray)(H:aA)(hb:H r=some (jc [1,0,2] 1)):aN prog 134 [wv r t] H λd H'=>d=.agg [di,i64 2,di,di,i64 0,di,bC ByteArray.empty]/\H'=H.aU r (jc [1,0,2] 3):=by
 have I:zV [1,0,2] 1 0 2:=⟨⟨[1],[2],rfl,rfl,rfl⟩,by decide⟩;have j:([1,0,2]:List UInt8).length<=1000000000:=by decide
 have u:=λh=>NB 202 r t h;have G:=λh o=>RY (l:=[1,0,2]) (a:=2) (by decide) r t h o j rfl;have s:=λh o=>ou I r h o j (show 0<=65535 by decide) (by decide) (by decide);generalize ([1,0,2]:List UInt8)=n at *;unfold wv fB at *;refine dO func134 ntmps134 results134 λL J Q A=>?_;refine t0 ?_;intro U Y O C;intro g k;refine Y _ ?_;have f:r≠g:=λe=>by rw[e,k] at hb;cases hb
 have y:∀H x,(aA.aU H r x) g=H g:=λ_ _=>aJ (Ne.symm f);refine t0 ?_;intro U Y O C;refine gQ (s _ ((aJ f).trans hb)) ?_;rintro d _ ⟨rfl,rfl⟩;refine t0 ?_;intro U Y O C;refine(u _).qt ?_;intro U Y O C;intro m p;obtain⟨n3r,c⟩:=bF.1 p;obtain⟨v,c⟩:=bF.1 c;have z:∀H x,(aA.aU H r x) m=H m:=λ_ _=>aJ n3r;have w:∀H x,(aA.aU H m x) g=H g:=λ_ _=>aJ (Ne.symm v);refine eV @di.eq_1 ?_;refine nx ?_;refine t0 ?_;intro U Y O C;refine gQ (G _ ((aJ (Ne.symm n3r)).trans (aK _ _ _))) ?_;rintro d _ ⟨rfl,rfl⟩;refine ur A (cA @di.eq_1 z y w) trivial ?_;have B:(H.aU r (jc n 3)) g=none:=by rw[aJ (Ne.symm f)];exact k
 have E:(H.aU r (jc n 3)) m=none:=by rw[aJ n3r];exact c
 refine⟨H.aU r (jc n 3),?_,?_⟩
 ·refine aQ (aQ (I6.le ?_) E) B
  repeat(first|exact I6.refl _ _|refine I6.put ?_ (by assumption)|refine I6.at ?_)
 ·exact⟨rfl,rfl⟩
theorem K4 (H:aA)(t:List ByteArray):aN prog 56 [.seq 1 ([1,0,2].map bD),fB t] H λd H'=>d=.eO [.seq 7 [[di,i64 2,di,di,i64 0,di,bC ByteArray.empty]],i64 0]/\H=H':=by
 have x0:zV [1,0,2] 0 1 1:=⟨⟨[],[0,2],rfl,rfl,rfl⟩,by decide⟩;have j:([1,0,2]:List UInt8).length<=1000000000:=by decide
 have x:([1,0,2]:List UInt8).length=3:=rfl;have y:=λr c g=>Mp r t c g;have z:=λr c g=>ou x0 r c g j (show 1<=65535 by decide) (by decide) (by decide);have A:=λr c g=>Nk [1,0,2] r c g j;have G:=λc=>sN [1,0,2] c j;have M:∀r H0 c,H0 r=none->H0.le c->c r=some (jc [1,0,2] 1)->aN prog 133 [wv r t,i64 1,.fn 134 []] c λd H'=>∃h,H0.le H'/\H' r=some (jc [1,0,2] 3)/\Gl H0 46 7 [[di,i64 2,di,di,i64 0,di,bC ByteArray.empty]] d H' h/\h≠some r:=λr H0 c Z S g=>by
  unfold wv fB at *;refine dO func133 ntmps133 results133 λw0 V Q o=>?_;refine tz ?_;refine aO 1 (λi s=>s.df=[]/\s.fr 0=wv r t/\s.fr 1=i64 1/\s.fr 2=.fn 134 []/\s.fr 8=i64 i/\((i=0/\s.H=c/\s.fr 7=di)\/(i=1/\∃h,H0.le s.H/\s.H r=some (jc [1,0,2] 3)/\Gl H0 46 7 [[di,i64 2,di,di,i64 0,di,bC ByteArray.empty]] (s.fr 7) s.H h/\h≠some r))) ⟨rfl,rfl,rfl,rfl,rfl,.inl ⟨rfl,rfl,rfl⟩⟩ ?_;unfold wv fB;rintro i s hi ⟨k,u,v,P,w,(⟨rfl,R,T⟩|⟨rfl,h,f,n,B,m⟩)⟩
  ·refine tq (bQ u v w) ?_;intro U Y O C
   refine gQ (JA [1,0,2] 1 r _ (by rw[R];exact g)) ?_;rintro d _ ⟨rfl,rfl⟩;refine tq (bQ u P T) ?_;intro U Y O C;rw[R];refine gQ (y r _ g) ?_;rintro d _ ⟨rfl,rfl⟩;refine tq @di.eq_1 ?_;intro U Y O C;refine ax (e:=46) QN rfl QN rfl Xa rfl (by decide) (aQ S Z) (eB H0 46 7 _) (new:=[[di,i64 2,di,di,i64 0,di,bC ByteArray.empty]]) (by exact⟨rfl,rfl⟩) (by decide) λd' H6 N E p J=>?_;obtain⟨z4,I⟩:=J r _ (aK _ _ _) (by simp);refine tn w ?_;exact⟨Nat.zero_lt_one,k,u,v,P,rfl,.inr ⟨by first|rfl|trivial,N,p,z4,E,I⟩⟩
  ·refine ur o (av v w) k ?_
   exact⟨_,aF _,h,f,n,B,m⟩
 refine aq (K:=λd=>d=.eO [.seq 7 [[di,i64 2,di,di,i64 0,di,bC ByteArray.empty]],i64 0]) ?_;generalize ([1,0,2]:List UInt8)=bs at *;unfold wv fB at *;refine dO func56 ntmps56 results56 λw0 V Q o=>?_;refine t0 ?_;intro U Y O C;refine(G _).mono ?_;rintro d _ ⟨r,n,rfl,rfl⟩;refine t0 ?_;intro U Y O C;intro e he;refine Y _ ?_;refine cm 6 he ?_;refine t0 ?_;intro U Y O C;refine gQ (z r _ (aK _ _ _)) ?_;rintro d _ ⟨rfl,rfl⟩;refine t0 ?_;intro U Y O C;refine gQ (M r H _ n (aQ (aF _) n) (aK _ _ _)) ?_;rintro d H2 ⟨h,f,L,B,m⟩;refine t0 ?_;intro U Y O C;refine gQ (A r _ (by rw[x];exact L)) ?_;rintro d _ ⟨rfl,rfl⟩;refine u0 o ?_;exact⟨_,aF _,f,_,lI (HP (da f B) (aL f)),rfl⟩
def zD:D:=.agg [bC oA,di,di,di,di,i64 0,.seq 7 [[di,i64 2,di,di,i64 0,di,bC ByteArray.empty]]]
theorem I4 {f:FuncId}{K:D->aA->Prop}(h:aN prog f [.agg (cu zS)] H K):aN prog f [zD] H K:=h.imp (ds:=[zD]) ⟨F8 ⟨fG _,fO,fO,fO,fO,fG _,SI ⟨⟨fO,fG _,fO,fO,fG _,fO,fG _,trivial⟩,trivial⟩,trivial⟩,trivial⟩
theorem Qh (H:aA):aN prog 37 [.agg (cu zS)] H λd H'=>d=.seq 1 ([oA].map sD)/\H=H':=by
 have:=zg zS H ⟨by decide,by decide,by decide⟩;rwa[show cI zS=[oA] by decide] at this
theorem K5 (H:aA)(c:∀H1,aN prog 35 [.agg (cu zS)] H1 λd H'=>d=i64 0/\H1=H'):aN prog 19 [.seq 1 ((gz zB).map bD)] H λd H'=>d=.eO [zD,i64 0]/\H=H':=by
 have e:=λH1=>IG zB H1 (by decide) Qf;have f:tu zB=[[i64 1,.seq 1 ([1,1,102].map bD)],[i64 2,.seq 1 ([0,0,0,0,0,0].map bD)],[i64 3,.seq 1 ([1,0,2].map bD)]]:=rfl;rw[f] at e;have c:=λH1=>I4 (c H1);have n:=λH1=>I4 (Qh H1);have k:=L4;have j:=Ks;have g:=λH1=>K4 H1 [oA];have m:=λH1=>HX [oA] H1;generalize gz zB=G at *;generalize ([1,1,102]:List UInt8).map bD=A at *;generalize ([0,0,0,0,0,0]:List UInt8).map bD=B at *;generalize ([1,0,2]:List UInt8).map bD=E at *;unfold zD di fB at *;refine dO func19 ntmps19 results19 λJ I Q u=>?_;refine t0 ?_;intro U Y O C;intro s y;refine Y _ ?_;refine t0 ?_;intro U Y O C;refine(e _).q ?_;have z:IntKind.i64.wrap 2=2:=aP (by omega);refine tq z ?_;intro U Y O C;refine(k _).qt ?_;intro U Y O C;refine(j _).qt ?_;intro U Y O C;intro w h;refine Y _ ?_;obtain⟨o,v⟩:=bF.1 h;have p:∀H x,(aA.aU H w x) s=H s:=λ_ _=>aJ (Ne.symm o);refine t0 ?_;intro U Y O C;refine(g _).qt ?_;intro U Y O C;refine(c _).qt ?_;intro U Y O C;refine(n _).qt ?_;intro U Y O C;refine(m _).q ?_;refine ur u p trivial ?_;refine⟨H,?_,rfl⟩;repeat(first|exact aF _|refine aQ ?_ (by assumption))
theorem UA (H:aA):aN prog 18 [] H λd H'=>d=zD/\H=H':=by
 refine dO func18 ntmps18 results18 λh g Q e=>?_;refine t0 ?_;intro U Y O C;intro f c;refine Y _ ?_;refine u0 e ?_;exact⟨H,aQ (aF _) c,rfl,rfl⟩
theorem Rf (H:aA)(c:∀H1,aN prog 35 [.agg (cu zS)] H1 λd H'=>d=i64 0/\H1=H'):aN prog 6 [] H λd H'=>d=.val (.bool true)/\H=H':=by
 have g:=λH1=>I4 (K6 H1 c);have f:=λH1=>K5 H1 c;have h:=UA;have k:(oA.toList=ByteArray.toList ⟨#[102]⟩)=True:=aG rfl;generalize gz zB=m at *;unfold zD di bC at *;refine dO func6 ntmps6 results6 λp o Q j=>?_;refine t0 ?_;intro U Y O C;refine(h _).qt ?_;intro U Y O C;refine(g _).qt ?_;intro U Y O C;refine(f _).qt ?_;intro U Y O C;intro n e;refine Y _ ?_;refine cm 3 e ?_;refine ur j k trivial ?_;exact⟨_,aF _,rfl⟩
end Go.Proofs.YtffgfafbffdgaaaGreatDoor
