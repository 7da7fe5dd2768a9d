/- Lemmas and contracts of functions, several texts in one. -/
import Derived.Test.YtffgfafbffdgaaaGreatDoorR16
import Derived.Test.YtffgfafbffdgaaaGreatDoorR21
set_option maxRecDepth 100000
set_option maxHeartbeats 4000000
set_option linter.all false
namespace Go.Proofs.YtffgfafbffdgaaaGreatDoor
open Go.RowKit
open Tryz
variable {T n i:Nat}{b:bn}
def Ab (T n:Nat):Prop:=n<=T/\min T 9000<=n
theorem Ab.add {X v:Nat}(h:Ab T n)(h2:Ab X v):Ab (T+X) (n+v):=by unfold Ab at *;omega
theorem Ab.same (X:Nat):Ab X X:=by unfold Ab;omega
theorem Ab.cut (X:Nat):Ab X (min X 9000):=by unfold Ab;omega
theorem Ab.more {a:Nat}(h:Ab T n)(hn:9000<=n)(hl:T<=a):Ab a n:=by unfold Ab at *;omega
def uZ (l:List gq):Nat:=l.length+sm (λo=>o.pl.pr.length) l
def Bk {a:Type}(f:a->Nat):List a->Nat->Nat
 |[],n=>n
 |x::l,n=>if 9000<n+f x then n+f x else Bk f l (n+f x)
theorem KF {c:Type}(f:c->Nat)(hf:∀x,f x<=9000):∀(l:List c) (n:Nat),n<=9000->Bk f l n<=n+sm f l/\min (n+sm f l) 9000<=Bk f l n/\Bk f l n<=18000
 |[],n,h=>by simp only[Bk,sm];omega
 |x::l,n,h=>by
  have hx:=hf x;simp only[Bk,sm];by_cases a:9000<n+f x
  ·rw[aD a];omega
  ·rw[aC a]
   have:=KF f hf l (n+f x) (by omega);omega
def Jh (l:List gq):Nat:=Bk (λo:gq=>min o.pl.pr.length 9000) (l.take (min l.length 9000)) (min l.length 9000)
theorem PL (l:List gq):Ab (uZ l) (Jh l)/\Jh l<=18000:=by
 have a:=KF (λo:gq=>min o.pl.pr.length 9000) (λx=>Nat.min_le_right _ _) (l.take (min l.length 9000)) (min l.length 9000) (Nat.min_le_right _ _);have c:∀m:List gq,Ab (sm (λo:gq=>o.pl.pr.length) m) (sm (λo:gq=>min o.pl.pr.length 9000) m):=λm=>by
  induction m with
  |nil=>exact Ab.same 0
  |cons x m f=>exact(Ab.cut _).add f
 have d:=(Ab.cut l.length).add (c (l.take (min l.length 9000)));have g:sm (λo:gq=>o.pl.pr.length) (l.take (min l.length 9000))<=sm (λo:gq=>o.pl.pr.length) l:=Pw _ _ _;refine⟨?_,a.2.2⟩;by_cases h:l.length<=9000
 ·have e:l.take (min l.length 9000)=l:=bK (by omega)
  unfold Jh;rw[e] at d a ⊢;unfold Ab uZ at *;omega
 ·unfold Jh
  unfold Ab uZ at *;omega
theorem Oj (l:List gq)(H:aA)(hl:l.length<=140737488351232)(G:∀o∈l,o.pl.pr.length<=140737488351232):aN prog 103 [.seq 4 (l.map db)] H λd H'=>d=i64 (Jh l)/\H=H':=by
 have F:=lm db l;obtain⟨a,Z⟩:=oX (min l.length 9000);have hm:min (l.length:Int) 9000=(a:Int):=by omega
 obtain⟨c,j⟩:∃c,c=l.take a:=⟨_,rfl⟩;have E:c.length=a:=by rw[j,bX];omega
 have v:(List.map db c).length=a:=by rw[aS,E]
 have ht:List.take a (List.map db l)=List.map db c:=by rw[j,iK]
 have W:=nT ((0:Int)<=(a:Int));have X:=nT ((a:Int)<=(l.length:Int));have z:∀o∈c,o.pl.pr.length<=140737488351232:=λo S=>G o (by rw[j] at S;exact rC S);refine dO func103 ntmps103 results103 λw0 g0 Q P=>?_;refine tn (eP F hm ht W X v) ?_;refine aO a (λi s=>s.df=[]/\s.fr 11=.seq 4 (c.map db)/\s.fr 12=i64 a/\s.fr 13=i64 i/\s.fr 3=i64 ((a+sm (λo:gq=>min o.pl.pr.length 9000) (c.take i):Nat):Int)/\a+sm (λo:gq=>min o.pl.pr.length 9000) (c.take i)<=9000/\Jh l=Bk (λo:gq=>min o.pl.pr.length 9000) (c.drop i) (a+sm (λo:gq=>min o.pl.pr.length 9000) (c.take i))/\s.H=H) ⟨rfl,rfl,rfl,rfl,rfl,by simp only[gK,sm];omega,by simp only[gK,sm,dj,rM];unfold Jh;rw[<-Z,<-j],rfl⟩ ?_;rintro i s hi ⟨p,k,m,h,r,hb,e,B⟩;have hx:=aX i;have A:=aZ i;by_cases u:i<a
 case neg=>
  have M:=nF ((i:Int)<(a:Int));rw[bK (by omega)] at r hb e;rw[cb (by omega)] at e;simp only[Bk] at e;rw[<-e] at r;refine ur P (cw r k m h M) p ?_;exact⟨_,aF _,B.symm⟩
 have M:=nT ((i:Int)<(a:Int));have g:i<c.length:=by omega
 have q:=bZ (f:=db) g;have J:sm (λo:gq=>min o.pl.pr.length 9000) (c.take (i+1))=sm (λo:gq=>min o.pl.pr.length 9000) (c.take i)+min c[i].pl.pr.length 9000:=su g;rw[cL g] at e;have L:=z c[i] (ao g);obtain⟨x,K⟩:=oX c[i];rw[<-K] at q J L e;simp only[db] at q;have w:=lm pD x.pl.pr;have y:min (x.pl.pr.length:Int) 9000=((min x.pl.pr.length 9000:Nat):Int):=by omega
 obtain⟨n,R⟩:=oX (a+sm (λo:gq=>min o.pl.pr.length 9000) (c.take (i+1)));have w3:=wS i;have V:IntKind.i64.wrap (((a+sm (λo:gq=>min o.pl.pr.length 9000) (c.take i):Nat):Int)+((min x.pl.pr.length 9000:Nat):Int))=(n:Int):=by rw[aP (by omega)];omega
 refine tq (bG r k m h M q hx (bQ A u v)) ?_;intro U Y O C;intro c5 D;refine Y _ ?_;refine cm 5 D ?_;simp only[Bk] at e;have I:a+sm (λo:gq=>min o.pl.pr.length 9000) (c.take i)+min x.pl.pr.length 9000=n:=by omega
 rw[I] at e;by_cases t:9000<n
 ·have N:=nT ((9000:Int)<(n:Int))
  refine ur P (eP r h w y V N) p ?_;rw[aD t] at e;exact⟨_,aF _,by rw[e] <;> rfl,B.symm⟩
 ·have N:=nF ((9000:Int)<(n:Int))
  refine tq (ej r h w y w3 V N) ?_;intro U Y O C;rw[aC t] at e;exact⟨u,p,k,m,rfl,by rw[<-R] <;> rfl,by omega,by rw[<-R];exact e,B⟩
def yH (s:qO):Nat:=s.pl.pr.length+s.rv.pl.pr.length+uZ s.rv.ar
def vw (x:im):Nat:=1+x.st.length+x.tm.tg.length+x.tm.pl.pr.length+x.tm.nm.size+sm yH x.st+uZ x.tm.ar
def t1 (b:bn) (i:Nat):Nat:=b.nm.size+b.ol.length+sm (λs:ByteArray=>1+s.size) (b.rg.take i)
def t2 (b:bn) (i:Nat):Nat:=t1 b b.rg.length+sm (λt:bp=>1+t.ar.length) (b.ty.take i)
def t3 (b:bn) (i:Nat):Nat:=t2 b b.ty.length+sm (λl:mQ=>1+l.nm.size) (b.lc.take i)
def t4 (b:bn) (i:Nat):Nat:=t3 b b.lc.length+sm vw (b.bl.take i)
def Jz (b:bn):Nat:=t4 b b.bl.length
def lg (b:bn):Int:=if 3000<Jz b then 1 else 0
theorem Uz (b:bn)(i:Nat):t4 b i<=Jz b:=by
 have:=Pw vw b.bl i;unfold Jz t4;rw[dI];omega
theorem UG (h:i<b.bl.length):t4 b (i+1)=t4 b i+vw b.bl[i]:=by
 have:=su (f:=vw) h;unfold t4;omega
theorem Sa (b:bn)(H:aA)(ok:xM b):aN prog 46 [.agg (cu b)] H λd H'=>d=i64 (lg b)/\H=H':=by
 refine aq (K:=λd=>d=i64 (lg b)) ?_;obtain⟨bo,OH,⟨bq,c7⟩,bi,bc,be⟩:=ok;unfold cH at bo OH bq bi bc;have b6:=lm sD b.rg;have bt:=lm pD b.ol;have am:=lm eQ b.lc;have ap:=lm bS b.ty;have al:=lm dM b.bl;have mq:min (b.nm.size:Int) 9000=((min b.nm.size 9000:Nat):Int):=by omega
 have wq:IntKind.i64.wrap (((min b.nm.size 9000:Nat):Int)+(b.ol.length:Int))=((min b.nm.size 9000+b.ol.length:Nat):Int):=by rw[aP (by omega)];omega
 have a0:Ab (t1 b 0) (min b.nm.size 9000+b.ol.length):=by have:=(Ab.cut b.nm.size).add (Ab.same b.ol.length);exact this
 refine dO func46 ntmps46 results46 λw0 g0 Q S=>?_;refine tq (av @cu.eq_1 @bC.eq_1) ?_;intro U Y O C;intro c1 bf;refine Y _ ?_;refine cm 1 bf ?_;refine tn (ej b6 bt am ap al mq wq) ?_;refine aO b.rg.length (λi s=>s.df=[]/\s.fr 1=.rp (cu b)/\s.fr 23=.seq 1 (b.rg.map sD)/\s.fr 24=i64 b.rg.length/\s.fr 25=i64 i/\(∃n,s.fr 3=i64 (n:Nat)/\Ab (t1 b i) n/\n<=(9000+140737488351232)+9001 * i)/\H.le s.H) ⟨rfl,rfl,rfl,rfl,rfl,⟨_,rfl,a0,by omega⟩,aF _⟩ ?_;rintro i s hi ⟨c,v,Z,a2,a7,⟨n,l,r,hn⟩,p⟩;have V:=aX i;have q:=aZ i;have W:=wS i;by_cases a:i<b.rg.length
 case pos=>
  have u:=lT i b.rg.length;have g:=bZ (f:=sD) a;have o:t1 b (i+1)=t1 b i+(1+b.rg[i].size):=by have:=su (f:=λx=>1+x.size) a;unfold t1;omega
  obtain⟨x,F⟩:=oX b.rg[i];rw[<-F] at g o;simp only[sD,bC] at g;have m1:min (x.size:Int) 9000=((min (x.size) 9000:Nat):Int):=by omega
  have w4:IntKind.i64.wrap (1+((min (x.size) 9000:Nat):Int))=((1+min (x.size) 9000:Nat):Int):=by rw[aP (by omega)];omega
  have w5:IntKind.i64.wrap ((n:Int)+((1+min (x.size) 9000:Nat):Int))=((n+(1+min (x.size) 9000):Nat):Int):=by rw[aP (by omega)];omega
  refine tn (bG l Z a2 a7 u g V (ej q a b6 m1 W w4 w5)) ?_;exact⟨a,c,v,Z,a2,rfl,⟨_,rfl,by rw[o];exact r.add ((Ab.same 1).add (Ab.cut _)),by omega⟩,p⟩
 have u:=lF i b.rg.length;have ei:i=b.rg.length:=by omega
 subst ei;have E:=v;simp only[cu] at v;have X:Ab (t2 b 0) n:=r;clear V q W hi a;refine tn (ej v l Z a2 a7 u ap) ?_;refine aO b.ty.length (λi s=>s.df=[]/\s.fr 1=.rp (cu b)/\s.fr 37=.seq 5 (b.ty.map bS)/\s.fr 38=i64 b.ty.length/\s.fr 39=i64 i/\(∃n,s.fr 3=i64 (n:Nat)/\Ab (t2 b i) n/\n<=(9000+9002 * 140737488351232)+9001 * i)/\H.le s.H) ⟨c,E,rfl,rfl,rfl,⟨_,l,X,by omega⟩,p⟩ ?_;clear c v E Z a2 a7 l r X hn p u;rintro i s hi ⟨c,v,a3,a4,a5,⟨n,l,r,hn⟩,p⟩;have V:=aX i;have q:=aZ i;have W:=wS i;by_cases a:i<b.ty.length
 case pos=>
  have u:=lT i b.ty.length;have g:=bZ (f:=bS) a;have o:t2 b (i+1)=t2 b i+(1+b.ty[i].ar.length):=by have:=su (f:=λx=>1+x.ar.length) a;unfold t2;omega
  obtain⟨x,F⟩:=oX b.ty[i];rw[<-F] at g o;simp only[bS,bC] at g;have m1:min (x.ar.length:Int) 9000=((min (x.ar.length) 9000:Nat):Int):=by omega
  have w4:IntKind.i64.wrap (1+((min (x.ar.length) 9000:Nat):Int))=((1+min (x.ar.length) 9000:Nat):Int):=by rw[aP (by omega)];omega
  have w5:IntKind.i64.wrap ((n:Int)+((1+min (x.ar.length) 9000:Nat):Int))=((n+(1+min (x.ar.length) 9000):Nat):Int):=by rw[aP (by omega)];omega
  have bk:=lm iD x.ar;refine tq (bG l a3 a4 a5 u g V (bQ q a ap)) ?_;intro U Y O C;intro c5 aa;refine Y _ ?_;refine cm 7 aa ?_;refine tn (ej l a5 m1 W w4 w5 bk) ?_;exact⟨a,c,v,a3,a4,rfl,⟨_,rfl,by rw[o];exact r.add ((Ab.same 1).add (Ab.cut _)),by omega⟩,p⟩
 have u:=lF i b.ty.length;have ei:i=b.ty.length:=by omega
 subst ei;have E:=v;simp only[cu] at v;have X:Ab (t3 b 0) n:=r;clear V q W hi a;refine tn (ej v l a3 a4 a5 u am) ?_;refine aO b.lc.length (λi s=>s.df=[]/\s.fr 1=.rp (cu b)/\s.fr 52=.seq 2 (b.lc.map eQ)/\s.fr 53=i64 b.lc.length/\s.fr 54=i64 i/\(∃n,s.fr 3=i64 (n:Nat)/\Ab (t3 b i) n/\n<=(9000+18003 * 140737488351232)+9001 * i)/\H.le s.H) ⟨c,E,rfl,rfl,rfl,⟨_,l,X,by omega⟩,p⟩ ?_;clear c v E a3 a4 a5 l r X hn p u;rintro i s hi ⟨c,v,M,N,P,⟨n,l,r,hn⟩,p⟩;have V:=aX i;have q:=aZ i;have W:=wS i;by_cases a:i<b.lc.length
 case pos=>
  have u:=lT i b.lc.length;have g:=bZ (f:=eQ) a;have o:t3 b (i+1)=t3 b i+(1+b.lc[i].nm.size):=by have:=su (f:=λx=>1+x.nm.size) a;unfold t3;omega
  obtain⟨x,F⟩:=oX b.lc[i];rw[<-F] at g o;simp only[eQ,bC] at g;have m1:min (x.nm.size:Int) 9000=((min (x.nm.size) 9000:Nat):Int):=by omega
  have w4:IntKind.i64.wrap (1+((min (x.nm.size) 9000:Nat):Int))=((1+min (x.nm.size) 9000:Nat):Int):=by rw[aP (by omega)];omega
  have w5:IntKind.i64.wrap ((n:Int)+((1+min (x.nm.size) 9000:Nat):Int))=((n+(1+min (x.nm.size) 9000):Nat):Int):=by rw[aP (by omega)];omega
  refine tq (bG l M N P u g V (bQ q a am)) ?_;intro U Y O C;intro c5 aa;refine Y _ ?_;refine cm 9 aa ?_;refine tn (eP l P m1 W w4 w5) ?_;exact⟨a,c,v,M,N,rfl,⟨_,rfl,by rw[o];exact r.add ((Ab.same 1).add (Ab.cut _)),by omega⟩,p⟩
 have u:=lF i b.lc.length;have ei:i=b.lc.length:=by omega
 subst ei;have E:=v;simp only[cu] at v;have X:Ab (t4 b 0) n:=r;clear V q W hi a;by_cases I:3000<n
 ·have D:=nT ((3000:Int)<(n:Int))
  have e:lg b=1:=by
   have:=Uz b 0;unfold lg;rw[aD (by unfold Ab at X;omega)]
  rw[e] at S;refine ur S (ej v l M N P u D) c ?_;exact zf p rfl
 have D:=nF ((3000:Int)<(n:Int));refine tn (bG v l M N P u D al) ?_;refine aO b.bl.length (λi s=>s.df=[]/\s.fr 69=.seq 7 (b.bl.map dM)/\s.fr 70=i64 b.bl.length/\s.fr 71=i64 i/\(∃n,s.fr 3=i64 (n:Nat)/\Ab (t4 b i) n/\n<=23000)/\H.le s.H) ⟨c,rfl,rfl,rfl,⟨_,l,X,by omega⟩,p⟩ ?_;clear c v E M N P l r X hn p u D I;rintro i s hi ⟨c,w,z,B,⟨n,l,r,hn⟩,p⟩;have V:=aX i;have q:=aZ i;have W:=wS i;have one:3000<Jz b->lg b=1:=λh=>aD h;by_cases a:i<b.bl.length
 case neg=>
  have u:=lF i b.bl.length;have ei:i=b.bl.length:=by omega
  subst ei;by_cases I:3000<n
  ·have D:=nT ((3000:Int)<(n:Int))
   have e:lg b=1:=one (by unfold Jz;unfold Ab at r;omega);rw[e] at S;refine ur S (eP l w z B u D) c ?_;exact zf p rfl
  ·have D:=nF ((3000:Int)<(n:Int))
   have e:lg b=0:=aC (by unfold Jz;unfold Ab at r;omega);rw[e] at S;refine ur S (eP l w z B u D) c ?_;exact zf p rfl
 have u:=lT i b.bl.length;have g:=bZ (f:=dM) a;have o:=UG a;have ye:=Uz b (i+1);obtain⟨⟨b2,b3⟩,b4,⟨a9,aw⟩,ad⟩:=be b.bl[i] (ao a);unfold xN at ad;unfold cH at b2 b4 a9 ad;obtain⟨x,F⟩:=oX b.bl[i];rw[<-F] at g o b2 b3 b4 a9 aw ad;simp only[dM,bC] at g;have ls:=lm ji x.st;have lt:=lm iD x.tm.tg;have lp:=lm pD x.tm.pl.pr;have mx:min (x.tm.nm.size:Int) 9000=((min x.tm.nm.size 9000:Nat):Int):=by omega
 have v1:IntKind.i64.wrap (1+(x.st.length:Int))=((1+x.st.length:Nat):Int):=by rw[aP (by omega)];omega
 have v2:IntKind.i64.wrap (((1+x.st.length:Nat):Int)+(x.tm.tg.length:Int))=((1+x.st.length+x.tm.tg.length:Nat):Int):=by rw[aP (by omega)];omega
 have v3:IntKind.i64.wrap (((1+x.st.length+x.tm.tg.length:Nat):Int)+(x.tm.pl.pr.length:Int))=((1+x.st.length+x.tm.tg.length+x.tm.pl.pr.length:Nat):Int):=by rw[aP (by omega)];omega
 have v4:IntKind.i64.wrap (((1+x.st.length+x.tm.tg.length+x.tm.pl.pr.length:Nat):Int)+((min x.tm.nm.size 9000:Nat):Int))=((1+x.st.length+x.tm.tg.length+x.tm.pl.pr.length+min x.tm.nm.size 9000:Nat):Int):=by rw[aP (by omega)];omega
 obtain⟨m,hm⟩:=oX (n+(1+x.st.length+x.tm.tg.length+x.tm.pl.pr.length+min x.tm.nm.size 9000));have v5:IntKind.i64.wrap ((n:Int)+((1+x.st.length+x.tm.tg.length+x.tm.pl.pr.length+min x.tm.nm.size 9000:Nat):Int))=(m:Int):=by rw[aP (by omega)];omega
 obtain⟨T5,ba⟩:=oX (t4 b i+(1+x.st.length+x.tm.tg.length+x.tm.pl.pr.length+x.tm.nm.size));have a8:Ab T5 m:=by rw[ba,hm];exact r.add ((Ab.same _).add (Ab.cut _))
 have hT:T5+sm yH x.st+uZ x.tm.ar<=Jz b:=by unfold vw at o;omega
 have bb:T5+sm yH x.st+uZ x.tm.ar=t4 b (i+1):=by unfold vw at o;omega
 refine tq (bG l w z B u g V (bQ q a al)) ?_;intro U Y O C;intro c3 b7;refine Y _ ?_;refine cm 11 b7 ?_;by_cases I:3000<m
 ·have D:=nT ((3000:Int)<(m:Int))
  have e:lg b=1:=one (by unfold Ab at a8;omega);rw[e] at S;refine ur S (bG l ls lt lp mx v1 v2 (cA v3 v4 v5 D)) c ?_;exact zf p rfl
 have D:=nF ((3000:Int)<(m:Int));refine tn (bG l ls lt lp mx v1 v2 (cA v3 v4 v5 D)) ?_;refine aO x.st.length (λj s=>s.df=[]/\s.fr 69=.seq 7 (b.bl.map dM)/\s.fr 70=i64 b.bl.length/\s.fr 71=i64 i/\s.fr 11=.rp (dM x)/\s.fr 101=.seq 11 (x.st.map ji)/\s.fr 102=i64 x.st.length/\s.fr 103=i64 j/\(∃n,s.fr 3=i64 (n:Nat)/\Ab (T5+sm yH (x.st.take j)) n/\n<=3000)/\H.le s.H) ⟨c,w,z,B,rfl,rfl,rfl,rfl,⟨_,rfl,a8,by omega⟩,p⟩ ?_;clear c w z B l r a8 hn p hm v5 I D;rintro j s hj ⟨c,w,z,B,a6,J,L,G,⟨n,l,r,hn⟩,p⟩;have br:=aX j;have b8:=aZ j;have v6:=wS j;by_cases R:j<x.st.length
 case neg=>
  have D:=lF j x.st.length;rw[bK (by omega)] at r;obtain⟨ac,bm⟩:=PL x.tm.ar;have u1:IntKind.i64.wrap ((n:Int)+(Jh x.tm.ar:Int))=((n+Jh x.tm.ar:Nat):Int):=by rw[aP (by omega)];omega
  simp only[dM] at a6;refine tq (eP l a6 J L G D) ?_;intro U Y O C;refine(Oj x.tm.ar _ a9 aw).qs (bQ B u1 W) ?_;intro U Y O C;exact⟨a,c,w,z,rfl,⟨_,rfl,by rw[<-bb];exact r.add ac,by omega⟩,p⟩
 have D:=lT j x.st.length;have ab:=bZ (f:=ji) R;have b5:sm yH (x.st.take (j+1))=sm yH (x.st.take j)+yH x.st[j]:=su R;have c6:=Pw yH x.st (j+1);obtain⟨ag,ak,ae,b0⟩:=b3 x.st[j] (ao R);unfold xN at ag ak;unfold cH at ag ak ae;obtain⟨y,bs⟩:=oX x.st[j];rw[<-bs] at ab b5 ag ak ae b0;simp only[ji] at ab;have lq:=lm pD y.pl.pr;have lr:=lm pD y.rv.pl.pr;obtain⟨ac,bm⟩:=PL y.rv.ar;have u1:IntKind.i64.wrap ((y.pl.pr.length:Int)+(y.rv.pl.pr.length:Int))=((y.pl.pr.length+y.rv.pl.pr.length:Nat):Int):=by rw[aP (by omega)];omega
 have u2:IntKind.i64.wrap (((y.pl.pr.length+y.rv.pl.pr.length:Nat):Int)+(Jh y.rv.ar:Int))=((y.pl.pr.length+y.rv.pl.pr.length+Jh y.rv.ar:Nat):Int):=by rw[aP (by omega)];omega
 obtain⟨k,hk⟩:=oX (n+(y.pl.pr.length+y.rv.pl.pr.length+Jh y.rv.ar));have u3:IntKind.i64.wrap ((n:Int)+((y.pl.pr.length+y.rv.pl.pr.length+Jh y.rv.ar:Nat):Int))=(k:Int):=by rw[aP (by omega)];omega
 have b1:Ab (T5+sm yH (x.st.take (j+1))) k:=by
  have h:=r.add ((Ab.same (y.pl.pr.length+y.rv.pl.pr.length)).add ac);rw[b5,hk];unfold yH;rw[<-rK];exact h
 refine tq (bG l J L G D ab br (bQ b8 R ls)) ?_;intro U Y O C;intro c4 b9;refine Y _ ?_;refine cm 13 b9 ?_;refine t0 ?_;intro U Y O C;refine dE (λt _ d A=>A=.none/\d=(if t=some 121 then i64 (Jh y.rv.ar) else d)) λU Y=>?_;refine dst (eP l lq lr u1 u2 u3) ?_;intro U Y O C;refine⟨an λc0 c2=>(Oj y.rv.ar _ ae b0).mono λd H' h=>h,?_⟩;refine nx ?_;by_cases I:3000<k
 ·have p3:=nT ((3000:Int)<(k:Int))
  have e:lg b=1:=one (by unfold Ab at b1;omega);rw[e] at S;refine ur S (bQ G p3 v6) c ?_;exact zf p rfl
 have p3:=nF ((3000:Int)<(k:Int));refine tn (bQ G p3 v6) ?_;exact⟨R,c,w,z,B,a6,J,L,rfl,⟨_,rfl,b1,by omega⟩,p⟩
def nh (ts:List bp):Nat:=(ts.map λt=>1+min t.ar.length 500).sum
theorem G4 (ts:List bp)(i:Nat):nh (ts.take i)<=nh ts:=by
 have h:nh (ts.take i++ts.drop i)=nh (ts.take i)+nh (ts.drop i):=by unfold nh;rw[bI,List.sum_append]
 rw[ga] at h;omega
theorem UK (ts:List bp):ts.length<=nh ts:=by
 induction ts with
 |nil=>simp
 |cons t ts a=>unfold nh at a ⊢;rw[cC,List.sum_cons,bx];omega
theorem QJ {ts:List bp}(h:i<ts.length):nh (ts.take (i+1))=nh (ts.take i)+(1+min ts[i].ar.length 500):=by unfold nh;rw[bw h,bI,List.sum_append];simp
theorem Sv (a b:Nat):min (a:Int) (b:Int)=((min a b:Nat):Int):=by omega
theorem O7 (ts:List bp)(H:aA)(I:ts.length<=140737488351232)(r:∀u∈ts,u.ar.length<=140737488351232):aN prog 104 [.seq 5 (ts.map bS)] H λd H'=>d=i64 (if 200<nh ts then 1 else 0)/\H=H':=by
 refine aq (K:=λd=>d=i64 (if 200<nh ts then 1 else 0)) ?_;have h:=lm bS ts;refine dO func104 ntmps104 results104 λX P Q x=>?_;refine tn h ?_;refine aO ts.length (λi s=>s.df=[]/\s.fr 6=.seq 5 (ts.map bS)/\s.fr 7=i64 ts.length/\s.fr 8=i64 i/\s.fr 3=i64 (nh (ts.take i):Nat)/\nh (ts.take i)<=200/\s.H=H) ⟨rfl,rfl,rfl,rfl,rfl,by simp [nh],rfl⟩ ?_;rintro i s R ⟨e,z,o,p,y,G,A⟩;have c:H.le s.H:=by rw[A];exact aF _
 have L:=aX i;have q:=aZ i;by_cases a:i<ts.length
 case neg=>
  have v:=lF i ts.length;rw[bK (by omega)] at G;refine ur x (bQ o p v) e ?_;exact⟨_,aF _,c,_,aL c,by rw[aC (by omega)] <;> rfl⟩
 have v:=lT i ts.length;have f:(ts.map bS)[i]?=some (bS ts[i]):=by rw[bg,az a];rfl
 have l:=QJ a;have m:=r ts[i] (ao a);have M:=wS i;obtain⟨u,J⟩:=oX ts[i];rw[<-J] at f l m;obtain⟨V,W,ur,S,g⟩:=u;simp only[bS] at f;simp only at l m;have j:=lm iD g;have k:min (g.length:Int) 500=((min g.length 500:Nat):Int):=Sv _ 500;have B:IntKind.i64.wrap (1+((min g.length 500:Nat):Int))=((1+min g.length 500:Nat):Int):=by rw[aP (by omega)];omega
 have D:IntKind.i64.wrap ((nh (ts.take i):Int)+((1+min g.length 500:Nat):Int))=(nh (ts.take (i+1)):Int):=by rw[aP (by omega)];omega
 refine tq (bG z o p v f L q (av a h)) ?_;intro U Y O C;intro N t;refine Y _ ?_;refine cm 5 t ?_;by_cases F:200<nh (ts.take (i+1))
 ·have w:=nT ((200:Int)<(nh (ts.take (i+1)):Int))
  have E:=G4 ts (i+1);refine ur x (eP y j k B D w) e ?_;exact⟨_,aF _,c,_,aL c,by rw[aD (by omega)] <;> rfl⟩
 ·have w:=nF ((200:Int)<(nh (ts.take (i+1)):Int))
  refine tn (bG y p j k B D w M) ?_;exact⟨a,e,z,o,rfl,rfl,by omega,A⟩
theorem UZ (ts:List bp)(H:aA)(b9:ts.length<=1000000)(am:∀u∈ts,u.ar.length<=140737488351232):aN prog 105 [.seq 5 (ts.map bS)] H λd H'=>(∃b:Bool,d=.val (.bool b))/\H=H':=by
 refine aq (K:=λd=>∃b:Bool,d=.val (.bool b)) ?_;have a0:=lm bS ts;refine dO func105 ntmps105 results105 λw0 g0 Q aB=>?_;refine tn a0 ?_;refine aO ts.length (λi s=>s.df=[]/\s.fr 9=.seq 5 (ts.map bS)/\s.fr 10=i64 ts.length/\s.fr 11=i64 i/\H.le s.H/\∃p ob,p.length=i/\Gl H 3 1 (p.map iD) (s.fr 3) s.H ob) ⟨rfl,rfl,rfl,rfl,aF _,[],none,rfl,eB _ _ _ _⟩ ?_;rintro i s hi ⟨r,Z,k,l,aM,p,ob,b2,hg⟩;have hx:=aX i;have ag:=aZ i;by_cases J:i<ts.length
 case neg=>
  have q1:=lF i ts.length;refine ur aB (bQ k l q1) r ?_;exact⟨_,aF _,aM,_,aL aM,_,rfl⟩
 have q1:=lT i ts.length;have V:(ts.map bS)[i]?=some (bS ts[i]):=by rw[bg,az J];rfl
 have a9:=am ts[i] (ao J);have w3:=wS i;obtain⟨u,hu⟩:=oX ts[i];rw[<-hu] at V a9;obtain⟨uk,um,ur,N,F⟩:=u;simp only[bS] at V;simp only at a9;have a8:=lm iD F;have L:(p=[]/\s.fr 3=.val (.slice none 0 0))\/∃c o,s.fr 3=.os c o 1 0 p.length/\s.H c=some (.row 3 o 1 (p.map iD)):=by
  rcases hg with⟨_,h1,h2⟩|⟨c,o,_,h1,h2,h3⟩
  ·exact .inl ⟨by simpa using h2,h1⟩
  ·exact .inr ⟨c,o,by rw[h1,aS],h3⟩
 obtain⟨d3,a⟩:=oX (s.fr 3);rw[<-a] at hg L;refine tq (bG Z k l q1 V hx ag (av J a0)) ?_;intro U Y O C;intro c5 ap;refine Y _ ?_;refine cm 5 ap ?_;(iterate 3 (refine tk trivial ?_;intro U Y O C));have a4:∀(e:Int) (q:0<=e/\e<p.length),∃c o v,d3=.os c o 1 0 p.length/\s.H c=some (.row 3 o 1 (p.map iD))/\(p.map iD)[e.toNat]?=some [.val (.int .i64 v)]:=λe q=>by
  rcases L with⟨h,_⟩|⟨c,o,h1,h2⟩
  ·rw[h] at q;simp at q;omega
  ·exact⟨c,o,_,h1,h2,mM (by omega)⟩
 refine nR (λs1=>s1.df=[]/\s1.fr 9=.seq 5 (ts.map bS)/\s1.fr 10=i64 ts.length/\s1.fr 11=i64 i/\s1.fr 5=.rp [i64 uk,.val (.bool um),i64 ur,i64 N,.seq 1 (F.map iD)]/\s1.H=s.H/\s1.fr 3=d3/\∃v,s1.fr 6=i64 v) ?_ ?_
 ·by_cases h3:uk=3
  case neg=>
   have q3:(uk=3)=False:=aI h3;refine tn q3 ?_;exact⟨r,Z,k,l,rfl,rfl,a.symm,_,rfl⟩
  have q3:(uk=3)=True:=aG h3;by_cases R:0<=N
  case neg=>
   have E:(0<=N)=False:=aI R;refine tn (av q3 E) ?_;exact⟨r,Z,k,l,rfl,rfl,a.symm,_,rfl⟩
  have E:(0<=N)=True:=aG R;by_cases S:N<p.length
  ·obtain⟨c,o,v,z,G,h8⟩:=a4 N ⟨R,S⟩
   have g:(N<(p.length:Int))=True:=aG S;have P:s.fr 3=.os c o 1 0 p.length:=a.symm.trans z;refine tn (eP P q3 E g G h8) ?_;exact⟨r,Z,k,l,rfl,rfl,a.symm,_,rfl⟩
  ·have g:(N<(p.length:Int))=False:=aI S
   rcases L with⟨z,G⟩|⟨c,o,z,G⟩
   ·have P:s.fr 3=.val (.slice none 0 0):=a.symm.trans G
    rw[z] at g;simp only[dX,Int.natCast_zero] at g;refine tn (cA P q3 E g) ?_;exact⟨r,Z,k,l,rfl,rfl,a.symm,_,rfl⟩
   ·have P:s.fr 3=.os c o 1 0 p.length:=a.symm.trans z
    refine tn (cA P q3 E g) ?_;exact⟨r,Z,k,l,rfl,rfl,a.symm,_,rfl⟩
 rintro s1 ⟨ac,g9,ad,ae,g5,al,P,v,g6⟩;refine tn (av g5 a8) ?_;refine aO F.length (λj I=>I.df=[]/\I.fr 9=.seq 5 (ts.map bS)/\I.fr 10=i64 ts.length/\I.fr 11=i64 i/\I.fr 38=.seq 1 (F.map iD)/\I.fr 39=i64 F.length/\I.fr 40=i64 j/\I.H=s.H/\I.fr 3=d3/\∃v,I.fr 6=i64 v) ⟨ac,g9,ad,ae,rfl,rfl,rfl,al,P,v,g6⟩ ?_;rintro j s2 hj ⟨y,k9,A,B,D,t,w,m,M,v2,k6⟩;have b1:=aX j;have ak:=aZ j;have ab:H.le s2.H:=by rw[m];exact aM
 by_cases W:j<F.length
 case neg=>
  have q2:=lF j F.length;have b0:Gl H 3 1 (p.map iD) (s2.fr 3) s2.H ob:=by rw[M,m];exact hg
  refine tq (cA t w k6 q2) ?_;intro U Y O C;refine ax (e:=3) fk rfl fk rfl yv rfl (by decide) ab b0 (new:=[iD v2]) (by exact⟨rfl,rfl⟩) (by rw[aS];show(_+1) * 8<=_;omega) λd H6 b8 a6 aa _=>?_;rw[show[iD v2]=[v2].map iD from rfl,<-bI] at a6;refine tn (av B w3) ?_;exact⟨J,y,k9,A,rfl,aa,_,b8,by rw[aV];simp [b2],a6⟩
 have q2:=lT j F.length;have a7:=bT W;have w4:=wS j;obtain⟨f,aw⟩:=oX F[j];rw[<-aw] at a7;(iterate 10 (refine tk (bG D t w q2 a7 b1 ak (av W a8)) ?_;intro U Y O C));refine nR (λx=>x.df=[]/\x.fr 9=.seq 5 (ts.map bS)/\x.fr 10=i64 ts.length/\x.fr 11=i64 i/\x.fr 38=.seq 1 (F.map iD)/\x.fr 39=i64 F.length/\x.fr 40=i64 j/\x.H=s.H/\x.fr 3=d3/\∃v,x.fr 6=i64 v) ?_ ?_
 ·by_cases R:0<=f
  case neg=>
   have E:(0<=f)=False:=aI R;refine tn E ?_;exact⟨y,k9,A,B,D,t,w,m,M,v2,k6⟩
  have E:(0<=f)=True:=aG R;by_cases S:f<p.length
  ·obtain⟨c,o,v,z,G,h8⟩:=a4 f ⟨R,S⟩
   have g:(f<(p.length:Int))=True:=aG S;have X:s2.fr 3=.os c o 1 0 p.length:=M.trans z;rw[<-m] at G;refine tn (eP X k6 E g G h8) ?_;exact⟨y,k9,A,B,D,t,w,m,M,_,rfl⟩
  ·have g:(f<(p.length:Int))=False:=aI S
   rcases L with⟨z,G⟩|⟨c,o,z,G⟩
   ·have X:s2.fr 3=.val (.slice none 0 0):=M.trans G
    rw[z] at g;simp only[dX,Int.natCast_zero] at g;refine tn (bQ X E g) ?_;exact⟨y,k9,A,B,D,t,w,m,M,v2,k6⟩
   ·have X:s2.fr 3=.os c o 1 0 p.length:=M.trans z
    refine tn (bQ X E g) ?_;exact⟨y,k9,A,B,D,t,w,m,M,v2,k6⟩
 rintro x ⟨a3,m9,b3,b4,b5,b6,b7,a5,X,v3,m6⟩;have a1:H.le x.H:=by rw[a5];exact aM
 by_cases a2:2000<v3
 ·have g:(2000<v3)=True:=aG a2
  refine ur aB (av m6 g) a3 ?_;exact⟨_,aF _,a1,_,aL a1,_,rfl⟩
 ·have g:(2000<v3)=False:=aI a2
  refine tn (cA m6 b7 g w4) ?_;exact⟨W,a3,m9,b3,b4,b5,b6,rfl,a5,X,v3,m6⟩
theorem Tz (ts:List bp)(H:aA)(f:ts.length<=140737488351232)(a:∀u∈ts,u.ar.length<=140737488351232):aN prog 47 [.seq 5 (ts.map bS)] H λd H'=>(d=i64 1\/(d=i64 0/\nh ts<=200))/\H=H':=by
 refine aq (K:=λd=>d=i64 1\/(d=i64 0/\nh ts<=200)) ?_;have e:=aF H;refine dO func47 ntmps47 results47 λj h Q c=>?_;refine t0 ?_;intro U Y O C;refine(O7 ts _ f a).q ?_;by_cases g:200<nh ts
 ·rw[aD g]
  refine u0 c ?_;exact zf e (.inl rfl)
 rw[aC g];refine t0 ?_;intro U Y O C;have:=UK ts;refine(UZ ts _ (by omega) a).mono ?_;rintro d _ ⟨⟨b,rfl⟩,rfl⟩;cases b with
 |true=>
  refine u0 c ?_
  exact zf e (.inl rfl)
 |false=>
  refine u0 c ?_
  exact zf e (.inr ⟨rfl,by omega⟩)
theorem yu {l:List (Int×Int)}{c d:Nat}{H H':aA}(h:oc l c d H)(a:H.le H'):oc l c d H':=by
 obtain⟨k,m,e,f,g,j⟩:=h;exact⟨k,m,a _ _ e,f,a _ _ g,j⟩
theorem EI {o:gq}(h:kx b o=0):(0<=o.k/\o.k<=4)/\(o.k<=1->(mB b o.pl).2=0):=by
 unfold kx at h;split at h
 ·cases h
 ·rename_i c
  refine⟨by omega,λd=>?_⟩;split at h
  ·cases h
  ·split at h
   ·cases h
   ·split at h
    ·omega
    ·split at h
     ·rename_i a;exact absurd h a
     ·rename_i a;exact eC a
theorem xV (ck:Ck b){p:gR}(h:(mB b p).2=0):bN b.ty.length (mB b p).1:=Cp ck.wt ck.wl h
theorem AS (b:bn)(n:Int)(F G:Nat)(o:gq)(H:aA)(ck:Ck b)(hp:yW o)(hz:kx b o=0):aN prog 148 [.agg (rz b n F G),.agg (db o)] H λd H'=>d=i64 (tc b o)/\H=H':=by
 refine aq (K:=λd=>d=i64 (tc b o)) ?_;have s:=aF H;have j:=ny b n F G o.pl H ck hp;obtain⟨z,l⟩:=EI hz;obtain⟨y,f⟩:=oX (tc b o);rw[<-f];unfold tc at f;have a:o.k<=1->bN b.ty.length (mB b o.pl).1:=λh=>xV ck (l h);obtain⟨T,I⟩:=oX (mB b o.pl);rw[<-I] at f j a;have A:=lm bS b.ty;obtain⟨k,p,v⟩:=o;simp only at f z a;clear I l hz;simp only[rz,cu,dJ,cz,ee] at j;refine dO func148 ntmps148 results148 λP N Q r=>?_;simp only[rz,cu,dJ,cz];refine tq @db.eq_1 ?_;intro U Y O C;intro L w M x;refine Y _ ?_;refine uB 2 3 w x ?_;by_cases c:k=2
 ·have m:(k=2)=True:=aG c
  have e:y=2:=f.trans (aD c);exact oz r m s e
 have m:(k=2)=False:=aI c;rw[aC c] at f;by_cases c:k=3
 ·have u:(k=3)=True:=aG c
  have e:y=1:=f.trans (aD c);exact oz r (av m u) s e
 have u:(k=3)=False:=aI c;rw[aC c] at f;by_cases c:k=4
 ·have E:(k=4)=True:=aG c
  have e:y=0:=f.trans (aD c);exact oz r (bQ m u E) s e
 have E:(k=4)=False:=aI c;rw[aC c] at f;have a:=a (by omega);have g:=gY a;have D:T.1.toNat<b.ty.length:=by unfold bN at a;omega
 have B:0<=T.1:=by unfold bN at a;omega
 obtain⟨t,J⟩:=oX (bY b.ty T.1);rw[<-J] at g f;have e:=f;simp only[bS] at g;refine tq (bQ m u E) ?_;intro U Y O C;refine j.q ?_;exact oz r (cA g D B A) s e
theorem WR (b:bn)(n:Int)(m r:Nat)(o:gq)(t:Int)(H:aA)(ck:Ck b)(hn:n=b.rg.length)(X:oc b.ol m r H)(hp:yW o)(hz:kx b o=0)(ht:bN b.ty.length t):aN prog 212 [.agg (rz b n m r),.agg (db o),i64 t] H λd H'=>d=.val (.bool (nW b o t))/\H=H':=by
 subst hn;refine aq (K:=λd=>d=.val (.bool (nW b o t))) ?_;have D:=aF H;have f:=ny b b.rg.length m r o.pl H ck hp;have l:∀P,cP prog 148 [.agg (rz b b.rg.length m r),.agg (db o)] P λd A=>A=aA.none/\d=i64 (tc b o):=λP=>an λz W=>AS b b.rg.length m r o z ck hp hz;have x:=λa c=>ZW b.ol b.rg.length b.ty m r H ck.wt ck.ol (by have:=ck.MX;omega) ck.Qm ck.tl ck.ar.cH X a c;obtain⟨I,G⟩:=EI hz;obtain⟨y,g⟩:=oX (nW b o t);rw[<-g];unfold nW at g;obtain⟨T,R⟩:=oX (mB b o.pl);obtain⟨Z,w⟩:=oX (tc b o);rw[<-R] at g f;rw[<-w] at g l;have j:=gY ht;have M:t.toNat<b.ty.length:=by unfold bN at ht;omega
 have L:0<=t:=by unfold bN at ht;omega
 obtain⟨u,V⟩:=oX (bY b.ty t);rw[<-V] at j g;have J:=lm bS b.ty;obtain⟨k,p,v⟩:=o;simp only at g I;clear R G hz w V;simp only[bS] at j;simp only[rz,cu,dJ,cz,ee] at f;simp only[rz,cu,db,dJ,cz] at l;refine dO func212 ntmps212 results212 λw0 g0 Q B=>?_;simp only[rz,cu,dJ,cz];refine tq @db.eq_1 ?_;intro U Y O C;intro c3 E c4 F;refine Y _ ?_;refine uB 3 4 E F ?_;by_cases S:1<k
 ·have h:=nF (k=0)
  have N:=nF (k=1);have e:=g.trans (aD S);refine tq (av h N) ?_;intro U Y O C;refine dE (λ_ _ d A=>A=.none/\d=i64 Z) λU Y=>?_;refine dst (cA j M L J) ?_;intro U Y O C;refine⟨l _,?_⟩;refine dst trivial ?_;intro U Y O C;exact oz B h D e
 have e:=g.trans (aC S);by_cases s:k=0
 ·have h:(k=0)=True:=aG s
  refine tq h ?_;intro U Y O C;refine f.qt ?_;intro U Y O C;refine(x _ _).q ?_;exact oz B h D e
 ·have h:(k=0)=False:=aI s
  have N:=nT (k=1);refine tq (av h N) ?_;intro U Y O C;refine f.qt ?_;intro U Y O C;refine(x _ _).q ?_;exact oz B h D e
theorem sQ {l:List gq}(h:i<l.length):(l.map db)[i]?=some (db l[i]):=by rw[bg,az h];rfl
theorem qc (b:bn)(n:Int)(w x:Nat)(l:List gq)(fs:List Int)(H:aA)(ck:Ck b)(hn:n=b.rg.length)(hR:oc b.ol w x H)(hl:cH l.length)(hp:∀o∈l,yW o)(a4:cH fs.length)(a5:∀f∈fs,bN b.ty.length f):aN prog 149 [.agg (rz b n w x),.seq 4 (l.map db),.seq 1 (fs.map iD)] H λd H'=>d=i64 (eM b l fs)/\H=H':=by
 refine aq (K:=λd=>d=i64 (eM b l fs)) ?_;have N:=lm db l;have M:=lm iD fs;unfold cH at hl a4;obtain⟨CK,p⟩:=oX (rz b n w x);have v:CK=[bC b.nm,.seq 1 (b.rg.map sD),.seq 2 (b.ol.map pD),.seq 5 (b.ty.map bS),.seq 2 (b.lc.map eQ),i64 b.ag,.seq 7 (b.bl.map dM),fJ n w x]:=p;rw[<-p,v];refine dO func149 ntmps149 results149 λw0 g0 Q Z=>?_;refine t0 ?_;intro U Y O C;intro c3 a2;refine Y _ ?_;refine cm 3 a2 ?_;refine tn N ?_;refine aO l.length (λi s=>s.df=[]/\s.fr 2=.seq 1 (fs.map iD)/\s.fr 3=.rp [bC b.nm,.seq 1 (b.rg.map sD),.seq 2 (b.ol.map pD),.seq 5 (b.ty.map bS),.seq 2 (b.lc.map eQ),i64 b.ag,.seq 7 (b.bl.map dM),fJ n w x]/\s.fr 10=.seq 4 (l.map db)/\s.fr 11=i64 l.length/\s.fr 12=i64 i/\s.H=H/\eM b l fs=eM b (l.drop i) (fs.drop i)) ⟨rfl,rfl,rfl,rfl,rfl,rfl,rfl,rfl⟩ ?_;rintro i s hi ⟨g,P,R,y,k,m,S,a⟩;have hx:=aX i;have I:=aZ i;have c:H.le s.H:=by rw[S];exact aF _
 by_cases e:i<l.length
 case neg=>
  have q6:=lF i l.length;rw[cb (by omega)] at a;refine ur Z (bQ k m q6) g ?_;exact⟨_,aF _,c,_,aL c,by rw[a] <;> rfl⟩
 have E:(i:Int)<(l.length:Int):=by omega
 have q6:((i:Int)<(l.length:Int))=True:=aG E;have w3:=wS i;have B:=sQ e;have D:=hp l[i] (ao e);rw[cL e] at a;obtain⟨o,ho⟩:=oX l[i];rw[<-ho] at B a D;have u:=C3 b n w x o s.H ck D;rw[<-p,v] at u;simp only[db] at B u;obtain⟨r,hr⟩:=oX (kx b o);have F:eM b (o::l.drop (i+1)) (fs.drop i)=if r≠0 then r else match fs.drop i with
  |[]=>eM b (l.drop (i+1)) []
  |f::fs=>if nW b o f=false then 22 else eM b (l.drop (i+1)) fs:=by rw[hr];rfl
 rw[F] at a;clear F;rw[<-hr] at u;refine tq (bG y k m N q6 B hx (bQ I e E)) ?_;intro U Y O C;intro c8 a3;refine Y _ ?_;refine cm 8 a3 ?_;refine tq R ?_;intro U Y O C;refine u.q ?_;by_cases G:r=0
 case neg=>
  have V:(r=0)=False:=aI G;rw[aD G] at a;refine ur Z V g ?_;exact⟨_,aF _,c,_,aL c,by rw[a] <;> rfl⟩
 have V:(r=0)=True:=aG G;rw[aC (λh=>h G)] at a;by_cases t:i<fs.length
 case neg=>
  have q8:=lF i fs.length;rw[cb (by omega:fs.length<=i)] at a;simp only at a;refine tq V ?_;intro U Y O C;refine dE (λ_ _ _ _=>False) λU Y=>?_;refine dst (bQ P q8 M) ?_;intro U Y O C;refine tn (av m w3) ?_;exact⟨e,g,P,R,y,k,rfl,S,by rw[a,cb (by omega:fs.length<=i+1)]⟩
 have q8:=lT i fs.length;have L:=bT t;have J:=a5 fs[i] (ao t);rw[cL t] at a;simp only at a;obtain⟨f,hf⟩:=oX fs[i];rw[<-hf] at L J a;have j:∀X,X=H->cP prog 212 [.agg CK,.agg (db o),i64 f] X λd A=>A=aA.none/\d=.val (.bool (nW b o f)):=λX a1=>an λW a0=>by
  rw[p];exact WR b n w x o f W ck hn (yu hR (by rw[<-a1];exact a0)) D (hr.symm.trans G) J
 rw[v] at j;simp only[db] at j;obtain⟨z,hz⟩:=oX (nW b o f);rw[<-hz] at j a;refine tq V ?_;intro U Y O C;refine dE (λ_ _ d A=>A=.none/\d=.val (.bool z)) λU Y=>?_;refine dst (bG P R q8 M L hx I t) ?_;intro U Y O C;refine⟨j _ S,?_⟩;cases z
 ·rw[aD rfl] at a
  refine C _ ?_;refine dst trivial ?_;intro U Y O C;refine ur Z trivial g ?_;exact⟨_,aF _,c,_,aL c,by rw[a] <;> rfl⟩
 ·rw[aC (λh=>by cases h)] at a
  refine C _ ?_;refine dst trivial ?_;intro U Y O C;refine tn (av m w3) ?_;exact⟨e,g,P,R,y,k,rfl,S,a⟩
theorem sA (b:bn)(n:Int)(a c:Nat):rz b n a c=[bC b.nm,.seq 1 (b.rg.map sD),.seq 2 (b.ol.map pD),.seq 5 (b.ty.map bS),.seq 2 (b.lc.map eQ),i64 b.ag,.seq 7 (b.bl.map dM),fJ n a c]:=rfl
theorem vi:∀{l:List gq},eM b l []=0->∀o∈l,kx b o=0
 |[],_,o,h=>by cases h
 |y::l,h,o,ho=>by
  have h1:eM b (y::l) []=if kx b y≠0 then kx b y else eM b l []:=rfl
  rw[h1] at h;by_cases a:kx b y=0
  ·rw[aC (λk=>k a)] at h
   rcases bV.1 ho with rfl|ho
   ·exact a
   ·exact vi h o ho
  ·rw[aD a] at h;exact absurd h a
theorem yA (b:bn)(n:Int)(F G:Nat)(r:tx)(t:Int)(tb:List (Int×Int))(H:aA)(ck:Ck b)(hn:n=b.rg.length)(hR:oc b.ol F G H)(hp:Bb r)(ht:bN b.ty.length t)(b0:tb.length<=6):aN prog 209 [.agg (rz b n F G),.agg (uo r),i64 t,.seq 2 (tb.map pD)] H λd H'=>d=i64 (oj b r t tb.length (tb.getD r.op.toNat (1,0)))/\H=H':=by
 refine aq (K:=λd=>d=i64 (oj b r t tb.length (tb.getD r.op.toNat (1,0)))) ?_;obtain⟨aw,X,W⟩:=hp;have aM:=aF H;have D:=(qc b n F G r.ar [] H ck hn hR X W (by unfold cH;simp) (λf hf=>by cases hf)).imp (ds:=[.agg (rz b n F G),.seq 4 (r.ar.map db),.val (.slice none 0 0)]) ⟨fG _,fG _,fO,trivial⟩;have a1:∀o∈r.ar,kx b o=0->∀P,cP prog 148 [.agg (rz b n F G),.agg (db o)] P λd A=>A=aA.none/\d=i64 (tc b o):=λo ho hz P=>an λB a7=>AS b n F G o B ck (W o ho) hz;have Z:∀x P,cP prog 147 [.val (.bool x)] P λd A=>A=aA.none/\d=i64 (if x=true then 22 else 0):=λx P=>an λB a7=>qA x B;rw[sA] at D a1 ⊢;have a2:=lm db r.ar;have a3:=lm bS b.ty;have M:=lm pD tb;obtain⟨y,a⟩:=oX (oj b r t tb.length (tb.getD r.op.toNat (1,0)));rw[<-a];unfold oj at a;have w:=gY ht;have a6:t.toNat<b.ty.length:=by unfold bN at ht;omega
 have a5:0<=t:=by unfold bN at ht;omega
 obtain⟨u,hu⟩:=oX (bY b.ty t);rw[<-hu] at w a;simp only[bS] at w;obtain⟨E,hE⟩:=oX (eM b r.ar []);rw[<-hE] at D a;unfold cH at X;refine dO func209 ntmps209 results209 λw0 g0 Q N=>?_;refine tq @uo.eq_1 ?_;intro U Y O C;intro c4 ac c5 ad;refine Y _ ?_;refine uB 4 5 ac ad ?_;by_cases h1:r.op<0
 ·have q1:(r.op<0)=True:=aG h1
  have e:y=14:=a.trans (aD (.inl h1));exact oz N q1 aM e
 have q1:(r.op<0)=False:=aI h1;by_cases h2:(tb.length:Int)<=r.op
 ·have q2:(r.op≥(tb.length:Int))=True:=aG h2
  have e:y=14:=a.trans (aD (.inr h2));exact oz N (bQ q1 q2 M) aM e
 have q2:(r.op≥(tb.length:Int))=False:=aI h2;rw[aC (by omega)] at a;refine tq (bQ q1 q2 M) ?_;intro U Y O C;refine D.q ?_;by_cases V:E=0
 case neg=>
  have q3:(E=0)=False:=aI V;have e:y=E:=a.trans (aD V);exact oz N q3 aM e
 have q3:(E=0)=True:=aG V;rw[aC (λh=>h V)] at a;have a8:=vi (hE.symm.trans V);have a4:r.op.toNat<tb.length:=by omega
 have a0:=PY a4;have ae:0<=r.op:=by omega
 have ap:tb.getD r.op.toNat (1,0)=tb.getD r.op.toNat (1,0):=rfl;obtain⟨x,ak⟩:=oX (tb.getD r.op.toNat (1,0));rw[<-ak] at a0 a;refine tq (cw q3 a0 a4 ae M) ?_;intro U Y O C;intro al a9;refine Y _ ?_;refine cm 10 a9 ?_;refine tn a2 ?_;refine aO r.ar.length (λi s=>s.df=[]/\s.fr 2=i64 t/\s.fr 4=.rp [bC b.nm,.seq 1 (b.rg.map sD),.seq 2 (b.ol.map pD),.seq 5 (b.ty.map bS),.seq 2 (b.lc.map eQ),i64 b.ag,.seq 7 (b.bl.map dM),fJ n F G]/\s.fr 10=.rp [i64 x.1,i64 x.2]/\s.fr 36=.seq 4 (r.ar.map db)/\s.fr 37=i64 r.ar.length/\s.fr 38=i64 i/\s.H=H/\(r.ar.all λo=>decide (tc b o=x.1))=((r.ar.drop i).all λo=>decide (tc b o=x.1))) ⟨rfl,rfl,rfl,rfl,rfl,rfl,rfl,rfl,rfl⟩ ?_;rintro i s hi ⟨v,f2,f4,l,S,I,J,hH,p⟩;have hx:=aX i;have ab:=aZ i;have c:H.le s.H:=by rw[hH];exact aF _
 by_cases g:i<r.ar.length
 case neg=>
  have q6:=lF i r.ar.length;rw[cb (by omega),lh] at p;rw[p,aC (λh=>by cases h)] at a;refine tq (bQ I J q6) ?_;intro U Y O C;by_cases m:u.k=x.2
  ·have z:(u.k=x.2)=True:=aG m
   rw[aC (λh=>h m)] at a;refine dE (λ_ _ d A=>A=.none/\d=i64 0) λU Y=>?_;refine dst (bG f2 f4 l w a6 a5 a3 z) ?_;intro U Y O C;refine⟨Z _ _,?_⟩;refine Y _ ?_;refine ur N trivial v ?_;exact⟨_,aF _,c,_,aL c,by rw[a] <;> rfl⟩
  ·have z:(u.k=x.2)=False:=aI m
   rw[aD m] at a;refine dE (λ_ _ d A=>A=.none/\d=i64 22) λU Y=>?_;refine dst (bG f2 f4 l w a6 a5 a3 z) ?_;intro U Y O C;refine⟨Z _ _,?_⟩;refine Y _ ?_;refine ur N trivial v ?_;exact⟨_,aF _,c,_,aL c,by rw[a] <;> rfl⟩
 have R:(i:Int)<(r.ar.length:Int):=by omega
 have q6:((i:Int)<(r.ar.length:Int))=True:=aG R;have w3:=wS i;have L:=sQ g;have j:=a1 r.ar[i] (ao g) (a8 _ (ao g)) s.H;rw[cL g,jQ] at p;obtain⟨o,ho⟩:=oX r.ar[i];rw[<-ho] at L p j;obtain⟨K,hK⟩:=oX (tc b o);rw[<-hK] at p j;simp only[db] at L j;refine tq (bG S I J a2 q6 L hx (bQ ab g R)) ?_;intro U Y O C;intro am aa;refine Y _ ?_;refine cm 12 aa ?_;refine bW ?_;refine dE (λ_ _ d A=>A=.none/\d=i64 K) λU Y=>?_;refine dst (av f4 l) ?_;intro U Y O C;refine⟨j,?_⟩;by_cases m:K=x.1
 ·have z:(K=x.1)=True:=aG m
  rw[ah m,cV] at p;refine dst z ?_;intro U Y O C;refine tn (bQ J w3 z) ?_;exact⟨g,v,f2,f4,l,S,I,rfl,hH,p⟩
 ·have z:(K=x.1)=False:=aI m
  rw[af m,dq] at p;rw[p,aD rfl] at a;refine dst z ?_;intro U Y O C;refine ur N z v ?_;exact⟨_,aF _,c,_,aL c,by rw[a] <;> rfl⟩
def Lm (r:tx):Bool:=(decide (r.rg=0)&& !r.mu)&&dU r.pl
theorem Jr (r:tx):tv r=if r.k=1 then decide (r.op=0)&&decide (r.ar.length=0) else Lm r&&(if r.k=0 then decide (r.op=0)&&decide (r.ar.length=1) else if r.k=2 then decide (r.ar.length=1) else if r.k=3 then decide (r.ar.length=2) else decide (r.op=0)):=rfl
def UnM (r:tx) (H:aA) (s:St):Prop:=s.df=[]/\s.fr 1=.rp (uo r)/\s.fr 3=.val (.bool (Lm r))/\s.H=H
theorem QX (r:tx)(H:aA)(hp:Bb r):aN prog 207 [.agg (uo r)] H λd H'=>d=.val (.bool (tv r))/\H=H':=by
 refine aq (K:=λd=>d=.val (.bool (tv r))) ?_;have F:=BQ r.pl H hp.1;have J:=hp.2.1;unfold cH at J;have g:=lm db r.ar;have a:=Jr r;obtain⟨y,S⟩:=oX (tv r);rw[<-S] at a ⊢;have E:∀s,UnM r H s↔(s.df=[]/\s.fr 1=.rp (uo r)/\s.fr 3=.val (.bool (Lm r))/\s.H=H):=λs=>Iff.rfl;have w:Lm r=((decide (r.rg=0)&& !r.mu)&&dU r.pl):=rfl;obtain⟨P,N⟩:=oX (Lm r);rw[<-N] at a w;simp only[<-N] at E;obtain⟨M,I⟩:=oX (UnM r H);rw[<-I] at E;clear N I S;obtain⟨k,D,rg,mu,W,u⟩:=r;simp only[uo] at E ⊢;simp only at a w F J g;simp only[ee] at F;refine dO func207 ntmps207 results207 λw0 g0 Q l=>?_;refine t0 ?_;intro U Y O C;intro c1 R;refine Y _ ?_;refine cm 1 R ?_;refine bW ?_;refine nR M ?_ ?_
 ·by_cases f:rg=0
  case neg=>
   have h:(rg=0)=False:=aI f;have e:P=false:=w.trans (by rw[af f,dq,dq]);refine tq h ?_;intro U Y O C;exact(E _).2 ⟨rfl,rfl,by rw[e] <;> rfl,rfl⟩
  have h:(rg=0)=True:=aG f;cases mu
  ·have e:P=dU W:=w.trans (by rw[ah f] <;> rfl)
   refine tq h ?_;intro U Y O C;refine F.q ?_;cases V:dU W
   ·rw[V] at e
    refine t0 ?_;intro U Y O C;exact(E _).2 ⟨rfl,rfl,by rw[e] <;> rfl,rfl⟩
   ·rw[V] at e
    refine t0 ?_;intro U Y O C;exact(E _).2 ⟨rfl,rfl,by rw[e] <;> rfl,rfl⟩
  ·have e:P=false:=w.trans (by rw[ah f] <;> rfl)
   refine tq h ?_;intro U Y O C;exact(E _).2 ⟨rfl,rfl,by rw[e] <;> rfl,rfl⟩
 intro s hs;obtain⟨Z,m,o,X⟩:=(E s).1 hs;have c:H.le s.H:=by rw[X];exact aF _
 by_cases L:k=0
 ·have j:(k=0)=True:=aG L
  rw[aC (by omega),aD L] at a;cases P
  ·rw[dq] at a
   have e:=a;exact oz l (bQ m o j) c e
  rw[cV] at a;by_cases f:D=0
  case neg=>
   have h:(D=0)=False:=aI f;have e:y=false:=a.trans (by rw[af f,dq]);exact oz l (cA m o j h) c e
  have h:(D=0)=True:=aG f;by_cases v:u.length=1
  ·have p:=nT ((u.length:Int)=1)
   have e:y=true:=a.trans (by rw[ah f,ah v] <;> rfl);exact oz l (eP m o j h p g) c e
  ·have p:=nF ((u.length:Int)=1)
   have e:y=false:=a.trans (by rw[af v,fq]);exact oz l (eP m o j h p g) c e
 have j:(k=0)=False:=aI L;by_cases z:k=1
 ·have t:(k=1)=True:=aG z
  rw[aD z] at a;by_cases f:D=0
  case neg=>
   have h:(D=0)=False:=aI f;have e:y=false:=a.trans (by rw[af f,dq]);exact oz l (cw m o j t h) c e
  have h:(D=0)=True:=aG f;by_cases v:u.length=0
  ·have p:=nT ((u.length:Int)=0)
   have e:y=true:=a.trans (by rw[ah f,ah v] <;> rfl);exact oz l (ej m o j t h p g) c e
  ·have p:=nF ((u.length:Int)=0)
   have e:y=false:=a.trans (by rw[af v,fq]);exact oz l (ej m o j t h p g) c e
 have t:(k=1)=False:=aI z;rw[aC z,aC L] at a;by_cases A:k=2
 ·have x:(k=2)=True:=aG A
  rw[aD A] at a;cases P
  ·have e:y=false:=a
   exact oz l (cw m o j t x) c e
  by_cases v:u.length=1
  ·have p:=nT ((u.length:Int)=1)
   have e:y=true:=a.trans (by rw[ah v] <;> rfl);exact oz l (ej m o j t x p g) c e
  ·have p:=nF ((u.length:Int)=1)
   have e:y=false:=a.trans (by rw[af v] <;> rfl);exact oz l (ej m o j t x p g) c e
 have x:(k=2)=False:=aI A;rw[aC A] at a;by_cases B:k=3
 ·have G:(k=3)=True:=aG B
  rw[aD B] at a;cases P
  ·have e:y=false:=a
   exact oz l (eP m o j t x G) c e
  by_cases v:u.length=2
  ·have p:=nT ((u.length:Int)=2)
   have e:y=true:=a.trans (by rw[ah v] <;> rfl);exact oz l (bG m o j t x G p g) c e
  ·have p:=nF ((u.length:Int)=2)
   have e:y=false:=a.trans (by rw[af v] <;> rfl);exact oz l (bG m o j t x G p g) c e
 have G:(k=3)=False:=aI B;rw[aC B] at a;cases P
 ·have e:y=false:=a
  exact oz l (eP m o j t x G) c e
 by_cases f:D=0
 ·have h:(D=0)=True:=aG f
  have e:y=true:=a.trans (by rw[ah f] <;> rfl);exact oz l (ej m o j t x G h) c e
 ·have h:(D=0)=False:=aI f
  have e:y=false:=a.trans (by rw[af f] <;> rfl);exact oz l (ej m o j t x G h) c e
theorem AH (a c:Int)(H:aA):aN prog 136 [.seq 1 [[i64 a],[i64 c]]] H λd H'=>d=i64 (if a≠0 then a else c)/\H=H':=by
 have h:=JB [a,c] H (by unfold cH;simp);have e:wy [a,c]=if a≠0 then a else c:=by
  simp only[wy];split
  ·rfl
  ·by_cases h:c=0 <;> simp [h]
 rw[e] at h;exact h
theorem BP (b:bn)(n:Int)(v w:Nat)(p:gR)(H:aA)(ck:Ck b)(hp:cH p.pr.length):aN prog 143 [.agg (rz b n v w),.agg (ee p)] H λd H'=>d=.eO [i64 (mB b p).1,i64 (qy b p)]/\H=H':=by
 refine aq (K:=λd=>d=.eO [i64 (mB b p).1,i64 (qy b p)]) ?_;have m:=aF H;have f:=ny b n v w p H ck hp;have o:=Un b.ty b.lc p H ck.wt ck.wl ck.ar hp;have g:=λx=>qA x H;have j:=λa c=>AH a c H;rw[sA] at f ⊢;obtain⟨y,k⟩:=oX (qy b p);rw[<-k];unfold qy at k;obtain⟨T,A⟩:=oX (mB b p);rw[<-A] at k f ⊢;clear A;simp only[ee] at f o;refine dO func143 ntmps143 results143 λG F Q s=>?_;refine tq @ee.eq_1 ?_;intro U Y O C;intro D t E u;refine Y _ ?_;refine uB 2 3 t u ?_;refine t0 ?_;intro U Y O C;refine f.q ?_;by_cases r:T.2=0
 ·have l:(T.2=0)=True:=aG r
  rw[aC (λh=>h r)] at k;refine tq l ?_;intro U Y O C;refine o.q ?_;have e:y=if (!ml b.ty b.lc p)=true then 22 else 0:=by rw[k];cases ml b.ty b.lc p <;> rfl
  obtain⟨z,B⟩:=oX (ml b.ty b.lc p);rw[<-B] at e ⊢;clear B k;cases z
  ·refine t0 ?_;intro U Y O C
   refine(g _).qt ?_;intro U Y O C;refine(j _ _).q ?_;refine ur s l trivial ?_;exact⟨_,aF _,m,_,aL m,by rw[e] <;> rfl⟩
  ·refine t0 ?_;intro U Y O C
   refine(g _).qt ?_;intro U Y O C;refine(j _ _).q ?_;refine ur s l trivial ?_;exact⟨_,aF _,m,_,aL m,by rw[e] <;> rfl⟩
 ·have l:(T.2=0)=False:=aI r
  have e:y=T.2:=k.trans (aD r);refine tq l ?_;intro U Y O C;refine(g _).qt ?_;intro U Y O C;refine(j _ _).q ?_;refine ur s l trivial ?_;exact zf m (by rw[e])
theorem Mz (b:bn)(n:Int)(b1 b2:Nat)(r:tx)(t:Int)(H:aA)(ck:Ck b)(hn:n=b.rg.length)(hR:oc b.ol b1 b2 H)(hp:Bb r)(ht:bN b.ty.length t):aN prog 208 [.agg (rz b n b1 b2),.agg (uo r),i64 t] H λd H'=>d=i64 (vE b r t)/\H=H':=by
 subst hn;refine aq (K:=λd=>d=i64 (vE b r t)) ?_;have P:=aF H;have M:=ny b b.rg.length b1 b2 r.pl H ck hp.1;have A:=Un b.ty b.lc r.pl H ck.wt ck.wl ck.ar hp.1;have L:=XL b.ty b.lc r.pl H ck.wt ck.wl ck.ar hp.1;have a2:=λq=>PR b.ol b.rg.length q r.rg b1 b2 H hR ck.ol (by have:=ck.MX;omega) ck.Qm;have aa:(tj b.ty b.lc r.pl).length<=32:=by
  have:=oF b.ty b.lc r.pl;unfold tj;rw[aS];exact this
 rw[sA] at M ⊢;have l:=lm sD b.rg;have a8:=lm bS b.ty;obtain⟨y,a⟩:=oX (vE b r t);rw[<-a];unfold vE at a;have a0:=gY ht;have ac:t.toNat<b.ty.length:=by unfold bN at ht;omega
 have ab:0<=t:=by unfold bN at ht;omega
 obtain⟨u,hu⟩:=oX (bY b.ty t);obtain⟨T,hT⟩:=oX (mB b r.pl);obtain⟨R,a3⟩:=oX (tj b.ty b.lc r.pl);obtain⟨Z,hZ⟩:=oX (ml b.ty b.lc r.pl);rw[<-hu] at a0 a;rw[<-hT] at M a;rw[<-a3] at L aa a;rw[<-hZ] at A a;clear hu hT a3 hZ;obtain⟨k,op,rg,S,pl,ar⟩:=r;obtain⟨uk,um,ur,ue,ua⟩:=u;simp only[bS] at a0;simp only at a a2;simp only[ee] at M A L;have J:=lm iD R;refine dO func208 ntmps208 results208 λw0 g0 Q B=>?_;refine tq @uo.eq_1 ?_;intro U Y O C;intro c3 a5 c4 a6;refine Y _ ?_;refine uB 3 4 a5 a6 ?_;refine t0 ?_;intro U Y O C;refine M.qs (cA a0 ac ab a8) ?_;intro U Y O C;intro c9 a7;refine Y _ ?_;refine cm 9 a7 ?_;by_cases h1:T.2=0
 case neg=>
  have D:(T.2=0)=False:=aI h1;have e:y=T.2:=a.trans (aD h1);exact oz B D P e
 have D:(T.2=0)=True:=aG h1;rw[aC (λh=>h h1)] at a;by_cases h2:rg<0
 ·have I:(rg<0)=True:=aG h2
  have e:y=3:=a.trans (aD (.inl h2));exact oz B (av D I) P e
 have I:(rg<0)=False:=aI h2;by_cases h3:(b.rg.length:Int)<=rg
 ·have N:(rg≥(b.rg.length:Int))=True:=aG h3
  have e:y=3:=a.trans (aD (.inr h3));exact oz B (cA D I N l) P e
 have N:(rg≥(b.rg.length:Int))=False:=aI h3;rw[aC (by omega)] at a;by_cases h4:uk=3
 case neg=>
  have V:(uk=3)=False:=aI h4;have e:y=22:=a.trans (aD (.inl h4));exact oz B (cw D I N l V) P e
 have V:(uk=3)=True:=aG h4;by_cases h5:ur=rg
 case neg=>
  have q5:(ur=rg)=False:=aI h5;have e:y=22:=a.trans (aD (.inr (.inl h5)));exact oz B (eP D I N l V q5) P e
 have q5:(ur=rg)=True:=aG h5;by_cases h6:um=S
 case neg=>
  have e:y=22:=a.trans (aD (.inr (.inr (.inl h6))));have q6:(um=S)=False:=aI h6;exact oz B (ej D I N l V q5 q6) P e
 have q6:(um=S)=True:=aG h6;by_cases h7:ue=T.1
 case neg=>
  have q7:(ue=T.1)=False:=aI h7;have e:y=22:=a.trans (aD (.inr (.inr (.inr (.inl h7)))));exact oz B (bG D I N l V q5 q6 q7) P e
 have q7:(ue=T.1)=True:=aG h7;by_cases hm:S=true/\Z=false
 ·obtain⟨a1,a4⟩:=hm
  have e:y=22:=a.trans (aD (.inr (.inr (.inr (.inr ⟨a1,a4⟩)))));rw[a4] at A;rw[a1] at q6;refine tq (bG D I N l V q5 q6 (av q7 a1)) ?_;intro U Y O C;refine A.q ?_;exact oz B D P e
 have a9:¬(uk≠3\/ur≠rg\/um≠S\/ue≠T.1\/(S=true/\Z=false)):=λh=>h.elim (· h4) λh=>h.elim (· h5) λh=>h.elim (· h6) λh=>h.elim (· h7) hm;rw[aC a9] at a;have hZ:S=true->Z=true:=λh=>by cases Z;exact absurd ⟨h,rfl⟩ hm;rfl
 cases S
 ·refine tq (bG D I N l V q5 q6 q7) ?_;intro U Y O C
  refine L.qs J ?_;intro U Y O C;refine aO R.length (λi s=>s.df=[]/\s.fr 3=.rp [bC b.nm,.seq 1 (b.rg.map sD),.seq 2 (b.ol.map pD),.seq 5 (b.ty.map bS),.seq 2 (b.lc.map eQ),i64 b.ag,.seq 7 (b.bl.map dM),fJ (b.rg.length:Int) b1 b2]/\(∃x,s.fr 4=.rp [i64 k,i64 op,i64 rg,.val (.bool x),i64 pl.lo,.seq 2 (pl.pr.map pD),.seq 4 (ar.map db)])/\s.fr 89=.seq 1 (R.map iD)/\s.fr 90=i64 R.length/\s.fr 91=i64 i/\s.H=H/\(R.all λq=>gh b.ol b.rg.length q rg)=((R.drop i).all λq=>gh b.ol b.rg.length q rg)) ⟨rfl,rfl,⟨_,rfl⟩,rfl,rfl,rfl,rfl,rfl⟩ ?_;rintro i s hi ⟨w,f3,⟨x,f4⟩,F,m,o,X,f⟩;have hx:=aX i;have W:=aZ i;have c:H.le s.H:=by rw[X];exact aF _
  by_cases g:i<R.length
  case neg=>
   have q8:=lF i R.length;rw[cb (by omega),lh] at f;rw[f,aC (λh=>by cases h)] at a;refine ur B (bQ m o q8) w ?_;exact⟨_,aF _,c,_,aL c,by rw[a] <;> rfl⟩
  have E:(i:Int)<(R.length:Int):=by omega
  have q8:((i:Int)<(R.length:Int))=True:=aG E;have w3:=wS i;have G:=bT g;rw[cL g,jQ] at f;have j:=a2 R[i];obtain⟨v,hv⟩:=oX R[i];rw[<-hv] at G f j;obtain⟨z,hz⟩:=oX (gh b.ol b.rg.length v rg);rw[<-hz] at f j;rw[<-X] at j;refine tq (bG f3 f4 F m o J q8 (cw G hx W g E)) ?_;intro U Y O C;refine j.mono ?_;rintro d _ ⟨rfl,p⟩;cases z
  ·rw[dq] at f
   rw[f,aD rfl] at a;refine ur B trivial w ?_;exact⟨_,aF _,by rw[<-p];exact c,_,aL (by rw[<-p];exact c),by rw[a] <;> rfl⟩
  ·rw[cV] at f
   refine tn (av o w3) ?_;exact⟨g,w,f3,⟨x,f4⟩,F,m,rfl,by rw[<-p];exact X,f⟩
 ·rw[hZ rfl] at A
  refine tq (bG D I N l V q5 q6 q7) ?_;intro U Y O C;refine A.qt ?_;intro U Y O C;refine L.qs J ?_;intro U Y O C;refine aO R.length (λi s=>s.df=[]/\s.fr 3=.rp [bC b.nm,.seq 1 (b.rg.map sD),.seq 2 (b.ol.map pD),.seq 5 (b.ty.map bS),.seq 2 (b.lc.map eQ),i64 b.ag,.seq 7 (b.bl.map dM),fJ (b.rg.length:Int) b1 b2]/\(∃x,s.fr 4=.rp [i64 k,i64 op,i64 rg,.val (.bool x),i64 pl.lo,.seq 2 (pl.pr.map pD),.seq 4 (ar.map db)])/\s.fr 89=.seq 1 (R.map iD)/\s.fr 90=i64 R.length/\s.fr 91=i64 i/\s.H=H/\(R.all λq=>gh b.ol b.rg.length q rg)=((R.drop i).all λq=>gh b.ol b.rg.length q rg)) ⟨rfl,rfl,⟨_,rfl⟩,rfl,rfl,rfl,rfl,rfl⟩ ?_;rintro i s hi ⟨w,f3,⟨x,f4⟩,F,m,o,X,f⟩;have hx:=aX i;have W:=aZ i;have c:H.le s.H:=by rw[X];exact aF _
  by_cases g:i<R.length
  case neg=>
   have q8:=lF i R.length;rw[cb (by omega),lh] at f;rw[f,aC (λh=>by cases h)] at a;refine ur B (bQ m o q8) w ?_;exact⟨_,aF _,c,_,aL c,by rw[a] <;> rfl⟩
  have E:(i:Int)<(R.length:Int):=by omega
  have q8:((i:Int)<(R.length:Int))=True:=aG E;have w3:=wS i;have G:=bT g;rw[cL g,jQ] at f;have j:=a2 R[i];obtain⟨v,hv⟩:=oX R[i];rw[<-hv] at G f j;obtain⟨z,hz⟩:=oX (gh b.ol b.rg.length v rg);rw[<-hz] at f j;rw[<-X] at j;refine tq (bG f3 f4 F m o J q8 (cw G hx W g E)) ?_;intro U Y O C;refine j.mono ?_;rintro d _ ⟨rfl,p⟩;cases z
  ·rw[dq] at f
   rw[f,aD rfl] at a;refine ur B trivial w ?_;exact⟨_,aF _,by rw[<-p];exact c,_,aL (by rw[<-p];exact c),by rw[a] <;> rfl⟩
  ·rw[cV] at f
   refine tn (av o w3) ?_;exact⟨g,w,f3,⟨x,f4⟩,F,m,rfl,by rw[<-p];exact X,f⟩
theorem gD0:gD 0=.rp [i64 2,i64 2,i64 1,i64 1]:=rfl
theorem gD1:gD 1=.rp [i64 2,i64 2,i64 2,i64 2,i64 2,i64 2,i64 2,i64 1,i64 2,i64 1,i64 1,i64 1]:=rfl
def Xt:List (Int×Int):=[(2,2),(1,1)]
def K8:List (Int×Int):=[(2,2),(2,2),(2,2),(2,1),(2,1),(1,1)]
theorem Yj {x:Int}(h:0<=x)(a:x<6):x=0\/x=1\/x=2\/x=3\/x=4\/x=5:=by omega
theorem TN (b:bn)(r:tx)(t:Int):oj b r t Xt.length (Xt.getD r.op.toNat (1,0))=oj b r t 2 (VF r.op):=by
 by_cases h:r.op<0\/2<=r.op
 ·unfold oj
  rw[aD (by simpa [Xt] using h),aD h]
 ·have a:r.op=0\/r.op=1:=by omega
  have:Xt.getD r.op.toNat (1,0)=VF r.op:=by rcases a with h|h <;> rw[h] <;> rfl
  rw[this];rfl
theorem PN (b:bn)(r:tx)(t:Int):oj b r t K8.length (K8.getD r.op.toNat (1,0))=oj b r t 6 (HA r.op):=by
 by_cases h:r.op<0\/6<=r.op
 ·unfold oj
  rw[aD (by simpa [K8] using h),aD h]
 ·have:K8.getD r.op.toNat (1,0)=HA r.op:=by rcases Yj (x:=r.op) (by omega) (by omega) with h|h|h|h|h|h <;> rw[h] <;> rfl
  rw[this];rfl
theorem Pl (b:bn)(n:Int)(p s:Nat)(r:tx)(t:Int)(H:aA)(ck:Ck b)(hn:n=b.rg.length)(N:oc b.ol p s H)(hp:Bb r)(ht:bN b.ty.length t)(R:∀f∈(bY b.ty t).ar,bN b.ty.length f):aN prog 144 [.agg (rz b n p s),.agg (uo r),i64 t] H λd H'=>d=i64 (Cd b r t)/\H=H':=by
 refine aq (K:=λd=>d=i64 (Cd b r t)) ?_;have B:=aF H;have a1:=QX r H hp;have P:=Mz b n p s r t H ck hn N hp ht;have a0:∀m,m=H->cP prog 209 [.agg (rz b n p s),.agg (uo r),i64 t,.seq 2 (Xt.map pD)] m λd A=>A=aA.none/\d=i64 (oj b r t 2 (VF r.op)):=λm v=>an λj o=>by
  have:=yA b n p s r t Xt j ck hn (yu N (by rw[<-v];exact o)) hp ht (by decide);rwa[TN] at this
 have X:∀m,m=H->cP prog 209 [.agg (rz b n p s),.agg (uo r),i64 t,.seq 2 (K8.map pD)] m λd A=>A=aA.none/\d=i64 (oj b r t 6 (HA r.op)):=λm v=>an λj o=>by
  have:=yA b n p s r t K8 j ck hn (yu N (by rw[<-v];exact o)) hp ht (by decide);rwa[PN] at this
 have Z:∀(fs:List Int),cH fs.length->(∀f∈fs,bN b.ty.length f)->aN prog 149 [.agg (rz b n p s),.seq 4 (r.ar.map db),.seq 1 (fs.map iD)] H λd H'=>d=i64 (eM b r.ar fs)/\H=H':=λfs L M=>qc b n p s r.ar fs H ck hn N hp.2.1 hp.2.2 L M;have w:∀m,m=H->cP prog 149 [.agg (rz b n p s),.seq 4 (r.ar.map db),.seq 1 ((bY b.ty t).ar.map iD)] m λd A=>A=aA.none/\d=i64 (eM b r.ar (bY b.ty t).ar):=λm v=>an λj o=>qc b n p s r.ar _ j ck hn (yu N (by rw[<-v];exact o)) hp.2.1 hp.2.2 (ck.ar.cH _ (ni ht)) R;have E:∀x m,cP prog 147 [.val (.bool x)] m λd A=>A=aA.none/\d=i64 (if x=true then 22 else 0):=λx m=>an λj o=>qA x j;have F:∀a c m,cP prog 136 [.seq 1 [[i64 a],[i64 c]]] m λd A=>A=aA.none/\d=i64 (if a≠0 then a else c):=λa c m=>an λj o=>AH a c j;rw[sA] at P a0 X Z w ⊢;have a5:=lm bS b.ty;have V:=lm db r.ar;obtain⟨y,g⟩:=oX (Cd b r t);rw[<-g];unfold Cd at g;have G:=gY ht;have a7:t.toNat<b.ty.length:=by unfold bN at ht;omega
 have a6:0<=t:=by unfold bN at ht;omega
 obtain⟨u,hu⟩:=oX (bY b.ty t);rw[<-hu] at G g w;clear hu R;simp only[bS] at G;obtain⟨S,hS⟩:=oX (tv r);rw[<-hS] at a1 g;refine dO func144 ntmps144 results144 λw0 g0 Q z=>?_;refine tq @uo.eq_1 ?_;intro U Y O C;intro c3 a2 c4 a3;refine Y _ ?_;refine uB 3 4 a2 a3 ?_;by_cases L:r.k<0
 ·have D:(r.k<0)=True:=aG L
  have e:y=14:=g.trans (aD (.inl L));exact oz z D B e
 have D:(r.k<0)=False:=aI L;by_cases M:4<r.k
 ·have q2:(4<r.k)=True:=aG M
  have e:y=14:=g.trans (aD (.inr M));exact oz z (av D q2) B e
 have q2:(4<r.k)=False:=aI M;rw[aC (by omega)] at g;refine tq (av D q2) ?_;intro U Y O C;refine a1.q ?_;cases S
 ·have e:y=2:=g
  exact oz z D B e
 rw[aC (λh=>by cases h)] at g;by_cases l:r.k=0
 ·have J:(r.k=0)=True:=aG l
  rw[aD l] at g;have e:=g;refine tq J ?_;intro U Y O C;refine(Z [t] (by unfold cH;simp) (λf hf=>by rw[bM] at hf;subst hf;exact ht)).mono ?_;rintro d _ ⟨rfl,rfl⟩;exact oz z D B e
 have J:(r.k=0)=False:=aI l;rw[aC l] at g;by_cases l:r.k=1
 ·have k1:(r.k=1)=True:=aG l
  rw[aD l] at g;have e:=g;refine tq (av J k1) ?_;intro U Y O C;refine P.q ?_;exact oz z D B e
 have k1:(r.k=1)=False:=aI l;rw[aC l] at g;by_cases l:r.k=2
 ·have k2:(r.k=2)=True:=aG l
  rw[aD l] at g;have e:=g;refine tq (bQ J k1 k2) ?_;intro U Y O C;refine dE (λ_ _ d A=>A=.none/\d=i64 (oj b r t 2 (VF r.op))) λU Y=>?_;refine dst (av gD0 @vL.eq_1) ?_;intro U Y O C;refine⟨a0 _ rfl,?_⟩;refine nx ?_;exact oz z D B e
 have k2:(r.k=2)=False:=aI l;rw[aC l] at g;by_cases l:r.k=3
 ·have k3:(r.k=3)=True:=aG l
  rw[aD l] at g;have e:=g;refine tq (cA J k1 k2 k3) ?_;intro U Y O C;refine dE (λ_ _ d A=>A=.none/\d=i64 (oj b r t 6 (HA r.op))) λU Y=>?_;refine dst (av gD1 @vL.eq_1) ?_;intro U Y O C;refine⟨X _ rfl,?_⟩;refine nx ?_;exact oz z D B e
 have k3:(r.k=3)=False:=aI l;rw[aC l] at g;refine tq (bG J k1 k2 k3 G a7 a6 a5) ?_;intro U Y O C;intro c7 a4;refine Y _ ?_;refine cm 7 a4 ?_;by_cases h7:u.k=4
 case neg=>
  have I:(u.k=4)=False:=aI h7;have e:y=22:=by rw[g,aD (.inl h7)]
  refine bW ?_;refine dE (λt0 _ d A=>A=.none/\d=(if t0=some 67 then i64 22 else if t0=some 73 then i64 (eM b r.ar u.ar) else i64 22)) λU Y=>?_;refine dst I ?_;intro U Y O C;refine⟨E _ _,w _ rfl,F 22 _ _,?_⟩;refine nx ?_;exact oz z I B e
 have I:(u.k=4)=True:=aG h7;have W:=lm iD u.ar;by_cases h8:u.ar.length=r.ar.length
 case neg=>
  have q8:=nF ((u.ar.length:Int)=(r.ar.length:Int));have e:y=22:=by rw[g,aD (.inr h8)]
  refine bW ?_;refine dE (λt0 _ d A=>A=.none/\d=(if t0=some 67 then i64 22 else if t0=some 73 then i64 (eM b r.ar u.ar) else i64 22)) λU Y=>?_;refine dst (cA I q8 V W) ?_;intro U Y O C;refine⟨E _ _,w _ rfl,F 22 _ _,?_⟩;refine nx ?_;exact oz z I B e
 have q8:=nT ((u.ar.length:Int)=(r.ar.length:Int));have e:y=eM b r.ar u.ar:=by rw[g,aC (by omega)]
 refine bW ?_;refine dE (λt0 _ d A=>A=.none/\d=(if t0=some 67 then i64 0 else if t0=some 73 then i64 (eM b r.ar u.ar) else i64 (eM b r.ar u.ar))) λU Y=>?_;refine dst (cA I q8 V W) ?_;intro U Y O C;refine⟨E _ _,w _ rfl,F 0 _ _,?_⟩;refine nx ?_;exact oz z I B e
theorem CO (e:pI b.ty){t:Int}(h:bN b.ty.length t):∀f∈(bY b.ty t).ar,bN b.ty.length f:=λf a=>by
 obtain⟨c,d⟩:=qM h;rw[d] at a;have:=(e _ c).2 f a;unfold bN;omega
def StM (b:bn) (n:Int) (a c:Nat) (s:qO) (H:aA) (x:St):Prop:=x.df=[]/\x.fr 2=.rp (rz b n a c)/\x.fr 3=.rp (ji s)/\x.fr 5=.rp (uo s.rv)/\x.fr 6=.val (.bool (FB s))/\x.H=H
theorem XZ (b:bn)(n:Int)(I J:Nat)(s:qO)(H:aA)(ck:Ck b)(hn:n=b.rg.length)(hR:oc b.ol I J H)(hp:PH s):aN prog 66 [.agg (rz b n I J),.agg (ji s)] H λd H'=>d=i64 (yY b s)/\H=H':=by
 refine aq (K:=λd=>d=i64 (yY b s)) ?_;have aM:=aF H;have j:=BQ s.pl H hp.1;have S:=BQ s.rv.pl H hp.2.1;have w:=BP b n I J s.pl H ck hp.1;have R:=λt h=>Pl b n I J s.rv t H ck hn hR hp.2 h (CO ck.wt h);have P:qy b s.pl=0->bN b.ty.length (mB b s.pl).1:=λh=>xV ck (by
  unfold qy at h;exact eC λm=>by rw[aD m] at h;exact m h)
 have v:=lm db s.rv.ar;have a4:=lm eQ b.lc;obtain⟨y,f⟩:=oX (yY b s);rw[<-f];unfold yY at f;have q:∀x,StM b n I J s H x↔(x.df=[]/\x.fr 2=.rp (rz b n I J)/\x.fr 3=.rp (ji s)/\x.fr 5=.rp (uo s.rv)/\x.fr 6=.val (.bool (FB s))/\x.H=H):=λx=>Iff.rfl;obtain⟨M,a0⟩:=oX (StM b n I J s H);rw[<-a0] at q;clear a0;have a:FB s=(dU s.pl&&(decide (s.rv.k=0)&&decide (s.rv.op=0)&&decide (s.rv.ar.length=0)&&decide (s.rv.rg=0)&& !s.rv.mu&&dU s.rv.pl)):=rfl;obtain⟨B,hB⟩:=oX (FB s);rw[<-hB] at f q a;clear hB;rw[sA] at w R q ⊢;obtain⟨T,hT⟩:=oX (mB b s.pl);obtain⟨E,hE⟩:=oX (qy b s.pl);rw[<-hT,<-hE] at w P;rw[<-hT,<-hE] at f;clear hT hE;have a3:=hp.2.2.1;unfold cH at a3;obtain⟨k,pl,⟨rk,W,X,a9,aa,V⟩,r⟩:=s;simp only[ji,uo,ee] at q j S w R ⊢;simp only at f v a a3;refine dO func66 ntmps66 results66 λw0 g0 Q u=>?_;refine t0 ?_;intro U Y O C;intro c2 a6 c3 a7;refine Y _ ?_;refine uB 2 3 a6 a7 ?_;refine t0 ?_;intro U Y O C;intro c5 a8;refine Y _ ?_;refine cm 5 a8 ?_;refine bW ?_;refine nR M ?_ ?_
 ·obtain⟨Z1,a1⟩:=oX (dU pl)
  rw[<-a1] at j a;obtain⟨Z2,a2⟩:=oX (dU aa);rw[<-a2] at S a;clear a1 a2 f P;cases Z1
  ·have p:B=false:=by rw[a];rfl
   refine t0 ?_;intro U Y O C;refine j.qt ?_;intro U Y O C;exact(q _).2 ⟨rfl,rfl,rfl,rfl,by rw[p] <;> rfl,rfl⟩
  rw[cV] at a;by_cases l:rk=0
  case neg=>
   have g:(rk=0)=False:=aI l;have p:B=false:=by rw[a,af l];rfl
   refine tq g ?_;intro U Y O C;refine j.qs g ?_;intro U Y O C;exact(q _).2 ⟨rfl,rfl,rfl,rfl,by rw[p] <;> rfl,rfl⟩
  have g:(rk=0)=True:=aG l;rw[ah l,cV] at a;by_cases m:W=0
  case neg=>
   have o:(W=0)=False:=aI m;have p:B=false:=by rw[a,af m];rfl
   refine t0 ?_;intro U Y O C;refine j.qs (av g o) ?_;intro U Y O C;exact(q _).2 ⟨rfl,rfl,rfl,rfl,by rw[p] <;> rfl,rfl⟩
  have o:(W=0)=True:=aG m;rw[ah m,cV] at a;by_cases h3:V.length=0
  case neg=>
   have q3:=nF ((V.length:Int)=0);have p:B=false:=by rw[a,af h3];rfl
   refine t0 ?_;intro U Y O C;refine j.qs (cA g o q3 v) ?_;intro U Y O C;exact(q _).2 ⟨rfl,rfl,rfl,rfl,by rw[p] <;> rfl,rfl⟩
  have q3:=nT ((V.length:Int)=0);rw[ah h3,cV] at a;by_cases h4:X=0
  case neg=>
   have q4:(X=0)=False:=aI h4;have p:B=false:=by rw[a,af h4];rfl
   refine t0 ?_;intro U Y O C;refine j.qs (cw g o q3 v q4) ?_;intro U Y O C;exact(q _).2 ⟨rfl,rfl,rfl,rfl,by rw[p] <;> rfl,rfl⟩
  have q4:(X=0)=True:=aG h4;rw[ah h4,cV] at a;cases a9
  case true=>
   have p:B=false:=by rw[a];rfl
   refine t0 ?_;intro U Y O C;refine j.qs (cw g o q3 v q4) ?_;intro U Y O C;exact(q _).2 ⟨rfl,rfl,rfl,rfl,by rw[p] <;> rfl,rfl⟩
  have p:B=Z2:=by rw[a];rfl
  refine t0 ?_;intro U Y O C;refine j.qs (cw g o q3 v q4) ?_;intro U Y O C;refine S.qt ?_;intro U Y O C;exact(q _).2 ⟨rfl,rfl,rfl,rfl,by rw[p] <;> rfl,rfl⟩
 intro s hs;obtain⟨ab,Z,A,f5,L,hH⟩:=(q s).1 hs;have c:H.le s.H:=by rw[hH];exact aF _
 by_cases hk:k=0
 ·have z:(k=0)=True:=aG hk
  rw[aD hk] at f;by_cases l:r=0
  case neg=>
   have g:(r=0)=False:=aI l;have e:y=2:=f.trans (aD l);exact oz u (bQ A z g) c e
  have g:(r=0)=True:=aG l;rw[aC (λh=>h l)] at f;rw[<-hH] at w;refine tq (cA Z A z g) ?_;intro U Y O C;refine w.mono ?_;rintro d _ ⟨rfl,N⟩;by_cases m:E=0
  case neg=>
   have o:(E=0)=False:=aI m;have e:y=E:=f.trans (aD m);rw[N] at c;exact oz u o c e
  have o:(E=0)=True:=aG m;rw[aC (λh=>h m)] at f;have hr:=R T.1 (P m);rw[<-hH,N] at hr;rw[N] at c;refine tq (bQ Z f5 o) ?_;intro U Y O C;refine hr.mono ?_;rintro d _ ⟨rfl,a5⟩;rw[a5] at c;have e:=f;exact oz u trivial c e
 have z:(k=0)=False:=aI hk;rw[aC hk] at f;by_cases D:k=1
 ·have G:(k=1)=True:=aG D
  rw[aD D] at f;cases B
  ·have e:y=2:=f
   exact oz u (cA A L z G) c e
  rw[aC (λh=>by cases h)] at f;by_cases l:r<0
  ·have g:(r<0)=True:=aG l
   have e:y=3:=f.trans (aD (.inl l));exact oz u (eP Z A L z G g) c e
  have g:(r<0)=False:=aI l;by_cases m:(b.lc.length:Int)<=r
  ·have o:(r≥(b.lc.length:Int))=True:=aG m
   have e:y=3:=f.trans (aD (.inr m));exact oz u (bG Z A L z G g o a4) c e
  have o:(r≥(b.lc.length:Int))=False:=aI m;have e:y=0:=f.trans (aC (by omega));exact oz u (bG Z A L z G g o a4) c e
 have G:(k=1)=False:=aI D;rw[aC D] at f;by_cases F:k=2
 ·have k2:(k=2)=True:=aG F
  rw[aD F] at f;cases B
  ·have e:y=2:=f
   exact oz u (cw A L z G k2) c e
  by_cases l:r=0
  ·have g:(r=0)=True:=aG l
   have e:y=0:=f.trans (aC (by rintro(h|h);cases h;exact h l));exact oz u (eP A L z G k2 g) c e
  ·have g:(r=0)=False:=aI l
   have e:y=2:=f.trans (aD (.inr l));exact oz u (eP A L z G k2 g) c e
 have k2:(k=2)=False:=aI F;rw[aC F] at f;have e:y=14:=f;exact oz u (cA A z G k2) c e
end Go.Proofs.YtffgfafbffdgaaaGreatDoor
