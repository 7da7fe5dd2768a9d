/- Lemmas and contracts of functions, several texts in one. -/
import Derived.Test.YtffgfafbffdgaaaGreatDoorR16
import Derived.Test.YtffgfafbffdgaaaGreatDoorR21
set_option maxRecDepth 100000
set_option maxHeartbeats 4000000
set_option linter.all false
namespace Go.Proofs.YtffgfafbffdgaaaGreatDoor
open Go.RowKit
open Tryz
variable {T n i:Nat}{b:bn}
def Ab (T n:Nat):Prop:=n<=T/\min T 9000<=n
theorem Ab.add {X v:Nat}(h:Ab T n)(h2:Ab X v):Ab (T+X) (n+v):=by unfold Ab at *;omega
theorem Ab.same (X:Nat):Ab X X:=by unfold Ab;omega
theorem Ab.cut (X:Nat):Ab X (min X 9000):=by unfold Ab;omega
theorem Ab.more {a:Nat}(h:Ab T n)(hn:9000<=n)(hl:T<=a):Ab a n:=by unfold Ab at *;omega
def uZ (l:List gq):Nat:=l.length+sm (λo=>o.pl.pr.length) l
def Bk {a:Type}(f:a->Nat):List a->Nat->Nat
 |[],n=>n
 |x::l,n=>if 9000<n+f x then n+f x else Bk f l (n+f x)
theorem KF {c:Type}(f:c->Nat)(hf:∀x,f x<=9000):∀(l:List c) (n:Nat),n<=9000->Bk f l n<=n+sm f l/\min (n+sm f l) 9000<=Bk f l n/\Bk f l n<=18000
 |[],n,h=>by simp only[Bk,sm];omega
 |x::l,n,h=>by
  have hx:=hf x;simp only[Bk,sm];by_cases a:9000<n+f x
  ·rw[aD a];omega
  ·rw[aC a]
   have:=KF f hf l (n+f x) (by omega);omega
def Jh (l:List gq):Nat:=Bk (λo:gq=>min o.pl.pr.length 9000) (l.take (min l.length 9000)) (min l.length 9000)
theorem PL (l:List gq):Ab (uZ l) (Jh l)/\Jh l<=18000:=by
 have a:=KF (λo:gq=>min o.pl.pr.length 9000) (λx=>Nat.min_le_right _ _) (l.take (min l.length 9000)) (min l.length 9000) (Nat.min_le_right _ _);have c:∀m:List gq,Ab (sm (λo:gq=>o.pl.pr.length) m) (sm (λo:gq=>min o.pl.pr.length 9000) m):=λm=>by
  induction m with
  |nil=>exact Ab.same 0
  |cons x m g=>exact(Ab.cut _).add g
 have f:=(Ab.cut l.length).add (c (l.take (min l.length 9000)));have j:sm (λo:gq=>o.pl.pr.length) (l.take (min l.length 9000))<=sm (λo:gq=>o.pl.pr.length) l:=Pw _ _ _;refine⟨?_,a.2.2⟩;by_cases h:l.length<=9000
 ·have e:l.take (min l.length 9000)=l:=bK (by omega)
  unfold Jh;rw[e] at f a ⊢;unfold Ab uZ at *;omega
 ·unfold Jh
  unfold Ab uZ at *;omega
theorem Oj (l:List gq)(H:aA)(hl:l.length<=140737488351232)(K:∀o∈l,o.pl.pr.length<=140737488351232):aN prog 103 [.seq 4 (l.map db)] H λd H'=>d=i64 (Jh l)/\H=H':=by
 have J:=lm db l;obtain⟨a,ha⟩:=oX (min l.length 9000);have hm:min (l.length:Int) 9000=(a:Int):=by omega
 obtain⟨c,j⟩:∃c,c=l.take a:=⟨_,rfl⟩;have I:c.length=a:=by rw[j,bX];omega
 have w:(List.map db c).length=a:=by rw[aS,I]
 have ht:List.take a (List.map db l)=List.map db c:=by rw[j,iK]
 have g1:=nT ((0:Int)<=(a:Int));have g2:=nT ((a:Int)<=(l.length:Int));have A:∀o∈c,o.pl.pr.length<=140737488351232:=λo ho=>K o (by rw[j] at ho;exact rC ho);refine dO func103 ntmps103 results103 λw0 g0 Q V=>?_;refine tn (eP J hm ht g1 g2 w) ?_;refine aO a (λi s=>s.df=[]/\s.fr 11=.seq 4 (c.map db)/\s.fr 12=i64 a/\s.fr 13=i64 i/\s.fr 3=i64 ((a+sm (λo:gq=>min o.pl.pr.length 9000) (c.take i):Nat):Int)/\a+sm (λo:gq=>min o.pl.pr.length 9000) (c.take i)<=9000/\Jh l=Bk (λo:gq=>min o.pl.pr.length 9000) (c.drop i) (a+sm (λo:gq=>min o.pl.pr.length 9000) (c.take i))/\s.H=H) ⟨rfl,rfl,rfl,rfl,rfl,by simp only[gK,sm];omega,by simp only[gK,sm,dj,rM];unfold Jh;rw[<-ha,<-j],rfl⟩ ?_;rintro i s hi ⟨p,k,m,h,t,hb,e,E⟩;have hx:=aX i;have B:=aZ i;by_cases v:i<a
 case neg=>
  have R:=nF ((i:Int)<(a:Int));rw[bK (by omega)] at t hb e;rw[cb (by omega)] at e;simp only[Bk] at e;rw[<-e] at t;refine ur V (cw t k m h R) p ?_;exact⟨_,aF _,E.symm⟩
 have R:=nT ((i:Int)<(a:Int));have g:i<c.length:=by omega
 have r:=bZ (f:=db) g;have M:sm (λo:gq=>min o.pl.pr.length 9000) (c.take (i+1))=sm (λo:gq=>min o.pl.pr.length 9000) (c.take i)+min c[i].pl.pr.length 9000:=su g;rw[cL g] at e;have P:=A c[i] (ao g);obtain⟨x,N⟩:=oX c[i];rw[<-N] at r M P e;simp only[db] at r;have y:=lm pD x.pl.pr;have z:min (x.pl.pr.length:Int) 9000=((min x.pl.pr.length 9000:Nat):Int):=by omega
 obtain⟨n,Z⟩:=oX (a+sm (λo:gq=>min o.pl.pr.length 9000) (c.take (i+1)));have w3:=wS i;have w4:IntKind.i64.wrap (((a+sm (λo:gq=>min o.pl.pr.length 9000) (c.take i):Nat):Int)+((min x.pl.pr.length 9000:Nat):Int))=(n:Int):=by rw[aP (by omega)];omega
 refine tq (bG t k m h R r hx (bQ B v w)) ?_;intro U Y O C;intro c5 G;refine Y _ ?_;refine cm 5 G ?_;simp only[Bk] at e;have L:a+sm (λo:gq=>min o.pl.pr.length 9000) (c.take i)+min x.pl.pr.length 9000=n:=by omega
 rw[L] at e;by_cases u:9000<n
 ·have S:=nT ((9000:Int)<(n:Int))
  refine ur V (eP t h y z w4 S) p ?_;rw[aD u] at e;exact⟨_,aF _,by rw[e] <;> rfl,E.symm⟩
 ·have S:=nF ((9000:Int)<(n:Int))
  refine tq (ej t h y z w3 w4 S) ?_;intro U Y O C;rw[aC u] at e;exact⟨v,p,k,m,rfl,by rw[<-Z] <;> rfl,by omega,by rw[<-Z];exact e,E⟩
def yH (s:qO):Nat:=s.pl.pr.length+s.rv.pl.pr.length+uZ s.rv.ar
def vw (x:im):Nat:=1+x.st.length+x.tm.tg.length+x.tm.pl.pr.length+x.tm.nm.size+sm yH x.st+uZ x.tm.ar
def t1 (b:bn) (i:Nat):Nat:=b.nm.size+b.ol.length+sm (λs:ByteArray=>1+s.size) (b.rg.take i)
def t2 (b:bn) (i:Nat):Nat:=t1 b b.rg.length+sm (λt:bp=>1+t.ar.length) (b.ty.take i)
def t3 (b:bn) (i:Nat):Nat:=t2 b b.ty.length+sm (λl:mQ=>1+l.nm.size) (b.lc.take i)
def t4 (b:bn) (i:Nat):Nat:=t3 b b.lc.length+sm vw (b.bl.take i)
def Jz (b:bn):Nat:=t4 b b.bl.length
def lg (b:bn):Int:=if 3000<Jz b then 1 else 0
theorem Uz (b:bn)(i:Nat):t4 b i<=Jz b:=by
 have:=Pw vw b.bl i;unfold Jz t4;rw[dI];omega
theorem UG (h:i<b.bl.length):t4 b (i+1)=t4 b i+vw b.bl[i]:=by
 have:=su (f:=vw) h;unfold t4;omega
theorem Sa (b:bn)(H:aA)(ok:xM b):aN prog 46 [.agg (cu b)] H λd H'=>d=i64 (lg b)/\H=H':=by
 refine aq (K:=λd=>d=i64 (lg b)) ?_;obtain⟨bq,OH,⟨br,c8⟩,bk,be,bf⟩:=ok;unfold cH at bq OH br bk be;have b7:=lm sD b.rg;have c0:=lm pD b.ol;have ap:=lm eQ b.lc;have aw:=lm bS b.ty;have am:=lm dM b.bl;have mq:min (b.nm.size:Int) 9000=((min b.nm.size 9000:Nat):Int):=by omega
 have wq:IntKind.i64.wrap (((min b.nm.size 9000:Nat):Int)+(b.ol.length:Int))=((min b.nm.size 9000+b.ol.length:Nat):Int):=by rw[aP (by omega)];omega
 have a0:Ab (t1 b 0) (min b.nm.size 9000+b.ol.length):=by have:=(Ab.cut b.nm.size).add (Ab.same b.ol.length);exact this
 refine dO func46 ntmps46 results46 λw0 g0 Q aB=>?_;refine tq (av @cu.eq_1 @bC.eq_1) ?_;intro U Y O C;intro c1 bi;refine Y _ ?_;refine cm 1 bi ?_;refine tn (ej b7 c0 ap aw am mq wq) ?_;refine aO b.rg.length (λi s=>s.df=[]/\s.fr 1=.rp (cu b)/\s.fr 23=.seq 1 (b.rg.map sD)/\s.fr 24=i64 b.rg.length/\s.fr 25=i64 i/\(∃n,s.fr 3=i64 (n:Nat)/\Ab (t1 b i) n/\n<=(9000+140737488351232)+9001 * i)/\H.le s.H) ⟨rfl,rfl,rfl,rfl,rfl,⟨_,rfl,a0,by omega⟩,aF _⟩ ?_;rintro i s hi ⟨c,w,a2,a3,a8,⟨n,l,u,hn⟩,p⟩;have hx:=aX i;have r:=aZ i;have w3:=wS i;by_cases a:i<b.rg.length
 case pos=>
  have v:=lT i b.rg.length;have g:=bZ (f:=sD) a;have o:t1 b (i+1)=t1 b i+(1+b.rg[i].size):=by have:=su (f:=λx=>1+x.size) a;unfold t1;omega
  obtain⟨x,J⟩:=oX b.rg[i];rw[<-J] at g o;simp only[sD,bC] at g;have m1:min (x.size:Int) 9000=((min (x.size) 9000:Nat):Int):=by omega
  have w4:IntKind.i64.wrap (1+((min (x.size) 9000:Nat):Int))=((1+min (x.size) 9000:Nat):Int):=by rw[aP (by omega)];omega
  have w5:IntKind.i64.wrap ((n:Int)+((1+min (x.size) 9000:Nat):Int))=((n+(1+min (x.size) 9000):Nat):Int):=by rw[aP (by omega)];omega
  refine tn (bG l a2 a3 a8 v g hx (ej r a b7 m1 w3 w4 w5)) ?_;exact⟨a,c,w,a2,a3,rfl,⟨_,rfl,by rw[o];exact u.add ((Ab.same 1).add (Ab.cut _)),by omega⟩,p⟩
 have v:=lF i b.rg.length;have ei:i=b.rg.length:=by omega
 subst ei;have I:=w;simp only[cu] at w;have a1:Ab (t2 b 0) n:=u;clear hx r w3 hi a;refine tn (ej w l a2 a3 a8 v aw) ?_;refine aO b.ty.length (λi s=>s.df=[]/\s.fr 1=.rp (cu b)/\s.fr 37=.seq 5 (b.ty.map bS)/\s.fr 38=i64 b.ty.length/\s.fr 39=i64 i/\(∃n,s.fr 3=i64 (n:Nat)/\Ab (t2 b i) n/\n<=(9000+9002 * 140737488351232)+9001 * i)/\H.le s.H) ⟨c,I,rfl,rfl,rfl,⟨_,l,a1,by omega⟩,p⟩ ?_;clear c w I a2 a3 a8 l u a1 hn p v;rintro i s hi ⟨c,w,a4,a5,a6,⟨n,l,u,hn⟩,p⟩;have hx:=aX i;have r:=aZ i;have w3:=wS i;by_cases a:i<b.ty.length
 case pos=>
  have v:=lT i b.ty.length;have g:=bZ (f:=bS) a;have o:t2 b (i+1)=t2 b i+(1+b.ty[i].ar.length):=by have:=su (f:=λx=>1+x.ar.length) a;unfold t2;omega
  obtain⟨x,J⟩:=oX b.ty[i];rw[<-J] at g o;simp only[bS,bC] at g;have m1:min (x.ar.length:Int) 9000=((min (x.ar.length) 9000:Nat):Int):=by omega
  have w4:IntKind.i64.wrap (1+((min (x.ar.length) 9000:Nat):Int))=((1+min (x.ar.length) 9000:Nat):Int):=by rw[aP (by omega)];omega
  have w5:IntKind.i64.wrap ((n:Int)+((1+min (x.ar.length) 9000:Nat):Int))=((n+(1+min (x.ar.length) 9000):Nat):Int):=by rw[aP (by omega)];omega
  have bm:=lm iD x.ar;refine tq (bG l a4 a5 a6 v g hx (bQ r a aw)) ?_;intro U Y O C;intro c5 ab;refine Y _ ?_;refine cm 7 ab ?_;refine tn (ej l a6 m1 w3 w4 w5 bm) ?_;exact⟨a,c,w,a4,a5,rfl,⟨_,rfl,by rw[o];exact u.add ((Ab.same 1).add (Ab.cut _)),by omega⟩,p⟩
 have v:=lF i b.ty.length;have ei:i=b.ty.length:=by omega
 subst ei;have I:=w;simp only[cu] at w;have a1:Ab (t3 b 0) n:=u;clear hx r w3 hi a;refine tn (ej w l a4 a5 a6 v ap) ?_;refine aO b.lc.length (λi s=>s.df=[]/\s.fr 1=.rp (cu b)/\s.fr 52=.seq 2 (b.lc.map eQ)/\s.fr 53=i64 b.lc.length/\s.fr 54=i64 i/\(∃n,s.fr 3=i64 (n:Nat)/\Ab (t3 b i) n/\n<=(9000+18003 * 140737488351232)+9001 * i)/\H.le s.H) ⟨c,I,rfl,rfl,rfl,⟨_,l,a1,by omega⟩,p⟩ ?_;clear c w I a4 a5 a6 l u a1 hn p v;rintro i s hi ⟨c,w,R,S,V,⟨n,l,u,hn⟩,p⟩;have hx:=aX i;have r:=aZ i;have w3:=wS i;by_cases a:i<b.lc.length
 case pos=>
  have v:=lT i b.lc.length;have g:=bZ (f:=eQ) a;have o:t3 b (i+1)=t3 b i+(1+b.lc[i].nm.size):=by have:=su (f:=λx=>1+x.nm.size) a;unfold t3;omega
  obtain⟨x,J⟩:=oX b.lc[i];rw[<-J] at g o;simp only[eQ,bC] at g;have m1:min (x.nm.size:Int) 9000=((min (x.nm.size) 9000:Nat):Int):=by omega
  have w4:IntKind.i64.wrap (1+((min (x.nm.size) 9000:Nat):Int))=((1+min (x.nm.size) 9000:Nat):Int):=by rw[aP (by omega)];omega
  have w5:IntKind.i64.wrap ((n:Int)+((1+min (x.nm.size) 9000:Nat):Int))=((n+(1+min (x.nm.size) 9000):Nat):Int):=by rw[aP (by omega)];omega
  refine tq (bG l R S V v g hx (bQ r a ap)) ?_;intro U Y O C;intro c5 ab;refine Y _ ?_;refine cm 9 ab ?_;refine tn (eP l V m1 w3 w4 w5) ?_;exact⟨a,c,w,R,S,rfl,⟨_,rfl,by rw[o];exact u.add ((Ab.same 1).add (Ab.cut _)),by omega⟩,p⟩
 have v:=lF i b.lc.length;have ei:i=b.lc.length:=by omega
 subst ei;have I:=w;simp only[cu] at w;have a1:Ab (t4 b 0) n:=u;clear hx r w3 hi a;by_cases M:3000<n
 ·have G:=nT ((3000:Int)<(n:Int))
  have e:lg b=1:=by
   have:=Uz b 0;unfold lg;rw[aD (by unfold Ab at a1;omega)]
  rw[e] at aB;refine ur aB (ej w l R S V v G) c ?_;exact zf p rfl
 have G:=nF ((3000:Int)<(n:Int));refine tn (bG w l R S V v G am) ?_;refine aO b.bl.length (λi s=>s.df=[]/\s.fr 69=.seq 7 (b.bl.map dM)/\s.fr 70=i64 b.bl.length/\s.fr 71=i64 i/\(∃n,s.fr 3=i64 (n:Nat)/\Ab (t4 b i) n/\n<=23000)/\H.le s.H) ⟨c,rfl,rfl,rfl,⟨_,l,a1,by omega⟩,p⟩ ?_;clear c w I R S V l u a1 hn p v G M;rintro i s hi ⟨c,z,B,E,⟨n,l,u,hn⟩,p⟩;have hx:=aX i;have r:=aZ i;have w3:=wS i;have one:3000<Jz b->lg b=1:=λh=>aD h;by_cases a:i<b.bl.length
 case neg=>
  have v:=lF i b.bl.length;have ei:i=b.bl.length:=by omega
  subst ei;by_cases M:3000<n
  ·have G:=nT ((3000:Int)<(n:Int))
   have e:lg b=1:=one (by unfold Jz;unfold Ab at u;omega);rw[e] at aB;refine ur aB (eP l z B E v G) c ?_;exact zf p rfl
  ·have G:=nF ((3000:Int)<(n:Int))
   have e:lg b=0:=aC (by unfold Jz;unfold Ab at u;omega);rw[e] at aB;refine ur aB (eP l z B E v G) c ?_;exact zf p rfl
 have v:=lT i b.bl.length;have g:=bZ (f:=dM) a;have o:=UG a;have ye:=Uz b (i+1);obtain⟨⟨b3,b4⟩,b5,⟨aa,b0⟩,ae⟩:=bf b.bl[i] (ao a);unfold xN at ae;unfold cH at b3 b5 aa ae;obtain⟨x,J⟩:=oX b.bl[i];rw[<-J] at g o b3 b4 b5 aa b0 ae;simp only[dM,bC] at g;have ls:=lm ji x.st;have lt:=lm iD x.tm.tg;have lp:=lm pD x.tm.pl.pr;have mx:min (x.tm.nm.size:Int) 9000=((min x.tm.nm.size 9000:Nat):Int):=by omega
 have v1:IntKind.i64.wrap (1+(x.st.length:Int))=((1+x.st.length:Nat):Int):=by rw[aP (by omega)];omega
 have v2:IntKind.i64.wrap (((1+x.st.length:Nat):Int)+(x.tm.tg.length:Int))=((1+x.st.length+x.tm.tg.length:Nat):Int):=by rw[aP (by omega)];omega
 have v3:IntKind.i64.wrap (((1+x.st.length+x.tm.tg.length:Nat):Int)+(x.tm.pl.pr.length:Int))=((1+x.st.length+x.tm.tg.length+x.tm.pl.pr.length:Nat):Int):=by rw[aP (by omega)];omega
 have v4:IntKind.i64.wrap (((1+x.st.length+x.tm.tg.length+x.tm.pl.pr.length:Nat):Int)+((min x.tm.nm.size 9000:Nat):Int))=((1+x.st.length+x.tm.tg.length+x.tm.pl.pr.length+min x.tm.nm.size 9000:Nat):Int):=by rw[aP (by omega)];omega
 obtain⟨m,hm⟩:=oX (n+(1+x.st.length+x.tm.tg.length+x.tm.pl.pr.length+min x.tm.nm.size 9000));have v5:IntKind.i64.wrap ((n:Int)+((1+x.st.length+x.tm.tg.length+x.tm.pl.pr.length+min x.tm.nm.size 9000:Nat):Int))=(m:Int):=by rw[aP (by omega)];omega
 obtain⟨T5,bb⟩:=oX (t4 b i+(1+x.st.length+x.tm.tg.length+x.tm.pl.pr.length+x.tm.nm.size));have a9:Ab T5 m:=by rw[bb,hm];exact u.add ((Ab.same _).add (Ab.cut _))
 have hT:T5+sm yH x.st+uZ x.tm.ar<=Jz b:=by unfold vw at o;omega
 have bc:T5+sm yH x.st+uZ x.tm.ar=t4 b (i+1):=by unfold vw at o;omega
 refine tq (bG l z B E v g hx (bQ r a am)) ?_;intro U Y O C;intro c4 b8;refine Y _ ?_;refine cm 11 b8 ?_;by_cases M:3000<m
 ·have G:=nT ((3000:Int)<(m:Int))
  have e:lg b=1:=one (by unfold Ab at a9;omega);rw[e] at aB;refine ur aB (bG l ls lt lp mx v1 v2 (cA v3 v4 v5 G)) c ?_;exact zf p rfl
 have G:=nF ((3000:Int)<(m:Int));refine tn (bG l ls lt lp mx v1 v2 (cA v3 v4 v5 G)) ?_;refine aO x.st.length (λj s=>s.df=[]/\s.fr 69=.seq 7 (b.bl.map dM)/\s.fr 70=i64 b.bl.length/\s.fr 71=i64 i/\s.fr 11=.rp (dM x)/\s.fr 101=.seq 11 (x.st.map ji)/\s.fr 102=i64 x.st.length/\s.fr 103=i64 j/\(∃n,s.fr 3=i64 (n:Nat)/\Ab (T5+sm yH (x.st.take j)) n/\n<=3000)/\H.le s.H) ⟨c,z,B,E,rfl,rfl,rfl,rfl,⟨_,rfl,a9,by omega⟩,p⟩ ?_;clear c z B E l u a9 hn p hm v5 M G;rintro j s hj ⟨c,z,B,E,a7,N,P,L,⟨n,l,u,hn⟩,p⟩;have bs:=aX j;have b9:=aZ j;have v6:=wS j;by_cases Z:j<x.st.length
 case neg=>
  have G:=lF j x.st.length;rw[bK (by omega)] at u;obtain⟨ad,bo⟩:=PL x.tm.ar;have u1:IntKind.i64.wrap ((n:Int)+(Jh x.tm.ar:Int))=((n+Jh x.tm.ar:Nat):Int):=by rw[aP (by omega)];omega
  simp only[dM] at a7;refine tq (eP l a7 N P L G) ?_;intro U Y O C;refine(Oj x.tm.ar _ aa b0).qs (bQ E u1 w3) ?_;intro U Y O C;exact⟨a,c,z,B,rfl,⟨_,rfl,by rw[<-bc];exact u.add ad,by omega⟩,p⟩
 have G:=lT j x.st.length;have ac:=bZ (f:=ji) Z;have b6:sm yH (x.st.take (j+1))=sm yH (x.st.take j)+yH x.st[j]:=su Z;have c7:=Pw yH x.st (j+1);obtain⟨ak,al,ag,b1⟩:=b4 x.st[j] (ao Z);unfold xN at ak al;unfold cH at ak al ag;obtain⟨y,bt⟩:=oX x.st[j];rw[<-bt] at ac b6 ak al ag b1;simp only[ji] at ac;have lq:=lm pD y.pl.pr;have lr:=lm pD y.rv.pl.pr;obtain⟨ad,bo⟩:=PL y.rv.ar;have u1:IntKind.i64.wrap ((y.pl.pr.length:Int)+(y.rv.pl.pr.length:Int))=((y.pl.pr.length+y.rv.pl.pr.length:Nat):Int):=by rw[aP (by omega)];omega
 have u2:IntKind.i64.wrap (((y.pl.pr.length+y.rv.pl.pr.length:Nat):Int)+(Jh y.rv.ar:Int))=((y.pl.pr.length+y.rv.pl.pr.length+Jh y.rv.ar:Nat):Int):=by rw[aP (by omega)];omega
 obtain⟨k,hk⟩:=oX (n+(y.pl.pr.length+y.rv.pl.pr.length+Jh y.rv.ar));have u3:IntKind.i64.wrap ((n:Int)+((y.pl.pr.length+y.rv.pl.pr.length+Jh y.rv.ar:Nat):Int))=(k:Int):=by rw[aP (by omega)];omega
 have b2:Ab (T5+sm yH (x.st.take (j+1))) k:=by
  have h:=u.add ((Ab.same (y.pl.pr.length+y.rv.pl.pr.length)).add ad);rw[b6,hk];unfold yH;rw[<-rK];exact h
 refine tq (bG l N P L G ac bs (bQ b9 Z ls)) ?_;intro U Y O C;intro c6 ba;refine Y _ ?_;refine cm 13 ba ?_;refine t0 ?_;intro U Y O C;refine dE (λt _ d A=>A=.none/\d=(if t=some 121 then i64 (Jh y.rv.ar) else d)) λU Y=>?_;refine dst (eP l lq lr u1 u2 u3) ?_;intro U Y O C;refine⟨an λc2 c3=>(Oj y.rv.ar _ ag b1).mono λd H' h=>h,?_⟩;refine nx ?_;by_cases M:3000<k
 ·have p3:=nT ((3000:Int)<(k:Int))
  have e:lg b=1:=one (by unfold Ab at b2;omega);rw[e] at aB;refine ur aB (bQ L p3 v6) c ?_;exact zf p rfl
 have p3:=nF ((3000:Int)<(k:Int));refine tn (bQ L p3 v6) ?_;exact⟨Z,c,z,B,E,a7,N,P,rfl,⟨_,rfl,b2,by omega⟩,p⟩
def nh (ts:List bp):Nat:=(ts.map λt=>1+min t.ar.length 500).sum
theorem G4 (ts:List bp)(i:Nat):nh (ts.take i)<=nh ts:=by
 have h:nh (ts.take i++ts.drop i)=nh (ts.take i)+nh (ts.drop i):=by unfold nh;rw[bI,List.sum_append]
 rw[ga] at h;omega
theorem UK (ts:List bp):ts.length<=nh ts:=by
 induction ts with
 |nil=>simp
 |cons t ts a=>unfold nh at a ⊢;rw[cC,List.sum_cons,bx];omega
theorem QJ {ts:List bp}(h:i<ts.length):nh (ts.take (i+1))=nh (ts.take i)+(1+min ts[i].ar.length 500):=by unfold nh;rw[bw h,bI,List.sum_append];simp
theorem Sv (a b:Nat):min (a:Int) (b:Int)=((min a b:Nat):Int):=by omega
theorem O7 (ts:List bp)(H:aA)(N:ts.length<=140737488351232)(t:∀u∈ts,u.ar.length<=140737488351232):aN prog 104 [.seq 5 (ts.map bS)] H λd H'=>d=i64 (if 200<nh ts then 1 else 0)/\H=H':=by
 refine aq (K:=λd=>d=i64 (if 200<nh ts then 1 else 0)) ?_;have h:=lm bS ts;refine dO func104 ntmps104 results104 λw0 Z Q y=>?_;refine tn h ?_;refine aO ts.length (λi s=>s.df=[]/\s.fr 6=.seq 5 (ts.map bS)/\s.fr 7=i64 ts.length/\s.fr 8=i64 i/\s.fr 3=i64 (nh (ts.take i):Nat)/\nh (ts.take i)<=200/\s.H=H) ⟨rfl,rfl,rfl,rfl,rfl,by simp [nh],rfl⟩ ?_;rintro i s hi ⟨e,A,o,p,z,M,B⟩;have c:H.le s.H:=by rw[B];exact aF _
 have R:=aX i;have r:=aZ i;by_cases a:i<ts.length
 case neg=>
  have w:=lF i ts.length;rw[bK (by omega)] at M;refine ur y (bQ o p w) e ?_;exact⟨_,aF _,c,_,aL c,by rw[aC (by omega)] <;> rfl⟩
 have w:=lT i ts.length;have f:(ts.map bS)[i]?=some (bS ts[i]):=by rw[bg,az a];rfl
 have l:=QJ a;have m:=t ts[i] (ao a);have S:=wS i;obtain⟨u,P⟩:=oX ts[i];rw[<-P] at f l m;obtain⟨uk,um,E,ue,g⟩:=u;simp only[bS] at f;simp only at l m;have j:=lm iD g;have k:min (g.length:Int) 500=((min g.length 500:Nat):Int):=Sv _ 500;have G:IntKind.i64.wrap (1+((min g.length 500:Nat):Int))=((1+min g.length 500:Nat):Int):=by rw[aP (by omega)];omega
 have I:IntKind.i64.wrap ((nh (ts.take i):Int)+((1+min g.length 500:Nat):Int))=(nh (ts.take (i+1)):Int):=by rw[aP (by omega)];omega
 refine tq (bG A o p w f R r (av a h)) ?_;intro U Y O C;intro V v;refine Y _ ?_;refine cm 5 v ?_;by_cases L:200<nh (ts.take (i+1))
 ·have x:=nT ((200:Int)<(nh (ts.take (i+1)):Int))
  have J:=G4 ts (i+1);refine ur y (eP z j k G I x) e ?_;exact⟨_,aF _,c,_,aL c,by rw[aD (by omega)] <;> rfl⟩
 ·have x:=nF ((200:Int)<(nh (ts.take (i+1)):Int))
  refine tn (bG z p j k G I x S) ?_;exact⟨a,e,A,o,rfl,rfl,by omega,B⟩
theorem UZ (ts:List bp)(H:aA)(bc:ts.length<=1000000)(b0:∀u∈ts,u.ar.length<=140737488351232):aN prog 105 [.seq 5 (ts.map bS)] H λd H'=>(∃b:Bool,d=.val (.bool b))/\H=H':=by
 refine aq (K:=λd=>∃b:Bool,d=.val (.bool b)) ?_;have a2:=lm bS ts;refine dO func105 ntmps105 results105 λw0 g0 Q aB=>?_;refine tn a2 ?_;refine aO ts.length (λi s=>s.df=[]/\s.fr 9=.seq 5 (ts.map bS)/\s.fr 10=i64 ts.length/\s.fr 11=i64 i/\H.le s.H/\∃p ob,p.length=i/\Gl H 3 1 (p.map iD) (s.fr 3) s.H ob) ⟨rfl,rfl,rfl,rfl,aF _,[],none,rfl,eB _ _ _ _⟩ ?_;rintro i s hi ⟨r,f9,k,l,aM,p,ob,b5,hg⟩;have hx:=aX i;have am:=aZ i;by_cases M:i<ts.length
 case neg=>
  have q1:=lF i ts.length;refine ur aB (bQ k l q1) r ?_;exact⟨_,aF _,aM,_,aL aM,_,rfl⟩
 have q1:=lT i ts.length;have a0:(ts.map bS)[i]?=some (bS ts[i]):=by rw[bg,az M];rfl
 have ab:=b0 ts[i] (ao M);have w3:=wS i;obtain⟨u,hu⟩:=oX ts[i];rw[<-hu] at a0 ab;obtain⟨uk,um,ac,R,I⟩:=u;simp only[bS] at a0;simp only at ab;have aa:=lm iD I;have N:(p=[]/\s.fr 3=.val (.slice none 0 0))\/∃c o,s.fr 3=.os c o 1 0 p.length/\s.H c=some (.row 3 o 1 (p.map iD)):=by
  rcases hg with⟨_,h1,h2⟩|⟨c,o,_,h1,h2,h3⟩
  ·exact .inl ⟨by simpa using h2,h1⟩
  ·exact .inr ⟨c,o,by rw[h1,aS],h3⟩
 obtain⟨d3,a⟩:=oX (s.fr 3);rw[<-a] at hg N;refine tq (bG f9 k l q1 a0 hx am (av M a2)) ?_;intro U Y O C;intro c5 b1;refine Y _ ?_;refine cm 5 b1 ?_;(iterate 3 (refine tk trivial ?_;intro U Y O C));have a6:∀(e:Int) (q:0<=e/\e<p.length),∃c o v,d3=.os c o 1 0 p.length/\s.H c=some (.row 3 o 1 (p.map iD))/\(p.map iD)[e.toNat]?=some [.val (.int .i64 v)]:=λe q=>by
  rcases N with⟨h,_⟩|⟨c,o,h1,h2⟩
  ·rw[h] at q;simp at q;omega
  ·exact⟨c,o,_,h1,h2,mM (by omega)⟩
 refine nR (λs1=>s1.df=[]/\s1.fr 9=.seq 5 (ts.map bS)/\s1.fr 10=i64 ts.length/\s1.fr 11=i64 i/\s1.fr 5=.rp [i64 uk,.val (.bool um),i64 ac,i64 R,.seq 1 (I.map iD)]/\s1.H=s.H/\s1.fr 3=d3/\∃v,s1.fr 6=i64 v) ?_ ?_
 ·by_cases h3:uk=3
  case neg=>
   have q3:(uk=3)=False:=aI h3;refine tn q3 ?_;exact⟨r,f9,k,l,rfl,rfl,a.symm,_,rfl⟩
  have q3:(uk=3)=True:=aG h3;by_cases V:0<=R
  case neg=>
   have G:(0<=R)=False:=aI V;refine tn (av q3 G) ?_;exact⟨r,f9,k,l,rfl,rfl,a.symm,_,rfl⟩
  have G:(0<=R)=True:=aG V;by_cases Z:R<p.length
  ·obtain⟨c,o,v,z,J,h8⟩:=a6 R ⟨V,Z⟩
   have g:(R<(p.length:Int))=True:=aG Z;have S:s.fr 3=.os c o 1 0 p.length:=a.symm.trans z;refine tn (eP S q3 G g J h8) ?_;exact⟨r,f9,k,l,rfl,rfl,a.symm,_,rfl⟩
  ·have g:(R<(p.length:Int))=False:=aI Z
   rcases N with⟨z,J⟩|⟨c,o,z,J⟩
   ·have S:s.fr 3=.val (.slice none 0 0):=a.symm.trans J
    rw[z] at g;simp only[dX,Int.natCast_zero] at g;refine tn (cA S q3 G g) ?_;exact⟨r,f9,k,l,rfl,rfl,a.symm,_,rfl⟩
   ·have S:s.fr 3=.os c o 1 0 p.length:=a.symm.trans z
    refine tn (cA S q3 G g) ?_;exact⟨r,f9,k,l,rfl,rfl,a.symm,_,rfl⟩
 rintro s1 ⟨ag,g9,ak,al,g5,aw,S,v,g6⟩;refine tn (av g5 aa) ?_;refine aO I.length (λj L=>L.df=[]/\L.fr 9=.seq 5 (ts.map bS)/\L.fr 10=i64 ts.length/\L.fr 11=i64 i/\L.fr 38=.seq 1 (I.map iD)/\L.fr 39=i64 I.length/\L.fr 40=i64 j/\L.H=s.H/\L.fr 3=d3/\∃v,L.fr 6=i64 v) ⟨ag,g9,ak,al,rfl,rfl,rfl,aw,S,v,g6⟩ ?_;rintro j s2 hj ⟨y,k9,A,B,E,t,w,m,P,v2,k6⟩;have b4:=aX j;have ap:=aZ j;have ae:H.le s2.H:=by rw[m];exact aM
 by_cases a1:j<I.length
 case neg=>
  have q2:=lF j I.length;have b3:Gl H 3 1 (p.map iD) (s2.fr 3) s2.H ob:=by rw[P,m];exact hg
  refine tq (cA t w k6 q2) ?_;intro U Y O C;refine ax (e:=3) fk rfl fk rfl yv rfl (by decide) ae b3 (new:=[iD v2]) (by exact⟨rfl,rfl⟩) (by rw[aS];show(_+1) * 8<=_;omega) λd H6 bb a8 ad _=>?_;rw[show[iD v2]=[v2].map iD from rfl,<-bI] at a8;refine tn (av B w3) ?_;exact⟨M,y,k9,A,rfl,ad,_,bb,by rw[aV];simp [b5],a8⟩
 have q2:=lT j I.length;have a9:=bT a1;have w4:=wS j;obtain⟨f,b2⟩:=oX I[j];rw[<-b2] at a9;(iterate 10 (refine tk (bG E t w q2 a9 b4 ap (av a1 aa)) ?_;intro U Y O C));refine nR (λx=>x.df=[]/\x.fr 9=.seq 5 (ts.map bS)/\x.fr 10=i64 ts.length/\x.fr 11=i64 i/\x.fr 38=.seq 1 (I.map iD)/\x.fr 39=i64 I.length/\x.fr 40=i64 j/\x.H=s.H/\x.fr 3=d3/\∃v,x.fr 6=i64 v) ?_ ?_
 ·by_cases V:0<=f
  case neg=>
   have G:(0<=f)=False:=aI V;refine tn G ?_;exact⟨y,k9,A,B,E,t,w,m,P,v2,k6⟩
  have G:(0<=f)=True:=aG V;by_cases Z:f<p.length
  ·obtain⟨c,o,v,z,J,h8⟩:=a6 f ⟨V,Z⟩
   have g:(f<(p.length:Int))=True:=aG Z;have m3:s2.fr 3=.os c o 1 0 p.length:=P.trans z;rw[<-m] at J;refine tn (eP m3 k6 G g J h8) ?_;exact⟨y,k9,A,B,E,t,w,m,P,_,rfl⟩
  ·have g:(f<(p.length:Int))=False:=aI Z
   rcases N with⟨z,J⟩|⟨c,o,z,J⟩
   ·have m3:s2.fr 3=.val (.slice none 0 0):=P.trans J
    rw[z] at g;simp only[dX,Int.natCast_zero] at g;refine tn (bQ m3 G g) ?_;exact⟨y,k9,A,B,E,t,w,m,P,v2,k6⟩
   ·have m3:s2.fr 3=.os c o 1 0 p.length:=P.trans z
    refine tn (bQ m3 G g) ?_;exact⟨y,k9,A,B,E,t,w,m,P,v2,k6⟩
 rintro x ⟨a5,m9,b6,b7,b8,b9,ba,a7,m3,v3,m6⟩;have a3:H.le x.H:=by rw[a7];exact aM
 by_cases a4:2000<v3
 ·have g:(2000<v3)=True:=aG a4
  refine ur aB (av m6 g) a5 ?_;exact⟨_,aF _,a3,_,aL a3,_,rfl⟩
 ·have g:(2000<v3)=False:=aI a4
  refine tn (cA m6 ba g w4) ?_;exact⟨a1,a5,m9,b6,b7,b8,b9,rfl,a7,m3,v3,m6⟩
theorem Tz (ts:List bp)(H:aA)(f:ts.length<=140737488351232)(a:∀u∈ts,u.ar.length<=140737488351232):aN prog 47 [.seq 5 (ts.map bS)] H λd H'=>(d=i64 1\/(d=i64 0/\nh ts<=200))/\H=H':=by
 refine aq (K:=λd=>d=i64 1\/(d=i64 0/\nh ts<=200)) ?_;have e:=aF H;refine dO func47 ntmps47 results47 λj h Q c=>?_;refine t0 ?_;intro U Y O C;refine(O7 ts _ f a).q ?_;by_cases g:200<nh ts
 ·rw[aD g]
  refine u0 c ?_;exact zf e (.inl rfl)
 rw[aC g];refine t0 ?_;intro U Y O C;have:=UK ts;refine(UZ ts _ (by omega) a).mono ?_;rintro d _ ⟨⟨b,rfl⟩,rfl⟩;cases b with
 |true=>
  refine u0 c ?_
  exact zf e (.inl rfl)
 |false=>
  refine u0 c ?_
  exact zf e (.inr ⟨rfl,by omega⟩)
theorem yu {l:List (Int×Int)}{c e:Nat}{H H':aA}(h:oc l c e H)(a:H.le H'):oc l c e H':=by
 obtain⟨m,o,f,g,j,k⟩:=h;exact⟨m,o,a _ _ f,g,a _ _ j,k⟩
theorem EI {o:gq}(h:kx b o=0):(0<=o.k/\o.k<=4)/\(o.k<=1->(mB b o.pl).2=0):=by
 unfold kx at h;split at h
 ·cases h
 ·rename_i c
  refine⟨by omega,λe=>?_⟩;split at h
  ·cases h
  ·split at h
   ·cases h
   ·split at h
    ·omega
    ·split at h
     ·rename_i a;exact absurd h a
     ·rename_i a;exact eC a
theorem xV (ck:Ck b){p:gR}(h:(mB b p).2=0):bN b.ty.length (mB b p).1:=Cp ck.wt ck.wl h
theorem AS (b:bn)(n:Int)(I J:Nat)(o:gq)(H:aA)(ck:Ck b)(hp:yW o)(hz:kx b o=0):aN prog 148 [.agg (rz b n I J),.agg (db o)] H λd H'=>d=i64 (tc b o)/\H=H':=by
 refine aq (K:=λd=>d=i64 (tc b o)) ?_;have s:=aF H;have j:=ny b n I J o.pl H ck hp;obtain⟨z,l⟩:=EI hz;obtain⟨y,f⟩:=oX (tc b o);rw[<-f];unfold tc at f;have a:o.k<=1->bN b.ty.length (mB b o.pl).1:=λh=>xV ck (l h);obtain⟨T,L⟩:=oX (mB b o.pl);rw[<-L] at f j a;have A:=lm bS b.ty;obtain⟨k,p,v⟩:=o;simp only at f z a;clear L l hz;simp only[rz,cu,dJ,cz,ee] at j;refine dO func148 ntmps148 results148 λS R Q r=>?_;simp only[rz,cu,dJ,cz];refine tq @db.eq_1 ?_;intro U Y O C;intro N w P x;refine Y _ ?_;refine uB 2 3 w x ?_;by_cases c:k=2
 ·have m:(k=2)=True:=aG c
  have e:y=2:=f.trans (aD c);exact oz r m s e
 have m:(k=2)=False:=aI c;rw[aC c] at f;by_cases c:k=3
 ·have u:(k=3)=True:=aG c
  have e:y=1:=f.trans (aD c);exact oz r (av m u) s e
 have u:(k=3)=False:=aI c;rw[aC c] at f;by_cases c:k=4
 ·have G:(k=4)=True:=aG c
  have e:y=0:=f.trans (aD c);exact oz r (bQ m u G) s e
 have G:(k=4)=False:=aI c;rw[aC c] at f;have a:=a (by omega);have g:=gY a;have E:T.1.toNat<b.ty.length:=by unfold bN at a;omega
 have B:0<=T.1:=by unfold bN at a;omega
 obtain⟨t,M⟩:=oX (bY b.ty T.1);rw[<-M] at g f;have e:=f;simp only[bS] at g;refine tq (bQ m u G) ?_;intro U Y O C;refine j.q ?_;exact oz r (cA g E B A) s e
theorem WR (b:bn)(n:Int)(m r:Nat)(o:gq)(t:Int)(H:aA)(ck:Ck b)(hn:n=b.rg.length)(hR:oc b.ol m r H)(hp:yW o)(hz:kx b o=0)(ht:bN b.ty.length t):aN prog 212 [.agg (rz b n m r),.agg (db o),i64 t] H λd H'=>d=.val (.bool (nW b o t))/\H=H':=by
 subst hn;refine aq (K:=λd=>d=.val (.bool (nW b o t))) ?_;have E:=aF H;have f:=ny b b.rg.length m r o.pl H ck hp;have l:∀S,cP prog 148 [.agg (rz b b.rg.length m r),.agg (db o)] S λd A=>A=aA.none/\d=i64 (tc b o):=λS=>an λz a0=>AS b b.rg.length m r o z ck hp hz;have x:=λa c=>ZW b.ol b.rg.length b.ty m r H ck.wt ck.ol (by have:=ck.MX;omega) ck.Qm ck.tl ck.ar.cH hR a c;obtain⟨L,J⟩:=EI hz;obtain⟨y,g⟩:=oX (nW b o t);rw[<-g];unfold nW at g;obtain⟨T,V⟩:=oX (mB b o.pl);obtain⟨kd,w⟩:=oX (tc b o);rw[<-V] at g f;rw[<-w] at g l;have j:=gY ht;have P:t.toNat<b.ty.length:=by unfold bN at ht;omega
 have N:0<=t:=by unfold bN at ht;omega
 obtain⟨u,hu⟩:=oX (bY b.ty t);rw[<-hu] at j g;have M:=lm bS b.ty;obtain⟨k,p,v⟩:=o;simp only at g L;clear V J hz w hu;simp only[bS] at j;simp only[rz,cu,dJ,cz,ee] at f;simp only[rz,cu,db,dJ,cz] at l;refine dO func212 ntmps212 results212 λw0 g0 Q B=>?_;simp only[rz,cu,dJ,cz];refine tq @db.eq_1 ?_;intro U Y O C;intro c3 G c4 I;refine Y _ ?_;refine uB 3 4 G I ?_;by_cases Z:1<k
 ·have h:=nF (k=0)
  have R:=nF (k=1);have e:=g.trans (aD Z);refine tq (av h R) ?_;intro U Y O C;refine dE (λ_ _ d A=>A=.none/\d=i64 kd) λU Y=>?_;refine dst (cA j P N M) ?_;intro U Y O C;refine⟨l _,?_⟩;refine dst trivial ?_;intro U Y O C;exact oz B h E e
 have e:=g.trans (aC Z);by_cases s:k=0
 ·have h:(k=0)=True:=aG s
  refine tq h ?_;intro U Y O C;refine f.qt ?_;intro U Y O C;refine(x _ _).q ?_;exact oz B h E e
 ·have h:(k=0)=False:=aI s
  have R:=nT (k=1);refine tq (av h R) ?_;intro U Y O C;refine f.qt ?_;intro U Y O C;refine(x _ _).q ?_;exact oz B h E e
theorem sQ {l:List gq}(h:i<l.length):(l.map db)[i]?=some (db l[i]):=by rw[bg,az h];rfl
theorem qc (b:bn)(n:Int)(w x:Nat)(l:List gq)(fs:List Int)(H:aA)(ck:Ck b)(hn:n=b.rg.length)(hR:oc b.ol w x H)(hl:cH l.length)(hp:∀o∈l,yW o)(a5:cH fs.length)(a6:∀f∈fs,bN b.ty.length f):aN prog 149 [.agg (rz b n w x),.seq 4 (l.map db),.seq 1 (fs.map iD)] H λd H'=>d=i64 (eM b l fs)/\H=H':=by
 refine aq (K:=λd=>d=i64 (eM b l fs)) ?_;have R:=lm db l;have P:=lm iD fs;unfold cH at hl a5;obtain⟨CK,p⟩:=oX (rz b n w x);have v:CK=[bC b.nm,.seq 1 (b.rg.map sD),.seq 2 (b.ol.map pD),.seq 5 (b.ty.map bS),.seq 2 (b.lc.map eQ),i64 b.ag,.seq 7 (b.bl.map dM),fJ n w x]:=p;rw[<-p,v];refine dO func149 ntmps149 results149 λw0 g0 Q aB=>?_;refine t0 ?_;intro U Y O C;intro c3 a3;refine Y _ ?_;refine cm 3 a3 ?_;refine tn R ?_;refine aO l.length (λi s=>s.df=[]/\s.fr 2=.seq 1 (fs.map iD)/\s.fr 3=.rp [bC b.nm,.seq 1 (b.rg.map sD),.seq 2 (b.ol.map pD),.seq 5 (b.ty.map bS),.seq 2 (b.lc.map eQ),i64 b.ag,.seq 7 (b.bl.map dM),fJ n w x]/\s.fr 10=.seq 4 (l.map db)/\s.fr 11=i64 l.length/\s.fr 12=i64 i/\s.H=H/\eM b l fs=eM b (l.drop i) (fs.drop i)) ⟨rfl,rfl,rfl,rfl,rfl,rfl,rfl,rfl⟩ ?_;rintro i s hi ⟨g,S,V,y,k,m,Z,a⟩;have hx:=aX i;have L:=aZ i;have c:H.le s.H:=by rw[Z];exact aF _
 by_cases e:i<l.length
 case neg=>
  have q6:=lF i l.length;rw[cb (by omega)] at a;refine ur aB (bQ k m q6) g ?_;exact⟨_,aF _,c,_,aL c,by rw[a] <;> rfl⟩
 have G:(i:Int)<(l.length:Int):=by omega
 have q6:((i:Int)<(l.length:Int))=True:=aG G;have w3:=wS i;have B:=sQ e;have E:=hp l[i] (ao e);rw[cL e] at a;obtain⟨o,ho⟩:=oX l[i];rw[<-ho] at B a E;have u:=C3 b n w x o s.H ck E;rw[<-p,v] at u;simp only[db] at B u;obtain⟨r,hr⟩:=oX (kx b o);have I:eM b (o::l.drop (i+1)) (fs.drop i)=if r≠0 then r else match fs.drop i with
  |[]=>eM b (l.drop (i+1)) []
  |f::fs=>if nW b o f=false then 22 else eM b (l.drop (i+1)) fs:=by rw[hr];rfl
 rw[I] at a;clear I;rw[<-hr] at u;refine tq (bG y k m R q6 B hx (bQ L e G)) ?_;intro U Y O C;intro c8 a4;refine Y _ ?_;refine cm 8 a4 ?_;refine tq V ?_;intro U Y O C;refine u.q ?_;by_cases J:r=0
 case neg=>
  have q7:(r=0)=False:=aI J;rw[aD J] at a;refine ur aB q7 g ?_;exact⟨_,aF _,c,_,aL c,by rw[a] <;> rfl⟩
 have q7:(r=0)=True:=aG J;rw[aC (λh=>h J)] at a;by_cases t:i<fs.length
 case neg=>
  have q8:=lF i fs.length;rw[cb (by omega:fs.length<=i)] at a;simp only at a;refine tq q7 ?_;intro U Y O C;refine dE (λ_ _ _ _=>False) λU Y=>?_;refine dst (bQ S q8 P) ?_;intro U Y O C;refine tn (av m w3) ?_;exact⟨e,g,S,V,y,k,rfl,Z,by rw[a,cb (by omega:fs.length<=i+1)]⟩
 have q8:=lT i fs.length;have N:=bT t;have M:=a6 fs[i] (ao t);rw[cL t] at a;simp only at a;obtain⟨f,hf⟩:=oX fs[i];rw[<-hf] at N M a;have j:∀H1,H1=H->cP prog 212 [.agg CK,.agg (db o),i64 f] H1 λd A=>A=aA.none/\d=.val (.bool (nW b o f)):=λH1 a2=>an λa0 a1=>by
  rw[p];exact WR b n w x o f a0 ck hn (yu hR (by rw[<-a2];exact a1)) E (hr.symm.trans J) M
 rw[v] at j;simp only[db] at j;obtain⟨z,hz⟩:=oX (nW b o f);rw[<-hz] at j a;refine tq q7 ?_;intro U Y O C;refine dE (λ_ _ d A=>A=.none/\d=.val (.bool z)) λU Y=>?_;refine dst (bG S V q8 P N hx L t) ?_;intro U Y O C;refine⟨j _ Z,?_⟩;cases z
 ·rw[aD rfl] at a
  refine C _ ?_;refine dst trivial ?_;intro U Y O C;refine ur aB trivial g ?_;exact⟨_,aF _,c,_,aL c,by rw[a] <;> rfl⟩
 ·rw[aC (λh=>by cases h)] at a
  refine C _ ?_;refine dst trivial ?_;intro U Y O C;refine tn (av m w3) ?_;exact⟨e,g,S,V,y,k,rfl,Z,a⟩
theorem sA (b:bn)(n:Int)(a c:Nat):rz b n a c=[bC b.nm,.seq 1 (b.rg.map sD),.seq 2 (b.ol.map pD),.seq 5 (b.ty.map bS),.seq 2 (b.lc.map eQ),i64 b.ag,.seq 7 (b.bl.map dM),fJ n a c]:=rfl
theorem vi:∀{l:List gq},eM b l []=0->∀o∈l,kx b o=0
 |[],_,o,h=>by cases h
 |y::l,h,o,ho=>by
  have h1:eM b (y::l) []=if kx b y≠0 then kx b y else eM b l []:=rfl
  rw[h1] at h;by_cases a:kx b y=0
  ·rw[aC (λk=>k a)] at h
   rcases bV.1 ho with rfl|ho
   ·exact a
   ·exact vi h o ho
  ·rw[aD a] at h;exact absurd h a
theorem yA (b:bn)(n:Int)(I J:Nat)(r:tx)(t:Int)(tb:List (Int×Int))(H:aA)(ck:Ck b)(hn:n=b.rg.length)(hR:oc b.ol I J H)(hp:Bb r)(ht:bN b.ty.length t)(b5:tb.length<=6):aN prog 209 [.agg (rz b n I J),.agg (uo r),i64 t,.seq 2 (tb.map pD)] H λd H'=>d=i64 (oj b r t tb.length (tb.getD r.op.toNat (1,0)))/\H=H':=by
 refine aq (K:=λd=>d=i64 (oj b r t tb.length (tb.getD r.op.toNat (1,0)))) ?_;obtain⟨b4,a1,a0⟩:=hp;have aM:=aF H;have G:=(qc b n I J r.ar [] H ck hn hR a1 a0 (by unfold cH;simp) (λf hf=>by cases hf)).imp (ds:=[.agg (rz b n I J),.seq 4 (r.ar.map db),.val (.slice none 0 0)]) ⟨fG _,fG _,fO,trivial⟩;have a4:∀o∈r.ar,kx b o=0->∀S,cP prog 148 [.agg (rz b n I J),.agg (db o)] S λd A=>A=aA.none/\d=i64 (tc b o):=λo ho hz S=>an λB aa=>AS b n I J o B ck (a0 o ho) hz;have a2:∀x S,cP prog 147 [.val (.bool x)] S λd A=>A=aA.none/\d=i64 (if x=true then 22 else 0):=λx S=>an λB aa=>qA x B;rw[sA] at G a4 ⊢;have a5:=lm db r.ar;have a6:=lm bS b.ty;have P:=lm pD tb;obtain⟨y,a⟩:=oX (oj b r t tb.length (tb.getD r.op.toNat (1,0)));rw[<-a];unfold oj at a;have w:=gY ht;have a9:t.toNat<b.ty.length:=by unfold bN at ht;omega
 have a8:0<=t:=by unfold bN at ht;omega
 obtain⟨u,hu⟩:=oX (bY b.ty t);rw[<-hu] at w a;simp only[bS] at w;obtain⟨E,hE⟩:=oX (eM b r.ar []);rw[<-hE] at G a;unfold cH at a1;refine dO func209 ntmps209 results209 λw0 g0 Q R=>?_;refine tq @uo.eq_1 ?_;intro U Y O C;intro c4 ak c5 al;refine Y _ ?_;refine uB 4 5 ak al ?_;by_cases h1:r.op<0
 ·have q1:(r.op<0)=True:=aG h1
  have e:y=14:=a.trans (aD (.inl h1));exact oz R q1 aM e
 have q1:(r.op<0)=False:=aI h1;by_cases h2:(tb.length:Int)<=r.op
 ·have q2:(r.op≥(tb.length:Int))=True:=aG h2
  have e:y=14:=a.trans (aD (.inr h2));exact oz R (bQ q1 q2 P) aM e
 have q2:(r.op≥(tb.length:Int))=False:=aI h2;rw[aC (by omega)] at a;refine tq (bQ q1 q2 P) ?_;intro U Y O C;refine G.q ?_;by_cases h3:E=0
 case neg=>
  have q3:(E=0)=False:=aI h3;have e:y=E:=a.trans (aD h3);exact oz R q3 aM e
 have q3:(E=0)=True:=aG h3;rw[aC (λh=>h h3)] at a;have ab:=vi (hE.symm.trans h3);have a7:r.op.toNat<tb.length:=by omega
 have a3:=PY a7;have am:0<=r.op:=by omega
 have b3:tb.getD r.op.toNat (1,0)=tb.getD r.op.toNat (1,0):=rfl;obtain⟨x,ap⟩:=oX (tb.getD r.op.toNat (1,0));rw[<-ap] at a3 a;refine tq (cw q3 a3 a7 am P) ?_;intro U Y O C;intro aw ac;refine Y _ ?_;refine cm 10 ac ?_;refine tn a5 ?_;refine aO r.ar.length (λi s=>s.df=[]/\s.fr 2=i64 t/\s.fr 4=.rp [bC b.nm,.seq 1 (b.rg.map sD),.seq 2 (b.ol.map pD),.seq 5 (b.ty.map bS),.seq 2 (b.lc.map eQ),i64 b.ag,.seq 7 (b.bl.map dM),fJ n I J]/\s.fr 10=.rp [i64 x.1,i64 x.2]/\s.fr 36=.seq 4 (r.ar.map db)/\s.fr 37=i64 r.ar.length/\s.fr 38=i64 i/\s.H=H/\(r.ar.all λo=>decide (tc b o=x.1))=((r.ar.drop i).all λo=>decide (tc b o=x.1))) ⟨rfl,rfl,rfl,rfl,rfl,rfl,rfl,rfl,rfl⟩ ?_;rintro i s hi ⟨v,f2,f4,l,Z,L,M,hH,p⟩;have hx:=aX i;have ae:=aZ i;have c:H.le s.H:=by rw[hH];exact aF _
 by_cases g:i<r.ar.length
 case neg=>
  have q6:=lF i r.ar.length;rw[cb (by omega),lh] at p;rw[p,aC (λh=>by cases h)] at a;refine tq (bQ L M q6) ?_;intro U Y O C;by_cases m:u.k=x.2
  ·have z:(u.k=x.2)=True:=aG m
   rw[aC (λh=>h m)] at a;refine dE (λ_ _ d A=>A=.none/\d=i64 0) λU Y=>?_;refine dst (bG f2 f4 l w a9 a8 a6 z) ?_;intro U Y O C;refine⟨a2 _ _,?_⟩;refine Y _ ?_;refine ur R trivial v ?_;exact⟨_,aF _,c,_,aL c,by rw[a] <;> rfl⟩
  ·have z:(u.k=x.2)=False:=aI m
   rw[aD m] at a;refine dE (λ_ _ d A=>A=.none/\d=i64 22) λU Y=>?_;refine dst (bG f2 f4 l w a9 a8 a6 z) ?_;intro U Y O C;refine⟨a2 _ _,?_⟩;refine Y _ ?_;refine ur R trivial v ?_;exact⟨_,aF _,c,_,aL c,by rw[a] <;> rfl⟩
 have V:(i:Int)<(r.ar.length:Int):=by omega
 have q6:((i:Int)<(r.ar.length:Int))=True:=aG V;have w3:=wS i;have N:=sQ g;have j:=a4 r.ar[i] (ao g) (ab _ (ao g)) s.H;rw[cL g,jQ] at p;obtain⟨o,ho⟩:=oX r.ar[i];rw[<-ho] at N p j;obtain⟨K,hK⟩:=oX (tc b o);rw[<-hK] at p j;simp only[db] at N j;refine tq (bG Z L M a5 q6 N hx (bQ ae g V)) ?_;intro U Y O C;intro b0 ad;refine Y _ ?_;refine cm 12 ad ?_;refine bW ?_;refine dE (λ_ _ d A=>A=.none/\d=i64 K) λU Y=>?_;refine dst (av f4 l) ?_;intro U Y O C;refine⟨j,?_⟩;by_cases m:K=x.1
 ·have z:(K=x.1)=True:=aG m
  rw[ah m,cV] at p;refine dst z ?_;intro U Y O C;refine tn (bQ M w3 z) ?_;exact⟨g,v,f2,f4,l,Z,L,rfl,hH,p⟩
 ·have z:(K=x.1)=False:=aI m
  rw[af m,dq] at p;rw[p,aD rfl] at a;refine dst z ?_;intro U Y O C;refine ur R z v ?_;exact⟨_,aF _,c,_,aL c,by rw[a] <;> rfl⟩
def Lm (r:tx):Bool:=(decide (r.rg=0)&& !r.mu)&&dU r.pl
theorem Jr (r:tx):tv r=if r.k=1 then decide (r.op=0)&&decide (r.ar.length=0) else Lm r&&(if r.k=0 then decide (r.op=0)&&decide (r.ar.length=1) else if r.k=2 then decide (r.ar.length=1) else if r.k=3 then decide (r.ar.length=2) else decide (r.op=0)):=rfl
def UnM (r:tx) (H:aA) (s:St):Prop:=s.df=[]/\s.fr 1=.rp (uo r)/\s.fr 3=.val (.bool (Lm r))/\s.H=H
theorem QX (r:tx)(H:aA)(hp:Bb r):aN prog 207 [.agg (uo r)] H λd H'=>d=.val (.bool (tv r))/\H=H':=by
 refine aq (K:=λd=>d=.val (.bool (tv r))) ?_;have I:=BQ r.pl H hp.1;have N:=hp.2.1;unfold cH at N;have g:=lm db r.ar;have a:=Jr r;obtain⟨y,Z⟩:=oX (tv r);rw[<-Z] at a ⊢;have G:∀s,UnM r H s↔(s.df=[]/\s.fr 1=.rp (uo r)/\s.fr 3=.val (.bool (Lm r))/\s.H=H):=λs=>Iff.rfl;have w:Lm r=((decide (r.rg=0)&& !r.mu)&&dU r.pl):=rfl;obtain⟨P,S⟩:=oX (Lm r);rw[<-S] at a w;simp only[<-S] at G;obtain⟨M,L⟩:=oX (UnM r H);rw[<-L] at G;clear S L Z;obtain⟨k,E,rg,mu,pl,u⟩:=r;simp only[uo] at G ⊢;simp only at a w I N g;simp only[ee] at I;refine dO func207 ntmps207 results207 λw0 g0 Q l=>?_;refine t0 ?_;intro U Y O C;intro c1 V;refine Y _ ?_;refine cm 1 V ?_;refine bW ?_;refine nR M ?_ ?_
 ·by_cases f:rg=0
  case neg=>
   have h:(rg=0)=False:=aI f;have e:P=false:=w.trans (by rw[af f,dq,dq]);refine tq h ?_;intro U Y O C;exact(G _).2 ⟨rfl,rfl,by rw[e] <;> rfl,rfl⟩
  have h:(rg=0)=True:=aG f;cases mu
  ·have e:P=dU pl:=w.trans (by rw[ah f] <;> rfl)
   refine tq h ?_;intro U Y O C;refine I.q ?_;cases hz:dU pl
   ·rw[hz] at e
    refine t0 ?_;intro U Y O C;exact(G _).2 ⟨rfl,rfl,by rw[e] <;> rfl,rfl⟩
   ·rw[hz] at e
    refine t0 ?_;intro U Y O C;exact(G _).2 ⟨rfl,rfl,by rw[e] <;> rfl,rfl⟩
  ·have e:P=false:=w.trans (by rw[ah f] <;> rfl)
   refine tq h ?_;intro U Y O C;exact(G _).2 ⟨rfl,rfl,by rw[e] <;> rfl,rfl⟩
 intro s hs;obtain⟨a0,m,o,hH⟩:=(G s).1 hs;have c:H.le s.H:=by rw[hH];exact aF _
 by_cases R:k=0
 ·have j:(k=0)=True:=aG R
  rw[aC (by omega),aD R] at a;cases P
  ·rw[dq] at a
   have e:=a;exact oz l (bQ m o j) c e
  rw[cV] at a;by_cases f:E=0
  case neg=>
   have h:(E=0)=False:=aI f;have e:y=false:=a.trans (by rw[af f,dq]);exact oz l (cA m o j h) c e
  have h:(E=0)=True:=aG f;by_cases v:u.length=1
  ·have p:=nT ((u.length:Int)=1)
   have e:y=true:=a.trans (by rw[ah f,ah v] <;> rfl);exact oz l (eP m o j h p g) c e
  ·have p:=nF ((u.length:Int)=1)
   have e:y=false:=a.trans (by rw[af v,fq]);exact oz l (eP m o j h p g) c e
 have j:(k=0)=False:=aI R;by_cases z:k=1
 ·have t:(k=1)=True:=aG z
  rw[aD z] at a;by_cases f:E=0
  case neg=>
   have h:(E=0)=False:=aI f;have e:y=false:=a.trans (by rw[af f,dq]);exact oz l (cw m o j t h) c e
  have h:(E=0)=True:=aG f;by_cases v:u.length=0
  ·have p:=nT ((u.length:Int)=0)
   have e:y=true:=a.trans (by rw[ah f,ah v] <;> rfl);exact oz l (ej m o j t h p g) c e
  ·have p:=nF ((u.length:Int)=0)
   have e:y=false:=a.trans (by rw[af v,fq]);exact oz l (ej m o j t h p g) c e
 have t:(k=1)=False:=aI z;rw[aC z,aC R] at a;by_cases A:k=2
 ·have x:(k=2)=True:=aG A
  rw[aD A] at a;cases P
  ·have e:y=false:=a
   exact oz l (cw m o j t x) c e
  by_cases v:u.length=1
  ·have p:=nT ((u.length:Int)=1)
   have e:y=true:=a.trans (by rw[ah v] <;> rfl);exact oz l (ej m o j t x p g) c e
  ·have p:=nF ((u.length:Int)=1)
   have e:y=false:=a.trans (by rw[af v] <;> rfl);exact oz l (ej m o j t x p g) c e
 have x:(k=2)=False:=aI A;rw[aC A] at a;by_cases B:k=3
 ·have J:(k=3)=True:=aG B
  rw[aD B] at a;cases P
  ·have e:y=false:=a
   exact oz l (eP m o j t x J) c e
  by_cases v:u.length=2
  ·have p:=nT ((u.length:Int)=2)
   have e:y=true:=a.trans (by rw[ah v] <;> rfl);exact oz l (bG m o j t x J p g) c e
  ·have p:=nF ((u.length:Int)=2)
   have e:y=false:=a.trans (by rw[af v] <;> rfl);exact oz l (bG m o j t x J p g) c e
 have J:(k=3)=False:=aI B;rw[aC B] at a;cases P
 ·have e:y=false:=a
  exact oz l (eP m o j t x J) c e
 by_cases f:E=0
 ·have h:(E=0)=True:=aG f
  have e:y=true:=a.trans (by rw[ah f] <;> rfl);exact oz l (ej m o j t x J h) c e
 ·have h:(E=0)=False:=aI f
  have e:y=false:=a.trans (by rw[af f] <;> rfl);exact oz l (ej m o j t x J h) c e
theorem AH (a c:Int)(H:aA):aN prog 136 [.seq 1 [[i64 a],[i64 c]]] H λd H'=>d=i64 (if a≠0 then a else c)/\H=H':=by
 have h:=JB [a,c] H (by unfold cH;simp);have e:wy [a,c]=if a≠0 then a else c:=by
  simp only[wy];split
  ·rfl
  ·by_cases h:c=0 <;> simp [h]
 rw[e] at h;exact h
theorem BP (b:bn)(n:Int)(v w:Nat)(p:gR)(H:aA)(ck:Ck b)(hp:cH p.pr.length):aN prog 143 [.agg (rz b n v w),.agg (ee p)] H λd H'=>d=.eO [i64 (mB b p).1,i64 (qy b p)]/\H=H':=by
 refine aq (K:=λd=>d=.eO [i64 (mB b p).1,i64 (qy b p)]) ?_;have m:=aF H;have f:=ny b n v w p H ck hp;have o:=Un b.ty b.lc p H ck.wt ck.wl ck.ar hp;have g:=λx=>qA x H;have j:=λa c=>AH a c H;rw[sA] at f ⊢;obtain⟨y,k⟩:=oX (qy b p);rw[<-k];unfold qy at k;obtain⟨T,A⟩:=oX (mB b p);rw[<-A] at k f ⊢;clear A;simp only[ee] at f o;refine dO func143 ntmps143 results143 λJ I Q s=>?_;refine tq @ee.eq_1 ?_;intro U Y O C;intro E t G u;refine Y _ ?_;refine uB 2 3 t u ?_;refine t0 ?_;intro U Y O C;refine f.q ?_;by_cases r:T.2=0
 ·have l:(T.2=0)=True:=aG r
  rw[aC (λh=>h r)] at k;refine tq l ?_;intro U Y O C;refine o.q ?_;have e:y=if (!ml b.ty b.lc p)=true then 22 else 0:=by rw[k];cases ml b.ty b.lc p <;> rfl
  obtain⟨z,B⟩:=oX (ml b.ty b.lc p);rw[<-B] at e ⊢;clear B k;cases z
  ·refine t0 ?_;intro U Y O C
   refine(g _).qt ?_;intro U Y O C;refine(j _ _).q ?_;refine ur s l trivial ?_;exact⟨_,aF _,m,_,aL m,by rw[e] <;> rfl⟩
  ·refine t0 ?_;intro U Y O C
   refine(g _).qt ?_;intro U Y O C;refine(j _ _).q ?_;refine ur s l trivial ?_;exact⟨_,aF _,m,_,aL m,by rw[e] <;> rfl⟩
 ·have l:(T.2=0)=False:=aI r
  have e:y=T.2:=k.trans (aD r);refine tq l ?_;intro U Y O C;refine(g _).qt ?_;intro U Y O C;refine(j _ _).q ?_;refine ur s l trivial ?_;exact zf m (by rw[e])
theorem Mz (b:bn)(n:Int)(b1 b2:Nat)(r:tx)(t:Int)(H:aA)(ck:Ck b)(hn:n=b.rg.length)(hR:oc b.ol b1 b2 H)(hp:Bb r)(ht:bN b.ty.length t):aN prog 208 [.agg (rz b n b1 b2),.agg (uo r),i64 t] H λd H'=>d=i64 (vE b r t)/\H=H':=by
 subst hn;refine aq (K:=λd=>d=i64 (vE b r t)) ?_;have aM:=aF H;have S:=ny b b.rg.length b1 b2 r.pl H ck hp.1;have B:=Un b.ty b.lc r.pl H ck.wt ck.wl ck.ar hp.1;have P:=XL b.ty b.lc r.pl H ck.wt ck.wl ck.ar hp.1;have a3:=λq=>PR b.ol b.rg.length q r.rg b1 b2 H hR ck.ol (by have:=ck.MX;omega) ck.Qm;have ab:(tj b.ty b.lc r.pl).length<=32:=by
  have:=oF b.ty b.lc r.pl;unfold tj;rw[aS];exact this
 rw[sA] at S ⊢;have l:=lm sD b.rg;have a9:=lm bS b.ty;obtain⟨y,a⟩:=oX (vE b r t);rw[<-a];unfold vE at a;have a1:=gY ht;have ad:t.toNat<b.ty.length:=by unfold bN at ht;omega
 have ac:0<=t:=by unfold bN at ht;omega
 obtain⟨u,hu⟩:=oX (bY b.ty t);obtain⟨T,hT⟩:=oX (mB b r.pl);obtain⟨R,a4⟩:=oX (tj b.ty b.lc r.pl);obtain⟨Z,hZ⟩:=oX (ml b.ty b.lc r.pl);rw[<-hu] at a1 a;rw[<-hT] at S a;rw[<-a4] at P ab a;rw[<-hZ] at B a;clear hu hT a4 hZ;obtain⟨k,op,rg,mu,pl,ar⟩:=r;obtain⟨uk,um,A,ue,ua⟩:=u;simp only[bS] at a1;simp only at a a3;simp only[ee] at S B P;have N:=lm iD R;refine dO func208 ntmps208 results208 λw0 g0 Q E=>?_;refine tq @uo.eq_1 ?_;intro U Y O C;intro c3 a6 c4 a7;refine Y _ ?_;refine uB 3 4 a6 a7 ?_;refine t0 ?_;intro U Y O C;refine S.qs (cA a1 ad ac a9) ?_;intro U Y O C;intro c9 a8;refine Y _ ?_;refine cm 9 a8 ?_;by_cases h1:T.2=0
 case neg=>
  have G:(T.2=0)=False:=aI h1;have e:y=T.2:=a.trans (aD h1);exact oz E G aM e
 have G:(T.2=0)=True:=aG h1;rw[aC (λh=>h h1)] at a;by_cases h2:rg<0
 ·have M:(rg<0)=True:=aG h2
  have e:y=3:=a.trans (aD (.inl h2));exact oz E (av G M) aM e
 have M:(rg<0)=False:=aI h2;by_cases h3:(b.rg.length:Int)<=rg
 ·have V:(rg≥(b.rg.length:Int))=True:=aG h3
  have e:y=3:=a.trans (aD (.inr h3));exact oz E (cA G M V l) aM e
 have V:(rg≥(b.rg.length:Int))=False:=aI h3;rw[aC (by omega)] at a;by_cases h4:uk=3
 case neg=>
  have q4:(uk=3)=False:=aI h4;have e:y=22:=a.trans (aD (.inl h4));exact oz E (cw G M V l q4) aM e
 have q4:(uk=3)=True:=aG h4;by_cases h5:A=rg
 case neg=>
  have q5:(A=rg)=False:=aI h5;have e:y=22:=a.trans (aD (.inr (.inl h5)));exact oz E (eP G M V l q4 q5) aM e
 have q5:(A=rg)=True:=aG h5;by_cases h6:um=mu
 case neg=>
  have e:y=22:=a.trans (aD (.inr (.inr (.inl h6))));have q6:(um=mu)=False:=aI h6;exact oz E (ej G M V l q4 q5 q6) aM e
 have q6:(um=mu)=True:=aG h6;by_cases h7:ue=T.1
 case neg=>
  have q7:(ue=T.1)=False:=aI h7;have e:y=22:=a.trans (aD (.inr (.inr (.inr (.inl h7)))));exact oz E (bG G M V l q4 q5 q6 q7) aM e
 have q7:(ue=T.1)=True:=aG h7;by_cases hm:mu=true/\Z=false
 ·obtain⟨a2,a5⟩:=hm
  have e:y=22:=a.trans (aD (.inr (.inr (.inr (.inr ⟨a2,a5⟩)))));rw[a5] at B;rw[a2] at q6;refine tq (bG G M V l q4 q5 q6 (av q7 a2)) ?_;intro U Y O C;refine B.q ?_;exact oz E G aM e
 have aa:¬(uk≠3\/A≠rg\/um≠mu\/ue≠T.1\/(mu=true/\Z=false)):=λh=>h.elim (· h4) λh=>h.elim (· h5) λh=>h.elim (· h6) λh=>h.elim (· h7) hm;rw[aC aa] at a;have hZ:mu=true->Z=true:=λh=>by cases Z;exact absurd ⟨h,rfl⟩ hm;rfl
 cases mu
 ·refine tq (bG G M V l q4 q5 q6 q7) ?_;intro U Y O C
  refine P.qs N ?_;intro U Y O C;refine aO R.length (λi s=>s.df=[]/\s.fr 3=.rp [bC b.nm,.seq 1 (b.rg.map sD),.seq 2 (b.ol.map pD),.seq 5 (b.ty.map bS),.seq 2 (b.lc.map eQ),i64 b.ag,.seq 7 (b.bl.map dM),fJ (b.rg.length:Int) b1 b2]/\(∃x,s.fr 4=.rp [i64 k,i64 op,i64 rg,.val (.bool x),i64 pl.lo,.seq 2 (pl.pr.map pD),.seq 4 (ar.map db)])/\s.fr 89=.seq 1 (R.map iD)/\s.fr 90=i64 R.length/\s.fr 91=i64 i/\s.H=H/\(R.all λq=>gh b.ol b.rg.length q rg)=((R.drop i).all λq=>gh b.ol b.rg.length q rg)) ⟨rfl,rfl,⟨_,rfl⟩,rfl,rfl,rfl,rfl,rfl⟩ ?_;rintro i s hi ⟨w,f3,⟨x,f4⟩,J,m,o,hH,f⟩;have hx:=aX i;have a0:=aZ i;have c:H.le s.H:=by rw[hH];exact aF _
  by_cases g:i<R.length
  case neg=>
   have q8:=lF i R.length;rw[cb (by omega),lh] at f;rw[f,aC (λh=>by cases h)] at a;refine ur E (bQ m o q8) w ?_;exact⟨_,aF _,c,_,aL c,by rw[a] <;> rfl⟩
  have I:(i:Int)<(R.length:Int):=by omega
  have q8:((i:Int)<(R.length:Int))=True:=aG I;have w3:=wS i;have L:=bT g;rw[cL g,jQ] at f;have j:=a3 R[i];obtain⟨v,hv⟩:=oX R[i];rw[<-hv] at L f j;obtain⟨z,hz⟩:=oX (gh b.ol b.rg.length v rg);rw[<-hz] at f j;rw[<-hH] at j;refine tq (bG f3 f4 J m o N q8 (cw L hx a0 g I)) ?_;intro U Y O C;refine j.mono ?_;rintro d _ ⟨rfl,p⟩;cases z
  ·rw[dq] at f
   rw[f,aD rfl] at a;refine ur E trivial w ?_;exact⟨_,aF _,by rw[<-p];exact c,_,aL (by rw[<-p];exact c),by rw[a] <;> rfl⟩
  ·rw[cV] at f
   refine tn (av o w3) ?_;exact⟨g,w,f3,⟨x,f4⟩,J,m,rfl,by rw[<-p];exact hH,f⟩
 ·rw[hZ rfl] at B
  refine tq (bG G M V l q4 q5 q6 q7) ?_;intro U Y O C;refine B.qt ?_;intro U Y O C;refine P.qs N ?_;intro U Y O C;refine aO R.length (λi s=>s.df=[]/\s.fr 3=.rp [bC b.nm,.seq 1 (b.rg.map sD),.seq 2 (b.ol.map pD),.seq 5 (b.ty.map bS),.seq 2 (b.lc.map eQ),i64 b.ag,.seq 7 (b.bl.map dM),fJ (b.rg.length:Int) b1 b2]/\(∃x,s.fr 4=.rp [i64 k,i64 op,i64 rg,.val (.bool x),i64 pl.lo,.seq 2 (pl.pr.map pD),.seq 4 (ar.map db)])/\s.fr 89=.seq 1 (R.map iD)/\s.fr 90=i64 R.length/\s.fr 91=i64 i/\s.H=H/\(R.all λq=>gh b.ol b.rg.length q rg)=((R.drop i).all λq=>gh b.ol b.rg.length q rg)) ⟨rfl,rfl,⟨_,rfl⟩,rfl,rfl,rfl,rfl,rfl⟩ ?_;rintro i s hi ⟨w,f3,⟨x,f4⟩,J,m,o,hH,f⟩;have hx:=aX i;have a0:=aZ i;have c:H.le s.H:=by rw[hH];exact aF _
  by_cases g:i<R.length
  case neg=>
   have q8:=lF i R.length;rw[cb (by omega),lh] at f;rw[f,aC (λh=>by cases h)] at a;refine ur E (bQ m o q8) w ?_;exact⟨_,aF _,c,_,aL c,by rw[a] <;> rfl⟩
  have I:(i:Int)<(R.length:Int):=by omega
  have q8:((i:Int)<(R.length:Int))=True:=aG I;have w3:=wS i;have L:=bT g;rw[cL g,jQ] at f;have j:=a3 R[i];obtain⟨v,hv⟩:=oX R[i];rw[<-hv] at L f j;obtain⟨z,hz⟩:=oX (gh b.ol b.rg.length v rg);rw[<-hz] at f j;rw[<-hH] at j;refine tq (bG f3 f4 J m o N q8 (cw L hx a0 g I)) ?_;intro U Y O C;refine j.mono ?_;rintro d _ ⟨rfl,p⟩;cases z
  ·rw[dq] at f
   rw[f,aD rfl] at a;refine ur E trivial w ?_;exact⟨_,aF _,by rw[<-p];exact c,_,aL (by rw[<-p];exact c),by rw[a] <;> rfl⟩
  ·rw[cV] at f
   refine tn (av o w3) ?_;exact⟨g,w,f3,⟨x,f4⟩,J,m,rfl,by rw[<-p];exact hH,f⟩
theorem gD0:gD 0=.rp [i64 2,i64 2,i64 1,i64 1]:=rfl
theorem gD1:gD 1=.rp [i64 2,i64 2,i64 2,i64 2,i64 2,i64 2,i64 2,i64 1,i64 2,i64 1,i64 1,i64 1]:=rfl
def Xt:List (Int×Int):=[(2,2),(1,1)]
def K8:List (Int×Int):=[(2,2),(2,2),(2,2),(2,1),(2,1),(1,1)]
theorem Yj {x:Int}(h:0<=x)(a:x<6):x=0\/x=1\/x=2\/x=3\/x=4\/x=5:=by omega
theorem TN (b:bn)(r:tx)(t:Int):oj b r t Xt.length (Xt.getD r.op.toNat (1,0))=oj b r t 2 (VF r.op):=by
 by_cases h:r.op<0\/2<=r.op
 ·unfold oj
  rw[aD (by simpa [Xt] using h),aD h]
 ·have a:r.op=0\/r.op=1:=by omega
  have:Xt.getD r.op.toNat (1,0)=VF r.op:=by rcases a with h|h <;> rw[h] <;> rfl
  rw[this];rfl
theorem PN (b:bn)(r:tx)(t:Int):oj b r t K8.length (K8.getD r.op.toNat (1,0))=oj b r t 6 (HA r.op):=by
 by_cases h:r.op<0\/6<=r.op
 ·unfold oj
  rw[aD (by simpa [K8] using h),aD h]
 ·have:K8.getD r.op.toNat (1,0)=HA r.op:=by rcases Yj (x:=r.op) (by omega) (by omega) with h|h|h|h|h|h <;> rw[h] <;> rfl
  rw[this];rfl
theorem Pl (b:bn)(n:Int)(s v:Nat)(r:tx)(t:Int)(H:aA)(ck:Ck b)(hn:n=b.rg.length)(V:oc b.ol s v H)(hp:Bb r)(ht:bN b.ty.length t)(a0:∀f∈(bY b.ty t).ar,bN b.ty.length f):aN prog 144 [.agg (rz b n s v),.agg (uo r),i64 t] H λd H'=>d=i64 (Cd b r t)/\H=H':=by
 refine aq (K:=λd=>d=i64 (Cd b r t)) ?_;have E:=aF H;have a6:=QX r H hp;have Z:=Mz b n s v r t H ck hn V hp ht;have a5:∀o,o=H->cP prog 209 [.agg (rz b n s v),.agg (uo r),i64 t,.seq 2 (Xt.map pD)] o λd A=>A=aA.none/\d=i64 (oj b r t 2 (VF r.op)):=λo w=>an λl p=>by
  have:=yA b n s v r t Xt l ck hn (yu V (by rw[<-w];exact p)) hp ht (by decide);rwa[TN] at this
 have a3:∀o,o=H->cP prog 209 [.agg (rz b n s v),.agg (uo r),i64 t,.seq 2 (K8.map pD)] o λd A=>A=aA.none/\d=i64 (oj b r t 6 (HA r.op)):=λo w=>an λl p=>by
  have:=yA b n s v r t K8 l ck hn (yu V (by rw[<-w];exact p)) hp ht (by decide);rwa[PN] at this
 have a4:∀(fs:List Int),cH fs.length->(∀f∈fs,bN b.ty.length f)->aN prog 149 [.agg (rz b n s v),.seq 4 (r.ar.map db),.seq 1 (fs.map iD)] H λd H'=>d=i64 (eM b r.ar fs)/\H=H':=λfs P R=>qc b n s v r.ar fs H ck hn V hp.2.1 hp.2.2 P R;have z:∀o,o=H->cP prog 149 [.agg (rz b n s v),.seq 4 (r.ar.map db),.seq 1 ((bY b.ty t).ar.map iD)] o λd A=>A=aA.none/\d=i64 (eM b r.ar (bY b.ty t).ar):=λo w=>an λl p=>qc b n s v r.ar _ l ck hn (yu V (by rw[<-w];exact p)) hp.2.1 hp.2.2 (ck.ar.cH _ (ni ht)) a0;have I:∀x o,cP prog 147 [.val (.bool x)] o λd A=>A=aA.none/\d=i64 (if x=true then 22 else 0):=λx o=>an λl p=>qA x l;have J:∀a c o,cP prog 136 [.seq 1 [[i64 a],[i64 c]]] o λd A=>A=aA.none/\d=i64 (if a≠0 then a else c):=λa c o=>an λl p=>AH a c l;rw[sA] at Z a5 a3 a4 z ⊢;have aa:=lm bS b.ty;have a1:=lm db r.ar;obtain⟨y,j⟩:=oX (Cd b r t);rw[<-j];unfold Cd at j;have L:=gY ht;have ac:t.toNat<b.ty.length:=by unfold bN at ht;omega
 have ab:0<=t:=by unfold bN at ht;omega
 obtain⟨u,hu⟩:=oX (bY b.ty t);rw[<-hu] at L j z;clear hu a0;simp only[bS] at L;obtain⟨S,hS⟩:=oX (tv r);rw[<-hS] at a6 j;refine dO func144 ntmps144 results144 λw0 g0 Q B=>?_;refine tq @uo.eq_1 ?_;intro U Y O C;intro c3 a7 c4 a8;refine Y _ ?_;refine uB 3 4 a7 a8 ?_;by_cases P:r.k<0
 ·have G:(r.k<0)=True:=aG P
  have e:y=14:=j.trans (aD (.inl P));exact oz B G E e
 have G:(r.k<0)=False:=aI P;by_cases R:4<r.k
 ·have q2:(4<r.k)=True:=aG R
  have e:y=14:=j.trans (aD (.inr R));exact oz B (av G q2) E e
 have q2:(4<r.k)=False:=aI R;rw[aC (by omega)] at j;refine tq (av G q2) ?_;intro U Y O C;refine a6.q ?_;cases S
 ·have e:y=2:=j
  exact oz B G E e
 rw[aC (λh=>by cases h)] at j;by_cases m:r.k=0
 ·have N:(r.k=0)=True:=aG m
  rw[aD m] at j;have e:=j;refine tq N ?_;intro U Y O C;refine(a4 [t] (by unfold cH;simp) (λf hf=>by rw[bM] at hf;subst hf;exact ht)).mono ?_;rintro d _ ⟨rfl,rfl⟩;exact oz B G E e
 have N:(r.k=0)=False:=aI m;rw[aC m] at j;by_cases m:r.k=1
 ·have k1:(r.k=1)=True:=aG m
  rw[aD m] at j;have e:=j;refine tq (av N k1) ?_;intro U Y O C;refine Z.q ?_;exact oz B G E e
 have k1:(r.k=1)=False:=aI m;rw[aC m] at j;by_cases m:r.k=2
 ·have k2:(r.k=2)=True:=aG m
  rw[aD m] at j;have e:=j;refine tq (bQ N k1 k2) ?_;intro U Y O C;refine dE (λ_ _ d A=>A=.none/\d=i64 (oj b r t 2 (VF r.op))) λU Y=>?_;refine dst (av gD0 @vL.eq_1) ?_;intro U Y O C;refine⟨a5 _ rfl,?_⟩;refine nx ?_;exact oz B G E e
 have k2:(r.k=2)=False:=aI m;rw[aC m] at j;by_cases m:r.k=3
 ·have k3:(r.k=3)=True:=aG m
  rw[aD m] at j;have e:=j;refine tq (cA N k1 k2 k3) ?_;intro U Y O C;refine dE (λ_ _ d A=>A=.none/\d=i64 (oj b r t 6 (HA r.op))) λU Y=>?_;refine dst (av gD1 @vL.eq_1) ?_;intro U Y O C;refine⟨a3 _ rfl,?_⟩;refine nx ?_;exact oz B G E e
 have k3:(r.k=3)=False:=aI m;rw[aC m] at j;refine tq (bG N k1 k2 k3 L ac ab aa) ?_;intro U Y O C;intro c7 a9;refine Y _ ?_;refine cm 7 a9 ?_;by_cases h7:u.k=4
 case neg=>
  have M:(u.k=4)=False:=aI h7;have e:y=22:=by rw[j,aD (.inl h7)]
  refine bW ?_;refine dE (λg _ d A=>A=.none/\d=(if g=some 67 then i64 22 else if g=some 73 then i64 (eM b r.ar u.ar) else i64 22)) λU Y=>?_;refine dst M ?_;intro U Y O C;refine⟨I _ _,z _ rfl,J 22 _ _,?_⟩;refine nx ?_;exact oz B M E e
 have M:(u.k=4)=True:=aG h7;have a2:=lm iD u.ar;by_cases h8:u.ar.length=r.ar.length
 case neg=>
  have q8:=nF ((u.ar.length:Int)=(r.ar.length:Int));have e:y=22:=by rw[j,aD (.inr h8)]
  refine bW ?_;refine dE (λg _ d A=>A=.none/\d=(if g=some 67 then i64 22 else if g=some 73 then i64 (eM b r.ar u.ar) else i64 22)) λU Y=>?_;refine dst (cA M q8 a1 a2) ?_;intro U Y O C;refine⟨I _ _,z _ rfl,J 22 _ _,?_⟩;refine nx ?_;exact oz B M E e
 have q8:=nT ((u.ar.length:Int)=(r.ar.length:Int));have e:y=eM b r.ar u.ar:=by rw[j,aC (by omega)]
 refine bW ?_;refine dE (λg _ d A=>A=.none/\d=(if g=some 67 then i64 0 else if g=some 73 then i64 (eM b r.ar u.ar) else i64 (eM b r.ar u.ar))) λU Y=>?_;refine dst (cA M q8 a1 a2) ?_;intro U Y O C;refine⟨I _ _,z _ rfl,J 0 _ _,?_⟩;refine nx ?_;exact oz B M E e
theorem CO (g:pI b.ty){t:Int}(h:bN b.ty.length t):∀f∈(bY b.ty t).ar,bN b.ty.length f:=λf a=>by
 obtain⟨c,e⟩:=qM h;rw[e] at a;have:=(g _ c).2 f a;unfold bN;omega
def StM (b:bn) (n:Int) (a c:Nat) (s:qO) (H:aA) (x:St):Prop:=x.df=[]/\x.fr 2=.rp (rz b n a c)/\x.fr 3=.rp (ji s)/\x.fr 5=.rp (uo s.rv)/\x.fr 6=.val (.bool (FB s))/\x.H=H
theorem XZ (b:bn)(n:Int)(N P:Nat)(s:qO)(H:aA)(ck:Ck b)(hn:n=b.rg.length)(hR:oc b.ol N P H)(hp:PH s):aN prog 66 [.agg (rz b n N P),.agg (ji s)] H λd H'=>d=i64 (yY b s)/\H=H':=by
 refine aq (K:=λd=>d=i64 (yY b s)) ?_;have aM:=aF H;have j:=BQ s.pl H hp.1;have a0:=BQ s.rv.pl H hp.2.1;have z:=BP b n N P s.pl H ck hp.1;have Z:=λt h=>Pl b n N P s.rv t H ck hn hR hp.2 h (CO ck.wt h);have V:qy b s.pl=0->bN b.ty.length (mB b s.pl).1:=λh=>xV ck (by
  unfold qy at h;exact eC λm=>by rw[aD m] at h;exact m h)
 have w:=lm db s.rv.ar;have a8:=lm eQ b.lc;obtain⟨y,f⟩:=oX (yY b s);rw[<-f];unfold yY at f;have r:∀x,StM b n N P s H x↔(x.df=[]/\x.fr 2=.rp (rz b n N P)/\x.fr 3=.rp (ji s)/\x.fr 5=.rp (uo s.rv)/\x.fr 6=.val (.bool (FB s))/\x.H=H):=λx=>Iff.rfl;obtain⟨M,a4⟩:=oX (StM b n N P s H);rw[<-a4] at r;clear a4;have a:FB s=(dU s.pl&&(decide (s.rv.k=0)&&decide (s.rv.op=0)&&decide (s.rv.ar.length=0)&&decide (s.rv.rg=0)&& !s.rv.mu&&dU s.rv.pl)):=rfl;obtain⟨B,hB⟩:=oX (FB s);rw[<-hB] at f r a;clear hB;rw[sA] at z Z r ⊢;obtain⟨T,hT⟩:=oX (mB b s.pl);obtain⟨E,hE⟩:=oX (qy b s.pl);rw[<-hT,<-hE] at z V;rw[<-hT,<-hE] at f;clear hT hE;have a7:=hp.2.2.1;unfold cH at a7;obtain⟨k,pl,⟨rk,a2,a3,ad,ae,a1⟩,u⟩:=s;simp only[ji,uo,ee] at r j a0 z Z ⊢;simp only at f w a a7;refine dO func66 ntmps66 results66 λw0 g0 Q v=>?_;refine t0 ?_;intro U Y O C;intro c2 aa c3 ab;refine Y _ ?_;refine uB 2 3 aa ab ?_;refine t0 ?_;intro U Y O C;intro c5 ac;refine Y _ ?_;refine cm 5 ac ?_;refine bW ?_;refine nR M ?_ ?_
 ·obtain⟨Z1,a5⟩:=oX (dU pl)
  rw[<-a5] at j a;obtain⟨Z2,a6⟩:=oX (dU ae);rw[<-a6] at a0 a;clear a5 a6 f V;cases Z1
  ·have p:B=false:=by rw[a];rfl
   refine t0 ?_;intro U Y O C;refine j.qt ?_;intro U Y O C;exact(r _).2 ⟨rfl,rfl,rfl,rfl,by rw[p] <;> rfl,rfl⟩
  rw[cV] at a;by_cases l:rk=0
  case neg=>
   have g:(rk=0)=False:=aI l;have p:B=false:=by rw[a,af l];rfl
   refine tq g ?_;intro U Y O C;refine j.qs g ?_;intro U Y O C;exact(r _).2 ⟨rfl,rfl,rfl,rfl,by rw[p] <;> rfl,rfl⟩
  have g:(rk=0)=True:=aG l;rw[ah l,cV] at a;by_cases m:a2=0
  case neg=>
   have o:(a2=0)=False:=aI m;have p:B=false:=by rw[a,af m];rfl
   refine t0 ?_;intro U Y O C;refine j.qs (av g o) ?_;intro U Y O C;exact(r _).2 ⟨rfl,rfl,rfl,rfl,by rw[p] <;> rfl,rfl⟩
  have o:(a2=0)=True:=aG m;rw[ah m,cV] at a;by_cases h3:a1.length=0
  case neg=>
   have q3:=nF ((a1.length:Int)=0);have p:B=false:=by rw[a,af h3];rfl
   refine t0 ?_;intro U Y O C;refine j.qs (cA g o q3 w) ?_;intro U Y O C;exact(r _).2 ⟨rfl,rfl,rfl,rfl,by rw[p] <;> rfl,rfl⟩
  have q3:=nT ((a1.length:Int)=0);rw[ah h3,cV] at a;by_cases h4:a3=0
  case neg=>
   have q4:(a3=0)=False:=aI h4;have p:B=false:=by rw[a,af h4];rfl
   refine t0 ?_;intro U Y O C;refine j.qs (cw g o q3 w q4) ?_;intro U Y O C;exact(r _).2 ⟨rfl,rfl,rfl,rfl,by rw[p] <;> rfl,rfl⟩
  have q4:(a3=0)=True:=aG h4;rw[ah h4,cV] at a;cases ad
  case true=>
   have p:B=false:=by rw[a];rfl
   refine t0 ?_;intro U Y O C;refine j.qs (cw g o q3 w q4) ?_;intro U Y O C;exact(r _).2 ⟨rfl,rfl,rfl,rfl,by rw[p] <;> rfl,rfl⟩
  have p:B=Z2:=by rw[a];rfl
  refine t0 ?_;intro U Y O C;refine j.qs (cw g o q3 w q4) ?_;intro U Y O C;refine a0.qt ?_;intro U Y O C;exact(r _).2 ⟨rfl,rfl,rfl,rfl,by rw[p] <;> rfl,rfl⟩
 intro s hs;obtain⟨ag,f2,G,f5,R,hH⟩:=(r s).1 hs;have c:H.le s.H:=by rw[hH];exact aF _
 by_cases hk:k=0
 ·have A:(k=0)=True:=aG hk
  rw[aD hk] at f;by_cases l:u=0
  case neg=>
   have g:(u=0)=False:=aI l;have e:y=2:=f.trans (aD l);exact oz v (bQ G A g) c e
  have g:(u=0)=True:=aG l;rw[aC (λh=>h l)] at f;rw[<-hH] at z;refine tq (cA f2 G A g) ?_;intro U Y O C;refine z.mono ?_;rintro d _ ⟨rfl,S⟩;by_cases m:E=0
  case neg=>
   have o:(E=0)=False:=aI m;have e:y=E:=f.trans (aD m);rw[S] at c;exact oz v o c e
  have o:(E=0)=True:=aG m;rw[aC (λh=>h m)] at f;have hr:=Z T.1 (V m);rw[<-hH,S] at hr;rw[S] at c;refine tq (bQ f2 f5 o) ?_;intro U Y O C;refine hr.mono ?_;rintro d _ ⟨rfl,a9⟩;rw[a9] at c;have e:=f;exact oz v trivial c e
 have A:(k=0)=False:=aI hk;rw[aC hk] at f;by_cases I:k=1
 ·have L:(k=1)=True:=aG I
  rw[aD I] at f;cases B
  ·have e:y=2:=f
   exact oz v (cA G R A L) c e
  rw[aC (λh=>by cases h)] at f;by_cases l:u<0
  ·have g:(u<0)=True:=aG l
   have e:y=3:=f.trans (aD (.inl l));exact oz v (eP f2 G R A L g) c e
  have g:(u<0)=False:=aI l;by_cases m:(b.lc.length:Int)<=u
  ·have o:(u≥(b.lc.length:Int))=True:=aG m
   have e:y=3:=f.trans (aD (.inr m));exact oz v (bG f2 G R A L g o a8) c e
  have o:(u≥(b.lc.length:Int))=False:=aI m;have e:y=0:=f.trans (aC (by omega));exact oz v (bG f2 G R A L g o a8) c e
 have L:(k=1)=False:=aI I;rw[aC I] at f;by_cases J:k=2
 ·have k2:(k=2)=True:=aG J
  rw[aD J] at f;cases B
  ·have e:y=2:=f
   exact oz v (cw G R A L k2) c e
  by_cases l:u=0
  ·have g:(u=0)=True:=aG l
   have e:y=0:=f.trans (aC (by rintro(h|h);cases h;exact h l));exact oz v (eP G R A L k2 g) c e
  ·have g:(u=0)=False:=aI l
   have e:y=2:=f.trans (aD (.inr l));exact oz v (eP G R A L k2 g) c e
 have k2:(k=2)=False:=aI J;rw[aC J] at f;have e:y=14:=f;exact oz v (cA G A L k2) c e
end Go.Proofs.YtffgfafbffdgaaaGreatDoor
